/- Contracts of the functions that these laws reach: part 5: Contracts: bits.Len32, LeadingZeros32, Len; Contracts: slices.Clone of limbs, limbs.Divide; Contracts: limbs.Gcd, Pow; Plain laws of fractions in lowest terms; Contracts: natural.Of, Check, all, Compare. -/
import Derived.Test.YtnofljgmkdommaaG4
import Derived.Lib.SliceRun
import Derived.Deep.RegionWith
import Derived.Deep.RegionHeld3
import Derived.Deep.LoopGhost
import Derived.Test.YtnofljgmkdommaaG2
set_option linter.unusedVariables false
set_option linter.unusedSimpArgs false

/- Contracts: bits.Len32, LeadingZeros32, Len. -/
namespace Go.Proofs.Ytnofljgmkdommaa
open Go.RowKit

/-- A table of bit lengths. -/
def tblOk (s : ByteArray) : Bool := (List.range 256).all fun i => match s.data.toList[i]? with
  | some t => decide (t.toNat ≤ 8) && decide (i < 2 ^ t.toNat) && (i == 0 || decide (2 ^ (t.toNat - 1) ≤ i && 1 ≤ t.toNat))
  | none => false
theorem tbl_at {s : ByteArray} (h : tblOk s = true) {i : Nat} (hi : i < 256) (hs : i < s.size) : (s[i]'hs).toNat ≤ 8 ∧ i < 2 ^ (s[i]'hs).toNat ∧ (i ≠ 0 → 2 ^ ((s[i]'hs).toNat - 1) ≤ i ∧ 1 ≤ (s[i]'hs).toNat) := by
  have h1 := List.all_eq_true.1 h i (List.mem_range.2 hi)
  have e : s.data.toList[i]? = some (s[i]'hs) := by
    rw [Array.getElem?_toList, Array.getElem?_eq_getElem]; rfl
  rw [e] at h1
  simp only [Bool.and_eq_true, decide_eq_true_eq, Bool.or_eq_true, beq_iff_eq] at h1
  exact ⟨h1.1.1, h1.1.2, fun h0 => by rcases h1.2 with h2 | h2; exact absurd h2 h0; exact h2⟩
/-- L binary digits. -/
def isLen (x L : Nat) : Prop := x < 2 ^ L ∧ L ≤ 32 ∧ (x ≠ 0 → 2 ^ (L - 1) ≤ x ∧ 1 ≤ L)
theorem len_hi {s : ByteArray} (h : tblOk s = true) {i b x : Nat} (hs : i < s.size) (hi : i < 256) (h0 : i ≠ 0) (hb : b ≤ 24) (he : i = x / 2 ^ b) (w w' : World) (hw : w' = w) :
    ∃ L : Nat, Ending.returned (.int .i64 (wrap64 ((b : Int) + wrap64 ((s[i]'hs).toNat : Int)))) = Ending.returned (.int .i64 (L : Int)) ∧ isLen x L ∧ w' = w := by
  obtain ⟨h1, h2, h3⟩ := tbl_at h hi hs
  obtain ⟨h4, h5⟩ := h3 h0
  generalize (s[i]'hs).toNat = t at *
  have e1 : wrap64 (t : Int) = t := IntWalk.wrap64_in _ ⟨by omega, by omega⟩
  have e2 : wrap64 ((b : Int) + (t : Int)) = ((b + t : Nat) : Int) := by rw [show (b : Int) + (t : Int) = ((b + t : Nat) : Int) by omega]; exact IntWalk.wrap64_in _ ⟨by omega, by omega⟩
  rw [e1, e2]
  refine ⟨b + t, rfl, ⟨?_, by omega, fun _ => ⟨?_, by omega⟩⟩, hw⟩
  · rw [he] at h2
    rw [Nat.pow_add, Nat.mul_comm]
    exact (Nat.div_lt_iff_lt_mul (Nat.pow_pos (by omega))).1 h2
  · rw [he] at h4
    rw [show b + t - 1 = b + (t - 1) by omega, Nat.pow_add, Nat.mul_comm]
    exact (Nat.le_div_iff_mul_le (Nat.pow_pos (by omega))).1 h4
theorem len_lo {s : ByteArray} (h : tblOk s = true) {x : Nat} (hs : x < s.size) (hi : x < 256) (w w' : World) (hw : w' = w) :
    ∃ L : Nat, Ending.returned (.int .i64 (wrap64 (wrap64 ((s[x]'hs).toNat : Int)))) = Ending.returned (.int .i64 (L : Int)) ∧ isLen x L ∧ w' = w := by
  obtain ⟨h1, h2, h3⟩ := tbl_at h hi hs
  generalize (s[x]'hs).toNat = t at *
  have e1 : wrap64 (t : Int) = t := IntWalk.wrap64_in _ ⟨by omega, by omega⟩
  rw [e1, e1]
  exact ⟨t, rfl, ⟨h2, by omega, h3⟩, hw⟩
set_option maxRecDepth 100000 in
set_option maxHeartbeats 4000000 in
theorem len32_any (w : World) (x : Nat) (hx : x < 4294967296) :
    Calls Try.prog 104 #[.int .u32 (x : Int)] w fun e w' => ∃ L : Nat, e = .returned (.int .i64 (L : Int)) ∧ isLen x L ∧ w' = w := by
  by_cases h1 : 65536 ≤ x
  · have d1 : decide ((65536 : Int) ≤ (x : Int)) = true := decide_eq_true (by omega)
    by_cases h2 : 256 ≤ x / 65536
    · have d2 : decide ((256 : Int) ≤ (x : Int) / 65536) = true := decide_eq_true (by omega)
      go_enter Try.func104, Try.ntmps104
      go_wp2
      go_ret
      refine len_hi (b := 24) (i := x / 65536 / 256) (x := x) ?_ _ (by omega) (by omega) (by omega) (by omega) _ _ rfl
      kernel_rfl
    · have d2 : decide ((256 : Int) ≤ (x : Int) / 65536) = false := decide_eq_false (by omega)
      go_enter Try.func104, Try.ntmps104
      go_wp2
      go_ret
      refine len_hi (b := 16) (i := x / 65536) (x := x) ?_ _ (by omega) (by omega) (by omega) (by omega) _ _ rfl
      kernel_rfl
  · have d1 : decide ((65536 : Int) ≤ (x : Int)) = false := decide_eq_false (by omega)
    by_cases h2 : 256 ≤ x
    · have d2 : decide ((256 : Int) ≤ (x : Int)) = true := decide_eq_true (by omega)
      go_enter Try.func104, Try.ntmps104
      go_wp2
      go_ret
      refine len_hi (b := 8) (i := x / 256) (x := x) ?_ _ (by omega) (by omega) (by omega) (by omega) _ _ rfl
      kernel_rfl
    · have d2 : decide ((256 : Int) ≤ (x : Int)) = false := decide_eq_false (by omega)
      go_enter Try.func104, Try.ntmps104
      go_wp2
      go_ret
      refine len_lo (x := x) ?_ _ (by omega) _ _ rfl
      kernel_rfl
set_option maxHeartbeats 4000000 in
theorem lz32_any (w : World) (x : Nat) (hx : x < 4294967296) (h0 : x ≠ 0) :
    Calls Try.prog 95 #[.int .u32 (x : Int)] w fun e w' => ∃ s : Nat, e = .returned (.int .i64 (s : Int)) ∧ s ≤ 31 ∧ x * 2 ^ s < 4294967296 ∧ w' = w := by
  go_enter Try.func95, Try.ntmps95
  go_wp2_with (go_at_call 104; refine (len32_any _ x hx).mono ?_; rintro e w' ⟨L, rfl, hL, rfl⟩; obtain ⟨hl1, hl2, hl3⟩ := hL; obtain ⟨hl4, hl5⟩ := hl3 h0; clear hl3)
  go_ret
  refine ⟨32 - L, by rw [Int.natCast_sub hl2]; rfl, by omega, ?_, rfl⟩
  have : x * 2 ^ (32 - L) < 2 ^ L * 2 ^ (32 - L) := Nat.mul_lt_mul_of_pos_right hl1 (Nat.pow_pos (by omega))
  rw [← Nat.pow_add, show L + (32 - L) = 32 by omega] at this
  omega

set_option maxRecDepth 100000 in
set_option maxHeartbeats 4000000 in
theorem len64_any (w : World) (x : Nat) (hx : x < 65537) :
    Calls Try.prog 105 #[.int .u64 (x : Int)] w fun e w' => ∃ L : Nat, e = .returned (.int .i64 (L : Int)) ∧ isLen x L ∧ w' = w := by
  have d0 : decide ((4294967296 : Int) ≤ (x : Int)) = false := decide_eq_false (by omega)
  by_cases h1 : 65536 ≤ x
  · have d1 : decide ((65536 : Int) ≤ (x : Int)) = true := decide_eq_true (by omega)
    have d2 : decide ((256 : Int) ≤ (x : Int) / 65536) = false := decide_eq_false (by omega)
    go_enter Try.func105, Try.ntmps105
    go_wp2
    go_ret
    refine len_hi (b := 16) (i := x / 65536) (x := x) ?_ _ (by omega) (by omega) (by omega) (by omega) _ _ rfl
    kernel_rfl
  · have d1 : decide ((65536 : Int) ≤ (x : Int)) = false := decide_eq_false (by omega)
    by_cases h2 : 256 ≤ x
    · have d2 : decide ((256 : Int) ≤ (x : Int)) = true := decide_eq_true (by omega)
      go_enter Try.func105, Try.ntmps105
      go_wp2
      go_ret
      refine len_hi (b := 8) (i := x / 256) (x := x) ?_ _ (by omega) (by omega) (by omega) (by omega) _ _ rfl
      kernel_rfl
    · have d2 : decide ((256 : Int) ≤ (x : Int)) = false := decide_eq_false (by omega)
      go_enter Try.func105, Try.ntmps105
      go_wp2
      go_ret
      refine len_lo (x := x) ?_ _ (by omega) _ _ rfl
      kernel_rfl
set_option maxHeartbeats 4000000 in
theorem blen_any (w : World) (x : Nat) (hx : x < 65537) :
    Calls Try.prog 93 #[.int .u64 (x : Int)] w fun e w' => ∃ L : Nat, e = .returned (.int .i64 (L : Int)) ∧ isLen x L ∧ w' = w := by
  go_enter Try.func93, Try.ntmps93
  go_wp2_with (go_at_call 105; refine (len64_any _ x hx).mono ?_; rintro e w' ⟨L, rfl, hL, rfl⟩)
  go_ret
  exact ⟨L, rfl, hL, rfl⟩
end Go.Proofs.Ytnofljgmkdommaa

/- Contracts: slices.Clone of limbs, limbs.Divide. -/
namespace Go.Proofs.Ytnofljgmkdommaa
open Go.RowKit

set_option maxRecDepth 100000 in
set_option maxHeartbeats 4000000 in
theorem lclone_any (w : World) (av : Option Nat) (A : Option Addr) (n c : Nat) (l : List Nat) (hU : Ul w av A n l) (hn : n ≤ 1000000) :
    Calls Try.prog 88 #[.slice A n c] w fun e w' => ∃ A' c', e = .returned (.slice A' n c') ∧ OF w w' A' n c' l := by
  have HU := hide hU
  clear hU
  rcases A with _ | a
  · have hl : l = [] := by
      rcases l with _ | ⟨x, l⟩
      · rfl
      · obtain ⟨b, o, h, _⟩ := HU.out.1 (by simp)
        cases h
    have hn0 : n = 0 := by have := HU.out.len; rw [hl] at this; exact this.symm
    subst hn0
    subst hl
    have hnil := fun W => Lib.run_eql_slice_nil (P := Try.prog) W 33 71 none 0 c 0 0 Try.underlying33
    go_enter Try.func88, Try.ntmps88
    go_wp2
    go_ret
    exact ⟨none, 0, rfl, OF.nil (Fr.refl _ _)⟩
  · have hnil := fun W => Lib.run_eql_slice_nil (P := Try.prog) W 33 71 (some a) n c 0 0 Try.underlying33
    go_enter Try.func88, Try.ntmps88
    go_wp2_with (at_builtin; refine wl_appall_u32 (w0 := w) rfl _ _ _ Try.underlying33 rfl (some ⟨w.heap.size, 0, none⟩) 0 0 [] av (some a) n c l rfl rfl (OF.new (Fr.refl _ _)) (HU.out.alloc _) (by omega) ?_; intro A2 c2 w2 ho2; have HO2 := hide ho2; clear ho2)
    go_ret
    rw [Nat.zero_add, List.nil_append] at *
    exact ⟨A2, c2, rfl, HO2.out⟩

theorem lm_len1 {y : Nat} (h : (lm y).length = 1) : lm y = [y] ∧ y < 4294967296 ∧ 0 < y := by
  have h1 : y < 4294967296 ^ 1 := lm_length_le.1 (by omega)
  have h2 : y ≠ 0 := by rintro rfl; rw [lm_zero] at h; simp at h
  exact ⟨lm_small (by omega) h2, by omega, by omega⟩
set_option maxRecDepth 100000 in
set_option maxHeartbeats 8000000 in
theorem ldiv_any (w : World) (av av' : Option Nat) (A : Option Addr) (n c : Nat) (B : Option Addr) (m d : Nat) (x y : Nat) (hU : Ul w av A n (lm x)) (hV : Ul w av' B m (lm y)) (hn : n ≤ 1000000) (hm : m ≤ 1000000) (hy : 0 < y) :
    Calls Try.prog 82 #[.slice A n c, .slice B m d] w fun e w' => ∃ A' m' c' A2 m2 c2, e = .returned (.tuple #[.slice A' m' c', .slice A2 m2 c2]) ∧ m' ≤ c' ∧ m2 ≤ c2 ∧ Ul w' none A' m' (lm (x / y)) ∧ Ul w' none A2 m2 (lm (x % y)) ∧ Below w.heap.size w w' := by
  have HU := hide hU
  have HV := hide hV
  clear hU hV
  by_cases hlt : x < y
  · have HD := hide (Nat.div_eq_of_lt hlt)
    have HM := hide (Nat.mod_eq_of_lt hlt)
    have HC := hide (cmpN_lt hlt)
    clear hlt
    go_enter Try.func82, Try.ntmps82
    go_wp2_with (first
      | (go_at_call 42; refine (lcmp_any _ av av' _ _ _ _ _ _ x y HU.out HV.out (by omega) (by omega)).mono ?_; rintro e w1 ⟨rfl, hd⟩; rw [HC.out]; have HD1 := hide hd; clear hd)
      | (go_at_call 88; refine (lclone_any _ av _ _ _ _ (HU.out.dr HD1.out) (by omega)).mono ?_; rintro e w2 ⟨A2, c2, rfl, ho2⟩; have HO2 := hide ho2; clear ho2))
    go_ret2
    exact ⟨none, 0, 0, A2, n, c2, rfl, by omega, HO2.out.cap, by rw [HD.out, lm_zero]; exact Ul.nil, by rw [HM.out]; exact HO2.out.ul, HD1.out.below.trans ((fr_below HO2.out.fr).mono HD1.out.below.size)⟩
  · have hc0 : ¬ cmpN x y < 0 := fun h => hlt (cmpN_neg.1 h)
    have hc1 : decide (cmpN x y < 0) = false := decide_eq_false hc0
    clear hc0
    by_cases hm1 : m = 1
    · subst hm1
      obtain ⟨hl1, hy1, hy2⟩ := lm_len1 HV.out.len
      obtain ⟨b, o, p, rfl, -, -, hp, hpl, hcell⟩ := HV.out.at (k := 0) (by omega)
      obtain rfl : p = y := by rw [hl1] at hp; simpa using hp.symm
      clear hp hl1
      go_enter Try.func82, Try.ntmps82
      go_wp2_with (first
        | (go_at_call 42; refine (lcmp_any _ av av' _ _ _ _ _ _ x p HU.out HV.out (by omega) (by omega)).mono ?_; rintro e w1 ⟨rfl, hd⟩; have HD1 := hide hd; have hcell1 : w1.cell? ⟨b, o, none⟩ = some (.int .u32 (p : Int)) := (by obtain ⟨k, rfl⟩ := hd; simpa using hcell); clear hd)
        | (go_at_call 94; refine (lsmall_any _ av _ _ _ x p (HU.out.dr HD1.out) (by omega) hpl hy2).mono ?_; rintro e w2 ⟨A2, m2, c2, r, rfl, hc2, hr, HR, hu2, hb2⟩; have HU2 := hide hu2; have HB2 := hide hb2; clear hu2 hb2)
        | (go_at_call 92; refine (lof_any _ r (by omega)).mono ?_; rintro e w3 ⟨A3, m3, c3, rfl, hc3, -, hu3, hb3⟩; have HU3 := hide hu3; have HB3 := hide hb3; clear hu3 hb3))
      go_ret2
      exact ⟨A2, m2, c2, A3, m3, c3, rfl, hc2, hc3, HU2.out.below HB3.out, by rw [← HR.out]; exact HU3.out, HD1.out.below.trans ((HB2.out.trans (HB3.out.mono HB2.out.size)).mono HD1.out.below.size)⟩
    · have hm0 : m ≠ 0 := by
        rintro rfl
        have := lm_eq_nil.1 (List.eq_nil_of_length_eq_zero HV.out.len)
        omega
      have hmn : m ≤ n := by
        have := lm_length_mono (Nat.not_lt.1 hlt)
        rwa [HU.out.len, HV.out.len] at this
      obtain ⟨tb, htb, htb0, htbl, -⟩ := lm_top HV.out.len (by omega)
      obtain ⟨b, o, p, rfl, -, -, hp, hpl, hcell⟩ := HV.out.at (k := m - 1) (by omega)
      obtain rfl : tb = p := by rw [htb] at hp; injection hp
      have HTB := hide htb
      clear htb hp
      have hd1 : ((m : Int) == 1) = false := by simp; omega
      obtain ⟨K, hK⟩ : ∃ K, K = n - m + 1 := ⟨_, rfl⟩
      have HK := hide hK
      have hKm : K + m ≤ n + 1 := by omega
      have hKn : n + 1 ≤ K + m := by omega
      clear hK
      have gi0 : (0 : Int) ≤ (m : Int) - 1 := by omega
      have gi1 : (m : Int) - 1 < (m : Int) := by omega
      go_enter Try.func82, Try.ntmps82
      go_wp2_with (first
        | (go_at_call 42; refine (lcmp_any _ av av' _ _ _ _ _ _ x y HU.out HV.out (by omega) (by omega)).mono ?_; rintro e w1 ⟨rfl, hd⟩; have HD1 := hide hd; have hcell1 : w1.cell? ⟨b, o + (m - 1), none⟩ = some (.int .u32 (tb : Int)) := (by obtain ⟨k, rfl⟩ := hd; simpa using hcell); clear hd)
        | (go_at_call 95; refine (lz32_any _ tb hpl htb0).mono ?_; rintro e w1' ⟨s, rfl, hs, hts, rfl⟩; have HTS := hide hts; clear hts)
        | (go_at_call 96; (with_reducible refine (lshift_any _ av _ n _ x s (HU.out.dr HD1.out) (by omega) hs).mono ?_); rintro e w2 ⟨us, rfl, hus, hou⟩; have HUS := hide hus; have HOU := hide hou; have hbl2 := fr_below hou.fr; have HB2 := hide hbl2; clear hus hou hbl2)
        | (go_at_call 96; (with_reducible refine (lshift_any _ av' _ m _ y s ((HV.out.dr HD1.out).below HB2.out) (by omega) hs).mono ?_); rintro e w3 ⟨vs, rfl, hvs, hov⟩; have HVS := hide hvs; have HOV := hide hov; have hbl3 := fr_below hov.fr; have HB3 := hide hbl3; clear hvs hov hbl3)
        | (go_at_call 83; refine (trim_any _ (some w1'.heap.size) _ _ _ vs (HOV.out.ulav (by intro t ht; injection ht with ht; obtain ⟨g, _, hg, _, hgl, _⟩ := HOU.out.at (k := 0) (by omega); injection hg with hg; injection hg with hg; omega)) (by omega) (by omega)).mono ?_; rintro e w4 ⟨m3, rfl, hm3, hu3, rfl⟩; rw [HVS.out] at hu3; obtain rfl : m = m3 := (hu3.len.symm.trans (shl_len HV.out.len (by omega) HTB.out hs HTS.out hy)).symm; have HU3 := hide hu3; clear hu3)
        | (at_make; refine wl_make_u32 (w0 := w1') rfl _ _ _ Try.underlying33 rfl K K _ _ rfl rfl (by omega) (by omega) (by omega) (by omega) (HOU.out.fr.below_ HB3.out) ?_; intro w5 ho5 hs5 hb5; have HO5 := hide ho5; have HB5 := hide hb5; clear ho5 hb5))
      have hg1 : w1'.heap.size < w2.heap.size := by
        obtain ⟨g, _, hg, _, hgl, _⟩ := HOU.out.at (k := 0) (by omega)
        injection hg with hg
        injection hg with hg
        omega
      have hg2 : w2.heap.size < w4.heap.size := by
        obtain ⟨g, _, hg, _, hgl, _⟩ := HOV.out.at (k := 0) (by omega)
        injection hg with hg
        injection hg with hg
        omega
      have HOU5 := hide ((HOU.out.below HB3.out).below HB5.out)
      have HV5 := hide (HU3.out.below HB5.out)
      have HST := hide (div_start HU.out.len HV.out.len hmn (by omega) HOU.out.len HUS.out)
      rw [← HK.out] at HST
      have HBW := hide (HD1.out.below.trans ((HB2.out.trans ((HB3.out.trans (HB5.out.mono HB3.out.size)).mono HB2.out.size)).mono HD1.out.below.size))
      have hw1 := HD1.out.below.size
      have hbase := HO5.out.fr.size
      obtain ⟨gu, hgu⟩ : ∃ g, g = w1'.heap.size := ⟨_, rfl⟩
      obtain ⟨gv, hgv⟩ : ∃ g, g = w2.heap.size := ⟨_, rfl⟩
      obtain ⟨gq, hgq⟩ : ∃ g, g = w4.heap.size := ⟨_, rfl⟩
      rw [← hgu, ← hgv] at hg1
      rw [← hgv, ← hgq] at hg2
      rw [← hgu] at HOU5 hw1
      rw [← hgu, ← hgv] at HV5
      rw [← hgq] at HO5 ⊢
      rw [← hgu, ← hgv]
      have hgw : w1'.heap.size ≤ gu := by omega
      clear hgu hgv hgq hcell hcell1 HOU HOV HB2 HB3 HB5 HU3
      go_loopw [12] (fun i wr => ∃ (k : Nat) (us qs : List Nat), k ≤ K ∧ i = .int .i64 ((k : Int) - 1) ∧ Hid (OF w1' wr (some ⟨gu, 0, none⟩) (n + 1) (n + 1) us) ∧ Hid (OF w1' wr (some ⟨gq, 0, none⟩) K K qs) ∧ Hid (Ul wr (some gu) (some ⟨gv, 0, none⟩) m (lm (y * 2 ^ s))) ∧ Hid (x * 2 ^ s = lv us + y * 2 ^ s * (4294967296 ^ k * lv (qs.drop k))) ∧ Hid (lv (us.drop k) < y * 2 ^ s)) (fun i _ => (intOf i + 1).toNat)
      case atStart => exact ⟨K, us, _, by omega, by go_num, HOU5, HO5, HV5, hide (by rw [List.drop_eq_nil_of_le (by simp), HUS.out]; simp [lv]), HST⟩
      case round =>
        obtain ⟨k, us, qs, hk, rfl, HU1, HQ1, HV1, HI, HL⟩ := hrel
        clear HOU5 HO5 HV5 HST HUS HVS
        by_cases hk0 : k = 0
        · subst hk0
          have h0 : x * 2 ^ s = lv us + y * 2 ^ s * (1 * lv qs) := HI.out
          rw [Nat.one_mul] at h0
          have hlt0 : lv us < y * 2 ^ s := HL.out
          have hsp : 0 < 2 ^ s := Nat.pow_pos (by omega)
          have hVp : 0 < y * 2 ^ s := Nat.mul_pos hy hsp
          have hq0 : lv qs = x / y := by
            rw [← Nat.mul_div_mul_right x y hsp, h0, Nat.add_mul_div_left _ _ hVp, Nat.div_eq_of_lt hlt0, Nat.zero_add]
          have hr0 : lv us / 2 ^ s = x % y := by
            have e : x * 2 ^ s % (y * 2 ^ s) = lv us := by rw [h0, Nat.add_mul_mod_self_left, Nat.mod_eq_of_lt hlt0]
            rw [← e, Nat.mul_mod_mul_right, Nat.mul_div_cancel _ hsp]
          have HQR := hide hq0
          have HRR := hide hr0
          have hbw := HBW.out
          clear h0 hlt0 hq0 hr0 hsp hVp
          go_wp2_with (first
            | (go_at_call 83; (with_reducible refine (trim_any _ none (some ⟨gq, 0, none⟩) K K qs HQ1.out.ul (by omega) (by omega)).mono ?_); rintro e w6 ⟨m6, rfl, hm6, hu6, rfl⟩; rw [HQR.out] at hu6; have HU6 := hide hu6; clear hu6)
            | (go_at_call 83; (with_reducible refine (trim_any _ none (some ⟨gu, 0, none⟩) (n + 1) (n + 1) us HU1.out.ul (by omega) (by omega)).mono ?_); rintro e w7 ⟨m7, rfl, hm7, hu7, rfl⟩; have HU7 := hide hu7; clear hu7)
            | (go_at_call 99; refine (lunshift_any _ none _ m7 _ (lv us) s HU7.out (by omega) hs).mono ?_; rintro e w8 ⟨A8, m8, c8, rfl, hc8, hu8, hb8⟩; rw [HRR.out] at hu8; have HU8 := hide hu8; have HB8 := hide hb8; clear hu8 hb8))
          go_ret2
          exact ⟨_, m6, _, A8, m8, c8, rfl, hm6, hc8, HU6.out.below HB8.out, HU8.out, (HD1.out.below.trans ((fr_below HQ1.out.fr).mono HD1.out.below.size)).trans (HB8.out.mono (Nat.le_trans HD1.out.below.size HQ1.out.fr.size))⟩
        · obtain ⟨j, rfl⟩ : ∃ j, k = j + 1 := ⟨k - 1, by omega⟩
          have gj0 : (0 : Int) ≤ (j : Int) := by omega
          have gj1 : (j : Int) ≤ (j : Int) + (m : Int) + 1 := by omega
          have gj2 : (j : Int) + (m : Int) + 1 ≤ (n : Int) + 1 := by omega
          have gj3 : (j : Int) < (K : Int) := by omega
          have gj4 : (0 : Int) ≤ (j : Int) + (m : Int) + 1 := by omega
          go_upto_region 12 with (fail)
          have hj1 : ¬ n + 1 = j := by omega
          have hw1 : IntKind.i64.wrap ((j : Int) + (m : Int)) = (j : Int) + (m : Int) := IntWalk.i64_in _ (by omega)
          have hw2 : IntKind.i64.wrap ((j : Int) + (m : Int) + 1) = (j : Int) + (m : Int) + 1 := IntWalk.i64_in _ (by omega)
          have hlen : ((j : Int) + (m : Int) + 1).toNat - j = m + 1 := by omega
          have HSEG := hide (HU1.out.seg (j := j) (k := m + 1) (by omega))
          obtain ⟨tv, htv, htv0, -, -⟩ := lm_top HV1.out.len (by omega)
          have HTV := hide htv
          have hub := (okL.get HU1.out.ok (i := j) (List.getElem?_eq_getElem (by have := HU1.out.len; omega)))
          have hdl := lv_drop (List.getElem?_eq_getElem (l := us) (i := j) (by have := HU1.out.len; omega))
          have HDB := hide (show lv (us.drop j) < y * 2 ^ s * 4294967296 by have := HL.out; omega)
          have hVlt := lm_lt_pow (y * 2 ^ s)
          rw [HV1.out.len] at hVlt
          have HSG := hide (drop_seg (u := us) (j := j) (m := m + 1) HU1.out.ok (by
            have h1 := HDB.out
            have h2 : y * 2 ^ s * 4294967296 ≤ 4294967296 ^ m * 4294967296 := Nat.mul_le_mul_right _ (Nat.le_of_lt hVlt)
            rw [← Nat.pow_succ] at h2
            exact Nat.lt_of_lt_of_le h1 h2) (by have := HU1.out.len; omega))
          have HVP := hide (show 0 < y * 2 ^ s from Nat.mul_pos hy (Nat.pow_pos (by omega)))
          clear htv hub hdl hVlt
          go_region_with (first
            | (go_at_call 98; refine (lguess_any _ none (some gu) (some ⟨gu, j, none⟩) m _ (some ⟨gv, 0, none⟩) _ _ _ HSEG.out.drew HV1.out.drew (by omega) (by omega) ⟨tv, HTV.out, by omega⟩ (by rw [HSG.out, lv_lm]; exact HDB.out)).mono ?_; rintro e w6 ⟨q, rfl, hq, hq1, hq2, hd6⟩; rw [lv_lm] at hq1 hq2; have HQ1q := hide hq1; have HQ2q := hide hq2; have HD6 := hide ((Dr.refl wr).drew.trans hd6); clear hq1 hq2 hd6)
            | (go_at_call 97; refine (lreduce_any w1' _ gu (n + 1) (n + 1) j m _ (some ⟨gv, 0, none⟩) _ us (lm (y * 2 ^ s)) q (HU1.out.frS (HD6.out.fr (fun _ => False)) (fun h => h) (fun _ h => h.elim)) (HV1.out.dr HD6.out) (by omega) (by omega) hq (by rw [lv_lm]; exact HVP.out) (by rw [lv_lm]; exact HQ1q.out) (by rw [lv_lm]; exact HQ2q.out)).mono ?_; rintro e w7 ⟨sg, D, rfl, HD, hD, hsl, hsv, ho7, hf7⟩; have HSV := hide hsv; have HSL := hide hsl; have HO7 := hide ho7; have HF7 := hide hf7; have hq7 := (HQ1.out.frS (HD6.out.fr (fun _ => False)) (fun h => h) (fun _ h => h.elim)).frS hf7 (by omega) (by intro k hk; omega); obtain ⟨gq', z7, hgq', -, hgl7, -, -, hcz7, hfz7⟩ := hq7.at (k := j) (by omega); obtain rfl : gq = gq' := (by simpa using hgq'); have hfz8 := hfz7 j; have HQ7 := hide hq7; have HV7 := hide ((HV1.out.dr HD6.out).fr hf7 (fun _ b o hA hne h => by injection hA with hA; injection hA with hA; omega)); clear hsv hsl ho7 hf7 hq7 hfz7 hgq'))
          go_wp2
          go_roundw
          case rel =>
            have hqs := HQ7.out.put (k := j) (x := D) (by omega) hD
            have hsl := HSL.out
            have hul := HU1.out.len
            have hspl : (splice us j sg).length = us.length := splice_len (by omega)
            have hdrop : lv ((splice us j sg).drop j) = lv sg := by
              have e1 : (splice us j sg).drop j = sg ++ us.drop (j + sg.length) := by
                unfold splice
                rw [List.append_assoc, List.drop_append_of_le_length (by simp; omega), List.drop_of_length_le (by simp; omega), List.nil_append]
              have e2 : lv (us.drop (j + sg.length)) = 0 := by
                rw [hsl]
                have h1 := lv_take_drop (us.drop j) (m + 1) (by rw [List.length_drop]; omega)
                rw [HSG.out, List.drop_drop] at h1
                rcases Nat.eq_zero_or_pos (lv (us.drop (j + (m + 1)))) with h0 | h0
                · exact h0
                · have := Nat.mul_pos (pow_pos' (m + 1)) h0
                  omega
              rw [e1, lv_append, e2]
              simp
            have htake : lv ((splice us j sg).take j) = lv (us.take j) := by
              unfold splice
              rw [List.append_assoc, List.take_append_of_le_length (by simp; omega), List.take_of_length_le (by simp; omega)]
            have hTu := lv_take_drop us j (by omega)
            have hTs := lv_take_drop (splice us j sg) j (by omega)
            have hsv := HSV.out
            rw [HSG.out, lv_lm] at hsv
            have hDD := HD.out
            rw [HSG.out, lv_lm] at hDD
            refine ⟨j, splice us j sg, qs.set j D, by omega, rfl, hide ?_, hide hqs, hide ?_, hide ?_, hide ?_⟩
            · exact HO7.out.frS (Fr.setCell (S := fun b => b = gq) (p := ⟨gq, j, none⟩) (Fr.refl _ _) (Or.inr rfl) _) (by omega) (by intro k hk; omega)
            · exact HV7.out.fr (Fr.setCell (S := fun b => b = gq) (p := ⟨gq, j, none⟩) (Fr.refl _ _) (Or.inr rfl) _) (fun _ b o hA _ h => by injection hA with hA; injection hA with hA; omega)
            · have hst := div_step (d := D) (by have := HQ1.out.len; omega) HI.out (lv (us.take j)) (lv (us.drop j)) hTu hDD
              rw [hst, hTs, hdrop, htake, hsv]
            · rw [hdrop, hsv]
              exact Nat.mod_lt _ HVP.out
          case measure => simp [intOf] <;> omega
end Go.Proofs.Ytnofljgmkdommaa

/- Contracts: limbs.Gcd, Pow. -/
namespace Go.Proofs.Ytnofljgmkdommaa
open Go.RowKit

set_option maxRecDepth 100000 in
set_option maxHeartbeats 4000000 in
theorem lgcd_any (w : World) (av av' : Option Nat) (A : Option Addr) (n c : Nat) (B : Option Addr) (m d : Nat) (x y : Nat) (hU : Ul w av A n (lm x)) (hV : Ul w av' B m (lm y)) (hn : n ≤ 1000000) (hm : m ≤ 1000000) :
    Calls Try.prog 69 #[.slice A n c, .slice B m d] w fun e w' => ∃ A' m' c', e = .returned (.slice A' m' c') ∧ m' ≤ c' ∧ Ul w' none A' m' (lm (Nat.gcd x y)) ∧ Below w.heap.size w w' := by
  have HU := hide hU.weak
  have HV := hide hV.weak
  clear hU hV
  go_enter Try.func69, Try.ntmps69
  go_wp2
  go_loopg [0, 1] y (fun g s0 s1 wr => ∃ (A : Option Addr) (n c : Nat) (B : Option Addr) (m d : Nat) (a b : Nat), n ≤ 1000000 ∧ m ≤ 1000000 ∧ s0 = .slice A n c ∧ s1 = .slice B m d ∧ Hid (g = b) ∧ Hid (Ul wr none A n (lm a)) ∧ Hid (Ul wr none B m (lm b)) ∧ Hid (Nat.gcd a b = Nat.gcd x y) ∧ Hid (Below w.heap.size w wr))
  case atStart => exact ⟨A, n, c, B, m, d, x, y, hn, hm, rfl, rfl, hide rfl, HU, HV, hide rfl, hide (Below.refl _ _)⟩
  case round =>
    obtain ⟨A, n, c, B, m, d, a, b, hn, hm, rfl, rfl, HG, HU, HV, HI, HB⟩ := hrel
    by_cases hm0 : m = 0
    · subst hm0
      have hb0 : b = 0 := lm_eq_nil.1 (List.eq_nil_of_length_eq_zero HV.out.len)
      have HI2 := hide (show a = Nat.gcd x y by rw [← HI.out, hb0, Nat.gcd_zero_right])
      clear hb0
      go_wp2_with (go_at_call 88; refine (lclone_any _ none A n c (lm a) HU.out (by omega)).mono ?_; rintro e w2 ⟨A2, c2, rfl, ho2⟩; have HO2 := hide ho2; clear ho2)
      go_ret
      exact ⟨A2, n, c2, rfl, HO2.out.cap, by rw [← HI2.out]; exact HO2.out.ul, HB.out.trans ((fr_below HO2.out.fr).mono HB.out.size)⟩
    · have hb0 : 0 < b := by
        rcases Nat.eq_zero_or_pos b with h | h
        · exfalso
          have := HV.out.len
          rw [h, lm_zero] at this
          exact hm0 this.symm
        · exact h
      have d1 : decide ((0 : Int) < (m : Int)) = true := decide_eq_true (by omega)
      have HGS := hide (show Nat.gcd b (a % b) = Nat.gcd x y by rw [gcd_step, HI.out])
      have HLT := hide (Nat.mod_lt a hb0)
      go_wp2_with (go_at_call 82; refine (ldiv_any _ none none A n c B m d a b HU.out HV.out (by omega) (by omega) hb0).mono ?_; rintro e w2 ⟨A1, m1, c1, A2, m2, c2, rfl, -, hc2, -, hu2, hb2⟩; have HU2 := hide hu2; have HV2 := hide (HV.out.below hb2); have HB2 := hide (HB.out.trans (hb2.mono HB.out.size)); clear hu2 hb2)
      go_roundg (a % b)
      case rel =>
        have hl : m2 ≤ m := by
          have h1 := lm_length_mono (Nat.le_of_lt HLT.out)
          rwa [HU2.out.len, HV2.out.len] at h1
        exact ⟨B, m, d, A2, m2, c2, b, a % b, hm, by omega, rfl, rfl, hide rfl, HV2, HU2, HGS, HB2⟩
      case measure => rw [HG.out]; exact HLT.out

theorem ofInt_i64' (a : Nat) (ha : a < 9223372036854775808) : (BitVec.ofInt 64 (a : Int)).toNat = a := by
  rw [BitVec.ofInt_natCast, BitVec.toNat_ofNat]; exact Nat.mod_eq_of_lt (by omega)
theorem i64_and_one (a : Nat) (ha : a < 9223372036854775808) : bits .and .i64 (a : Int) 1 = ((a % 2 : Nat) : Int) := by
  show IntKind.i64.wrap ((BitVec.ofInt 64 (a : Int) &&& BitVec.ofInt 64 1).toNat : Int) = _
  rw [BitVec.toNat_and, ofInt_i64' a ha, show (BitVec.ofInt 64 1).toNat = 1 from rfl, Nat.and_one_is_mod, IntKind.wrap_i64]
  omega
theorem pow_bits (a n j : Nat) : a ^ (n / 2 ^ j) = a ^ (n / 2 ^ (j + 1)) * a ^ (n / 2 ^ (j + 1)) * (if n / 2 ^ j % 2 = 1 then a else 1) := by
  have e : n / 2 ^ (j + 1) = n / 2 ^ j / 2 := by rw [Nat.pow_succ, Nat.div_div_eq_div_mul]
  rw [e]
  generalize n / 2 ^ j = k
  by_cases h : k % 2 = 1
  · rw [if_pos h]
    conv => lhs; rw [show k = k / 2 + k / 2 + 1 by omega]
    rw [Nat.pow_succ, Nat.pow_add]
  · rw [if_neg h, Nat.mul_one, ← Nat.pow_add]
    congr 1; omega
theorem lm_pow_mono {a k n : Nat} (h : k ≤ n) (hl : 0 < (lm (a ^ k)).length) : (lm (a ^ k)).length ≤ (lm (a ^ n)).length ∨ a = 0 := by
  rcases Nat.eq_zero_or_pos a with h0 | h0
  · exact .inr h0
  · exact .inl (lm_length_mono (Nat.pow_le_pow_right h0 h))
theorem len_zero_pow (k : Nat) : (lm (0 ^ k)).length ≤ 1 := by
  rcases Nat.eq_zero_or_pos k with h | h
  · subst h; rw [Nat.pow_zero, lm_one]; simp
  · rw [Nat.zero_pow h, lm_zero]; simp
/-- Too long on the way is too long at the end. -/
theorem pow_over {a n j most : Nat} (hm : 1 ≤ most) (h : most < (lm (a ^ (n / 2 ^ j))).length) : most < (lm (a ^ n)).length := by
  rcases lm_pow_mono (a := a) (k := n / 2 ^ j) (n := n) (Nat.div_le_self _ _) (by omega) with h1 | h1
  · omega
  · subst h1
    have := len_zero_pow (n / 2 ^ j)
    omega
set_option maxRecDepth 100000 in
set_option maxHeartbeats 8000000 in
theorem lpow_any (w : World) (av : Option Nat) (A : Option Addr) (n c : Nat) (a k most : Nat) (hU : Ul w av A n (lm a)) (hn : n ≤ 1000) (hk : k ≤ 65536) (hm : 1 ≤ most) (hm2 : most ≤ 1000) :
    Calls Try.prog 81 #[.slice A n c, .int .i64 (k : Int), .int .i64 (most : Int)] w fun e w' => ∃ A' m' c' ok, e = .returned (.tuple #[.slice A' m' c', .bool ok]) ∧ m' ≤ c' ∧ Hid (ok = decide ((lm (a ^ k)).length ≤ most)) ∧ Ul w' none A' m' (if ok then lm (a ^ k) else []) ∧ Below w.heap.size w w' := by
  have HU := hide hU
  clear hU
  go_enter Try.func81, Try.ntmps81
  go_wp2_with (first
    | (go_at_call 92; refine (lof_any _ 1 (by omega)).mono ?_; rintro e w1 ⟨A1, m1, c1, rfl, hc1, hm1, hu1, hb1⟩; have HU1 := hide hu1; have HB1 := hide hb1; clear hu1 hb1)
    | (go_at_call 93; refine (blen_any _ k (by omega)).mono ?_; rintro e w2 ⟨L, rfl, hL, rfl⟩; have hL32 : L ≤ 32 := hL.2.1; have HL := hide hL; clear hL))
  have HU0 := hide (HU.out.below HB1.out)
  go_loopg [8, 9] L (fun g s8 s9 wr => ∃ (j : Nat) (A1 : Option Addr) (m1 c1 : Nat), s8 = .slice A1 m1 c1 ∧ s9 = .int .i64 ((j : Int) - 1) ∧ j ≤ 32 ∧ m1 ≤ most ∧ m1 ≤ c1 ∧ Hid (g = j) ∧ Hid (Ul wr none A1 m1 (lm (a ^ (k / 2 ^ j)))) ∧ Hid (Below w.heap.size w wr))
  case atStart =>
    refine ⟨L, A1, m1, c1, rfl, rfl, hL32, ?_, hc1, hide rfl, hide ?_, HB1⟩
    · have := HU1.out.len
      rw [lm_one] at this
      simp at this
      omega
    · rw [Nat.div_eq_of_lt HL.out.1, Nat.pow_zero]
      exact HU1.out
  case round =>
    obtain ⟨j, A1, m1, c1, rfl, rfl, hj, hm1, hc1, HG, HU1, HB1⟩ := hrel
    clear HU0
    have HU0 := hide (HU.out.below HB1.out)
    by_cases hj0 : j = 0
    · subst hj0
      have HE := hide (show a ^ (k / 2 ^ 0) = a ^ k by simp)
      rw [HE.out] at HU1
      go_wp2
      go_ret2
      have hle : (lm (a ^ k)).length ≤ most := by rw [HU1.out.len]; exact hm1
      exact ⟨A1, m1, c1, true, rfl, hc1, hide (by simp [hle]), by simpa using HU1.out, HB1.out⟩
    · obtain ⟨i, rfl⟩ : ∃ i, j = i + 1 := ⟨j - 1, by omega⟩
      have gi0 : (0 : Int) ≤ (i : Int) := by omega
      have hand : bits BinOp.and IntKind.i64 ((k : Int) / 2 ^ i) 1 = ((k / 2 ^ i % 2 : Nat) : Int) := by
        rw [← natCast_div2]; exact i64_and_one _ (by have := Nat.div_le_self k (2 ^ i); omega)
      have HPB := hide (pow_bits a k i)
      obtain ⟨r, hr⟩ : ∃ r, r = a ^ (k / 2 ^ (i + 1)) := ⟨_, rfl⟩
      rw [← hr] at HU1 HPB
      have hmo : m1 ≤ 1000000 := by omega
      by_cases hb : k / 2 ^ i % 2 = 1
      · rw [hb] at hand
        have HPB2 := hide (show a ^ (k / 2 ^ i) = r * r * a by have := HPB.out; rwa [if_pos hb] at this)
        clear hr hb HPB
        go_wp2_with (first
          | (go_at_call 62; (with_reducible refine (lmul_any _ none none A1 m1 c1 A1 m1 c1 r r HU1.out HU1.out hmo hmo).mono ?_); rintro e w3 ⟨A3, m3, c3, rfl, hc3, hu3, hb3⟩; have hl3 := lm_length_mul r r; rw [hu3.len, HU1.out.len] at hl3; have HU3 := hide hu3; have HB3 := hide (HB1.out.trans (hb3.mono HB1.out.size)); have HU03 := hide (HU0.out.below hb3); clear hu3 hb3)
          | (go_at_call 62; refine (lmul_any _ none av A3 m3 c3 A n c (r * r) a HU3.out HU03.out (by omega) (by omega)).mono ?_; rintro e w4 ⟨A4, m4, c4, rfl, hc4, hu4, hb4⟩; rw [← HPB2.out] at hu4; have HU4 := hide hu4; have HB4 := hide (HB3.out.trans (hb4.mono HB3.out.size)); clear hu4 hb4))
        · go_ret2
          have hgt : most < m4 := by omega
          have ho := pow_over (a := a) (n := k) (j := i) hm (by rw [HU4.out.len]; exact hgt)
          exact ⟨none, 0, 0, false, rfl, by omega, hide (by simp; omega), Ul.nil, HB4.out⟩
        · have hle : m4 ≤ most := by omega
          go_roundg i
          case rel => exact ⟨i, A4, m4, c4, rfl, rfl, by omega, hle, hc4, hide rfl, HU4, HB4⟩
          case measure => rw [HG.out]; omega
      · have hb' : k / 2 ^ i % 2 = 0 := by omega
        rw [hb'] at hand
        have HPB2 := hide (show a ^ (k / 2 ^ i) = r * r by have := HPB.out; rwa [if_neg hb, Nat.mul_one] at this)
        clear hr hb HPB hb'
        go_wp2_with (first
          | (go_at_call 62; (with_reducible refine (lmul_any _ none none A1 m1 c1 A1 m1 c1 r r HU1.out HU1.out hmo hmo).mono ?_); rintro e w4 ⟨A4, m4, c4, rfl, hc4, hu4, hb4⟩; rw [← HPB2.out] at hu4; have HU4 := hide hu4; have HB4 := hide (HB1.out.trans (hb4.mono HB1.out.size)); clear hu4 hb4))
        · go_ret2
          have hgt : most < m4 := by omega
          have ho := pow_over (a := a) (n := k) (j := i) hm (by rw [HU4.out.len]; exact hgt)
          exact ⟨none, 0, 0, false, rfl, by omega, hide (by simp; omega), Ul.nil, HB4.out⟩
        · have hle : m4 ≤ most := by omega
          go_roundg i
          case rel => exact ⟨i, A4, m4, c4, rfl, rfl, by omega, hle, hc4, hide rfl, HU4, HB4⟩
          case measure => rw [HG.out]; omega
end Go.Proofs.Ytnofljgmkdommaa

/- Plain laws of fractions in lowest terms. -/
namespace Go.Proofs.Ytnofljgmkdommaa

def rn (r : Rat) : Nat := r.num.toNat
/-- What a fraction's limbs may be. -/
def fitsR (r : Rat) : Bool := decide ((lm (rn r)).length ≤ 128) && decide ((lm r.den).length ≤ 128)
def numL : Option Rat → List Nat
  | some r => lm (rn r)
  | none => []
def denL : Option Rat → List Nat
  | some r => lm r.den
  | none => []
/-- Not negative, and not too long. -/
def okR : Option Rat → Prop
  | some r => 0 ≤ r ∧ fitsR r = true
  | none => True
def natB (l : List Nat) : Bool := decide (l.length ≤ 128) && decide (l = lm (lv l))
/-- The fraction that two lists of limbs are, if they are well-formed. -/
def fracOf (l k : List Nat) : Option Rat := if natB l = true ∧ natB k = true ∧ lv k ≠ 0 ∧ Nat.gcd (lv l) (lv k) = 1 then some (mkRat (lv l) (lv k)) else none

theorem mk_num (x y : Nat) (hy : 0 < y) : rn (mkRat x y) = x / Nat.gcd x y := by
  unfold rn
  rw [Rat.num_mkRat, if_neg (by omega), Nat.gcd_comm]
  show ((x : Int) / ((Nat.gcd x y : Nat) : Int)).toNat = _
  rw [← Int.natCast_ediv]
  exact Int.toNat_natCast _
theorem mk_den (x y : Nat) (hy : 0 < y) : (mkRat x y).den = y / Nat.gcd x y := by
  rw [Rat.den_mkRat, if_neg (by omega), Nat.gcd_comm]
  rfl
theorem mk_nonneg (x y : Nat) : (0 : Rat) ≤ mkRat x y := by
  rw [← Rat.divInt_ofNat]
  exact Rat.divInt_nonneg (by omega) (by omega)
theorem rn_cast {r : Rat} (h : 0 ≤ r) : ((rn r : Nat) : Int) = r.num := by
  unfold rn
  exact Int.toNat_of_nonneg (Rat.num_nonneg.2 h)
theorem mk_self {r : Rat} (h : 0 ≤ r) : mkRat (rn r) r.den = r := by
  rw [rn_cast h]; exact Rat.mkRat_self r
theorem gcd_self {r : Rat} (h : 0 ≤ r) : Nat.gcd (rn r) r.den = 1 := by
  have := r.reduced
  have e : r.num.natAbs = rn r := by have := rn_cast h; omega
  rw [e] at this
  exact this
theorem mk_add {r s : Rat} (hr : 0 ≤ r) (hs : 0 ≤ s) : mkRat ((rn r * s.den + rn s * r.den : Nat) : Int) (r.den * s.den) = r + s := by
  rw [Rat.add_def', Int.natCast_add, Int.natCast_mul, Int.natCast_mul, rn_cast hr, rn_cast hs]
theorem mk_sub {r s : Rat} (hr : 0 ≤ r) (hs : 0 ≤ s) (h : s ≤ r) : mkRat ((rn r * s.den - rn s * r.den : Nat) : Int) (r.den * s.den) = r - s := by
  have h1 := (Rat.le_iff s r).1 h
  rw [← rn_cast hr, ← rn_cast hs, ← Int.natCast_mul, ← Int.natCast_mul] at h1
  rw [Rat.sub_def', Int.natCast_sub (by omega), Int.natCast_mul, Int.natCast_mul, rn_cast hr, rn_cast hs]
theorem mk_mul {r s : Rat} (hr : 0 ≤ r) (hs : 0 ≤ s) : mkRat ((rn r * rn s : Nat) : Int) (r.den * s.den) = r * s := by
  rw [Rat.mul_def', Int.natCast_mul, rn_cast hr, rn_cast hs]
theorem rn_pow {r : Rat} (hr : 0 ≤ r) (n : Nat) : rn (r ^ n) = rn r ^ n := by
  have : ((rn (r ^ n) : Nat) : Int) = ((rn r ^ n : Nat) : Int) := by
    rw [rn_cast (Rat.pow_nonneg hr), Rat.num_pow, Int.natCast_pow, rn_cast hr]
  exact Int.ofNat.inj this
theorem le_iff_n {r s : Rat} (hr : 0 ≤ r) (hs : 0 ≤ s) : r ≤ s ↔ rn r * s.den ≤ rn s * r.den := by
  rw [Rat.le_iff, ← rn_cast hr, ← rn_cast hs, ← Int.natCast_mul, ← Int.natCast_mul]
  omega
theorem lt_iff_n {r s : Rat} (hr : 0 ≤ r) (hs : 0 ≤ s) : r < s ↔ rn r * s.den < rn s * r.den := by
  rw [Rat.lt_iff, ← rn_cast hr, ← rn_cast hs, ← Int.natCast_mul, ← Int.natCast_mul]
  omega
/-- -1, 0 or 1. -/
def cmpQ (r s : Rat) : Int := if r < s then -1 else if r = s then 0 else 1
theorem cmp_eq {r s : Rat} (hr : 0 ≤ r) (hs : 0 ≤ s) : cmpN (rn r * s.den) (rn s * r.den) = cmpQ r s := by
  unfold cmpN cmpQ
  have h1 := lt_iff_n hr hs
  have h2 := le_iff_n hr hs
  by_cases h3 : r < s
  · rw [if_pos h3, if_pos (h1.1 h3)]
  · rw [if_neg h3, if_neg (fun h => h3 (h1.2 h))]
    by_cases h4 : r = s
    · rw [if_pos h4, if_pos (by rw [h4])]
    · rw [if_neg h4, if_neg]
      intro h
      have h5 : r ≤ s := h2.2 (by omega)
      exact h3 (Rat.lt_of_le_of_ne h5 h4)
theorem cmpQ_neg {r s : Rat} : cmpQ r s < 0 ↔ r < s := by
  unfold cmpQ; split
  · simp [*]
  · split <;> simp [*]
theorem cmpQ_le {r s : Rat} : cmpQ r s ≤ 0 ↔ r ≤ s := by
  unfold cmpQ; split
  · rename_i h; simp [Rat.le_of_lt h]
  · rename_i h
    split
    · rename_i h2; subst h2; simp [Rat.le_refl]
    · rename_i h2
      constructor
      · intro h3; omega
      · intro h3; exact absurd (Rat.lt_of_le_of_ne h3 h2) h
theorem rn_zero : rn 0 = 0 := rfl
theorem rn_one : rn 1 = 1 := rfl
theorem rn_eq_zero {r : Rat} (h : 0 ≤ r) : rn r = 0 ↔ r = 0 := by
  rw [← Rat.num_eq_zero]
  have := rn_cast h
  omega
theorem natB_lm (x : Nat) : natB (lm x) = decide ((lm x).length ≤ 128) := by simp [natB, lv_lm]
/-- What is well-formed reads as itself. -/
theorem fracOf_self {o : Option Rat} (h : okR o) : fracOf (numL o) (denL o) = o := by
  cases o with
  | none => simp [fracOf, numL, denL, lv]
  | some r =>
    obtain ⟨h0, hf⟩ := h
    simp only [fitsR, Bool.and_eq_true, decide_eq_true_eq] at hf
    unfold fracOf numL denL
    rw [natB_lm, natB_lm, lv_lm, lv_lm, if_pos ⟨by simp [hf.1], by simp [hf.2], r.den_nz, gcd_self h0⟩, mk_self h0]
theorem fracOf_ok (l k : List Nat) : okR (fracOf l k) ∧ ((fracOf l k).isSome → numL (fracOf l k) = l ∧ denL (fracOf l k) = k) := by
  unfold fracOf
  by_cases h : natB l = true ∧ natB k = true ∧ lv k ≠ 0 ∧ Nat.gcd (lv l) (lv k) = 1
  · rw [if_pos h]
    obtain ⟨h1, h2, h3, h4⟩ := h
    simp only [natB, Bool.and_eq_true, decide_eq_true_eq] at h1 h2
    have e1 : rn (mkRat (lv l) (lv k)) = lv l := by rw [mk_num _ _ (by omega), h4, Nat.div_one]
    have e2 : (mkRat (lv l) (lv k)).den = lv k := by rw [mk_den _ _ (by omega), h4, Nat.div_one]
    refine ⟨⟨mk_nonneg _ _, ?_⟩, fun _ => ⟨?_, ?_⟩⟩
    · unfold fitsR
      rw [e1, e2, ← h1.2, ← h2.2]
      simp [h1.1, h2.1]
    · show lm (rn _) = l
      rw [e1, ← h1.2]
    · show lm (Rat.den _) = k
      rw [e2, ← h2.2]
  · rw [if_neg h]
    exact ⟨trivial, fun h => by simp at h⟩
/-- The results of the operations, with their errors. -/
def limR (r : Rat) : Option Rat × Int := if fitsR r then (some r, 0) else (none, 2)
def opR (f : Rat → Rat → Option Rat × Int) : Option Rat → Option Rat → Option Rat × Int
  | some r, some s => f r s
  | _, _ => (none, 1)
def addR := opR fun r s => limR (r + s)
def subR := opR fun r s => if r < s then (none, 5) else limR (r - s)
def mulR := opR fun r s => limR (r * s)
def powR (o : Option Rat) (n : Int) : Option Rat × Int := match o with
  | none => (none, 1)
  | some r => if n < 0 ∨ 65536 < n then (none, 3) else limR (r ^ n.toNat)
def cmpO : Option Rat → Option Rat → Int
  | some r, some s => cmpQ r s
  | _, _ => 0
theorem limR_ok {r : Rat} (h : 0 ≤ r) : okR (limR r).1 := by
  unfold limR
  by_cases hf : fitsR r = true
  · rw [if_pos hf]; exact ⟨h, hf⟩
  · rw [if_neg hf]; exact trivial
theorem limR_fit {r : Rat} (h : fitsR r = true) : limR r = (some r, 0) := by simp [limR, h]
theorem limR_no {r : Rat} (h : fitsR r = false) : limR r = (none, 2) := by simp [limR, h]
theorem sub_nonneg' {r s : Rat} (h : ¬ r < s) : 0 ≤ r - s := by
  rw [← Rat.le_iff_sub_nonneg]
  exact Rat.not_lt.1 h
theorem addR_ok {x y : Option Rat} (hx : okR x) (hy : okR y) : okR (addR x y).1 := by
  cases x <;> cases y <;> simp only [addR, opR] <;> first | exact trivial | exact limR_ok (Rat.add_nonneg hx.1 hy.1)
theorem subR_ok {x y : Option Rat} : okR (subR x y).1 := by
  cases x with
  | none => cases y <;> exact trivial
  | some r =>
    cases y with
    | none => exact trivial
    | some s =>
      simp only [subR, opR]
      split
      · exact trivial
      · rename_i h; exact limR_ok (sub_nonneg' h)
theorem mulR_ok {x y : Option Rat} (hx : okR x) (hy : okR y) : okR (mulR x y).1 := by
  cases x <;> cases y <;> simp only [mulR, opR] <;> first | exact trivial | exact limR_ok (Rat.mul_nonneg hx.1 hy.1)
theorem powR_ok {x : Option Rat} {n : Int} (hx : okR x) : okR (powR x n).1 := by
  cases x with
  | none => exact trivial
  | some r =>
    simp only [powR]
    split
    · exact trivial
    · exact limR_ok (Rat.pow_nonneg hx.1)
end Go.Proofs.Ytnofljgmkdommaa

/- Contracts: natural.Of, Check, all, Compare. -/
namespace Go.Proofs.Ytnofljgmkdommaa
open Go.RowKit

theorem natB_iff {l : List Nat} : natB l = true ↔ l.length ≤ 128 ∧ l = lm (lv l) := by simp [natB]
theorem natB_big {l : List Nat} (h : 128 < l.length) : natB l = false := by simp [natB]; omega
theorem natB_nil : natB [] = true := by simp [natB, lv, lm_zero]
theorem natB_last {l : List Nat} {k x : Nat} (ho : okL l) (hl : l.length = k + 1) (hk : k < 128) (hx : l[k]? = some x) : natB l = decide (x ≠ 0) := by
  have hne : l ≠ [] := by rintro rfl; simp at hl
  have hlast : l.getLast hne = x := by
    rw [List.getLast_eq_getElem]
    have := (List.getElem?_eq_some_iff.1 hx).2
    simpa [hl] using this
  by_cases h0 : x = 0
  · have h : ¬ l = lm (lv l) := by
      intro e
      have h1 := lm_getLast (n := lv l) (by rw [← e]; exact hne)
      apply h1
      have : (lm (lv l)).getLast (by rw [← e]; exact hne) = l.getLast hne := by congr 1; exact e.symm
      rw [this, hlast, h0]
    simp [natB, h, h0]
  · have h : l = lm (lv l) := (lm_lv ho (fun _ => by rw [hlast]; exact h0)).symm
    have hl2 : l.length ≤ 128 := by omega
    simp [natB, ← h, h0, hl2]
set_option maxRecDepth 100000 in
set_option maxRecDepth 100000 in
set_option maxHeartbeats 4000000 in
theorem ncheck_any (w : World) (av : Option Nat) (A : Option Addr) (n c : Nat) (l : List Nat) (hU : Ul w av A n l) (hn : n ≤ 9223372036854775807) :
    Calls Try.prog 68 #[.slice A n c] w fun e w' => e = .returned (.bool (natB l)) ∧ w' = w := by
  by_cases h1 : 128 < n
  · have hb := hide (natB_big (l := l) (by rw [hU.len]; exact h1))
    have d1 : decide ((n : Int) ≤ 128) = false := decide_eq_false (by omega)
    clear hU
    go_enter Try.func68, Try.ntmps68
    go_wp2
    go_ret
    exact ⟨by rw [hb.out]; rfl, rfl⟩
  · have d1 : decide ((n : Int) ≤ 128) = true := decide_eq_true (by omega)
    by_cases h0 : n = 0
    · subst h0
      have hl : l = [] := List.eq_nil_of_length_eq_zero hU.len
      subst hl
      go_enter Try.func68, Try.ntmps68
      go_wp2
      go_ret
      exact ⟨by rw [natB_nil]; rfl, rfl⟩
    · obtain ⟨k, rfl⟩ : ∃ k, n = k + 1 := ⟨n - 1, by omega⟩
      obtain ⟨b, o, x, rfl, -, -, hx, hxl, hcell⟩ := hU.at (k := k) (by omega)
      have hb := natB_last hU.ok hU.len (by omega) hx
      have g1 : (0 : Int) ≤ (k : Int) := by omega
      have d2 : ((k : Int) + 1 == 0) = false := by simp; omega
      by_cases hx0 : x = 0
      · subst hx0
        have HB := hide (show natB l = false by rw [hb]; rfl)
        clear hU hx hb
        go_enter Try.func68, Try.ntmps68
        go_wp2
        go_ret
        exact ⟨by rw [HB.out]; rfl, rfl⟩
      · have HB := hide (show natB l = true by rw [hb]; simp [hx0])
        have d3 : ((x : Int) != 0) = true := by simp; omega
        clear hU hx hb
        go_enter Try.func68, Try.ntmps68
        go_wp2
        go_ret
        exact ⟨by rw [HB.out]; rfl, rfl⟩
set_option maxRecDepth 100000 in
set_option maxHeartbeats 4000000 in
theorem nof_any (w : World) (n : Nat) (hn : n < 18446744073709551616) :
    Calls Try.prog 76 #[.int .u64 (n : Int)] w fun e w' => ∃ A m c, e = .returned (.slice A m c) ∧ m ≤ c ∧ m ≤ 2 ∧ Ul w' none A m (lm n) ∧ Below w.heap.size w w' := by
  go_enter Try.func76, Try.ntmps76
  go_wp2_with (go_at_call 92; refine (lof_any _ n hn).mono ?_; rintro e w' ⟨A, m, c, rfl, h1, h2, hu, hb⟩)
  go_ret
  exact ⟨A, m, c, rfl, h1, h2, hu, hb⟩
end Go.Proofs.Ytnofljgmkdommaa
