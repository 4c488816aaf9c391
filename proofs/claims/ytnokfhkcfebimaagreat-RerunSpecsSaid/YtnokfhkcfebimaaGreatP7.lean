/- Contracts of the functions that these laws reach: part 7: A window into an own row; contract: the reference's down; Contracts: the reference's zeros, take; Contract: the reference's Common (greatest common divisors, by twos). -/
import Derived.Test.YtnokfhkcfebimaaGreatP6
import Derived.Deep.LoopGhost
set_option linter.unusedVariables false
set_option linter.unusedSimpArgs false

/- A window into an own row; contract: the reference's down. -/
namespace Go.Proofs.YtnokfhkcfebimaaGreat
open Go.RowKit

/-- A part of a row of a call's own. -/
structure Win (w0 w : World) (g off m c : Nat) (l : List Nat) : Prop where
  ex : ∃ (N C : Nat) (L : List Nat), OF w0 w (some ⟨g, 0, none⟩) N C L ∧ off + m ≤ N ∧ l = (L.drop off).take m
  hc : m ≤ c
theorem OF.win {w0 w : World} {g m c : Nat} {l : List Nat} (h : OF w0 w (some ⟨g, 0, none⟩) m c l) : Win w0 w g 0 m c l :=
  ⟨⟨m, c, l, h, by omega, by rw [List.drop_zero, List.take_of_length_le (by have := h.len; omega)]⟩, h.cap⟩
section
variable {w0 w w' : World} {g off m c : Nat} {l : List Nat}
theorem Win.ul (h : Win w0 w g off m c l) : Ul w none (some ⟨g, off, none⟩) m l := by
  obtain ⟨N, C, L, ho, hN, rfl⟩ := h.ex
  exact ho.seg hN
theorem Win.len (h : Win w0 w g off m c l) : l.length = m := h.ul.len
theorem Win.fr (h : Win w0 w g off m c l) : Fr w0 w (fun _ => False) := by
  obtain ⟨N, C, L, ho, -, -⟩ := h.ex
  exact ho.fr
theorem Win.at (h : Win w0 w g off m c l) {k : Nat} (hk : k < m) : ∃ x, w0.heap.size ≤ g ∧ g < w.heap.size ∧ l[k]? = some x ∧ x < 4294967296 ∧ w.cell? ⟨g, off + k, none⟩ = some (.int .u32 (x : Int)) ∧ (∀ j, w.frozen? ⟨g, j, none⟩ = false) := by
  obtain ⟨N, C, L, ho, hN, rfl⟩ := h.ex
  obtain ⟨g', x, hg, h1, h2, h3, h4, h5, h6⟩ := ho.at (k := off + k) (by omega)
  obtain rfl : g = g' := by simpa using hg
  exact ⟨x, h1, h2, by rw [List.getElem?_take, if_pos hk, List.getElem?_drop]; exact h3, h4, h5, h6⟩
theorem Win.gt (h : Win w0 w g off m c l) (hm : 0 < m) : w0.heap.size ≤ g ∧ g < w.heap.size := by
  obtain ⟨x, h1, h2, -⟩ := h.at hm
  exact ⟨h1, h2⟩
theorem Win.put (h : Win w0 w g off m c l) {k x : Nat} (hk : k < m) (hx : x < 4294967296) : Win w0 (w.setCell ⟨g, off + k, none⟩ (.int .u32 (x : Int))) g off m c (l.set k x) := by
  obtain ⟨N, C, L, ho, hN, rfl⟩ := h.ex
  refine ⟨⟨N, C, L.set (off + k) x, ho.put (by omega) hx, hN, ?_⟩, h.hc⟩
  apply List.ext_getElem?
  intro i
  have hl := ho.len
  simp only [List.getElem?_set, List.getElem?_take, List.getElem?_drop, List.length_take, List.length_drop]
  by_cases him : i < m
  · rw [if_pos him, if_pos him]
    by_cases hik : k = i
    · subst hik
      rw [if_pos rfl, if_pos (by omega), if_pos rfl, if_pos (by omega)]
    · rw [if_neg hik, if_neg (by omega)]
  · rw [if_neg him, if_neg him, if_neg (by omega)]
theorem Win.sub (h : Win w0 w g off m c l) {q : Nat} (hq : q ≤ m) : Win w0 w g (off + q) (m - q) (c - q) (l.drop q) := by
  obtain ⟨N, C, L, ho, hN, rfl⟩ := h.ex
  exact ⟨⟨N, C, L, ho, by omega, by rw [List.drop_take, List.drop_drop]⟩, by have := h.hc; omega⟩
theorem Win.take (h : Win w0 w g off m c l) {k : Nat} (hk : k ≤ m) : Win w0 w g off k c (l.take k) := by
  obtain ⟨N, C, L, ho, hN, rfl⟩ := h.ex
  exact ⟨⟨N, C, L, ho, by omega, by rw [List.take_take, Nat.min_eq_left hk]⟩, by have := h.hc; omega⟩
theorem Win.frS (h : Win w0 w g off m c l) {S : Nat → Prop} (hf : Fr w w' S) (hS : ¬ S g) (hS2 : ∀ k, S k → w0.heap.size ≤ k) : Win w0 w' g off m c l := by
  obtain ⟨N, C, L, ho, hN, hl⟩ := h.ex
  exact ⟨⟨N, C, L, ho.frS hf hS hS2, hN, hl⟩, h.hc⟩
theorem Win.below (h : Win w0 w g off m c l) (hb : Below w.heap.size w w') : Win w0 w' g off m c l := by
  obtain ⟨N, C, L, ho, hN, hl⟩ := h.ex
  exact ⟨⟨N, C, L, ho.below hb, hN, hl⟩, h.hc⟩
end
theorem down_val {l : List Nat} {n : Nat} (h : n / 32 ≤ l.length) (hl : okL l) : lv (l.drop (n / 32)) / 2 ^ (n % 32) = lv l / 2 ^ n := by
  have e : 2 ^ n = 4294967296 ^ (n / 32) * 2 ^ (n % 32) := by
    rw [show (4294967296 : Nat) = 2 ^ 32 from rfl, ← Nat.pow_mul, ← Nat.pow_add]
    congr 1
    omega
  have h1 := lv_take_drop l (n / 32) h
  have h2 := lv_lt (hl.take (n / 32))
  rw [List.length_take, Nat.min_eq_left h] at h2
  have h3 : lv l / 4294967296 ^ (n / 32) = lv (l.drop (n / 32)) := by
    rw [h1, Nat.add_comm, Nat.mul_add_div (Nat.pow_pos (by omega)), Nat.div_eq_of_lt h2, Nat.add_zero]
  rw [e, ← Nat.div_div_eq_div_mul, h3]
set_option maxRecDepth 100000 in
set_option maxHeartbeats 4000000 in
theorem r1down_any (w0 w : World) (g off m c : Nat) (l : List Nat) (n : Nat) (hW : Win w0 w g off m c l) (hn : n / 32 < m) (hn2 : n ≤ 40000000) (hm : m ≤ 1000000) :
    Calls Tryz.prog 143 #[.slice (some ⟨g, off, none⟩) m c, .int .i64 (n : Int)] w fun e w' => ∃ off' m' c', e = .returned (.slice (some ⟨g, off', none⟩) m' c') ∧ c' ≤ c ∧ Win w0 w' g off' m' c' (lm (lv l / 2 ^ n)) ∧ Fr w w' (fun b => b = g) := by
  have HW := hide hW
  have hmc := hW.hc
  clear hW
  obtain ⟨q, hq⟩ : ∃ q, q = n / 32 := ⟨_, rfl⟩
  obtain ⟨s, hs⟩ : ∃ s, s = n % 32 := ⟨_, rfl⟩
  have e1 : (n : Int) / 32 = (q : Int) := by omega
  have e2 : (n : Int).tmod 32 = (s : Int) := by rw [hs]; rfl
  have e3 : (n : Int).tdiv 32 = (q : Int) := by rw [hq]; rfl
  have hqm : q < m := by omega
  have hs32 : s < 32 := by omega
  have HQ := hide hq
  have HS := hide hs
  clear hq hs hn
  obtain ⟨M, rfl⟩ : ∃ M, m = q + M := ⟨m - q, by omega⟩
  obtain ⟨C2, rfl⟩ : ∃ C2, c = q + C2 := ⟨c - q, by omega⟩
  have hMC : M ≤ C2 := by omega
  have h1 := HW.out.sub (q := q) (by omega)
  rw [show q + M - q = M by omega, show q + C2 - q = C2 by omega] at h1
  have HL := hide (show lv (l.drop q) / 2 ^ s = lv l / 2 ^ n by
    rw [HQ.out, HS.out]
    exact down_val (by rw [HW.out.len, ← HQ.out]; omega) HW.out.ul.ok)
  have g1 : (0 : Int) ≤ (q : Int) := by omega
  have g2 : (q : Int) ≤ (q : Int) + (M : Int) := by omega
  have g4 : (q : Int) ≤ (q : Int) + (C2 : Int) := by omega
  go_enter Tryz.func143, Tryz.ntmps143
  go_wp2_with fail
  obtain ⟨O, hO⟩ : ∃ O, O = off + q := ⟨_, rfl⟩
  rw [← hO] at h1 ⊢
  obtain ⟨l1, hl1⟩ : ∃ l1, l1 = l.drop q := ⟨_, rfl⟩
  rw [← hl1] at h1 HL
  have H1 := hide h1
  clear h1 hl1 hO HW HQ HS
  go_loopw [5] (fun i wr => ∃ (k : Nat) (cur : List Nat), i = .int .i64 (k : Int) ∧ k ≤ M ∧ Hid (Win w0 wr g O M C2 cur) ∧ Hid (cur.drop k = l1.drop k) ∧ Hid (lv (cur.take k) + 4294967296 ^ k * (lv (l1.drop k) / 2 ^ s) = lv l1 / 2 ^ s) ∧ Hid (Fr w wr (fun b => b = g))) (fun i _ => M - (intOf i).toNat)
  case atStart => exact ⟨0, l1, rfl, by omega, H1, hide rfl, hide (by simp [lv]), hide (Fr.refl _ _)⟩
  case round =>
    obtain ⟨k, cur, rfl, hk, HWn, HD, HI, HF⟩ := hrel
    have g5 : (0 : Int) ≤ (k : Int) := by omega
    by_cases hkM : k = M
    · subst hkM
      have HE := hide (show lv cur = lv l1 / 2 ^ s by
        have h := HI.out
        rw [List.drop_eq_nil_of_le (by have := H1.out.len; omega), List.take_of_length_le (by have := HWn.out.len; omega)] at h
        simpa [lv] using h)
      go_wp2_with (go_at_call 159; refine (r1cut_any _ none _ _ _ _ HWn.out.ul (by omega) (by omega)).mono ?_; rintro e w3 ⟨m3, rfl, hm3, ht, rfl⟩; rw [HE.out, HL.out] at ht; have HT := hide ht; clear ht)
      go_ret
      exact ⟨O, m3, C2, rfl, by omega, by rw [← HT.out]; exact HWn.out.take hm3, HF.out⟩
    · obtain ⟨p, hg0, hgl, hp, hpl, hcell, hfz⟩ := HWn.out.at (k := k) (by omega)
      have hp1 : l1[k]? = some p := by
        have : (cur.drop k)[0]? = (l1.drop k)[0]? := by rw [HD.out]
        rw [List.getElem?_drop, List.getElem?_drop, Nat.add_zero, hp] at this
        exact this.symm
      have HP := hide hp1
      clear hp hp1
      have g6 : (k : Int) < (M : Int) := by omega
      have hfz0 := hfz (O + k)
      clear hfz
      have hs0 : (s : Int) < 64 := by omega
      have hs00 : (0 : Int) ≤ (s : Int) := by omega
      by_cases hk1 : k + 1 < M
      · obtain ⟨q2, -, -, hq, hql, hcell2, -⟩ := HWn.out.at (k := k + 1) hk1
        have hq1 : l1[k + 1]? = some q2 := by
          have : (cur.drop k)[1]? = (l1.drop k)[1]? := by rw [HD.out]
          rw [List.getElem?_drop, List.getElem?_drop, hq] at this
          exact this.symm
        have HQ := hide (getD_some hq1)
        clear hq hq1
        have g7 : (k : Int) + 1 < (M : Int) := by omega
        have hor := shr_or (s := s) hpl hql
        obtain ⟨S, hS⟩ : ∃ S : Nat, S = p + 4294967296 * q2 := ⟨_, rfl⟩
        rw [← hS] at hor
        have HS := hide hS
        clear hS
        go_wp2_with fail
        have hp := HWn.out.put (k := k) (x := S / 2 ^ s % 4294967296) (by omega) (by omega)
        have e : ((S / 2 ^ s % 4294967296 : Nat) : Int) = (S : Int) / 2 ^ s % 4294967296 := by rw [Int.natCast_emod, natCast_div2]; rfl
        rw [e] at hp
        refine ⟨⟨k + 1, _, by go_num, by omega, hide hp, hide ?_, hide ?_, hide (HF.out.setCell (.inr rfl) _)⟩, by (simp [intOf] <;> omega)⟩
        · rw [List.drop_set_of_lt (by omega), ← List.drop_drop, HD.out, List.drop_drop]
        · rw [take_set_succ (by have := HWn.out.len; omega)]
          exact shr_step (by rw [List.length_take]; have := HWn.out.len; omega) (by omega) H1.out.ul.ok HP.out (by rw [HQ.out]; rw [HS.out]) HI.out
      · have g7 : ¬ (k : Int) + 1 < (M : Int) := by omega
        have HQ := hide (getD_none (l := l1) (k := k + 1) (by have := H1.out.len; omega))
        go_wp2_with fail
        have hp := HWn.out.put (k := k) (x := p / 2 ^ s % 4294967296) (by omega) (by omega)
        have e : ((p / 2 ^ s % 4294967296 : Nat) : Int) = (p : Int) / 2 ^ s % 4294967296 := by rw [Int.natCast_emod, natCast_div2]; rfl
        rw [e] at hp
        refine ⟨⟨k + 1, _, by go_num, by omega, hide hp, hide ?_, hide ?_, hide (HF.out.setCell (.inr rfl) _)⟩, by (simp [intOf] <;> omega)⟩
        · rw [List.drop_set_of_lt (by omega), ← List.drop_drop, HD.out, List.drop_drop]
        · rw [take_set_succ (by have := HWn.out.len; omega)]
          exact shr_step (by rw [List.length_take]; have := HWn.out.len; omega) (by omega) H1.out.ul.ok HP.out (by rw [HQ.out]; simp) HI.out
end Go.Proofs.YtnokfhkcfebimaaGreat

/- Contracts: the reference's zeros, take. -/
namespace Go.Proofs.YtnokfhkcfebimaaGreat
open Go.RowKit

theorem zeros_val {l : List Nat} {n x t p : Nat} (hl : okL l) (h0 : lv (l.take n) = 0) (hp : l[n]? = some p) (hpx : p = x * 2 ^ t) (hx : x % 2 = 1) : ∃ u, lv l = 2 ^ (32 * n + t) * u ∧ u % 2 = 1 := by
  have hpl := hl.get hp
  have ht : t < 32 := by
    rcases Nat.lt_or_ge t 32 with h | h
    · exact h
    · exfalso
      have h1 : 2 ^ 32 ≤ 2 ^ t := Nat.pow_le_pow_right (by omega) h
      have h2 : 1 * 2 ^ t ≤ x * 2 ^ t := Nat.mul_le_mul_right _ (by omega)
      omega
  have hn : n < l.length := (List.getElem?_eq_some_iff.1 hp).1
  have e := lv_take_drop l n (by omega)
  rw [h0, Nat.zero_add, lv_drop hp] at e
  have hB : (4294967296 : Nat) = 2 ^ t * 2 ^ (32 - t) := by rw [← Nat.pow_add, show t + (32 - t) = 32 by omega]
  refine ⟨x + 2 ^ (32 - t) * lv (l.drop (n + 1)), ?_, ?_⟩
  · rw [e, Nat.pow_add, show (2 : Nat) ^ (32 * n) = 4294967296 ^ n by rw [Nat.pow_mul], Nat.mul_assoc]
    congr 1
    rw [Nat.mul_add, ← Nat.mul_assoc, ← hB, hpx, Nat.mul_comm x]
  · obtain ⟨d, hd⟩ : ∃ d, 32 - t = d + 1 := ⟨31 - t, by omega⟩
    rw [hd, Nat.pow_succ, Nat.mul_comm (2 ^ d) 2, Nat.mul_assoc]
    omega
set_option maxRecDepth 100000 in
set_option maxHeartbeats 4000000 in
theorem r1zeros_any (w : World) (av : Option Nat) (A : Option Addr) (m c : Nat) (l : List Nat) (hU : Ul w av A m l) (hl : lv l ≠ 0) (hm : m ≤ 1000000) :
    Calls Tryz.prog 142 #[.slice A m c] w fun e w' => ∃ z u : Nat, e = .returned (.int .i64 (z : Int)) ∧ Hid (lv l = 2 ^ z * u) ∧ u % 2 = 1 ∧ z / 32 < m ∧ w' = w := by
  have HU := hide hU
  have HL := hide hl
  clear hU hl
  go_enter Tryz.func142, Tryz.ntmps142
  go_wp2
  go_loop [3] (fun v => ∃ n : Nat, v = .int .i64 (n : Int) ∧ n ≤ m ∧ Hid (lv (l.take n) = 0)) (fun v => m - (intOf v).toNat)
  case atStart => exact ⟨0, rfl, by omega, hide (by simp [lv])⟩
  case round =>
    obtain ⟨n, rfl, hn, H0⟩ := hrel
    have hnm : n < m := by
      rcases Nat.lt_or_ge n m with h | h
      · exact h
      · exfalso
        have := H0.out
        rw [List.take_of_length_le (by have := HU.out.len; omega)] at this
        exact HL.out this
    obtain ⟨b, o, p, rfl, -, -, hp, hpl, hcell⟩ := HU.out.at (k := n) hnm
    have HP := hide hp
    clear hp
    have g1 : (0 : Int) ≤ (n : Int) := by omega
    have g2 : (n : Int) < (m : Int) := by omega
    by_cases hp0 : p = 0
    · subst hp0
      go_wp2
      go_round
      case rel => exact ⟨n + 1, by go_num, by omega, hide (by rw [lv_take_zero HP.out]; exact H0.out)⟩
      case measure => simp [intOf] <;> omega
    · have hpd : ((p : Int) == 0) = false := by simp; omega
      go_wp2
      go_loop [4, 5] (fun k x => ∃ t q : Nat, k = .int .i64 ((32 * n + t : Nat) : Int) ∧ x = .int .u32 (q : Int) ∧ 0 < q ∧ t < 32 ∧ Hid (p = q * 2 ^ t) ∧ q < 4294967296) (fun _ x => (intOf x).toNat)
      case atStart => exact ⟨0, p, by go_num, rfl, by omega, by omega, hide (by simp), hpl⟩
      case round =>
        obtain ⟨t, q, rfl, rfl, hq0, ht, HQ, hql⟩ := hrel
        by_cases hq2 : q % 2 = 1
        · have g3 : ((q : Int) % 2 == 0) = false := by simp; omega
          go_wp2
          go_ret
          obtain ⟨u, hu, hu2⟩ := zeros_val HU.out.ok H0.out HP.out HQ.out hq2
          exact ⟨32 * n + t, rfl, u, hide hu, hu2, by omega, rfl⟩
        · have g3 : ((q : Int) % 2 == 0) = true := by simp; omega
          obtain ⟨h, hh⟩ : ∃ h, h = q / 2 := ⟨_, rfl⟩
          have e1 : IntKind.u32.wrap (((q : Int)).tdiv 2) = (h : Int) := by
            rw [hh]
            show (((q / 2 : Nat) : Int)) % 4294967296 = _
            omega
          have e2 : (q : Int) / 2 = (h : Int) := by omega
          have hq2h : q = h * 2 := by omega
          have hh0 : 0 < h := by omega
          have HH := hide hq2h
          clear hh hq2h
          have ht31 : t < 31 := by
            rcases Nat.lt_or_ge t 31 with h | h
            · exact h
            · exfalso
              obtain rfl : t = 31 := by omega
              have h1 := HQ.out
              have h2 := HH.out
              rw [h2] at h1
              omega
          go_wp2
          go_round
          case rel =>
            refine ⟨t + 1, h, by go_num, rfl, hh0, by omega, hide ?_, by have := HH.out; omega⟩
            rw [HQ.out, Nat.pow_succ, Nat.mul_comm (2 ^ t) 2, ← Nat.mul_assoc, HH.out]
          case measure => simp [intOf] <;> (have := HH.out; omega)
set_option maxRecDepth 100000 in
set_option maxHeartbeats 4000000 in
theorem r1take_any (w0 w : World) (g off m c g2 off2 m2 c2 X Y : Nat) (hW : Win w0 w g off m c (lm X)) (hV : Win w0 w g2 off2 m2 c2 (lm Y)) (hgg : g2 ≠ g) (hYX : Y ≤ X) (hm : m ≤ 1000000) :
    Calls Tryz.prog 144 #[.slice (some ⟨g, off, none⟩) m c, .slice (some ⟨g2, off2, none⟩) m2 c2] w fun e w' => ∃ m', e = .returned (.slice (some ⟨g, off, none⟩) m' c) ∧ Win w0 w' g off m' c (lm (X - Y)) ∧ Fr w w' (fun b => b = g) := by
  have HW := hide hW
  have HV := hide hV
  have hmc := hW.hc
  have hmn : m2 ≤ m := by
    have := lm_length_mono hYX
    rw [hW.len, hV.len] at this
    exact this
  clear hW hV
  go_enter Tryz.func144, Tryz.ntmps144
  go_wp2_with fail
  go_loopw [5, 6] (fun bo i wr => ∃ (k b : Nat) (cur : List Nat), bo = .int .u64 (b : Int) ∧ i = .int .i64 (k : Int) ∧ k ≤ m ∧ b ≤ 1 ∧ Hid (Win w0 wr g off m c cur) ∧ Hid (cur.drop k = (lm X).drop k) ∧ Hid (lv (cur.take k) + lv ((lm Y).take k) = lv ((lm X).take k) + 4294967296 ^ k * b) ∧ Hid (Fr w wr (fun b => b = g))) (fun _ i _ => m - (intOf i).toNat)
  case atStart => exact ⟨0, 0, lm X, rfl, rfl, by omega, by omega, HW, hide rfl, hide (by simp [lv]), hide (Fr.refl _ _)⟩
  case round =>
    obtain ⟨k, b, cur, rfl, rfl, hk, hb1, HWn, HD, HI, HF⟩ := hrel
    have g5 : (0 : Int) ≤ (k : Int) := by omega
    by_cases hkm : k = m
    · subst hkm
      have HE := hide (show lv cur = X - Y by
        have h := HI.out
        rw [List.take_of_length_le (l := cur) (by have := HWn.out.len; omega), List.take_of_length_le (l := lm Y) (by have := HV.out.len; omega), List.take_of_length_le (l := lm X) (by have := HW.out.len; omega)] at h
        have := sub_end (n := k) HWn.out.ul.ok HWn.out.len h (by rw [lv_lm, lv_lm]; exact hYX)
        rwa [lv_lm, lv_lm] at this)
      go_wp2_with (go_at_call 159; refine (r1cut_any _ none _ _ _ _ HWn.out.ul (by omega) (by omega)).mono ?_; rintro e w3 ⟨m3, rfl, hm3, ht, rfl⟩; rw [HE.out] at ht; have HT := hide ht; clear ht)
      go_ret
      exact ⟨m3, rfl, by rw [← HT.out]; exact HWn.out.take hm3, HF.out⟩
    · obtain ⟨p, hg0, hgl, hp, hpl, hcell, hfz⟩ := HWn.out.at (k := k) (by omega)
      have hp1 : (lm X)[k]? = some p := by
        have : (cur.drop k)[0]? = ((lm X).drop k)[0]? := by rw [HD.out]
        rw [List.getElem?_drop, List.getElem?_drop, Nat.add_zero, hp] at this
        exact this.symm
      have HP := hide (getD_some hp1)
      clear hp hp1
      have g6 : (k : Int) < (m : Int) := by omega
      have hfz0 := hfz (off + k)
      clear hfz
      have HV2 := hide (HV.out.frS HF.out (by omega) (fun j hj => by omega))
      by_cases hkm2 : k < m2
      · obtain ⟨q, -, -, hq, hql, hcell2, -⟩ := HV2.out.at hkm2
        have HQ := hide (getD_some hq)
        clear hq
        have g7 : (k : Int) < (m2 : Int) := by omega
        obtain ⟨e, b', he, hb', h1, h2, h3⟩ := sub_dig (q := q) hpl hb1 hql
        have H1 := hide h1
        have H2 := hide h2
        have H3 := hide h3
        clear h1 h2 h3
        go_wp2_with fail
        have hp := HWn.out.put (k := k) (x := e) (by omega) he
        have hi := sub_step (o := cur.take k) (a := lm X) (b := lm Y) (k := k) (w := b) (d := e) (w' := b') (by rw [List.length_take]; have := HWn.out.len; omega) HI.out (by rw [HP.out, HQ.out]; exact H3.out)
        rw [← H1.out] at hp
        refine ⟨⟨k + 1, b', _, vint H2.out, by go_num, by omega, hb', hide hp, hide ?_, hide ?_, hide (HF.out.setCell (.inr rfl) _)⟩, by (simp [intOf] <;> omega)⟩
        · rw [List.drop_set_of_lt (by omega), ← List.drop_drop, HD.out, List.drop_drop]
        · rw [take_set_succ (by have := HWn.out.len; omega)]
          exact hi
      · have g7 : ¬ (k : Int) < (m2 : Int) := by omega
        have HQ := hide (getD_none (l := lm Y) (k := k) (by have := HV.out.len; omega))
        obtain ⟨e, b', he, hb', h1, h2, h3⟩ := sub_dig0 hpl hb1
        have H1 := hide h1
        have H2 := hide h2
        have H3 := hide h3
        clear h1 h2 h3
        go_wp2_with fail
        have hp := HWn.out.put (k := k) (x := e) (by omega) he
        have hi := sub_step (o := cur.take k) (a := lm X) (b := lm Y) (k := k) (w := b) (d := e) (w' := b') (by rw [List.length_take]; have := HWn.out.len; omega) HI.out (by rw [HP.out, HQ.out]; exact H3.out)
        rw [← H1.out] at hp
        refine ⟨⟨k + 1, b', _, vint H2.out, by go_num, by omega, hb', hide hp, hide ?_, hide ?_, hide (HF.out.setCell (.inr rfl) _)⟩, by (simp [intOf] <;> omega)⟩
        · rw [List.drop_set_of_lt (by omega), ← List.drop_drop, HD.out, List.drop_drop]
        · rw [take_set_succ (by have := HWn.out.len; omega)]
          exact hi
end Go.Proofs.YtnokfhkcfebimaaGreat

/- Contract: the reference's Common (greatest common divisors, by twos). -/
namespace Go.Proofs.YtnokfhkcfebimaaGreat
open Go.RowKit

theorem OF.base {w0 w1 w : World} {A : Option Addr} {m c : Nat} {l : List Nat} (h : OF w1 w A m c l) (hf : Fr w0 w1 (fun _ => False)) : OF w0 w A m c l := ⟨own_base h.own hf.size, h.len, h.ok, hf.trans h.fr⟩
theorem Win.dr {w0 w w' : World} {g off m c : Nat} {l : List Nat} (h : Win w0 w g off m c l) (hd : Dr w w') : Win w0 w' g off m c l := h.below hd.below
theorem len_bound {x y n : Nat} (h : x ≤ y) (hy : (lm y).length ≤ n) : (lm x).length ≤ n := Nat.le_trans (lm_length_mono h) hy
theorem lm_pos_len1 {x n : Nat} (h : 0 < x) (hl : (lm x).length = n) : 0 < n := by
  rcases Nat.eq_zero_or_pos n with h0 | h0
  · rw [h0] at hl
    have := lv_lm x
    rw [List.eq_nil_of_length_eq_zero hl] at this
    simp [lv] at this
    omega
  · exact h0
/-- A round: the lesser one is taken away, the twos are left out. -/
theorem gcd_round {u v z d : Nat} (hu : u % 2 = 1) (hv : v % 2 = 1) (hlt : v < u) (h : u - v = 2 ^ z * d) (hd : d % 2 = 1) : Nat.gcd d v = Nat.gcd u v ∧ d + v < u + v ∧ (u - v) / 2 ^ z = d := by
  have h2 : 0 < 2 ^ z := Nat.pow_pos (by omega)
  have hle : d ≤ 2 ^ z * d := Nat.le_mul_of_pos_left _ h2
  refine ⟨?_, by omega, by rw [h, Nat.mul_div_cancel_left _ h2]⟩
  rw [← gcd_odd (t := z) hv, ← h, gcd_sub (Nat.le_of_lt hlt)]
/-- A power of two in limbs. -/
theorem two_limbs (n : Nat) : (List.replicate (n / 32 + 1) 0).set (n / 32) (2 ^ (n % 32)) = lm (2 ^ n) := by
  have e : (List.replicate (n / 32 + 1) 0).set (n / 32) (2 ^ (n % 32)) = List.replicate (n / 32) 0 ++ [2 ^ (n % 32)] := by
    rw [List.replicate_succ', List.set_append_right _ _ (by simp)]
    simp
  have hp : 0 < 2 ^ (n % 32) := Nat.pow_pos (by omega)
  have hlt : 2 ^ (n % 32) < 4294967296 := by
    have : 2 ^ (n % 32) < 2 ^ 32 := Nat.pow_lt_pow_right (by omega) (by omega)
    omega
  have hv : lv (List.replicate (n / 32) 0 ++ [2 ^ (n % 32)]) = 2 ^ n := by
    rw [lv_snoc, lv_replicate, List.length_replicate, Nat.zero_add, show (4294967296 : Nat) = 2 ^ 32 from rfl, ← Nat.pow_mul, ← Nat.pow_add]
    congr 1
    omega
  rw [e, ← hv]
  refine (lm_lv (okL.append (okL_replicate _) (fun y hy => by simp at hy; omega)) (fun hne => ?_)).symm
  simp
theorem two_lt {s : Nat} (hs : s < 32) : 2 ^ s < 4294967296 := by
  have : 2 ^ s < 2 ^ 32 := Nat.pow_lt_pow_right (by omega) hs
  omega
theorem two_limbs' {q s t : Nat} (hq : q = t / 32) (hs : s = t % 32) : (List.replicate (q + 1) 0).set q (2 ^ s) = lm (2 ^ t) := by subst hq; subst hs; exact two_limbs t
theorem two_cast {s : Nat} (hs : s < 32) : ((2 ^ s : Nat) : Int) = (2 : Int) ^ s % 4294967296 := by
  have h := two_lt hs
  have e : ((2 ^ s : Nat) : Int) = (2 : Int) ^ s := by rw [Int.natCast_pow]; rfl
  rw [← e]
  generalize 2 ^ s = k at h ⊢
  omega
theorem r1down_z (w0 w : World) (g off m c X z u : Nat) (hW : Win w0 w g off m c (lm X)) (hX : Hid (lv (lm X) = 2 ^ z * u)) (hz : z / 32 < m) (hm : m ≤ 1000000) :
    Calls Tryz.prog 143 #[.slice (some ⟨g, off, none⟩) m c, .int .i64 (z : Int)] w fun e w' => ∃ off' m' c', e = .returned (.slice (some ⟨g, off', none⟩) m' c') ∧ Win w0 w' g off' m' c' (lm u) ∧ Fr w w' (fun b => b = g) := by
  refine (r1down_any w0 w g off m c (lm X) z hW hz (by omega) hm).mono ?_
  rintro e w' ⟨off', m', c', rfl, -, hw, hf⟩
  rw [hX.out, Nat.mul_div_cancel_left _ (Nat.pow_pos (by omega))] at hw
  exact ⟨off', m', c', rfl, hw, hf⟩
theorem r1order_w (w0 w : World) (g1 o1 n1 c1 g2 o2 n2 c2 u v : Nat) (k : Int) (h1 : Win w0 w g1 o1 n1 c1 (lm u)) (h2 : Win w0 w g2 o2 n2 c2 (lm v)) (hn1 : n1 ≤ 1000000) (hn2 : n2 ≤ 1000000) (hk : cmpN u v = k) :
    Calls Tryz.prog 114 #[.slice (some ⟨g1, o1, none⟩) n1 c1, .slice (some ⟨g2, o2, none⟩) n2 c2] w fun e w' => e = .returned (.int .i64 k) ∧ Win w0 w' g1 o1 n1 c1 (lm u) ∧ Win w0 w' g2 o2 n2 c2 (lm v) := by
  refine (r1order_any w none none _ n1 c1 _ n2 c2 u v h1.ul h2.ul (by omega) (by omega)).mono ?_
  rintro e w' ⟨rfl, hd⟩
  exact ⟨by rw [hk], h1.dr hd, h2.dr hd⟩
theorem r1take_w (w0 w : World) (g off m c g2 off2 m2 c2 X Y : Nat) (hW : Win w0 w g off m c (lm X)) (hV : Win w0 w g2 off2 m2 c2 (lm Y)) (hgg : g ≠ g2) (hYX : Y ≤ X) (hm : m ≤ 1000000) (hg : w0.heap.size ≤ g) :
    Calls Tryz.prog 144 #[.slice (some ⟨g, off, none⟩) m c, .slice (some ⟨g2, off2, none⟩) m2 c2] w fun e w' => ∃ m', e = .returned (.slice (some ⟨g, off, none⟩) m' c) ∧ m' ≤ 1000000 ∧ Win w0 w' g off m' c (lm (X - Y)) ∧ Win w0 w' g2 off2 m2 c2 (lm Y) := by
  refine (r1take_any w0 w g off m c g2 off2 m2 c2 X Y hW hV (fun h => hgg h.symm) hYX hm).mono ?_
  rintro e w' ⟨m', rfl, h1, hf⟩
  refine ⟨m', rfl, ?_, h1, hV.frS hf (fun h => hgg h.symm) (fun b hb => by omega)⟩
  rw [← h1.len]
  exact len_bound (Nat.sub_le _ _) (by rw [hW.len]; exact hm)
theorem r1down_w (w0 w : World) (g off m c g2 off2 m2 c2 X Y z u : Nat) (hW : Win w0 w g off m c (lm X)) (hV : Win w0 w g2 off2 m2 c2 (lm Y)) (hgg : g ≠ g2) (hg : w0.heap.size ≤ g) (hX : Hid (lv (lm X) = 2 ^ z * u)) (hz : z / 32 < m) (hm : m ≤ 1000000) :
    Calls Tryz.prog 143 #[.slice (some ⟨g, off, none⟩) m c, .int .i64 (z : Int)] w fun e w' => ∃ off' m' c', e = .returned (.slice (some ⟨g, off', none⟩) m' c') ∧ m' ≤ 1000000 ∧ Win w0 w' g off' m' c' (lm u) ∧ Win w0 w' g2 off2 m2 c2 (lm Y) := by
  refine (r1down_z w0 w g off m c X z u hW hX hz hm).mono ?_
  rintro e w' ⟨off', m', c', rfl, h1, hf⟩
  refine ⟨off', m', c', rfl, ?_, h1, hV.frS hf (fun h => hgg h.symm) (fun b hb => by omega)⟩
  rw [← h1.len]
  refine len_bound (y := X) ?_ (by rw [hW.len]; exact hm)
  rw [← lv_lm X, hX.out]
  exact Nat.le_mul_of_pos_left _ (Nat.pow_pos (by omega))
set_option maxRecDepth 100000 in
set_option maxHeartbeats 8000000 in
theorem r1common_any (w : World) (av av' : Option Nat) (A : Option Addr) (n c : Nat) (B : Option Addr) (m d : Nat) (X Y : Nat) (hU : Ul w av A n (lm X)) (hV : Ul w av' B m (lm Y)) (hn : n ≤ 1000000) (hm : m ≤ 1000000) :
    Calls Tryz.prog 115 #[.slice A n c, .slice B m d] w fun e w' => ∃ A' m' c', e = .returned (.slice A' m' c') ∧ m' ≤ c' ∧ Ul w' none A' m' (lm (Nat.gcd X Y)) ∧ Below w.heap.size w w' := by
  have HU := hide hU
  have HV := hide hV
  clear hU hV
  go_enter Tryz.func115, Tryz.ntmps115
  go_upto_region 1 with (fail)
  go_upto_region 2 with (first
    | (at_builtin; refine wl_appall_u32 (w0 := w) rfl _ _ _ Tryz.underlying24 rfl none 0 0 [] av A n c (lm X) rfl rfl (OF.nil (Fr.refl w _)) HU.out (by omega) ?_; intro A1 c1 w1 ho; rw [List.nil_append, Nat.zero_add] at ho; rw [Nat.zero_add]; have HO1 := hide ho; clear ho)
    | (at_builtin; refine wl_appall_u32 (w0 := w1) rfl _ _ _ Tryz.underlying24 rfl none 0 0 [] av' B m d (lm Y) rfl rfl (OF.nil (Fr.refl w1 _)) (HV.out.frF HO1.out.fr) (by omega) ?_; intro A2 c2 w2 ho; rw [List.nil_append, Nat.zero_add] at ho; rw [Nat.zero_add]; have HO2 := hide ho; clear ho))
  have HO1b := hide (HO1.out.below (fr_bel HO2.out.fr))
  have HO2b := hide (HO2.out.base HO1.out.fr)
  by_cases hX0 : X = 0
  · subst hX0
    have hn0 : n = 0 := by have := HU.out.len; rw [lm_zero] at this; simpa using this.symm
    subst hn0
    go_wp2_with fail
    go_ret
    exact ⟨A2, m, c2, rfl, HO2.out.cap, by rw [Nat.gcd_zero_left]; exact HO2.out.ul, fr_bel HO2b.out.fr⟩
  · have hn0 : 0 < n := lm_pos_len1 (by omega) HU.out.len
    have dn0 : ((n : Int) == 0) = false := by simp; omega
    by_cases hY0 : Y = 0
    · subst hY0
      have hm0 : m = 0 := by have := HV.out.len; rw [lm_zero] at this; simpa using this.symm
      subst hm0
      go_wp2_with fail
      go_ret
      exact ⟨A1, n, c1, rfl, HO1.out.cap, by rw [Nat.gcd_zero_right]; exact HO1b.out.ul, fr_bel HO1b.out.fr⟩
    · have hm0 : 0 < m := lm_pos_len1 (by omega) HV.out.len
      have dm0 : ((m : Int) == 0) = false := by simp; omega
      obtain ⟨g1, x1, rfl, hg1, hgl1, -, -, -, -⟩ := HO1.out.at (k := 0) hn0
      obtain ⟨g2, x2, rfl, hg2, hgl2, -, -, -, -⟩ := HO2.out.at (k := 0) hm0
      have hg12 : g1 ≠ g2 := by omega
      have HW1 := hide HO1b.out.win
      have HW2 := hide HO2b.out.win
      have HFR := hide HO2b.out.fr
      have HX := hide (show lv (lm X) ≠ 0 by rw [lv_lm]; exact hX0)
      have HY := hide (show lv (lm Y) ≠ 0 by rw [lv_lm]; exact hY0)
      clear HO1 HO2 HO1b HO2b
      have hg1w : w.heap.size ≤ g1 := hg1
      have hg2w : w.heap.size ≤ g2 := by have := HW2.out.gt hm0; omega
      clear hg1 hgl1 hg2
      go_upto_region 8 with (first
        | (go_at_call 142; (with_reducible refine (r1zeros_any _ none _ n c1 (lm X) HW1.out.ul HX.out hn).mono ?_); rintro e w' ⟨i, u, rfl, hu, hu2, hi, rfl⟩)
        | (go_at_call 142; (with_reducible refine (r1zeros_any _ none _ m c2 (lm Y) HW2.out.ul HY.out hm).mono ?_); rintro e w' ⟨j, v, rfl, hv, hv2, hj, rfl⟩)
        | (go_at_call 143; (with_reducible refine (r1down_w w _ g1 0 n c1 g2 0 m c2 X Y i u HW1.out HW2.out hg12 hg1w hu hi hn).mono ?_); rintro e w3 ⟨o3, m3, c3, rfl, hm3, hw3, hw3b⟩; have HW3 := hide hw3; have HW2b := hide hw3b; clear hw3 hw3b)
        | (go_at_call 143; (with_reducible refine (r1down_w w _ g2 0 m c2 g1 o3 m3 c3 Y u j v HW2b.out HW3.out (Ne.symm hg12) hg2w hv hj hm).mono ?_); rintro e w4 ⟨o4, m4, c4, rfl, hm4, hw4, hw4b⟩; have HW4 := hide hw4; have HW3b := hide hw4b; clear hw4 hw4b))
      clear HW1 HW2 HFR HW3 HW2b HX HY
      go_loopg [5, 6] (u + v) (fun g s5 s6 wr => ∃ g1 o1 n1 c1 g2 o2 n2 c2 x y : Nat, s5 = .slice (some ⟨g1, o1, none⟩) n1 c1 ∧ s6 = .slice (some ⟨g2, o2, none⟩) n2 c2 ∧ g1 ≠ g2 ∧ w.heap.size ≤ g1 ∧ w.heap.size ≤ g2 ∧ n1 ≤ 1000000 ∧ n2 ≤ 1000000 ∧ x % 2 = 1 ∧ y % 2 = 1 ∧ Hid (g = x + y) ∧ Hid (Win w wr g1 o1 n1 c1 (lm x)) ∧ Hid (Win w wr g2 o2 n2 c2 (lm y)) ∧ Hid (Nat.gcd x y = Nat.gcd u v))
      case atStart => exact ⟨g1, o3, m3, c3, g2, o4, m4, c4, u, v, rfl, rfl, hg12, hg1w, hg2w, hm3, hm4, hu2, hv2, hide rfl, HW3b, HW4, hide rfl⟩
      case round =>
        clear HW3b HW4 hg1w hg2w hg12 hm3 hm4
        obtain ⟨g1, o1, n1, c1, g2, o2, n2, c2, x, y, rfl, rfl, hg12, hg1, hg2, hn1, hn2, hx2, hy2, HG, HX, HY, HI⟩ := hrel
        rcases Nat.lt_trichotomy x y with hlt | heq | hgt
        · have hk := cmpN_lt hlt
          have HLT := hide hlt
          have HNZ := hide (show lv (lm (y - x)) ≠ 0 by rw [lv_lm]; omega)
          clear hlt
          go_wp2_with (first
            | (go_at_call 114; (with_reducible refine (r1order_w w _ g1 o1 n1 c1 g2 o2 n2 c2 x y _ HX.out HY.out hn1 hn2 hk).mono ?_); rintro e w5 ⟨rfl, hw5, hw5b⟩; replace HX := hide hw5; replace HY := hide hw5b; clear hw5 hw5b)
            | (go_at_call 144; (with_reducible refine (r1take_w w _ g2 o2 n2 c2 g1 o1 n1 c1 y x HY.out HX.out (Ne.symm hg12) (Nat.le_of_lt HLT.out) (by assumption) hg2).mono ?_); rintro e w6 ⟨n4, rfl, hn4, hw6, hw6b⟩; have HXD := hide hw6; have HYD := hide hw6b; clear hw6 hw6b)
            | (go_at_call 142; (with_reducible refine (r1zeros_any _ none _ n4 c2 _ HXD.out.ul HNZ.out hn4).mono ?_); rintro e w6 ⟨z, d, rfl, hd, hd2, hz, rfl⟩)
            | (go_at_call 143; (with_reducible refine (r1down_w w _ g2 o2 n4 c2 g1 o1 n1 c1 (y - x) x z d HXD.out HYD.out (Ne.symm hg12) hg2 hd hz hn4).mono ?_); rintro e w7 ⟨o5, n5, c5, rfl, hn5, hw7, hw7b⟩; have HXD2 := hide hw7; have HYD2 := hide hw7b; clear hw7 hw7b))
          obtain ⟨e1, e2, e3⟩ := gcd_round hy2 hx2 HLT.out (by rw [← lv_lm (y - x)]; exact hd.out) hd2
          go_roundg (d + x)
          case rel =>
            exact ⟨g2, o5, n5, c5, g1, o1, n1, c1, d, x, rfl, rfl, Ne.symm hg12, hg2, hg1, hn5, hn1, hd2, hx2, hide rfl, HXD2, HYD2, hide (by rw [e1, Nat.gcd_comm, HI.out])⟩
          case measure => rw [HG.out, Nat.add_comm x y]; exact e2
        · have hk := cmpN_zero.2 heq
          have HGC := hide (show ∀ t, min i j = t → x * 2 ^ t = Nat.gcd X Y by
            intro t ht
            rw [← lv_lm X, ← lv_lm Y, hu.out, hv.out, gcd_twos hu2 hv2, ht, ← HI.out, ← heq, Nat.gcd_self, Nat.mul_comm])
          clear heq
          by_cases hji : j < i
          · have HGT := hide (HGC.out j (by omega)); obtain ⟨q, hq⟩ : ∃ q, q = j / 32 := ⟨_, rfl⟩; obtain ⟨s, hs⟩ : ∃ s, s = j % 32 := ⟨_, rfl⟩; have e1 : (j : Int) / 32 = (q : Int) := (by omega); have e2 : (j : Int).tmod 32 = (s : Int) := (by rw [hs]; rfl); have e3 : (j : Int).tdiv 32 = (q : Int) := (by rw [hq]; rfl); have hqm : q < 1000000 := (by omega); have hs32 : s < 32 := (by omega); have HQ := hide hq; have HS := hide hs; clear hq hs; go_wp2_with (first | (go_at_call 114; (with_reducible refine (r1order_w w _ g1 o1 n1 c1 g2 o2 n2 c2 x y _ HX.out HY.out hn1 hn2 hk).mono ?_); rintro e w5 ⟨rfl, hw5, hw5b⟩; replace HX := hide hw5; replace HY := hide hw5b; clear hw5 hw5b) | (at_make; refine wl_make_u32 (w0 := w5) rfl _ _ _ Tryz.underlying24 rfl (q + 1) (q + 1) _ _ rfl rfl rfl rfl (by omega) (by omega) (Fr.refl _ _) ?_; intro w6 ho1 hs1 hb1; have HO1 := hide ho1; clear ho1 hb1 hs1; obtain ⟨g', z, hg, -, hgl, hz, hzl, hcellz, hfz⟩ := HO1.out.at (k := q) (by omega); obtain rfl : w5.heap.size = g' := (by simpa using hg); have hfz0 := hfz q; clear hfz hz hg) | (go_at_call 121; have hp := HO1.out.put (k := q) (x := 2 ^ s) (by omega) (two_lt hs32); rw [two_limbs' HQ.out HS.out, two_cast hs32] at hp; generalize w6.setCell _ _ = w7 at hp ⊢; have HP := hide hp; clear hp; have HX7 := hide (HX.out.below (fr_bel HP.out.fr)); (with_reducible refine (r1times_any _ none none _ n1 c1 _ (q + 1) (q + 1) x (2 ^ j) HX7.out.ul HP.out.ul hn1 (by omega)).mono ?_); rintro e w8 ⟨A7, m7, c7, rfl, hc7, hu7, hb7⟩; rw [HGT.out] at hu7; have HU7 := hide hu7; have HB7 := hide (((fr_bel HX.out.fr).trans ((fr_bel HP.out.fr).mono HX.out.fr.size)).trans (hb7.mono (Nat.le_trans HX.out.fr.size HP.out.fr.size)) : Below w.heap.size w w8); clear hu7 hb7)); go_ret; exact ⟨A7, m7, c7, rfl, hc7, HU7.out, HB7.out⟩
          · have HGT := hide (HGC.out i (by omega)); obtain ⟨q, hq⟩ : ∃ q, q = i / 32 := ⟨_, rfl⟩; obtain ⟨s, hs⟩ : ∃ s, s = i % 32 := ⟨_, rfl⟩; have e1 : (i : Int) / 32 = (q : Int) := (by omega); have e2 : (i : Int).tmod 32 = (s : Int) := (by rw [hs]; rfl); have e3 : (i : Int).tdiv 32 = (q : Int) := (by rw [hq]; rfl); have hqm : q < 1000000 := (by omega); have hs32 : s < 32 := (by omega); have HQ := hide hq; have HS := hide hs; clear hq hs; go_wp2_with (first | (go_at_call 114; (with_reducible refine (r1order_w w _ g1 o1 n1 c1 g2 o2 n2 c2 x y _ HX.out HY.out hn1 hn2 hk).mono ?_); rintro e w5 ⟨rfl, hw5, hw5b⟩; replace HX := hide hw5; replace HY := hide hw5b; clear hw5 hw5b) | (at_make; refine wl_make_u32 (w0 := w5) rfl _ _ _ Tryz.underlying24 rfl (q + 1) (q + 1) _ _ rfl rfl rfl rfl (by omega) (by omega) (Fr.refl _ _) ?_; intro w6 ho1 hs1 hb1; have HO1 := hide ho1; clear ho1 hb1 hs1; obtain ⟨g', z, hg, -, hgl, hz, hzl, hcellz, hfz⟩ := HO1.out.at (k := q) (by omega); obtain rfl : w5.heap.size = g' := (by simpa using hg); have hfz0 := hfz q; clear hfz hz hg) | (go_at_call 121; have hp := HO1.out.put (k := q) (x := 2 ^ s) (by omega) (two_lt hs32); rw [two_limbs' HQ.out HS.out, two_cast hs32] at hp; generalize w6.setCell _ _ = w7 at hp ⊢; have HP := hide hp; clear hp; have HX7 := hide (HX.out.below (fr_bel HP.out.fr)); (with_reducible refine (r1times_any _ none none _ n1 c1 _ (q + 1) (q + 1) x (2 ^ i) HX7.out.ul HP.out.ul hn1 (by omega)).mono ?_); rintro e w8 ⟨A7, m7, c7, rfl, hc7, hu7, hb7⟩; rw [HGT.out] at hu7; have HU7 := hide hu7; have HB7 := hide (((fr_bel HX.out.fr).trans ((fr_bel HP.out.fr).mono HX.out.fr.size)).trans (hb7.mono (Nat.le_trans HX.out.fr.size HP.out.fr.size)) : Below w.heap.size w w8); clear hu7 hb7)); go_ret; exact ⟨A7, m7, c7, rfl, hc7, HU7.out, HB7.out⟩
        · have hk := cmpN_gt hgt
          have HLT := hide hgt
          have HNZ := hide (show lv (lm (x - y)) ≠ 0 by rw [lv_lm]; omega)
          clear hgt
          go_wp2_with (first
            | (go_at_call 114; (with_reducible refine (r1order_w w _ g1 o1 n1 c1 g2 o2 n2 c2 x y _ HX.out HY.out hn1 hn2 hk).mono ?_); rintro e w5 ⟨rfl, hw5, hw5b⟩; replace HX := hide hw5; replace HY := hide hw5b; clear hw5 hw5b)
            | (go_at_call 144; (with_reducible refine (r1take_w w _ g1 o1 n1 c1 g2 o2 n2 c2 x y HX.out HY.out hg12 (Nat.le_of_lt HLT.out) (by assumption) hg1).mono ?_); rintro e w6 ⟨n4, rfl, hn4, hw6, hw6b⟩; have HXD := hide hw6; have HYD := hide hw6b; clear hw6 hw6b)
            | (go_at_call 142; (with_reducible refine (r1zeros_any _ none _ n4 c1 _ HXD.out.ul HNZ.out hn4).mono ?_); rintro e w6 ⟨z, d, rfl, hd, hd2, hz, rfl⟩)
            | (go_at_call 143; (with_reducible refine (r1down_w w _ g1 o1 n4 c1 g2 o2 n2 c2 (x - y) y z d HXD.out HYD.out hg12 hg1 hd hz hn4).mono ?_); rintro e w7 ⟨o5, n5, c5, rfl, hn5, hw7, hw7b⟩; have HXD2 := hide hw7; have HYD2 := hide hw7b; clear hw7 hw7b))
          obtain ⟨e1, e2, e3⟩ := gcd_round hx2 hy2 HLT.out (by rw [← lv_lm (x - y)]; exact hd.out) hd2
          go_roundg (d + y)
          case rel =>
            exact ⟨g1, o5, n5, c5, g2, o2, n2, c2, d, y, rfl, rfl, hg12, hg1, hg2, hn5, hn2, hd2, hy2, hide rfl, HXD2, HYD2, hide (by rw [e1, HI.out])⟩
          case measure => rw [HG.out]; exact e2
end Go.Proofs.YtnokfhkcfebimaaGreat
