/- The walk of the law RerunHides. -/
import Derived.Test.YtnokfhkcfebimaaG35
import Derived.Test.YtnokfhkcfebimaaG26
set_option linter.unusedVariables false
set_option linter.unusedSimpArgs false

/- Plain laws of verdicts: what hides behind each. -/
namespace Go.Proofs.Ytnokfhkcfebimaa
open Go.RowKit

theorem pow_ge_one {r : Rat} (h : 1 ≤ r) : ∀ n : Nat, 1 ≤ r ^ n
  | 0 => by rw [Rat.pow_zero]; exact Rat.le_refl
  | n + 1 => by
    rw [Rat.pow_succ]
    have h1 := pow_ge_one h n
    have h0 : (0 : Rat) ≤ r ^ n := Rat.le_trans (by decide) h1
    have := Rat.mul_le_mul_of_nonneg_left h h0
    rw [Rat.mul_one] at this
    exact Rat.le_trans h1 this
theorem pow_le_one' {r : Rat} (h0 : 0 ≤ r) (h : r ≤ 1) : ∀ n : Nat, 0 ≤ r ^ n ∧ r ^ n ≤ 1
  | 0 => by rw [Rat.pow_zero]; exact ⟨by decide, Rat.le_refl⟩
  | n + 1 => by
    rw [Rat.pow_succ]
    obtain ⟨h1, h2⟩ := pow_le_one' h0 h n
    have := Rat.mul_le_mul_of_nonneg_left h h1
    rw [Rat.mul_one] at this
    exact ⟨Rat.mul_nonneg h1 h0, Rat.le_trans this h2⟩
theorem inv_gt_one {a : Rat} (h0 : 0 < a) (h1 : a < 1) : 1 < 1 / a := by
  refine Rat.not_le.1 (fun h => ?_)
  have h2 := Rat.mul_le_mul_of_nonneg_right h (Rat.le_of_lt h0)
  have h3 : (1 / a) * a = 1 := Rat.div_mul_cancel (fun h => by rw [h] at h0; exact absurd h0 (by decide))
  rw [h3, Rat.one_mul] at h2
  exact absurd h1 (Rat.not_lt.2 h2)
theorem dec_no_fail {s : Sv} {l h a b : Rat} {M : Nat} (hk : OKs s l h a b M) (p : Nat) : decQ l h a b p 0 ≠ 2 := by
  intro h2
  have h3 := decQ_flaky.1 h2
  unfold ratQ at h3
  rw [Rat.pow_zero, Rat.one_mul] at h3
  have h4 := (pow_le_one' (r := (1 - h) / (1 - l)) (div_nonneg' (Rat.le_of_lt hk.il.q0) (Rat.le_of_lt hk.ih.q0)) (div_le_one hk.il.q0 (by have := Rat.le_of_lt hk.lt; grind)) p).2
  exact absurd (inv_gt_one hk.ia.p hk.ia.q) (Rat.not_lt.2 (Rat.le_trans h3 h4))
theorem dec_no_pass {s : Sv} {l h a b : Rat} {M : Nat} (hk : OKs s l h a b M) (f : Nat) : decQ l h a b 0 f ≠ 1 := by
  intro h2
  have h3 := (decQ_stable.1 h2).2
  unfold ratQ at h3
  rw [Rat.pow_zero, Rat.mul_one] at h3
  have h4 := pow_ge_one (r := h / l) (one_le_div hk.il.p (Rat.le_of_lt hk.lt)) f
  exact absurd hk.ib.q (Rat.not_lt.2 (Rat.le_trans h4 h3))
/-- How many failed. -/
def cntF (xs : List (Bool × Bool)) : Nat := xs.countP (·.1)
/-- What a verdict says of the attempts used. -/
def Hides (M : Nat) (n : Nat) (r0 : Bool) (v : Int) (u F : Nat) : Prop :=
  u ≤ n ∧ 1 ≤ F ∧ ((v = 1 ∧ 2 ≤ F) ∨ (v = 2 ∧ F < u ∧ r0 = true) ∨ (v = 4 ∧ 2 ≤ u) ∨ (v = 3 ∧ u = M + 1) ∨ (v = 0 ∧ u = n))
theorem judL_hides {d : Nat → Nat → Int} {M : Nat} (hd1 : ∀ p, d p 0 ≠ 2) (hd2 : ∀ f, d 0 f ≠ 1) (r0 : Bool) : ∀ (t : List (Bool × Bool)) (k p f : Nat), k = p + f + 1 → p + f < M →
    k ≤ (judL (aftQ d M) r0 t k p f).2 ∧ Hides M (k + t.length) r0 (judL (aftQ d M) r0 t k p f).1 (judL (aftQ d M) r0 t k p f).2 (f + 1 + cntF (t.take ((judL (aftQ d M) r0 t k p f).2 - k)))
  | [], k, p, f, hk, _ => ⟨Nat.le_refl _, Nat.le_refl _, by omega, by simp [judL]⟩
  | (fl, rd) :: t, k, p, f, hk, hM => by
    have hln : k + ((fl, rd) :: t).length = (k + 1) + t.length := by rw [List.length_cons]; omega
    have hc : ∀ j, cntF (((fl, rd) :: t).take (j + 1)) = (if fl then 1 else 0) + cntF (t.take j) := fun j => by
      rw [List.take_succ_cons]
      unfold cntF
      cases fl <;> simp [List.countP_cons] <;> omega
    rw [judL, hln]
    by_cases h1 : rd ≠ r0
    · rw [if_pos h1]
      have h2 := hc 0
      dsimp only
      rw [show k + 1 - k = 0 + 1 by omega]
      exact ⟨by omega, by omega, by omega, .inr (.inr (.inl ⟨rfl, by omega⟩))⟩
    · rw [if_neg h1]
      have h1 : rd = r0 := Classical.not_not.1 h1
      by_cases h2 : rd = false
      · rw [if_pos h2]
        cases fl
        · simp only [Bool.false_eq_true, if_false]
          exact ⟨by omega, by omega, by omega, .inr (.inr (.inl ⟨rfl, by omega⟩))⟩
        · simp only [if_true]
          have h3 := hc 0
          rw [show k + 1 - k = 0 + 1 by omega, h3]
          exact ⟨by omega, by omega, by simp; omega, .inl ⟨rfl, by simp; omega⟩⟩
      · rw [if_neg h2]
        have hr : r0 = true := by rw [← h1]; simpa using h2
        have e : (if fl then p else p + 1) + (if fl then f + 1 else f) = p + f + 1 := by cases fl <;> simp <;> omega
        have e2 : (if fl then f + 1 else f) = f + (if fl then 1 else 0) := by cases fl <;> rfl
        obtain ⟨p', hp'⟩ : ∃ p', p' = (if fl then p else p + 1) := ⟨_, rfl⟩
        obtain ⟨f', hf'⟩ : ∃ f', f' = (if fl then f + 1 else f) := ⟨_, rfl⟩
        obtain ⟨z, hz⟩ : ∃ z : Nat, z = (if fl then 1 else 0) := ⟨_, rfl⟩
        rw [← hp', ← hf'] at e
        rw [← hf', ← hz] at e2
        rw [← hp', ← hf']
        by_cases h3 : aftQ d M p' f' = 0
        · rw [if_pos h3]
          have h4 := aft_go (by omega) h3
          obtain ⟨h5, h6, h7, h8⟩ := judL_hides hd1 hd2 r0 t (k + 1) p' f' (by omega) h4
          have h9 := hc ((judL (aftQ d M) r0 t (k + 1) p' f').2 - (k + 1))
          rw [← hz] at h9
          rw [show (judL (aftQ d M) r0 t (k + 1) p' f').2 - k = (judL (aftQ d M) r0 t (k + 1) p' f').2 - (k + 1) + 1 by omega, h9, show f + 1 + (z + cntF (t.take ((judL (aftQ d M) r0 t (k + 1) p' f').2 - (k + 1)))) = f' + 1 + cntF (t.take ((judL (aftQ d M) r0 t (k + 1) p' f').2 - (k + 1))) by omega]
          exact ⟨by omega, h6, h7, h8⟩
        · rw [if_neg h3]
          dsimp only
          have h4 := hc 0
          rw [← hz] at h4
          rw [show k + 1 - k = 0 + 1 by omega, h4]
          have h5 : cntF (t.take 0) = 0 := by simp [cntF]
          refine ⟨by omega, by omega, by omega, ?_⟩
          unfold aftQ at h3 ⊢
          by_cases h6 : d p' f' = 2
          · rw [if_pos h6]
            have : f' ≠ 0 := fun h0 => hd1 p' (by rw [← h0]; exact h6)
            exact .inl ⟨rfl, by omega⟩
          · rw [if_neg h6] at h3 ⊢
            by_cases h7 : d p' f' = 1
            · rw [if_pos h7]
              have : p' ≠ 0 := fun h0 => hd2 f' (by rw [← h0]; exact h7)
              exact .inr (.inl ⟨rfl, by omega, hr⟩)
            · rw [if_neg h7] at h3 ⊢
              by_cases h8 : p' + f' = M
              · rw [if_pos h8]
                exact .inr (.inr (.inr (.inl ⟨rfl, by omega⟩)))
              · rw [if_neg h8] at h3
                exact absurd rfl h3
theorem jud_hides {s : Sv} {l h a b : Rat} {M : Nat} (hk : OKs s l h a b M) (xs : List (Bool × Bool)) :
    ((jud (aftQ (decQ l h a b) M) xs).2 = 0 ∧ (jud (aftQ (decQ l h a b) M) xs).1 = 0 ∧ xs.length = 0) ∨
    ((jud (aftQ (decQ l h a b) M) xs).1 = 5 ∧ (jud (aftQ (decQ l h a b) M) xs).2 = 1 ∧ 1 ≤ xs.length ∧ cntF (xs.take 1) = 0) ∨
    ∃ r0, xs[0]? = some (true, r0) ∧ Hides M xs.length r0 (jud (aftQ (decQ l h a b) M) xs).1 (jud (aftQ (decQ l h a b) M) xs).2 (cntF (xs.take (jud (aftQ (decQ l h a b) M) xs).2)) := by
  cases xs with
  | nil => exact .inl ⟨rfl, rfl, rfl⟩
  | cons y t =>
    obtain ⟨fl, rd⟩ := y
    cases fl
    · exact .inr (.inl ⟨rfl, rfl, by simp, rfl⟩)
    · right; right
      refine ⟨rd, rfl, ?_⟩
      have h1 := judL_hides (M := M) (dec_no_fail hk) (dec_no_pass hk) rd t 1 0 0 rfl (by have := hk.m1; omega)
      have e : jud (aftQ (decQ l h a b) M) ((true, rd) :: t) = judL (aftQ (decQ l h a b) M) rd t 1 0 0 := rfl
      rw [e, List.length_cons]
      obtain ⟨h2, h3⟩ := h1
      have hc : cntF (((true, rd) :: t).take (judL (aftQ (decQ l h a b) M) rd t 1 0 0).2) = 0 + 1 + cntF (t.take ((judL (aftQ (decQ l h a b) M) rd t 1 0 0).2 - 1)) := by
        obtain ⟨j, hj⟩ : ∃ j, (judL (aftQ (decQ l h a b) M) rd t 1 0 0).2 = j + 1 := ⟨_, (Nat.sub_add_cancel h2).symm⟩
        rw [hj, List.take_succ_cons]
        unfold cntF
        rw [List.countP_cons]
        simp
        omega
      rw [hc, show t.length + 1 = 1 + t.length by omega]
      exact h3
end Go.Proofs.Ytnokfhkcfebimaa

/- The walk of the law RerunHides. -/
namespace Go.Proofs.Ytnokfhkcfebimaa
open Go.RowKit

set_option maxRecDepth 100000 in
set_option maxHeartbeats 16000000 in
theorem hides_walk (w : World) (A : Option Addr) (n c : Nat) (l : List Int) (hA : Rs w none 1 iv A l) (hl : l.length = n) :
    Calls Try.prog 12 #[.slice A n c] w fun e w' => e = .returned (.bool true) ∧ Below w.heap.size w w' := by
  have HP := hide (tp_new (w := w) (c := c) hA hl 32)
  clear hA hl
  go_enter Try.func12, Try.ntmps12
  go_upto_region 3 with (go_at_call 41; refine (vspec_any _ w.heap.size A n c l 0 20 HP.out (by omega) (by omega) (by omega)).mono ?_; rintro e w1 ⟨s, lo, hi, al, be, M, b, rfl, hq, hk, hM, htp, hb12, hf⟩; have HB1 := hide (fr_new rfl hf); have HQ1 := hide hq; have HK := hide hk; have HP1 := hide htp; clear hq hk hf htp)
  generalize hW : World.alloc w1 _ = v
  have hT : w.heap.size < w1.heap.size := HP1.out.t.1
  have HF := hide (show FS w v w1.heap.size s by rw [← hW]; exact ⟨HB1.out.trans (((Below.refl _ _).alloc (Nat.le_refl _) _ : Below w1.heap.size w1 _).mono HB1.out.size), (FS.mk0 HQ1.out _).cb, HQ1.out.alloc _⟩)
  have HP2 := hide (show Tp v w.heap.size A n c l b by rw [← hW]; exact HP1.out.alloc _)
  obtain ⟨g, hg⟩ : ∃ g, g = w1.heap.size := ⟨_, rfl⟩
  rw [← hg] at HF hT ⊢
  clear hW hg
  go_upto_region 4 with (go_at_call 42; refine (vattempts_any _ w.heap.size A n c l b 22 HP2.out (by omega) (by omega)).mono ?_; rintro e w2 ⟨B, m, d, xs, p, rfl, ho, hm22, hp, hpb⟩; have HO := hide ho; have HF2 := hide (HF.out.tape ho.fr (Nat.le_refl _) (by omega) HP2.out.nb); clear ho hp)
  obtain ⟨a0, a1, a2, a3, a4, a5, a6, a7, a8, a9⟩ := HF2.out.ca
  obtain ⟨X, hX⟩ : ∃ X, X = jud (aftQ (decQ lo hi al be) M) xs := ⟨_, rfl⟩
  have HH := hide (jud_hides HK.out xs)
  have HJ := hide hX
  rw [← hX] at HH
  clear hX
  obtain ⟨r, u⟩ := X
  have hum : u ≤ m := by
    have h9 := HO.out.len
    rcases HH.out with ⟨h, _⟩ | ⟨_, h, h2, _⟩ | ⟨_, _, h, _⟩
    · dsimp only at h; omega
    · dsimp only at h; omega
    · dsimp only at h; omega
  have g1 : decide ((m : Int) < (u : Int)) = false := decide_eq_false (by omega)
  have g2 : (u : Int) ≤ (m : Int) := by omega
  go_wp2_with (go_at_call 43; (with_reducible refine (vjudgex_ok _ s lo hi al be M B m d xs HF2.out.q HK.out HO.out.rs HO.out.len (by omega)).mono ?_); rintro e w3 ⟨rfl, hb⟩; rw [← HJ.out]; have HF3 := hide (HF2.out.below hb); have HR3 := hide (HO.out.rs.below hb); clear hb)
  clear a0 a1 a2 a3 a4 a5 a6 a7 a8 a9
  go_loopw [9, 10] (fun fv iv wr => ∃ (f i : Nat), fv = .int .i64 (f : Int) ∧ iv = .int .i64 (i : Int) ∧ i ≤ u ∧ f ≤ i ∧ Hid (f = cntF (xs.take i)) ∧ Hid (Below w3.heap.size w3 wr)) (fun _ iv _ => u - (intOf iv).toNat)
  case atStart => exact ⟨0, 0, rfl, rfl, by omega, by omega, hide (by simp [cntF]), hide (Below.refl _ _)⟩
  case round =>
    obtain ⟨f, i, rfl, rfl, hiu, hfi, HC, HBr⟩ := hrel
    have HFr := hide (HF3.out.below HBr.out)
    have HRr := hide (HR3.out.below HBr.out)
    by_cases hi : i = u
    · have hle : decide ((i : Int) < (u : Int)) = false := decide_eq_false (by omega)
      have hle2 : (u : Int) ≤ (i : Int) := by omega
      have hle3 : ¬ i < u := by omega
      have HCU := hide (show f = cntF (xs.take u) by rw [← hi]; exact HC.out)
      have HU := hide hi
      clear hi
      rcases HH.out with ⟨h1, h2, h3⟩ | ⟨h1, h2, h3, h4⟩ | ⟨r0, h0, h1, h2, hc⟩
      · try dsimp only at h1 h2
        subst h1
        subst h2
        obtain rfl : m = 0 := by have := HO.out.len; omega
        clear h3
        go_wp2_with (go_at_call 44; (with_reducible refine (vknown_any _).mono ?_); rintro e w9 ⟨rfl, hb⟩; have HB9 := hide (HFr.out.bw.trans (hb.mono HFr.out.bw.size)); clear hb)
        go_ret
        exact ⟨rfl, HB9.out⟩
      · try dsimp only at h1 h2
        subst h1
        subst h2
        obtain rfl : f = 0 := by rw [HCU.out]; exact h4
        clear h3 h4
        go_wp2_with (go_at_call 44; (with_reducible refine (vknown_any _).mono ?_); rintro e w9 ⟨rfl, hb⟩; have HB9 := hide (HFr.out.bw.trans (hb.mono HFr.out.bw.size)); clear hb)
        go_ret
        exact ⟨rfl, HB9.out⟩
      · try dsimp only at h1 h2
        rw [← HCU.out] at h2 hc
        have H0 := hide h0
        rcases hc with ⟨rfl, hc⟩ | ⟨rfl, hc, hr0⟩ | ⟨rfl, hc⟩ | ⟨rfl, hc⟩ | ⟨rfl, hc⟩
        · have z1 : decide ((2 : Int) ≤ (f : Int)) = true := decide_eq_true (by omega)
          have z2 : (2 : Int) ≤ (f : Int) := by omega
          have z3 : 2 ≤ f := hc
          have z4 : decide (2 ≤ f) = true := decide_eq_true hc
          clear h0 h1 h2 hc
          go_wp2_with (go_at_call 44; (with_reducible refine (vknown_any _).mono ?_); rintro e w9 ⟨rfl, hb⟩; have HB9 := hide (HFr.out.bw.trans (hb.mono HFr.out.bw.size)); clear hb)
          go_ret
          exact ⟨rfl, HB9.out⟩
        · obtain ⟨bb, o, rfl, hb0, e0, e1⟩ := atts_at HRr.out h0
          rw [hr0] at e1
          simp only [Nat.zero_mul, Nat.add_zero] at e1
          have z1 : decide ((1 : Int) ≤ (f : Int)) = true := decide_eq_true (by omega)
          have z2 : (1 : Int) ≤ (f : Int) := by omega
          have z3 : 1 ≤ f := h2
          have z4 : decide ((f : Int) < (u : Int)) = true := decide_eq_true (by omega)
          have z5 : (f : Int) < (u : Int) := by omega
          have z6 : (0 : Int) < (m : Int) := by omega
          clear h0 h1 h2 hc hr0 e0
          go_wp2_with (go_at_call 44; (with_reducible refine (vknown_any _).mono ?_); rintro e w9 ⟨rfl, hb⟩; have HB9 := hide (HFr.out.bw.trans (hb.mono HFr.out.bw.size)); clear hb)
          go_ret
          exact ⟨rfl, HB9.out⟩
        · have z1 : decide ((1 : Int) ≤ (f : Int)) = true := decide_eq_true (by omega)
          have z2 : (1 : Int) ≤ (f : Int) := by omega
          have z3 : 1 ≤ f := h2
          have z4 : decide ((2 : Int) ≤ (u : Int)) = true := decide_eq_true (by omega)
          have z5 : (2 : Int) ≤ (u : Int) := by omega
          have z6 : 2 ≤ u := hc
          clear h0 h1 h2 hc
          go_wp2_with (go_at_call 44; (with_reducible refine (vknown_any _).mono ?_); rintro e w9 ⟨rfl, hb⟩; have HB9 := hide (HFr.out.bw.trans (hb.mono HFr.out.bw.size)); clear hb)
          go_ret
          exact ⟨rfl, HB9.out⟩
        · obtain ⟨a0, a1, a2, a3, a4, a5, a6, a7, a8, a9⟩ := HFr.out.ca
          have z1 : decide ((1 : Int) ≤ (f : Int)) = true := decide_eq_true (by omega)
          have z2 : (1 : Int) ≤ (f : Int) := by omega
          have z3 : 1 ≤ f := h2
          have hm := HK.out.m
          have z4 : (u : Int) = s.m + 1 := by omega
          have z5 : wrap64 (s.m + 1) = s.m + 1 := IntWalk.wrap64_in _ ⟨by omega, by omega⟩
          have z6 : ((u : Int) == s.m + 1) = true := by rw [z4]; simp
          have z7 : decide ((u : Int) = s.m + 1) = true := decide_eq_true z4
          clear h0 h1 h2 hc hm
          go_wp2_with (go_at_call 44; (with_reducible refine (vknown_any _).mono ?_); rintro e w9 ⟨rfl, hb⟩; have HB9 := hide (HFr.out.bw.trans (hb.mono HFr.out.bw.size)); clear hb)
          go_ret
          exact ⟨rfl, HB9.out⟩
        · have z4 : (u : Int) = (m : Int) := by have := HO.out.len; omega
          obtain rfl : u = m := by omega
          clear h0 h1 h2 hc z4
          go_wp2_with (go_at_call 44; (with_reducible refine (vknown_any _).mono ?_); rintro e w9 ⟨rfl, hb⟩; have HB9 := hide (HFr.out.bw.trans (hb.mono HFr.out.bw.size)); clear hb)
          go_ret
          exact ⟨rfl, HB9.out⟩
    · have hkl : i < xs.length := by have := HO.out.len; omega
      have hx := List.getElem?_eq_getElem hkl
      obtain ⟨x1, x2, hxx⟩ : ∃ x1 x2, xs[i] = (x1, x2) := ⟨_, _, rfl⟩
      rw [hxx] at hx
      obtain ⟨bb, o, rfl, hb0, e0, e1⟩ := atts_at HRr.out hx
      have HCN := hide (show f + (if x1 then 1 else 0) = cntF (xs.take (i + 1)) by
        rw [List.take_add_one, hx, HC.out]
        unfold cntF
        rw [List.countP_append]
        cases x1 <;> rfl)
      have hlt : decide ((i : Int) < (u : Int)) = true := decide_eq_true (by omega)
      have hlt2 : (i : Int) < (u : Int) := by omega
      have hlt3 : (i : Int) < (m : Int) := by omega
      have hi0 : (0 : Int) ≤ (i : Int) := by omega
      have hf22 : f ≤ 22 := by omega
      have hi22 : i ≤ 22 := by omega
      clear hx hxx e1
      cases x1
      · go_wp2_with fail
        go_roundw
        case rel => exact ⟨f, i + 1, rfl, by go_num, by omega, by omega, hide (by simpa using HCN.out), HBr⟩
        case measure => simp [intOf] <;> omega
      · go_wp2_with fail
        go_roundw
        case rel => exact ⟨f + 1, i + 1, by go_num, by go_num, by omega, by omega, hide (by simpa using HCN.out), HBr⟩
        case measure => simp [intOf] <;> omega
end Go.Proofs.Ytnokfhkcfebimaa
