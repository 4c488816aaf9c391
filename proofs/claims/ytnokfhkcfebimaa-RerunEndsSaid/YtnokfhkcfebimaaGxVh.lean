/- The walk of the law RerunEnds. -/
import Derived.Test.YtnokfhkcfebimaaG26
import Derived.Test.YtnokfhkcfebimaaG35
set_option linter.unusedVariables false
set_option linter.unusedSimpArgs false

/- The walk of the law RerunEnds. -/
namespace Go.Proofs.Ytnokfhkcfebimaa
open Go.RowKit

set_option maxRecDepth 100000 in
set_option maxHeartbeats 8000000 in
theorem ends_walk (w : World) (A : Option Addr) (n c : Nat) (l : List Int) (rnd : Bool) (hA : Rs w none 1 iv A l) (hl : l.length = n) :
    Calls Try.prog 13 #[.slice A n c, .bool rnd] w fun e w' => e = .returned (.bool true) ∧ Below w.heap.size w w' := by
  have HP := hide (tp_new (w := w) (c := c) hA hl 32)
  clear hA hl
  go_enter Try.func13, Try.ntmps13
  go_upto_region 3 with (go_at_call 41; refine (vspec_any _ w.heap.size A n c l 0 32 HP.out (by omega) (by omega) (by omega)).mono ?_; rintro e w1 ⟨s, lo, hi, al, be, M, b, rfl, hq, hk, hM, htp, hb12, hf⟩; have HB1 := hide (fr_new rfl hf); have HQ1 := hide hq; have HK := hide hk; have HP1 := hide htp; clear hq hk hf htp)
  generalize hW : World.alloc w1 _ = v
  have hT : w.heap.size < w1.heap.size := HP1.out.t.1
  have HF := hide (show FS w v w1.heap.size s by rw [← hW]; exact ⟨HB1.out.trans (((Below.refl _ _).alloc (Nat.le_refl _) _ : Below w1.heap.size w1 _).mono HB1.out.size), (FS.mk0 HQ1.out _).cb, HQ1.out.alloc _⟩)
  have HP2 := hide (show Tp v w.heap.size A n c l b by rw [← hW]; exact HP1.out.alloc _)
  have hTv : w.heap.size < v.heap.size := HP2.out.t.1
  obtain ⟨g, hg⟩ : ∃ g, g = w1.heap.size := ⟨_, rfl⟩
  rw [← hg] at HF hT ⊢
  have hm := HK.out.m
  have hm1 := HK.out.m1
  have HM := hide hm
  clear hW hg hm
  go_wp2_with fail
  go_loopw [7, 8] (fun sv kv wr => ∃ (k p d : Nat) (B : Option Addr) (xs : List (Bool × Bool)), sv = .slice B k d ∧ kv = .int .i64 (k : Int) ∧ k ≤ M + 1 ∧ p ≤ b + k ∧ Hid (OA v wr w.heap.size B k d xs) ∧ Hid (Tp wr w.heap.size A n c l p) ∧ Hid ((∀ x ∈ xs, x.2 = rnd) ∧ (0 < k → xs.head? = some (true, rnd)))) (fun _ kv _ => M + 1 - (intOf kv).toNat)
  case atStart => exact ⟨0, b, 0, none, [], rfl, rfl, by omega, by omega, hide (OA.nil (Fr.refl _ _)), HP2, hide ⟨by simp, by simp⟩⟩
  case round =>
    obtain ⟨k, p, d, B, xs, rfl, rfl, hkM, hpb, HO, HPr, HX⟩ := hrel
    have HFr := hide (HF.out.tape HO.out.fr (Nat.le_refl _) (by omega) HP2.out.nb)
    obtain ⟨a0, a1, a2, a3, a4, a5, a6, a7, a8, a9⟩ := HFr.out.ca
    by_cases hkn : k = M + 1
    · have hle : decide ((k : Int) ≤ s.m) = false := decide_eq_false (by have := HM.out; omega)
      have hle2 : s.m < (k : Int) := by have := HM.out; omega
      have hk33 : k ≤ 33 := by have := HK.out.m2; omega
      obtain ⟨j1, j2, j3⟩ := jud_ends (d := decQ lo hi al be) (M := M) HX.out.1 (HX.out.2 (by omega)) (by rw [HO.out.len]; exact hkn) hm1
      obtain ⟨X, hX⟩ : ∃ X, X = jud (aftQ (decQ lo hi al be) M) xs := ⟨_, rfl⟩
      rw [← hX] at j1 j2 j3
      have HJ := hide hX
      obtain ⟨r, u⟩ := X
      have z0 : (r != 0) = true := by simpa using j1
      have z1 : (r != 5) = true := by simpa using j2
      have z2 : ¬ r = 0 := j1
      have z3 : ¬ r = 5 := j2
      clear hX j1 j2 hkn
      cases rnd
      · obtain rfl : u = 2 := j3 rfl
        clear j3
        go_wp2_with (first
          | (go_at_call 43; (with_reducible refine (vjudgex_ok _ s lo hi al be M B k d xs HFr.out.q HK.out HO.out.rs HO.out.len hk33).mono ?_); rintro e w7 ⟨rfl, hb⟩; rw [← HJ.out]; have HF7 := hide (HFr.out.below hb); clear hb)
          | (go_at_call 44; (with_reducible refine (vknown_any _).mono ?_); rintro e w9 ⟨rfl, hb⟩; have HB9 := hide (HF7.out.bw.trans (hb.mono HF7.out.bw.size)); clear hb))
        go_ret
        exact ⟨rfl, HB9.out⟩
      · clear j3
        go_wp2_with (first
          | (go_at_call 43; (with_reducible refine (vjudgex_ok _ s lo hi al be M B k d xs HFr.out.q HK.out HO.out.rs HO.out.len hk33).mono ?_); rintro e w7 ⟨rfl, hb⟩; rw [← HJ.out]; have HF7 := hide (HFr.out.below hb); clear hb)
          | (go_at_call 44; (with_reducible refine (vknown_any _).mono ?_); rintro e w9 ⟨rfl, hb⟩; have HB9 := hide (HF7.out.bw.trans (hb.mono HF7.out.bw.size)); clear hb))
        go_ret
        exact ⟨rfl, HB9.out⟩
    · have hle : decide ((k : Int) ≤ s.m) = true := decide_eq_true (by have := HM.out; omega)
      have hle2 : (k : Int) ≤ s.m := by have := HM.out; omega
      have hk33 : k ≤ 33 := by have := HK.out.m2; omega
      by_cases hk0 : k = 0
      · subst hk0
        have HX1 := hide (show (∀ x ∈ xs ++ [(true, rnd)], x.2 = rnd) ∧ (0 < 0 + 1 → (xs ++ [(true, rnd)]).head? = some (true, rnd)) from by
          obtain rfl : xs = [] := List.eq_nil_of_length_eq_zero HO.out.len
          exact ⟨by simp, by simp⟩)
        go_wp2_with (at_builtin; refine wl_app_att (w0 := v) rfl _ _ _ Try.underlying66 rfl w.heap.size B 0 d xs true rnd rfl rfl HO.out (by omega) ?_; intro A2 c2 w7 ho2 hf2; have HO7 := hide ho2; have HP7 := hide ((HO.out.alloc _).tp HP2.out (HPr.out.alloc _) hf2); clear ho2 hf2)
        go_roundw
        case rel => exact ⟨0 + 1, p, c2, A2, _, rfl, by go_num, by omega, by omega, HO7, HP7, HX1⟩
        case measure => simp [intOf] <;> omega
      · obtain ⟨b1, hb1⟩ : ∃ x, x = decide (tapeV l p 2 < 1) := ⟨_, rfl⟩
        have HB1' := hide hb1
        have HX1 := hide (show (∀ x ∈ xs ++ [(b1, rnd)], x.2 = rnd) ∧ (0 < k + 1 → (xs ++ [(b1, rnd)]).head? = some (true, rnd)) from by
          refine ⟨fun x hx => ?_, fun _ => ?_⟩
          · rcases List.mem_append.1 hx with h | h
            · exact HX.out.1 x h
            · obtain rfl : x = (b1, rnd) := by simpa using h
              rfl
          · rw [List.head?_append, HX.out.2 (by omega)]; rfl)
        have g2 : ((k : Int) == 0) = false := by simp [hk0]
        have g3 : ¬ (k : Int) = 0 := by omega
        have g4 : decide ((k : Int) = 0) = false := decide_eq_false g3
        clear hb1
        go_wp2_with (first
          | (go_at_call 45; (with_reducible refine (chancetp_any _ w.heap.size A n c l p 1 2 HPr.out (by omega) (by omega)).mono ?_); rintro e w5 ⟨rfl, hp, hf⟩; rw [← HB1'.out]; have HP5 := hide hp; have HO5 := hide (HO.out.tape hf hTv); clear hp hf)
          | (at_builtin; refine wl_app_att (w0 := v) rfl _ _ _ Try.underlying66 rfl w.heap.size B k d xs b1 rnd rfl rfl HO5.out (by omega) ?_; intro A2 c2 w7 ho2 hf2; have HO7 := hide ho2; have HP7 := hide ((HO5.out.alloc _).tp HP2.out (HP5.out.alloc _) hf2); clear ho2 hf2))
        go_roundw
        case rel => exact ⟨k + 1, p + 1, c2, A2, _, rfl, by go_num, by omega, by omega, HO7, HP7, HX1⟩
        case measure => simp [intOf] <;> omega
end Go.Proofs.Ytnokfhkcfebimaa
