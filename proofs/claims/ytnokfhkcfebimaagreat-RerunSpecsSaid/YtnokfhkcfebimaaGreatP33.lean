/- Contracts of the functions that these laws reach: part 33: Contract: the reference's last; Contracts: the reference's check, Judge; The walk of the law RerunJudges. -/
import Derived.Test.YtnokfhkcfebimaaGreatP32
import Derived.Test.YtnokfhkcfebimaaGreatP21
import Derived.Test.YtnokfhkcfebimaaGreatP30
import Derived.Test.YtnokfhkcfebimaaGreatP29
set_option linter.unusedVariables false
set_option linter.unusedSimpArgs false

/- Contract: the reference's last. -/
namespace Go.Proofs.YtnokfhkcfebimaaGreat
open Go.RowKit

theorem wrapK {p : Nat} (h : p ≤ 100) : wrap64 (p : Int) = (p : Int) := IntWalk.wrap64_in _ ⟨by omega, by omega⟩
set_option maxRecDepth 100000 in
set_option maxHeartbeats 16000000 in
theorem r25last_ok (w : World) (s : Sv) (l h a b : Rat) (M : Nat) (A : Option Addr) (n c : Nat) (x y : Bool × Bool) (t : List (Bool × Bool)) (hq : SQ w s) (hk : OKs s l h a b M) (hR : Rs w none 2 atv A (x :: t)) (hy : (x :: t)[t.length]? = some y) (hM : t.length ≤ M) (hn : n = t.length + 1) :
    Calls Tryz.prog 54 #[.agg #[.slice s.l.A s.l.n s.l.c, .slice s.l.B s.l.m s.l.d, .slice s.h.A s.h.n s.h.c, .slice s.h.B s.h.m s.h.d, .slice s.a.A s.a.n s.a.c, .slice s.a.B s.a.m s.a.d, .slice s.b.A s.b.n s.b.c, .slice s.b.B s.b.m s.b.d, .int .i64 s.m], .slice A n c] w fun e w' => e = .returned (.int .i64 (lastV (aftQ (decQ l h a b) M) x y t)) ∧ Below w.heap.size w w' := by
  have hm2 := hk.m2
  have HQ := hide hq
  have HK := hide hk
  obtain ⟨bb, o, rfl, hb0, c0, c1⟩ := atts_at hR (k := 0) rfl
  obtain ⟨b', o', hA, -, -, cl⟩ := atts_at hR hy
  obtain ⟨rfl, rfl⟩ : bb = b' ∧ o = o' := by simpa using hA
  simp only [Nat.zero_mul, Nat.add_zero] at c0 c1
  have HEL := hide (show ∀ (j : Nat) (z : Bool × Bool), t[j]? = some z → w.cell? ⟨bb, o + (j + 1) * 2, none⟩ = some (.bool z.1) from fun j z hz => by
    obtain ⟨b', o', h1, h2, h3, h4⟩ := atts_at hR (k := j + 1) (x := z) (by simpa using hz)
    obtain ⟨rfl, rfl⟩ : bb = b' ∧ o = o' := by simpa using h1
    exact h3)
  obtain ⟨k, hkt⟩ : ∃ k, k = t.length := ⟨_, rfl⟩
  rw [← hkt] at cl hM hn
  subst hn
  have HKT := hide hkt
  obtain ⟨x1, x2⟩ := x
  obtain ⟨y1, y2⟩ := y
  dsimp only at c0 c1 cl
  clear hq hk hR hy hkt hA
  have hk0 : (0 : Int) ≤ (k : Int) := by omega
  have hk32 : k ≤ 32 := by omega
  have hk1a : (k : Int) < (k : Int) + 1 := by omega
  have hk1b : decide ((k : Int) < (k : Int) + 1) = true := decide_eq_true hk1a
  have hk1c : k < k + 1 := by omega
  have e9 : (k : Int) + 1 - 1 = (k : Int) := by omega
  have HWK := hide (show wrap64 ((k : Int) + 1 - 1) = (k : Int) from by rw [e9]; exact wrapK (by omega))
  have hw3 : IntKind.i64.wrap ((k : Int) + 1 - 1) = (k : Int) := by rw [e9]; exact IntWalk.i64_in _ (by omega)
  have hw4 : IntKind.i64.wrap (k : Int) = (k : Int) := IntWalk.i64_in _ (by omega)
  clear e9
  have hw2 := HWK.out
  cases x1
  · skip
    go_enter Tryz.func54, Tryz.ntmps54
    go_upto_region 1 with (fail)
    generalize hW : World.alloc w _ = v
    have HF := hide (show FS w v w.heap.size s by rw [← hW]; exact FS.mk0 HQ.out _)
    have e0 : v.cell? ⟨bb, o, none⟩ = some (.bool false) := (HF.out.bw.cell (by exact hb0)).trans c0
    have e1 : v.cell? ⟨bb, o + 1, none⟩ = some (.bool x2) := (HF.out.bw.cell (by exact hb0)).trans c1
    have el : v.cell? ⟨bb, o + k * 2 + 1, none⟩ = some (.bool y2) := (HF.out.bw.cell (by exact hb0)).trans cl
    have hbv : bb < v.heap.size := Nat.lt_of_lt_of_le hb0 HF.out.bw.size
    clear hW c0 c1 cl
    go_wp2_with fail
    refine bodyPost_ret (v := .int .i64 5) (by simp [results, Tryz.results54, go_sem, *]) rfl ⟨by simp [lastV], HF.out.bw⟩
  · by_cases hyx : y2 = x2
    · subst hyx
      by_cases hk1 : k = 0
      · obtain rfl : t = [] := List.eq_nil_of_length_eq_zero (HKT.out.symm.trans hk1)
        have f1 : ((k : Int) + 1 == 1) = true := by simp; omega
        have f2 : (k : Int) + 1 = 1 := by omega
        have f3 : decide ((k : Int) + 1 = 1) = true := decide_eq_true f2
        have f4 : (k : Int) = 0 := by omega
        have HFS := hide (And.intro f1 (And.intro f2 (And.intro f3 f4)))
        clear f1 f2 f3 f4 hk1
        go_enter Tryz.func54, Tryz.ntmps54
        go_upto_region 1 with (fail)
        generalize hW : World.alloc w _ = v
        have HF := hide (show FS w v w.heap.size s by rw [← hW]; exact FS.mk0 HQ.out _)
        have e0 : v.cell? ⟨bb, o, none⟩ = some (.bool true) := (HF.out.bw.cell (by exact hb0)).trans c0
        have e1 : v.cell? ⟨bb, o + 1, none⟩ = some (.bool y2) := (HF.out.bw.cell (by exact hb0)).trans c1
        have el : v.cell? ⟨bb, o + k * 2 + 1, none⟩ = some (.bool y2) := (HF.out.bw.cell (by exact hb0)).trans cl
        have hbv : bb < v.heap.size := Nat.lt_of_lt_of_le hb0 HF.out.bw.size
        clear hW c0 c1 cl
        go_upto_region 4 with (fail)
        go_region_held3 (fun W => W.cell? ⟨bb, o + k * 2 + 1, none⟩ = some (.bool y2) ∧ W.cell? ⟨bb, o + 1, none⟩ = some (.bool y2)) (first | (go_keep; done) | ((try dsimp only); (repeat' apply And.intro) <;> first | (go_keep; done) | ((repeat rw [World.cell?_setCell_other _ _ _ _ (by intro h; injection h; omega)]); go_keep; done))) (fail)
        obtain ⟨f1, f2, f3, f4⟩ := HFS.out
        go_wp2_with fail
        refine bodyPost_ret (v := .int .i64 0) (by simp [results, Tryz.results54, go_sem, *]) rfl ⟨by simp [lastV], by first | exact HF.out.bw | exact HF.out.bw.drew⟩
      · have htn : t ≠ [] := fun e => by have := HKT.out; rw [e] at this; simp at this; omega
        have f1 : ((k : Int) + 1 == 1) = false := by simp; omega
        have f2 : ¬ ((k : Int) + 1 = 1) := by omega
        have f3 : decide ((k : Int) + 1 = 1) = false := decide_eq_false f2
        have f4 : ¬ ((k : Int) = 0) := by omega
        have hkp : (0 : Int) < (k : Int) := by omega
        have hkp2 : 0 < k := by omega
        cases y2
        · obtain ⟨z, hz⟩ : ∃ z, t[0]? = some z := ⟨_, List.getElem?_eq_getElem (by have := HKT.out; omega)⟩
          have cz := HEL.out 0 z hz
          obtain ⟨z1, z2⟩ := z
          have HZ := hide (show (t.head?.map (·.1)).getD false = z1 by rw [List.head?_eq_getElem?, hz]; rfl)
          dsimp only at cz
          have HT := hide htn
          clear hz htn
          cases z1
          · skip
            go_enter Tryz.func54, Tryz.ntmps54
            go_upto_region 1 with (fail)
            generalize hW : World.alloc w _ = v
            have HF := hide (show FS w v w.heap.size s by rw [← hW]; exact FS.mk0 HQ.out _)
            have e0 : v.cell? ⟨bb, o, none⟩ = some (.bool true) := (HF.out.bw.cell (by exact hb0)).trans c0
            have e1 : v.cell? ⟨bb, o + 1, none⟩ = some (.bool false) := (HF.out.bw.cell (by exact hb0)).trans c1
            have el : v.cell? ⟨bb, o + k * 2 + 1, none⟩ = some (.bool false) := (HF.out.bw.cell (by exact hb0)).trans cl
            have hbv : bb < v.heap.size := Nat.lt_of_lt_of_le hb0 HF.out.bw.size
            clear hW c0 c1 cl
            have ez : v.cell? ⟨bb, o + 2, none⟩ = some (.bool false) := (HF.out.bw.cell (by exact hb0)).trans cz
            clear cz
            go_upto_region 4 with (fail)
            go_region_held3 (fun W => W.cell? ⟨bb, o + k * 2 + 1, none⟩ = some (.bool false) ∧ W.cell? ⟨bb, o + 1, none⟩ = some (.bool false)) (first | (go_keep; done) | ((try dsimp only); (repeat' apply And.intro) <;> first | (go_keep; done) | ((repeat rw [World.cell?_setCell_other _ _ _ _ (by intro h; injection h; omega)]); go_keep; done))) (fail)
            go_wp2_with fail
            refine bodyPost_ret (v := .int .i64 4) (by simp [results, Tryz.results54, go_sem, *]) rfl ⟨by simp [lastV, HT.out, HZ.out], by first | exact HF.out.bw | exact HF.out.bw.drew⟩
          · skip
            go_enter Tryz.func54, Tryz.ntmps54
            go_upto_region 1 with (fail)
            generalize hW : World.alloc w _ = v
            have HF := hide (show FS w v w.heap.size s by rw [← hW]; exact FS.mk0 HQ.out _)
            have e0 : v.cell? ⟨bb, o, none⟩ = some (.bool true) := (HF.out.bw.cell (by exact hb0)).trans c0
            have e1 : v.cell? ⟨bb, o + 1, none⟩ = some (.bool false) := (HF.out.bw.cell (by exact hb0)).trans c1
            have el : v.cell? ⟨bb, o + k * 2 + 1, none⟩ = some (.bool false) := (HF.out.bw.cell (by exact hb0)).trans cl
            have hbv : bb < v.heap.size := Nat.lt_of_lt_of_le hb0 HF.out.bw.size
            clear hW c0 c1 cl
            have ez : v.cell? ⟨bb, o + 2, none⟩ = some (.bool true) := (HF.out.bw.cell (by exact hb0)).trans cz
            clear cz
            go_upto_region 4 with (fail)
            go_region_held3 (fun W => W.cell? ⟨bb, o + k * 2 + 1, none⟩ = some (.bool false) ∧ W.cell? ⟨bb, o + 1, none⟩ = some (.bool false)) (first | (go_keep; done) | ((try dsimp only); (repeat' apply And.intro) <;> first | (go_keep; done) | ((repeat rw [World.cell?_setCell_other _ _ _ _ (by intro h; injection h; omega)]); go_keep; done))) (fail)
            go_wp2_with fail
            refine bodyPost_ret (v := .int .i64 1) (by simp [results, Tryz.results54, go_sem, *]) rfl ⟨by simp [lastV, HT.out, HZ.out], by first | exact HF.out.bw | exact HF.out.bw.drew⟩
        · have HV := hide (show lastV (aftQ (decQ l h a b) M) (true, true) (y1, true) t = aftQ (decQ l h a b) M (t.length - cntF t) (cntF t) by simp [lastV, htn])
          have hcl := cntF_le' t
          obtain ⟨F, hF⟩ : ∃ F, F = cntF t := ⟨_, rfl⟩
          obtain ⟨P, hP⟩ : ∃ P, P = t.length - cntF t := ⟨_, rfl⟩
          have hPF : P + F = k := by have := HKT.out; omega
          rw [← hP, ← hF] at HV
          have HFF := hide hF
          have hcase : (decQ l h a b P F = 2 ∧ aftQ (decQ l h a b) M P F = 1) ∨ (decQ l h a b P F = 1 ∧ aftQ (decQ l h a b) M P F = 2) ∨ (decQ l h a b P F = 0 ∧ aftQ (decQ l h a b) M P F = if k = M then 3 else 0) := by
            unfold aftQ
            rw [hPF]
            rcases decQ_range l h a b P F with h0 | h0 | h0 <;> rw [h0] <;> simp
          have HPF := hide hPF
          have HCASE := hide hcase
          clear htn hcl hF hP hPF hcase
          go_enter Tryz.func54, Tryz.ntmps54
          go_upto_region 1 with (fail)
          generalize hW : World.alloc w _ = v
          have HF := hide (show FS w v w.heap.size s by rw [← hW]; exact FS.mk0 HQ.out _)
          have e0 : v.cell? ⟨bb, o, none⟩ = some (.bool true) := (HF.out.bw.cell (by exact hb0)).trans c0
          have e1 : v.cell? ⟨bb, o + 1, none⟩ = some (.bool true) := (HF.out.bw.cell (by exact hb0)).trans c1
          have el : v.cell? ⟨bb, o + k * 2 + 1, none⟩ = some (.bool true) := (HF.out.bw.cell (by exact hb0)).trans cl
          have hbv : bb < v.heap.size := Nat.lt_of_lt_of_le hb0 HF.out.bw.size
          clear hW c0 c1 cl
          go_upto_region 4 with (fail)
          go_region_held3 (fun W => W.cell? ⟨bb, o + k * 2 + 1, none⟩ = some (.bool true) ∧ W.cell? ⟨bb, o + 1, none⟩ = some (.bool true)) (first | (go_keep; done) | ((try dsimp only); (repeat' apply And.intro) <;> first | (go_keep; done) | ((repeat rw [World.cell?_setCell_other _ _ _ _ (by intro h; injection h; omega)]); go_keep; done))) (fail)
          have HB0 := hide (show Below v.heap.size v v.drew from (Below.refl _ _).drew)
          go_wp2_with fail
          go_loopw [6, 7, 8] (fun pv fv iv wr => ∃ (p f i : Nat), pv = .int .i64 (p : Int) ∧ fv = .int .i64 (f : Int) ∧ iv = .int .i64 (i : Int) ∧ 1 ≤ i ∧ i ≤ k + 1 ∧ p ≤ 32 ∧ f ≤ 32 ∧ Hid (p + f + 1 = i ∧ f = cntF (t.take (i - 1))) ∧ Hid (Below v.heap.size v wr)) (fun _ _ iv _ => k + 1 - (intOf iv).toNat)
          case atStart => exact ⟨0, 0, 1, rfl, rfl, rfl, by omega, by omega, by omega, by omega, hide ⟨rfl, by simp [cntF]⟩, by first | exact HB0 | exact hide (Below.refl _ _)⟩
          case round =>
            obtain ⟨p, f, i, rfl, rfl, rfl, hi1, hik, hp32, hf32, HC, HBr⟩ := hrel
            have HFr := hide (HF.out.below HBr.out)
            by_cases hiq : i = k + 1
            · have hle : decide ((i : Int) < (k : Int) + 1) = false := decide_eq_false (by omega)
              have hle2 : (k : Int) + 1 ≤ (i : Int) := by omega
              obtain ⟨rfl, rfl⟩ : f = F ∧ p = P := by
                have h1 := HC.out.2
                rw [hiq, Nat.add_sub_cancel, HKT.out, List.take_of_length_le (Nat.le_refl _), ← HFF.out] at h1
                have := HC.out.1
                have := HPF.out
                exact ⟨h1, by omega⟩
              have HPM := hide (show p + f ≤ M by have := HPF.out; omega)
              clear hiq
              obtain ⟨a0, a1, a2, a3, a4, a5, a6, a7, a8, a9⟩ := HFr.out.ca
              rcases HCASE.out with ⟨hd, ha⟩ | ⟨hd, ha⟩ | ⟨hd, ha⟩
              · have HD := hide hd
                rw [ha] at HV
                clear hd ha
                go_wp2_with (go_at_call 87; (with_reducible refine (qdecide_ok _ s l h a b M p f HFr.out.q HK.out HPM.out).mono ?_); rintro e w1 ⟨rfl, hb⟩; rw [HD.out]; have HF1 := hide (HFr.out.below hb); clear hb)
                refine bodyPost_ret (v := .int .i64 1) (by simp [results, Tryz.results54, go_sem, *]) rfl ⟨by rw [HV.out], HF1.out.bw⟩
              · have HD := hide hd
                rw [ha] at HV
                clear hd ha
                go_wp2_with (go_at_call 87; (with_reducible refine (qdecide_ok _ s l h a b M p f HFr.out.q HK.out HPM.out).mono ?_); rintro e w1 ⟨rfl, hb⟩; rw [HD.out]; have HF1 := hide (HFr.out.below hb); clear hb)
                refine bodyPost_ret (v := .int .i64 2) (by simp [results, Tryz.results54, go_sem, *]) rfl ⟨by rw [HV.out], HF1.out.bw⟩
              · have HD := hide hd
                rw [ha] at HV
                by_cases hkm : k = M
                · rw [if_pos hkm] at HV
                  have g1 : (k : Int) = s.m := by rw [HK.out.m]; omega
                  have g2 : ((k : Int) == s.m) = true := by rw [g1]; simp
                  have g3 : decide ((k : Int) = s.m) = true := decide_eq_true g1
                  clear hd ha hkm
                  go_wp2_with (go_at_call 87; (with_reducible refine (qdecide_ok _ s l h a b M p f HFr.out.q HK.out HPM.out).mono ?_); rintro e w1 ⟨rfl, hb⟩; rw [HD.out]; have HF1 := hide (HFr.out.below hb); obtain ⟨b0, b1, b2, b3, b4, b5, b6, b7, b8, b9⟩ := HF1.out.ca; clear hb)
                  refine bodyPost_ret (v := .int .i64 3) (by simp [results, Tryz.results54, go_sem, *]) rfl ⟨by rw [HV.out], HF1.out.bw⟩
                · rw [if_neg hkm] at HV
                  have g1 : ¬ (k : Int) = s.m := by rw [HK.out.m]; omega
                  have g2 : ((k : Int) == s.m) = false := by simp [g1]
                  have g3 : decide ((k : Int) = s.m) = false := decide_eq_false g1
                  clear hd ha hkm
                  go_wp2_with (go_at_call 87; (with_reducible refine (qdecide_ok _ s l h a b M p f HFr.out.q HK.out HPM.out).mono ?_); rintro e w1 ⟨rfl, hb⟩; rw [HD.out]; have HF1 := hide (HFr.out.below hb); obtain ⟨b0, b1, b2, b3, b4, b5, b6, b7, b8, b9⟩ := HF1.out.ca; clear hb)
                  refine bodyPost_ret (v := .int .i64 0) (by simp [results, Tryz.results54, go_sem, *]) rfl ⟨by rw [HV.out], HF1.out.bw⟩
            · have hlt : decide ((i : Int) < (k : Int) + 1) = true := decide_eq_true (by omega)
              have hlt2 : (i : Int) < (k : Int) + 1 := by omega
              have hi0 : (0 : Int) ≤ (i : Int) := by omega
              have hil : i - 1 < t.length := by have := HKT.out; omega
              have hzx := List.getElem?_eq_getElem hil
              obtain ⟨z, hz⟩ : ∃ z, z = t[i - 1] := ⟨_, rfl⟩
              rw [← hz] at hzx
              have cz0 := HEL.out (i - 1) z hzx
              rw [show i - 1 + 1 = i by omega] at cz0
              obtain ⟨z1, z2⟩ := z
              have cz : wr.cell? ⟨bb, o + i * 2, none⟩ = some (.bool z1) := (HFr.out.bw.cell (by exact hb0)).trans cz0
              have HCN := hide (show f + (if z1 then 1 else 0) = cntF (t.take (i - 1 + 1)) by
                rw [List.take_add_one, hzx, HC.out.2]
                unfold cntF
                rw [List.countP_append]
                cases z1 <;> rfl)
              have hbr : bb < wr.heap.size := Nat.lt_of_lt_of_le hb0 HFr.out.bw.size
              have hpf31 : p + f + 1 ≤ 32 := by have := HC.out.1; omega
              clear hzx hz cz0 hiq
              cases z1
              · go_wp2_with fail
                go_roundw
                case rel => exact ⟨p + 1, f, i + 1, by go_num, rfl, by go_num, by omega, by omega, by omega, by omega, hide ⟨by have := HC.out.1; omega, by have := HCN.out; rw [show i + 1 - 1 = i - 1 + 1 by omega]; simpa using this⟩, HBr⟩
                case measure => simp [intOf] <;> omega
              · go_wp2_with fail
                go_roundw
                case rel => exact ⟨p, f + 1, i + 1, rfl, by go_num, by go_num, by omega, by omega, by omega, by omega, hide ⟨by have := HC.out.1; omega, by have := HCN.out; rw [show i + 1 - 1 = i - 1 + 1 by omega]; simpa using this⟩, HBr⟩
                case measure => simp [intOf] <;> omega
    · have HV := hide (show lastV (aftQ (decQ l h a b) M) (true, x2) (y1, y2) t = 4 by simp [lastV, hyx])
      have hne : (y2 != x2) = true := by simpa using hyx
      cases x2
      · obtain rfl : y2 = true := by simpa using hyx
        go_enter Tryz.func54, Tryz.ntmps54
        go_upto_region 1 with (fail)
        generalize hW : World.alloc w _ = v
        have HF := hide (show FS w v w.heap.size s by rw [← hW]; exact FS.mk0 HQ.out _)
        have e0 : v.cell? ⟨bb, o, none⟩ = some (.bool true) := (HF.out.bw.cell (by exact hb0)).trans c0
        have e1 : v.cell? ⟨bb, o + 1, none⟩ = some (.bool false) := (HF.out.bw.cell (by exact hb0)).trans c1
        have el : v.cell? ⟨bb, o + k * 2 + 1, none⟩ = some (.bool true) := (HF.out.bw.cell (by exact hb0)).trans cl
        have hbv : bb < v.heap.size := Nat.lt_of_lt_of_le hb0 HF.out.bw.size
        clear hW c0 c1 cl
        go_upto_region 4 with (fail)
        go_region_held3 (fun W => W.cell? ⟨bb, o + k * 2 + 1, none⟩ = some (.bool true) ∧ W.cell? ⟨bb, o + 1, none⟩ = some (.bool false)) (first | (go_keep; done) | ((try dsimp only); (repeat' apply And.intro) <;> first | (go_keep; done) | ((repeat rw [World.cell?_setCell_other _ _ _ _ (by intro h; injection h; omega)]); go_keep; done))) (fail)
        go_wp2_with fail
        refine bodyPost_ret (v := .int .i64 4) (by simp [results, Tryz.results54, go_sem, *]) rfl ⟨by rw [HV.out], by first | exact HF.out.bw | exact HF.out.bw.drew⟩
      · obtain rfl : y2 = false := by simpa using hyx
        go_enter Tryz.func54, Tryz.ntmps54
        go_upto_region 1 with (fail)
        generalize hW : World.alloc w _ = v
        have HF := hide (show FS w v w.heap.size s by rw [← hW]; exact FS.mk0 HQ.out _)
        have e0 : v.cell? ⟨bb, o, none⟩ = some (.bool true) := (HF.out.bw.cell (by exact hb0)).trans c0
        have e1 : v.cell? ⟨bb, o + 1, none⟩ = some (.bool true) := (HF.out.bw.cell (by exact hb0)).trans c1
        have el : v.cell? ⟨bb, o + k * 2 + 1, none⟩ = some (.bool false) := (HF.out.bw.cell (by exact hb0)).trans cl
        have hbv : bb < v.heap.size := Nat.lt_of_lt_of_le hb0 HF.out.bw.size
        clear hW c0 c1 cl
        go_upto_region 4 with (fail)
        go_region_held3 (fun W => W.cell? ⟨bb, o + k * 2 + 1, none⟩ = some (.bool false) ∧ W.cell? ⟨bb, o + 1, none⟩ = some (.bool true)) (first | (go_keep; done) | ((try dsimp only); (repeat' apply And.intro) <;> first | (go_keep; done) | ((repeat rw [World.cell?_setCell_other _ _ _ _ (by intro h; injection h; omega)]); go_keep; done))) (fail)
        go_wp2_with fail
        refine bodyPost_ret (v := .int .i64 4) (by simp [results, Tryz.results54, go_sem, *]) rfl ⟨by rw [HV.out], by first | exact HF.out.bw | exact HF.out.bw.drew⟩
end Go.Proofs.YtnokfhkcfebimaaGreat

/- Contracts: the reference's check, Judge. -/
namespace Go.Proofs.YtnokfhkcfebimaaGreat
open Go.RowKit

set_option maxRecDepth 100000 in
set_option maxHeartbeats 8000000 in
theorem r25check_any (w : World) (s : Sv) (A : Option Addr) (n c : Nat) (hq : SQ w s) :
    Calls Tryz.prog 53 #[.agg #[.slice s.l.A s.l.n s.l.c, .slice s.l.B s.l.m s.l.d, .slice s.h.A s.h.n s.h.c, .slice s.h.B s.h.m s.h.d, .slice s.a.A s.a.n s.a.c, .slice s.a.B s.a.m s.a.d, .slice s.b.A s.b.n s.b.c, .slice s.b.B s.b.m s.b.d, .int .i64 s.m], .slice A n c] w fun e w' => e = .returned (.int .i64 (vckE s n)) ∧ Below w.heap.size w w' := by
  have hcase : (s.ok = false ∧ vckE s n = 1) ∨ (s.ok = true ∧ 33 < n ∧ vckE s n = 2) ∨ (s.ok = true ∧ ¬ 33 < n ∧ vckE s n = 0) := by
    unfold vckE
    cases s.ok
    · simp
    · by_cases h : 33 < n <;> simp [h]
  rcases hcase with ⟨h1, h2⟩ | ⟨h1, h3, h2⟩ | ⟨h1, h3, h2⟩
  · have HOK := hide h1
    rw [h2]
    clear h1 h2
    go_enter Tryz.func53, Tryz.ntmps53
    go_upto_region 1 with (fail)
    generalize hW : World.alloc w _ = v
    have HF := hide (show FS w v w.heap.size s by rw [← hW]; exact FS.mk0 hq _)
    obtain ⟨a0, a1, a2, a3, a4, a5, a6, a7, a8, a9⟩ := HF.out.ca
    clear hW hq
    go_wp2_with (go_at_call 45; (with_reducible refine (qcheckv_any _ s HF.out.q).mono ?_); rintro e w1 ⟨rfl, hb⟩; rw [HOK.out]; have HF1 := hide (HF.out.below hb); obtain ⟨b0, b1, b2, b3, b4, b5, b6, b7, b8, b9⟩ := HF1.out.ca; clear hb)
    refine bodyPost_ret (v := .int .i64 1) (by simp [results, Tryz.results53, go_sem, *]) rfl ⟨rfl, HF1.out.bw⟩
  · have HOK := hide h1
    have g1 : decide ((33 : Int) < (n : Int)) = true := decide_eq_true (by omega)
    have g2 : decide (33 < n) = true := decide_eq_true (by omega)
    rw [h2]
    clear h1 h2
    go_enter Tryz.func53, Tryz.ntmps53
    go_upto_region 1 with (fail)
    generalize hW : World.alloc w _ = v
    have HF := hide (show FS w v w.heap.size s by rw [← hW]; exact FS.mk0 hq _)
    obtain ⟨a0, a1, a2, a3, a4, a5, a6, a7, a8, a9⟩ := HF.out.ca
    clear hW hq
    go_wp2_with (go_at_call 45; (with_reducible refine (qcheckv_any _ s HF.out.q).mono ?_); rintro e w1 ⟨rfl, hb⟩; rw [HOK.out]; have HF1 := hide (HF.out.below hb); obtain ⟨b0, b1, b2, b3, b4, b5, b6, b7, b8, b9⟩ := HF1.out.ca; clear hb)
    refine bodyPost_ret (v := .int .i64 2) (by simp [results, Tryz.results53, go_sem, *]) rfl ⟨rfl, HF1.out.bw⟩
  · have HOK := hide h1
    have g1 : decide ((33 : Int) < (n : Int)) = false := decide_eq_false (by omega)
    have g2 : decide (33 < n) = false := decide_eq_false (by omega)
    rw [h2]
    clear h1 h2
    go_enter Tryz.func53, Tryz.ntmps53
    go_upto_region 1 with (fail)
    generalize hW : World.alloc w _ = v
    have HF := hide (show FS w v w.heap.size s by rw [← hW]; exact FS.mk0 hq _)
    obtain ⟨a0, a1, a2, a3, a4, a5, a6, a7, a8, a9⟩ := HF.out.ca
    clear hW hq
    go_wp2_with (go_at_call 45; (with_reducible refine (qcheckv_any _ s HF.out.q).mono ?_); rintro e w1 ⟨rfl, hb⟩; rw [HOK.out]; have HF1 := hide (HF.out.below hb); obtain ⟨b0, b1, b2, b3, b4, b5, b6, b7, b8, b9⟩ := HF1.out.ca; clear hb)
    refine bodyPost_ret (v := .int .i64 0) (by simp [results, Tryz.results53, go_sem, *]) rfl ⟨rfl, HF1.out.bw⟩
set_option maxRecDepth 100000 in
set_option maxHeartbeats 8000000 in
theorem r25judge_bad (w : World) (s : Sv) (A : Option Addr) (n c : Nat) (hq : SQ w s) (hc : vckE s n ≠ 0) :
    Calls Tryz.prog 21 #[.agg #[.slice s.l.A s.l.n s.l.c, .slice s.l.B s.l.m s.l.d, .slice s.h.A s.h.n s.h.c, .slice s.h.B s.h.m s.h.d, .slice s.a.A s.a.n s.a.c, .slice s.a.B s.a.m s.a.d, .slice s.b.A s.b.n s.b.c, .slice s.b.B s.b.m s.b.d, .int .i64 s.m], .slice A n c] w fun e w' => e = .returned (.tuple #[.int .i64 0, .int .i64 0, .int .i64 (vckE s n)]) ∧ Below w.heap.size w w' := by
  obtain ⟨E, hE⟩ : ∃ E, E = vckE s n := ⟨_, rfl⟩
  rw [← hE] at hc ⊢
  have HE := hide hE
  have g1 : (E == 0) = false := by simp [hc]
  have g2 : decide (E = 0) = false := decide_eq_false hc
  clear hE
  go_enter Tryz.func21, Tryz.ntmps21
  go_upto_region 1 with (fail)
  generalize hW : World.alloc w _ = v
  have HF := hide (show FS w v w.heap.size s by rw [← hW]; exact FS.mk0 hq _)
  obtain ⟨a0, a1, a2, a3, a4, a5, a6, a7, a8, a9⟩ := HF.out.ca
  clear hW hq
  go_wp2_with (go_at_call 53; (with_reducible refine (r25check_any _ s A n c HF.out.q).mono ?_); rintro e w1 ⟨rfl, hb⟩; rw [← HE.out]; have HF1 := hide (HF.out.below hb); obtain ⟨b0, b1, b2, b3, b4, b5, b6, b7, b8, b9⟩ := HF1.out.ca; clear hb)
  refine bodyPost_ret (v := .tuple #[.int .i64 0, .int .i64 0, .int .i64 E]) (by simp [results, Tryz.results21, go_sem, *]) rfl ⟨rfl, HF1.out.bw⟩
theorem lastQ_eq {g : Nat → Nat → Int} {x y : Bool × Bool} {t : List (Bool × Bool)} (h : (x :: t)[t.length]? = some y) : lastQ g (x :: t) = lastV g x y t := by
  show lastV g x ((x :: t).getLast?.getD x) t = _
  rw [List.getLast?_eq_getElem?, List.length_cons, Nat.add_sub_cancel, h]
  rfl
theorem lastQ_more {d : Nat → Nat → Int} {M : Nat} {xs : List (Bool × Bool)} (hM : xs.length ≤ M + 1) (h2 : 2 ≤ xs.length) (h : lastQ (aftQ d M) xs = 0) : xs.length ≤ M := by
  cases xs with
  | nil => simp at h2
  | cons x t =>
    rw [List.length_cons] at hM h2 ⊢
    have ht : t ≠ [] := fun e => by rw [e] at h2; simp at h2
    have h' : lastV (aftQ d M) x ((x :: t).getLast?.getD x) t = 0 := h
    unfold lastV at h'
    split at h'
    · simp at h'
    · split at h'
      · simp at h'
      · try rw [if_neg ht] at h'
        split at h'
        · split at h' <;> simp at h'
        · have hc := cntF_le' t
          have := aft_go (by omega) h'
          omega
theorem rs_take {w : World} {A : Option Addr} {xs : List (Bool × Bool)} (h : Rs w none 2 atv A xs) (i : Nat) : Rs w none 2 atv A (xs.take i) := by
  intro hne
  obtain ⟨b', o', h1, h2, h3, h4⟩ := h (by rintro rfl; simp at hne)
  refine ⟨b', o', h1, h2, h3, fun k a hk j w hw => h4 k a ?_ j w hw⟩
  rw [List.getElem?_take] at hk
  split at hk
  · exact hk
  · simp at hk
set_option maxRecDepth 100000 in
set_option maxHeartbeats 16000000 in
theorem r25judge_ok (w : World) (s : Sv) (l h a b : Rat) (M : Nat) (A : Option Addr) (n c : Nat) (xs : List (Bool × Bool)) (hq : SQ w s) (hk : OKs s l h a b M) (hR : Rs w none 2 atv A xs) (hl : xs.length = n) (hn : n ≤ 33) (hnc : n ≤ c) :
    Calls Tryz.prog 21 #[.agg #[.slice s.l.A s.l.n s.l.c, .slice s.l.B s.l.m s.l.d, .slice s.h.A s.h.n s.h.c, .slice s.h.B s.h.m s.h.d, .slice s.a.A s.a.n s.a.c, .slice s.a.B s.a.m s.a.d, .slice s.b.A s.b.n s.b.c, .slice s.b.B s.b.m s.b.d, .int .i64 s.m], .slice A n c] w fun e w' => e = .returned (.tuple #[.int .i64 (jud (aftQ (decQ l h a b) M) xs).1, .int .i64 ((jud (aftQ (decQ l h a b) M) xs).2 : Int), .int .i64 0]) ∧ Below w.heap.size w w' := by
  have HC := hide (show vckE s n = 0 by unfold vckE; rw [if_neg (by rw [hk.ok]; simp), if_neg (by omega)])
  have HK := hide hk
  have HR := hide hR
  have HL := hide hl
  have hM1 := hk.m1
  obtain ⟨G, hG⟩ : ∃ G, G = aftQ (decQ l h a b) M := ⟨_, rfl⟩
  rw [← hG]
  have HG := hide hG
  clear hk hR hl hG
  go_enter Tryz.func21, Tryz.ntmps21
  go_upto_region 1 with (fail)
  generalize hW : World.alloc w _ = v
  have HF := hide (show FS w v w.heap.size s by rw [← hW]; exact FS.mk0 hq _)
  obtain ⟨a0, a1, a2, a3, a4, a5, a6, a7, a8, a9⟩ := HF.out.ca
  clear hW hq
  go_wp2_with (go_at_call 53; (with_reducible refine (r25check_any _ s A n c HF.out.q).mono ?_); rintro e w1 ⟨rfl, hb⟩; rw [HC.out]; have HF1 := hide (HF.out.below hb); clear hb)
  clear a0 a1 a2 a3 a4 a5 a6 a7 a8 a9
  go_loopw [8] (fun iv wr => ∃ i : Nat, iv = .int .i64 (i : Int) ∧ 1 ≤ i ∧ i ≤ n + 1 ∧ i ≤ M + 1 + 1 ∧ Hid (i ≤ n → i ≤ M + 1) ∧ Hid (∀ j, 1 ≤ j → j < i → lastQ G (xs.take j) = 0) ∧ Hid (Below w1.heap.size w1 wr)) (fun iv _ => n + 1 - (intOf iv).toNat)
  case atStart => exact ⟨1, rfl, by omega, by omega, by omega, hide (fun _ => by omega), hide (fun j h1 h2 => by omega), hide (Below.refl _ _)⟩
  case round =>
    obtain ⟨i, rfl, hi1, hin, hiM, HIM, HZ, HBr⟩ := hrel
    have HFr := hide (HF1.out.below HBr.out)
    by_cases hiq : i = n + 1
    · have hle : decide ((i : Int) ≤ (n : Int)) = false := decide_eq_false (by omega)
      have hle2 : (n : Int) < (i : Int) := by omega
      have hle3 : decide (i ≤ n) = false := decide_eq_false (by omega)
      have HJ := hide (show jud G xs = (0, n) from by
        have := jud_none (g := G) (xs := xs) (fun j h1 h2 => HZ.out j h1 (by have := HL.out; omega))
        rw [HL.out] at this
        exact this)
      clear hiq
      go_wp2_with fail
      refine bodyPost_ret (v := .tuple #[.int .i64 0, .int .i64 (n : Int), .int .i64 0]) (by simp [results, Tryz.results21, go_sem, *]) rfl ⟨by rw [HJ.out], HFr.out.bw⟩
    · have hle : decide ((i : Int) ≤ (n : Int)) = true := decide_eq_true (by omega)
      have hle2 : (i : Int) ≤ (n : Int) := by omega
      have hle3 : decide (i ≤ n) = true := decide_eq_true (by omega)
      have hi0 : (0 : Int) ≤ (i : Int) := by omega
      have hic : (i : Int) ≤ (c : Int) := by omega
      have hiM1 : i ≤ M + 1 := HIM.out (by omega)
      obtain ⟨x, t, hxt⟩ : ∃ x t, xs = x :: t := by
        cases xs with
        | nil => exfalso; have := HL.out; simp at this; omega
        | cons x t => exact ⟨x, t, rfl⟩
      have htk : xs.take i = x :: t.take (i - 1) := by
        rw [hxt, show i = (i - 1) + 1 by omega, List.take_succ_cons]; simp
      have htl : (t.take (i - 1)).length = i - 1 := by
        rw [List.length_take]; have := HL.out; rw [hxt, List.length_cons] at this; omega
      obtain ⟨y, hy⟩ : ∃ y, (x :: t.take (i - 1))[(t.take (i - 1)).length]? = some y := ⟨_, List.getElem?_eq_getElem (by simp)⟩
      have HLQ := hide (show lastQ G (xs.take i) = lastV G x y (t.take (i - 1)) by rw [htk]; exact lastQ_eq hy)
      obtain ⟨bb, o, hA, hb0, -, -⟩ := atts_at (HR.out.below HFr.out.bw) (k := 0) (x := x) (by rw [hxt]; rfl)
      have HRt := hide (show Rs wr none 2 atv A (x :: t.take (i - 1)) by rw [← htk]; exact rs_take (HR.out.below HFr.out.bw) i)
      have HY := hide hy
      have HTL := hide htl
      have HIL := hide (show (xs.take i).length = i by rw [List.length_take]; have := HL.out; omega)
      subst hA
      clear hxt htk hy htl
      have k0 := HFr.out.ca
      obtain ⟨a0, a1, a2, a3, a4, a5, a6, a7, a8, a9⟩ := HFr.out.ca
      obtain ⟨V, hV⟩ : ∃ V, V = lastV G x y (t.take (i - 1)) := ⟨_, rfl⟩
      have HV := hide hV
      clear hV
      go_upto_region 7 with (fail)
      go_region_held3 (fun W => W.cell? ⟨w.heap.size, 0, none⟩ = some (.slice s.l.A s.l.n s.l.c) ∧ W.cell? ⟨w.heap.size, 1, none⟩ = some (.slice s.l.B s.l.m s.l.d) ∧ W.cell? ⟨w.heap.size, 2, none⟩ = some (.slice s.h.A s.h.n s.h.c) ∧ W.cell? ⟨w.heap.size, 3, none⟩ = some (.slice s.h.B s.h.m s.h.d) ∧ W.cell? ⟨w.heap.size, 4, none⟩ = some (.slice s.a.A s.a.n s.a.c) ∧ W.cell? ⟨w.heap.size, 5, none⟩ = some (.slice s.a.B s.a.m s.a.d) ∧ W.cell? ⟨w.heap.size, 6, none⟩ = some (.slice s.b.A s.b.n s.b.c) ∧ W.cell? ⟨w.heap.size, 7, none⟩ = some (.slice s.b.B s.b.m s.b.d) ∧ W.cell? ⟨w.heap.size, 8, none⟩ = some (.int .i64 s.m)) (first | with_reducible exact k1 | first | (go_keep; done) | ((try dsimp only); (repeat' apply And.intro) <;> first | (go_keep; done) | ((repeat rw [World.cell?_setCell_other _ _ _ _ (by intro h; injection h; omega)]); go_keep; done))) (first
        | (go_at_call 54; (with_reducible refine (r25last_ok _ s l h a b M (some ⟨bb, o, none⟩) i c x y (t.take (i - 1)) (by first | exact HFr.out.q | exact HFr.out.q.below (Below.refl _ _).drew) HK.out (by first | exact HRt.out | exact HRt.out.below (Below.refl _ _).drew) HY.out (by rw [HTL.out]; omega) (by rw [HTL.out]; omega)).mono ?_); rintro e w7 ⟨rfl, hb⟩; rw [← HG.out, ← HV.out]; have HB7 := hide (show Below w1.heap.size w1 w7 from (by first | exact HBr.out.trans (hb.mono HBr.out.size) | exact HBr.out.drew.trans (hb.mono HBr.out.size))); have k1 := (HF1.out.below HB7.out).ca; clear hb))
      clear a0 a1 a2 a3 a4 a5 a6 a7 a8 a9 k0 k1
      have HB7' := hide (show Below w1.heap.size w1 w7 ∧ Below w1.heap.size w1 w7.drew from ⟨HB7.out, HB7.out.drew⟩)
      by_cases hv0 : V = 0
      · subst hv0
        go_wp2_with fail
        go_roundw
        case rel => exact ⟨i + 1, by go_num, by omega, by omega, by omega, hide (fun _ => by
          by_cases h1 : i = 1
          · omega
          · have := lastQ_more (d := decQ l h a b) (M := M) (xs := xs.take i) (by rw [HIL.out]; omega) (by rw [HIL.out]; omega) (by rw [← HG.out, HLQ.out, ← HV.out])
            rw [HIL.out] at this
            omega), hide (fun j h1 h2 => by
          by_cases hj : j = i
          · rw [hj, HLQ.out, ← HV.out]
          · exact HZ.out j h1 (by omega)), by first | exact hide HB7'.out.1 | exact hide HB7'.out.2⟩
        case measure => simp [intOf] <;> omega
      · have z1 : (V != 0) = true := by simpa using hv0
        have HJ := hide (show jud G xs = (V, i) from by
          have := jud_stop (g := G) (xs := xs) (n := i) hi1 (by have := HL.out; omega) (by rw [HLQ.out, ← HV.out]; exact hv0) (fun j h1 h2 => HZ.out j h1 h2)
          rw [HLQ.out, ← HV.out] at this
          exact this)
        go_wp2_with fail
        refine bodyPost_ret (v := .tuple #[.int .i64 V, .int .i64 (i : Int), .int .i64 0]) (by simp [results, Tryz.results21, go_sem, *]) rfl ⟨by rw [HJ.out], by first | exact HF1.out.bw.trans (HB7'.out.1.mono HF1.out.bw.size) | exact HF1.out.bw.trans (HB7'.out.2.mono HF1.out.bw.size)⟩
end Go.Proofs.YtnokfhkcfebimaaGreat

/- The walk of the law RerunJudges. -/
namespace Go.Proofs.YtnokfhkcfebimaaGreat
open Go.RowKit

/-- Program and reference say the same. -/
theorem judges_both {s : Sv} (A : Option Addr) (n c : Nat) (xs : List (Bool × Bool)) (hl : xs.length = n) (hnc : n ≤ c) : ∃ (V U E : Int), (∀ W, SQ W s → Rs W none 2 atv A xs → Calls Tryz.prog 20 #[.agg #[.slice s.l.A s.l.n s.l.c, .slice s.l.B s.l.m s.l.d, .slice s.h.A s.h.n s.h.c, .slice s.h.B s.h.m s.h.d, .slice s.a.A s.a.n s.a.c, .slice s.a.B s.a.m s.a.d, .slice s.b.A s.b.n s.b.c, .slice s.b.B s.b.m s.b.d, .int .i64 s.m], .slice A n c] W fun e w' => e = .returned (.tuple #[.int .i64 V, .int .i64 U, .int .i64 E]) ∧ Below W.heap.size W w') ∧ (∀ W, SQ W s → Rs W none 2 atv A xs → Calls Tryz.prog 21 #[.agg #[.slice s.l.A s.l.n s.l.c, .slice s.l.B s.l.m s.l.d, .slice s.h.A s.h.n s.h.c, .slice s.h.B s.h.m s.h.d, .slice s.a.A s.a.n s.a.c, .slice s.a.B s.a.m s.a.d, .slice s.b.A s.b.n s.b.c, .slice s.b.B s.b.m s.b.d, .int .i64 s.m], .slice A n c] W fun e w' => e = .returned (.tuple #[.int .i64 V, .int .i64 U, .int .i64 E]) ∧ Below W.heap.size W w') := by
  by_cases hc : vckE s n = 0
  · have hs : s.ok = true := by
      unfold vckE at hc
      cases h : s.ok with
      | true => rfl
      | false => rw [h, if_pos rfl] at hc; simp at hc
    have hn : n ≤ 33 := by
      unfold vckE at hc
      rw [hs, if_neg (by simp)] at hc
      by_cases h : 33 < n
      · rw [if_pos h] at hc; simp at hc
      · omega
    obtain ⟨lo, h, a, b, M, hk⟩ := Sv.ok_some hs
    exact ⟨_, _, _, fun W h1 h2 => vjudgex_ok W s lo h a b M A n c xs h1 hk h2 hl hn, fun W h1 h2 => r25judge_ok W s lo h a b M A n c xs h1 hk h2 hl hn hnc⟩
  · exact ⟨_, _, _, fun W h1 _ => vjudgex_bad W s A n c h1 hc, fun W h1 _ => r25judge_bad W s A n c h1 hc⟩
end Go.Proofs.YtnokfhkcfebimaaGreat
