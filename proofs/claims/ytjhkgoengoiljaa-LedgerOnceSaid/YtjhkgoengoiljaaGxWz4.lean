/- The walk of the law that a ticket's outcome never changes. -/
import Derived.Test.YtjhkgoengoiljaaG23
import Derived.Test.YtjhkgoengoiljaaG22
import Derived.Test.YtjhkgoengoiljaaG25
set_option linter.unusedVariables false
set_option linter.unusedSimpArgs false

/- The walk of the law that a ticket's outcome never changes. -/
namespace Go.Proofs.Ytjhkgoengoiljaa
open Go.RowKit

theorem accOf_take {l : List Tk} {k : Nat} {t : Tk} (h : l[k]? = some t) : accOf (l.take (k + 1)) = accOf (l.take k) + if repB t.out then 1 else 0 := by
  rw [List.take_add_one, h]
  exact accOf_append t _

theorem accOf_le : ∀ l : List Tk, accOf l ≤ l.length
  | [] => Nat.le_refl _
  | t :: l => by
    have := accOf_le l
    simp only [accOf, List.length_cons]
    split <;> omega
theorem put_two {w : World} {H : Nat} {x y : V7} (u v : V7) (h1 : B7 w (H + 1) x) (h2 : B7 w (H + 2) y) :
    (B7 (put7 (put7 w (H + 1) u.v0 u.v1 u.v2 u.v3 u.v4 u.v5 u.v6) (H + 2) v.v0 v.v1 v.v2 v.v3 v.v4 v.v5 v.v6) (H + 1) u ∧ B7 (put7 (put7 w (H + 1) u.v0 u.v1 u.v2 u.v3 u.v4 u.v5 u.v6) (H + 2) v.v0 v.v1 v.v2 v.v3 v.v4 v.v5 v.v6) (H + 2) v) ∧
    Fr w (put7 (put7 w (H + 1) u.v0 u.v1 u.v2 u.v3 u.v4 u.v5 u.v6) (H + 2) v.v0 v.v1 v.v2 v.v3 v.v4 v.v5 v.v6) (fun i => i = H + 1 ∨ i = H + 2) :=
  ⟨⟨(h1.put u).fr fr_put7 (by omega), (h2.fr fr_put7 (by omega)).put v⟩, (fr_put7.mono (fun _ _ h => Or.inl h)).step fr_put7 (fun _ _ h => Or.inr h)⟩
theorem att_range {t : Tk} (h : tkOk t = true) : 0 ≤ t.att ∧ t.att ≤ 4 := by
  simp only [tkOk, Bool.and_eq_true, stateB] at h
  have h2 := h.2
  simp only [ranB, restB] at h2
  split at h2
  · simp at h2; omega
  · split at h2
    · simp at h2; omega
    · split at h2
      · split at h2
        · simp at h2; omega
        · split at h2
          · simp at h2; omega
          · simp at h2; omega
      · cases h2

set_option maxRecDepth 100000 in
set_option maxHeartbeats 8000000 in
theorem once_walk (w : World) (A : Option Addr) (n c : Nat) (l : List Int) (hA : Rs w none 1 iv A l) (hl : l.length = n) :
    Calls Try.prog 4 #[.slice A n c] w fun e w' => e = .returned (.bool true) ∧ Below w.heap.size w w' := by
  have HT0 := hide (tape_new (w := w) (c := c) hA hl 31)
  have HOA := hide (show l ≠ [] → ∀ b o, A = some ⟨b, o, none⟩ → b < w.heap.size from old_of hA (Nat.le_refl _))
  clear hA hl
  go_enter Try.func4, Try.ntmps4
  go_upto_region 3 with (fail)
  generalize hW : World.alloc (World.alloc (World.alloc w _) _) _ = v0
  have HT1 := hide (show TapeAt v0 w.heap.size A n c l 0 from by rw [← hW]; exact (HT0.out.alloc _).alloc _)
  have HP := hide (show B7 v0 (w.heap.size + 1) (LDV none 0 0 Ld.nil) ∧ B7 v0 (w.heap.size + 2) (LDV none 0 0 Ld.nil) from by
    rw [← hW]
    clear hW
    simp only [B7, LDV, Ld.nil]
    refine ⟨?_, ?_⟩ <;> refine ⟨by first | (simp; done) | (simp; omega), ⟨?_, ?_, ?_, ?_, ?_, ?_, ?_⟩, ?_, ?_⟩ <;> first | (intro j; go_simp; done) | (go_simp; done))
  have HF := hide (show Fr w v0 (fun _ => False) from by rw [← hW]; exact (((Fr.refl w _).alloc _).alloc _).alloc _)
  clear hW
  go_wp2_with fail
  refine (next_any _ w.heap.size A n c l 0 70 HT1.out (by omega) (by omega)).mono ?_
  rintro e w1 ⟨rfl, ht1, hf1⟩
  have HT2 := hide ht1
  have HF1 := hide (HF.out.step hf1 (fun i hi h => by omega))
  have HP1 := hide (And.intro (HP.out.1.fr hf1 (by omega)) (HP.out.2.fr hf1 (by omega)))
  have hv := tapeV_lo l 0 70
  obtain ⟨v, hvv⟩ : ∃ v : Nat, tapeV l 0 70 = v := ⟨(tapeV l 0 70).toNat, by omega⟩
  rw [hvv] at hv ⊢
  have hv70 : v ≤ 70 := by omega
  clear ht1 hf1 hv hvv
  go_wp2_with fail
  go_loopw [6] (fun x wr => ∃ (i j : Nat) (X : Ld) (B1 B2 : Option Addr) (d1 d2 m a' : Nat), i + j = v ∧ x = .int .i64 i ∧ Hid (Reach j X) ∧ Hid (X.tks.length = m) ∧ Hid (B7 wr (w.heap.size + 1) (LDV B1 m d1 X) ∧ B7 wr (w.heap.size + 2) (LDV B2 m d2 X)) ∧ Hid (Rs wr (some w.heap.size) 10 Tk.vals B1 X.tks) ∧ Hid (Rs wr (some w.heap.size) 10 Tk.vals B2 X.tks) ∧ Hid (TapeAt wr w.heap.size A n c l a') ∧ Hid (Fr w wr (fun _ => False)) ∧ a' ≤ 1 + 12 * j) (fun x _ => (intOf x).toNat)
  case atStart => exact ⟨v, 0, Ld.nil, none, none, 0, 0, 0, 1, by omega, rfl, hide .zero, hide rfl, HP1, hide Rs.nil, hide Rs.nil, HT2, HF1, by omega⟩
  case round =>
    obtain ⟨i, j, X, B1, B2, d1, d2, m, a', hij, rfl, HR, HM, HS, HB1, HB2, HT, HF, ha'⟩ := hrel
    by_cases hi : i = 0
    · subst hi
      go_wp2_with fail
      refine (known_any _).mono ?_
      rintro e w3 ⟨rfl, hb3⟩
      go_wp2_with fail
      refine bodyPost_ret (v := .bool true) (by simp [results, Try.results4, go_sem, *]) rfl ⟨rfl, ?_⟩
      exact (HF.out.below_ hb3).below (Nat.le_refl _) (fun _ _ h => h)
    · have hgt : decide ((0 : Int) < (i : Int)) = true := by simp; omega
      have h128 : m ≤ 128 := by have h1 := ((ok_iff X).1 HR.out.ok).1; have h2 := HM.out; omega
      obtain ⟨⟨l1, p, gp, -⟩, ⟨l2, q, gq, -⟩⟩ := HS.out
      simp only [LDV] at p q
      obtain ⟨p0, p1, p2, p3, p4, p5, p6⟩ := p
      obtain ⟨q0, q1, q2, q3, q4, q5, q6⟩ := q
      go_wp2_with fail
      refine (step_any _ w.heap.size A n c l a' HT.out (by omega) B1 B2 m d1 d2 X h128 HB1.out HB2.out HM.out).mono ?_
      rintro e w2 ⟨X2, C1, C2, e1, e2, a2, rfl, hst, hr1, hr2, ht2, hle, hf2⟩
      have HS2 := hide (And.intro (HS.out.1.fr hf2 (by omega)) (HS.out.2.fr hf2 (by omega)))
      have HF2 := hide (HF.out.step hf2 (fun i hi h => by omega))
      have HT3 := hide ht2
      have HC1 := hide hr1
      have HC2 := hide hr2
      have HO1 := hide (HB1.out.tape hf2)
      have HST := hide hst
      have HMO := hide (step_mono HR.out.ok hst)
      obtain ⟨n2, HN2⟩ : ∃ n2, Hid (X2.tks.length = n2) := ⟨_, hide rfl⟩
      rw [HN2.out]
      have h128b : n2 ≤ 128 := by have h1 := ((ok_iff X2).1 (step_ok HR.out.ok hst)).1; have h2 := HN2.out; omega
      have hmn : m ≤ n2 := by have h1 := HMO.out.1; have h2 := HN2.out; have h3 := HM.out; omega
      have hlt : decide ((n2 : Int) < (m : Int)) = false := by simp; omega
      have hlt2 : decide (n2 < m) = false := by simp; omega
      clear hst hr1 hr2 ht2 hf2 p0 p1 p2 p3 p4 p5 p6 q0 q1 q2 q3 q4 q5 q6 gp gq l1 l2
      go_upto_region 7 with (fail)
      generalize hW : World.alloc (World.alloc w2 _) _ = v3
      have HS7 := hide (show B7 v3 w2.heap.size (LDV C1 n2 e1 X2) ∧ B7 v3 (w2.heap.size + 1) (LDV C2 n2 e2 X2) from by
        rw [← hW]
        clear hW
        simp only [B7, LDV]
        refine ⟨?_, ?_⟩ <;> refine ⟨by first | (simp; done) | (simp; omega), ⟨?_, ?_, ?_, ?_, ?_, ?_, ?_⟩, ?_, ?_⟩ <;> first | (intro j; go_simp; done) | (go_simp; done))
      have hf3 : Fr w2 v3 (fun _ => False) := by rw [← hW]; exact ((Fr.refl _ _).alloc _).alloc _
      clear hW
      have HS3 := hide (And.intro (HS2.out.1.fr hf3 (fun h => h)) (HS2.out.2.fr hf3 (fun h => h)))
      have HD1 := hide (HC1.out.fr hf3 (fun _ _ _ _ _ h => h))
      have HD2 := hide (HC2.out.fr hf3 (fun _ _ _ _ _ h => h))
      have HO2 := hide (HO1.out.fr hf3 (fun _ _ _ _ _ h => h))
      have HT4 := hide (HT3.out.fr hf3 (fun h => h) (fun _ _ _ _ h => h))
      have HF3 := hide (HF2.out.step hf3 (fun _ _ h => h.elim))
      clear hf3
      obtain ⟨⟨l1, ⟨p0, -⟩, -, -⟩, -⟩ := HS3.out
      obtain ⟨⟨l7, ⟨q0, -⟩, -, -⟩, -⟩ := HS7.out
      simp only [LDV] at p0 q0
      go_wp2_with fail
      clear p0 q0 l1 l7 hlt hlt2
      go_loopw [11] (fun x wr => ∃ (k : Nat), k ≤ m ∧ x = .int .i64 k ∧ Hid (Fr v3 wr (fun _ => False))) (fun x _ => m - (intOf x).toNat)
      case atStart => exact ⟨0, by omega, rfl, hide (Fr.refl _ _)⟩
      case round =>
        obtain ⟨k, hk, rfl, HG⟩ := hrel
        obtain ⟨⟨l1, ⟨p0, -⟩, -, -⟩, -⟩ := And.intro (HS3.out.1.fr HG.out (fun h => h)) True.intro
        obtain ⟨⟨l7, ⟨q0, -⟩, -, -⟩, -⟩ := And.intro (HS7.out.1.fr HG.out (fun h => h)) True.intro
        simp only [LDV] at p0 q0
        by_cases hkm : k < m
        · obtain ⟨a, ha⟩ : ∃ a, X.tks[k]? = some a := ⟨_, List.getElem?_eq_getElem (by have := HM.out; omega)⟩
          obtain ⟨b, hb, hmo⟩ := HMO.out.2.1 k a ha
          obtain ⟨b1, o1, rfl, hn1, hl1, hc1⟩ := HO2.out.at ha
          obtain ⟨b2, o2, rfl, hn2, hl2, hc2⟩ := HD1.out.at hb
          have hcc1 : ∀ j u, a.vals[j]? = some u → wr.cell? ⟨b1, o1 + k * 10 + j, none⟩ = some u := fun j u hu => (World.cell?_of_block (w := v3) (a := ⟨b1, o1 + k * 10 + j, none⟩) (HG.out.block b1 hl1 (fun h => h))).trans (hc1 j u hu)
          have hcc2 : ∀ j u, b.vals[j]? = some u → wr.cell? ⟨b2, o2 + k * 10 + j, none⟩ = some u := fun j u hu => (World.cell?_of_block (w := v3) (a := ⟨b2, o2 + k * 10 + j, none⟩) (HG.out.block b2 hl2 (fun h => h))).trans (hc2 j u hu)
          obtain ⟨f0, f1, f2, f3, f4, f5, f6, f7, f8, f9⟩ := tkAt_of hcc1
          obtain ⟨g0, g1, g2, g3, g4, g5, g6, g7, g8, g9⟩ := tkAt_of hcc2
          have hk1 : (0 : Int) ≤ (k : Int) := by omega
          have hk2 : (k : Int) < (m : Int) := by omega
          have hk3 : (k : Int) < (n2 : Int) := by omega
          have gz1 : b1 < wr.heap.size := Nat.lt_of_lt_of_le hl1 HG.out.size
          have gz2 : b2 < wr.heap.size := Nat.lt_of_lt_of_le hl2 HG.out.size
          have HMT := hide hmo
          have HAT := hide (att_range ((ok_iff X).1 HR.out.ok |>.2.2.1 a (List.mem_of_getElem? ha)))
          clear hc1 hc2 hcc1 hcc2 ha hb hmo hn1 hn2 hl1 hl2
          go_upto_region 13 with (fail)
          go_cut [12, 13] from 44 to 97 (fun p q wx => ∃ g1 g2 : Nat, p = .pointer (some ⟨g1, 0, none⟩) ∧ q = .pointer (some ⟨g2, 0, none⟩) ∧ Hid (wx.cell? ⟨g1, 0, none⟩ = some (.string a.pk) ∧ wx.cell? ⟨g1, 1, none⟩ = some (.string a.ts) ∧ wx.cell? ⟨g1, 2, none⟩ = some (.int .i64 a.env) ∧ wx.cell? ⟨g1, 3, none⟩ = some (.int .i64 a.cost) ∧ wx.cell? ⟨g1, 4, none⟩ = some (.int .i64 a.rev) ∧ wx.cell? ⟨g1, 5, none⟩ = some (.int .i64 a.st) ∧ wx.cell? ⟨g1, 6, none⟩ = some (.int .i64 a.att) ∧ wx.cell? ⟨g1, 7, none⟩ = some (.int .i64 a.run) ∧ wx.cell? ⟨g1, 8, none⟩ = some (.int .i64 a.ep) ∧ wx.cell? ⟨g1, 9, none⟩ = some (.int .i64 a.out)) ∧ Hid (wx.cell? ⟨g2, 0, none⟩ = some (.string b.pk) ∧ wx.cell? ⟨g2, 1, none⟩ = some (.string b.ts) ∧ wx.cell? ⟨g2, 2, none⟩ = some (.int .i64 b.env) ∧ wx.cell? ⟨g2, 3, none⟩ = some (.int .i64 b.cost) ∧ wx.cell? ⟨g2, 4, none⟩ = some (.int .i64 b.rev) ∧ wx.cell? ⟨g2, 5, none⟩ = some (.int .i64 b.st) ∧ wx.cell? ⟨g2, 6, none⟩ = some (.int .i64 b.att) ∧ wx.cell? ⟨g2, 7, none⟩ = some (.int .i64 b.run) ∧ wx.cell? ⟨g2, 8, none⟩ = some (.int .i64 b.ep) ∧ wx.cell? ⟨g2, 9, none⟩ = some (.int .i64 b.out)) ∧ Hid (Fr wr wx (fun _ => False)))
          case first =>
            go_region_held3 (fun W => W.cell? ⟨w.heap.size + 1, 0, none⟩ = some (.slice (some ⟨b1, o1, none⟩) m d1) ∧ W.cell? ⟨w2.heap.size, 0, none⟩ = some (.slice (some ⟨b2, o2, none⟩) n2 e1) ∧ (W.cell? ⟨b1, (o1 + k * 10), none⟩ = some (.string a.pk) ∧ W.cell? ⟨b1, (o1 + k * 10) + 1, none⟩ = some (.string a.ts) ∧ W.cell? ⟨b1, (o1 + k * 10) + 2, none⟩ = some (.int .i64 a.env) ∧ W.cell? ⟨b1, (o1 + k * 10) + 3, none⟩ = some (.int .i64 a.cost) ∧ W.cell? ⟨b1, (o1 + k * 10) + 4, none⟩ = some (.int .i64 a.rev) ∧ W.cell? ⟨b1, (o1 + k * 10) + 5, none⟩ = some (.int .i64 a.st) ∧ W.cell? ⟨b1, (o1 + k * 10) + 6, none⟩ = some (.int .i64 a.att) ∧ W.cell? ⟨b1, (o1 + k * 10) + 7, none⟩ = some (.int .i64 a.run) ∧ W.cell? ⟨b1, (o1 + k * 10) + 8, none⟩ = some (.int .i64 a.ep) ∧ W.cell? ⟨b1, (o1 + k * 10) + 9, none⟩ = some (.int .i64 a.out)) ∧ (W.cell? ⟨b2, (o2 + k * 10), none⟩ = some (.string b.pk) ∧ W.cell? ⟨b2, (o2 + k * 10) + 1, none⟩ = some (.string b.ts) ∧ W.cell? ⟨b2, (o2 + k * 10) + 2, none⟩ = some (.int .i64 b.env) ∧ W.cell? ⟨b2, (o2 + k * 10) + 3, none⟩ = some (.int .i64 b.cost) ∧ W.cell? ⟨b2, (o2 + k * 10) + 4, none⟩ = some (.int .i64 b.rev) ∧ W.cell? ⟨b2, (o2 + k * 10) + 5, none⟩ = some (.int .i64 b.st) ∧ W.cell? ⟨b2, (o2 + k * 10) + 6, none⟩ = some (.int .i64 b.att) ∧ W.cell? ⟨b2, (o2 + k * 10) + 7, none⟩ = some (.int .i64 b.run) ∧ W.cell? ⟨b2, (o2 + k * 10) + 8, none⟩ = some (.int .i64 b.ep) ∧ W.cell? ⟨b2, (o2 + k * 10) + 9, none⟩ = some (.int .i64 b.out))) (first | (go_keep; done) | ((try dsimp only); (repeat' apply And.intro) <;> first | (go_keep; done) | ((repeat rw [World.cell?_setCell_other _ _ _ _ (by intro h; injection h; omega)]); go_keep; done))) (fail)
            all_goals
              go_wp2_with fail
              go_meet
              case rel =>
                refine ⟨_, _, rfl, rfl, ?_, ?_, ?_⟩
                · refine ⟨?_, ?_, ?_, ?_, ?_, ?_, ?_, ?_, ?_, ?_⟩ <;> go_simp
                · refine ⟨?_, ?_, ?_, ?_, ?_, ?_, ?_, ?_, ?_, ?_⟩ <;> go_simp
                · exact (((Fr.refl wr _).drew.alloc _).alloc _)
          case rest =>
          obtain ⟨g1', g2', rfl, rfl, HA', HB', HG'⟩ := hcut
          clear f0 f1 f2 f3 f4 f5 f6 f7 f8 f9 g0 g1 g2 g3 g4 g5 g6 g7 g8 g9 p0 q0
          obtain ⟨f0, f1, f2, f3, f4, f5, f6, f7, f8, f9⟩ := HA'.out
          obtain ⟨g0, g1, g2, g3, g4, g5, g6, g7, g8, g9⟩ := HB'.out
          obtain ⟨hdone, ⟨e1', e2', e3', e4'⟩, e5', e6', e7'⟩ := HMT.out
          have hlo : 0 ≤ a.att ∧ a.att ≤ 4 := HAT.out
          clear HA' HB' HMT HAT
          obtain ⟨b0, b1', b2', b3', b4', b5', b6', b7', b8', b9'⟩ := b
          obtain ⟨a0, a1', a2', a3', a4', a5', a6', a7', a8', a9'⟩ := a
          dsimp only at hlo hdone e1' e2' e3' e4' e5' e6' e7' f0 f1 f2 f3 f4 f5 f6 f7 f8 f9 g0 g1 g2 g3 g4 g5 g6 g7 g8 g9
          subst e1' e2' e3' e4' e5'
          have ha1 : decide (b6' < a6') = false := by simp; omega
          have ha2 : decide (a6' + 1 < b6') = false := by simp; omega
          cases hs : (a5' == 2)
          · have hs' : ¬ a5' = 2 := by simpa using hs
            go_wp2_with fail
            go_roundw
            case rel => exact ⟨k + 1, by omega, by go_num, hide (Fr.step HG.out HG'.out (fun _ _ h => h.elim))⟩
            case measure => simp [intOf]; omega
          · have hs' : a5' = 2 := by simpa using hs
            have hab := hdone hs'
            injection hab with n1 n2' n3 n4 n5 n6 n7 n8 n9 n10
            subst n6 n7 n8 n9 n10
            go_wp2_with fail
            go_roundw
            case rel => exact ⟨k + 1, by omega, by go_num, hide (Fr.step HG.out HG'.out (fun _ _ h => h.elim))⟩
            case measure => simp [intOf]; omega
        · have hkm' : decide ((k : Int) < (m : Int)) = false := by simp; omega
          have gz7 : w2.heap.size < wr.heap.size := l7
          go_wp2_with fail
          clear p0 q0 hkm'
          have HR2 := hide (step_ok HR.out.ok HST.out)
          have HACC := hide (((ok_iff X2).1 HR2.out).2.2.2)
          go_loopw [10, 14] (fun dn x wr2 => ∃ (k2 : Nat), k2 ≤ n2 ∧ dn = .int .i64 (accOf (X2.tks.take k2) : Nat) ∧ x = .int .i64 k2 ∧ Hid (Fr v3 wr2 (fun _ => False))) (fun _ x _ => n2 - (intOf x).toNat)
          case atStart => exact ⟨0, by omega, rfl, rfl, hide HG.out⟩
          case round =>
            obtain ⟨k2, hk2, rfl, rfl, HG2⟩ := hrel
            by_cases hkn : k2 < n2
            · obtain ⟨⟨l7', ⟨q0, -⟩, -, -⟩, -⟩ := And.intro (HS7.out.1.fr HG2.out (fun h => h)) True.intro
              simp only [LDV] at q0
              obtain ⟨b, hb⟩ : ∃ b, X2.tks[k2]? = some b := ⟨_, List.getElem?_eq_getElem (by have := HN2.out; omega)⟩
              obtain ⟨b2, o2, rfl, hn2, hl2, hc2⟩ := HD1.out.at hb
              have hf9 : wr.cell? ⟨b2, o2 + k2 * 10 + 9, none⟩ = some (.int .i64 b.out) := (World.cell?_of_block (w := v3) (a := ⟨b2, o2 + k2 * 10 + 9, none⟩) (HG2.out.block b2 hl2 (fun h => h))).trans (hc2 9 _ rfl)
              have hacc := accOf_take hb
              have hle := accOf_le (X2.tks.take k2)
              have hkl : (X2.tks.take k2).length ≤ k2 := by rw [List.length_take]; omega
              have hi1 : (0 : Int) ≤ (k2 : Int) := by omega
              have hi2 : (k2 : Int) < (n2 : Int) := by omega
              obtain ⟨ac, hac⟩ : ∃ ac, accOf (X2.tks.take k2) = ac := ⟨_, rfl⟩
              rw [hac] at hacc hle ⊢
              have hac2 : ac ≤ 128 := by omega
              cases hr : repB b.out
              · have hacc' : accOf (X2.tks.take (k2 + 1)) = ac := by rw [hacc, hr]; rfl
                have HA9 := hide hacc'
                clear hc2 hb hacc hacc' hac hle hkl hn2 hl2
                by_cases h1 : 1 ≤ b.out
                · have h1' : decide (1 ≤ b.out) = true := by simpa using h1
                  have h3' : decide (b.out ≤ 3) = false := by simp [repB, h1] at hr ⊢; omega
                  go_wp2_with fail
                  go_roundw
                  case rel => exact ⟨k2 + 1, by omega, by rw [HA9.out], by go_num, HG2⟩
                  case measure => simp [intOf]; omega
                · have h1' : decide (1 ≤ b.out) = false := by simpa using h1
                  go_wp2_with fail
                  go_roundw
                  case rel => exact ⟨k2 + 1, by omega, by rw [HA9.out], by go_num, HG2⟩
                  case measure => simp [intOf]; omega
              · have hacc' : accOf (X2.tks.take (k2 + 1)) = ac + 1 := by rw [hacc, hr]; rfl
                have HA9 := hide hacc'
                have h1' : decide (1 ≤ b.out) = true := by simp [repB] at hr ⊢; omega
                have h3' : decide (b.out ≤ 3) = true := by simp [repB] at hr ⊢; omega
                clear hc2 hb hacc hacc' hac hle hkl hn2 hl2
                go_wp2_with fail
                go_roundw
                case rel => exact ⟨k2 + 1, by omega, by rw [HA9.out]; go_num, by go_num, HG2⟩
                case measure => simp [intOf]; omega
            · have hk2e : k2 = n2 := by omega
              have hall : X2.tks.take k2 = X2.tks := List.take_of_length_le (by have := HN2.out; omega)
              rw [hall, ← HACC.out]
              have hkm' : decide ((k2 : Int) < (n2 : Int)) = false := by simp; omega
              have HS3' := hide (And.intro (HS3.out.1.fr HG2.out (fun h => h)) (HS3.out.2.fr HG2.out (fun h => h)))
              have HS7' := hide (And.intro (HS7.out.1.fr HG2.out (fun h => h)) (HS7.out.2.fr HG2.out (fun h => h)))
              have HE1 := hide (HD1.out.fr HG2.out (fun _ _ _ _ _ h => h))
              have HE2 := hide (HD2.out.fr HG2.out (fun _ _ _ _ _ h => h))
              have HT5 := hide (HT4.out.fr HG2.out (fun h => h) (fun _ _ _ _ h => h))
              have HF5 := hide (HF3.out.step HG2.out (fun _ _ h => h.elim))
              have gw : w.heap.size + 3 ≤ w2.heap.size := by have := HS2.out.2.1; omega
              clear hall
              obtain ⟨⟨l1, p, gp, -⟩, ⟨l2, q, gq, -⟩⟩ := HS3'.out
              obtain ⟨⟨l3, r, gr, -⟩, ⟨l4, t, gt, -⟩⟩ := HS7'.out
              simp only [LDV] at p q r t
              obtain ⟨p0, p1, p2, p3, p4, p5, p6⟩ := p
              obtain ⟨q0, q1, q2, q3, q4, q5, q6⟩ := q
              obtain ⟨r0, r1, r2, r3, r4, r5, r6⟩ := r
              obtain ⟨t0, t1, t2, t3, t4, t5, t6⟩ := t
              go_upto_region 24 with (fail)
              have k1 : ¬ w2.heap.size = w.heap.size + 1 := by omega
              have k2' : ¬ w2.heap.size = w.heap.size + 2 := by omega
              have k3 : ¬ w2.heap.size + 1 = w.heap.size + 1 := by omega
              have k4 : ¬ w2.heap.size + 1 = w.heap.size + 2 := by omega
              have k5 : ¬ w2.heap.size = w.heap.size + 1 + 1 := by omega
              have k6 : ¬ w2.heap.size + 1 = w.heap.size + 1 + 1 := by omega
              have k7 : ¬ w.heap.size + 1 = w2.heap.size := by omega
              have k8 : ¬ w.heap.size + 2 = w2.heap.size := by omega
              have k9 : ¬ w.heap.size + 1 + 1 = w2.heap.size := by omega
              have k10 : ¬ w.heap.size + 1 = w2.heap.size + 1 := by omega
              have k11 : ¬ w.heap.size + 2 = w2.heap.size + 1 := by omega
              have k12 : ¬ w.heap.size + 1 + 1 = w2.heap.size + 1 := by omega
              have k13 : ¬ w.heap.size = w2.heap.size := by omega
              go_region_held3 (fun W => (W.cell? ⟨w2.heap.size, 0, none⟩ = some (.slice C1 n2 e1) ∧ W.cell? ⟨w2.heap.size, 1, none⟩ = some (.int .i64 X2.r0) ∧ W.cell? ⟨w2.heap.size, 2, none⟩ = some (.int .i64 X2.r1) ∧ W.cell? ⟨w2.heap.size, 3, none⟩ = some (.int .i64 X2.r2) ∧ W.cell? ⟨w2.heap.size, 4, none⟩ = some (.int .i64 X2.r3) ∧ W.cell? ⟨w2.heap.size, 5, none⟩ = some (.int .i64 X2.r4) ∧ W.cell? ⟨w2.heap.size, 6, none⟩ = some (.int .i64 X2.r5)) ∧ (W.cell? ⟨w2.heap.size + 1, 0, none⟩ = some (.slice C2 n2 e2) ∧ W.cell? ⟨w2.heap.size + 1, 1, none⟩ = some (.int .i64 X2.r0) ∧ W.cell? ⟨w2.heap.size + 1, 2, none⟩ = some (.int .i64 X2.r1) ∧ W.cell? ⟨w2.heap.size + 1, 3, none⟩ = some (.int .i64 X2.r2) ∧ W.cell? ⟨w2.heap.size + 1, 4, none⟩ = some (.int .i64 X2.r3) ∧ W.cell? ⟨w2.heap.size + 1, 5, none⟩ = some (.int .i64 X2.r4) ∧ W.cell? ⟨w2.heap.size + 1, 6, none⟩ = some (.int .i64 X2.r5))) (first | (go_keep; done) | ((try dsimp only); (repeat' apply And.intro) <;> first | (go_keep; done) | ((repeat rw [World.cell?_setCell_other _ _ _ _ (by intro h; injection h; omega)]); go_keep; done))) (fail)
              generalize hW : World.setCell (World.setCell (World.setCell (World.setCell (World.setCell (World.setCell (World.setCell (World.setCell (World.setCell (World.setCell (World.setCell (World.setCell (World.setCell (World.setCell wr _ _) _ _) _ _) _ _) _ _) _ _) _ _) _ _) _ _) _ _) _ _) _ _) _ _) _ _ = w5
              obtain ⟨hs5, hf5⟩ : (B7 w5 (w.heap.size + 1) (LDV C1 n2 e1 X2) ∧ B7 w5 (w.heap.size + 2) (LDV C2 n2 e2 X2)) ∧ Fr wr w5 (fun i => i = w.heap.size + 1 ∨ i = w.heap.size + 2) := by
                rw [← hW]
                have hh := put_two (LDV C1 n2 e1 X2) (LDV C2 n2 e2 X2) HS3'.out.1 HS3'.out.2
                simp only [put7, LDV, Nat.add_assoc, Nat.reduceAdd] at hh ⊢
                exact hh
              have HS5 := hide hs5
              have HG5 := hide (HE1.out.fr hf5 (by intro hl b o hA _ hs; have h2 := rs_not_b7 HE1.out tk_str HS3'.out.1 (ldv_no _ _ _ _) hl b o hA; have h3 := rs_not_b7 HE1.out tk_str HS3'.out.2 (ldv_no _ _ _ _) hl b o hA; omega))
              have HG6 := hide (HE2.out.fr hf5 (by intro hl b o hA _ hs; have h2 := rs_not_b7 HE2.out tk_str HS3'.out.1 (ldv_no _ _ _ _) hl b o hA; have h3 := rs_not_b7 HE2.out tk_str HS3'.out.2 (ldv_no _ _ _ _) hl b o hA; omega))
              have HT6 := hide (HT5.out.fr hf5 (by omega) (fun b o hA hl h => by have := HOA.out hl b o hA; omega))
              have HF6 := hide (HF5.out.step hf5 (fun i hi h => by omega))
              clear hW hs5 hf5 p0 p1 p2 p3 p4 p5 p6 q0 q1 q2 q3 q4 q5 q6 r0 r1 r2 r3 r4 r5 r6 t0 t1 t2 t3 t4 t5 t6 gp gq gr gt
              go_wp2_with fail
              go_roundw
              case rel => exact ⟨i - 1, j + 1, X2, C1, C2, e1, e2, n2, a2, by omega, by congr 1; omega, hide (.step HR.out HST.out), HN2, HS5, HG5, HG6, HT6, hide HF6.out.drew, by omega⟩
              case measure => simp [intOf]; omega

end Go.Proofs.Ytjhkgoengoiljaa
