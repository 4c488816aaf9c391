/- Contracts of the functions that these laws reach: part 20: Contracts: Spent of both sides; Contracts: PLAN, the errors; Contracts: RPLAN, the errors; A region that draws its order, its reads first: the tail runs in a world with a name; Contracts: Plan, the new ticket; Contracts of the reference: Plan, the new ticket; Contracts: Plan of both. -/
import Derived.Test.YtjkffgcikbkjeaaGreatP19
import Derived.Test.YtjkffgcikbkjeaaGreatP1
import Derived.StillTailTactics
import Derived.Deep.Cut
import Derived.Deep.RegionLaw
set_option linter.unusedVariables false
set_option linter.unusedSimpArgs false

/- Contracts: Spent of both sides. -/
namespace Go.Proofs.YtjkffgcikbkjeaaGreat
open Go.RowKit

theorem spentOf_take {l : List Tk} {k : Nat} {x : Tk} (h : l[k]? = some x) : spentOf (l.take (k + 1)) = spentOf (l.take k) + x.cost * x.att := by
  rw [List.take_add_one, h]
  exact spentOf_append x _
theorem tk_bounds {t : Tk} (h : tkOk t = true) : 0 ≤ t.cost * t.att ∧ t.cost * t.att ≤ 4194304 := by
  have hc : 1 ≤ t.cost ∧ t.cost ≤ 1048576 := by
    simp only [tkOk, taskOk, costB, Bool.and_eq_true, decide_eq_true_eq] at h
    exact h.1.1.2
  have ha : 0 ≤ t.att ∧ t.att ≤ 4 := by
    simp only [tkOk, Bool.and_eq_true] at h
    have hs := h.2
    unfold stateB at hs
    split at hs
    · simp only [restB, Bool.and_eq_true, decide_eq_true_eq] at hs; omega
    · split at hs
      · simp only [ranB, Bool.and_eq_true, decide_eq_true_eq] at hs; omega
      · split at hs
        · split at hs
          · simp only [ranB, restB, Bool.or_eq_true, Bool.and_eq_true, decide_eq_true_eq] at hs; omega
          · split at hs
            · simp only [ranB, Bool.and_eq_true, decide_eq_true_eq] at hs; omega
            · simp only [ranB, Bool.and_eq_true, decide_eq_true_eq] at hs; omega
        · cases hs
  refine ⟨Int.mul_nonneg (by omega) ha.1, ?_⟩
  have h1 : t.cost * t.att ≤ 1048576 * t.att := Int.mul_le_mul_of_nonneg_right hc.2 ha.1
  omega
def ldc (A : Option Addr) (n c : Nat) (L : Ld) : List Value := [.slice A n c, .int .i64 L.r0, .int .i64 L.r1, .int .i64 L.r2, .int .i64 L.r3, .int .i64 L.r4, .int .i64 L.r5]
set_option maxRecDepth 100000 in
set_option maxHeartbeats 8000000 in
theorem pspent_any (w : World) (A : Option Addr) (c n : Nat) (L : Ld) (hR : Rs w none 10 Tk.vals A L.tks) (hn : L.tks.length = n) (hc63 : n ≤ 4294967296) :
    Calls Tryz.prog 12 #[.agg #[.slice A n c, .int .i64 L.r0, .int .i64 L.r1, .int .i64 L.r2, .int .i64 L.r3, .int .i64 L.r4, .int .i64 L.r5]] w fun e w' => e = .returned (.tuple #[.int .i64 (if L.ok then spentOf L.tks else 0), .int .i64 (if L.ok then 0 else 1)]) ∧ Below w.heap.size w w' := by
  have HR := hide hR
  have HN := hide hn
  clear hR hn
  cases hok : L.ok
  · have HOK := hide hok
    clear hok
    go_enter Tryz.func12, Tryz.ntmps12
    go_upto_region 1 with (fail)
    generalize hW : World.alloc w _ = v
    have HC := hide (show Cb v w.heap.size (ldc A n c L) by rw [← hW]; exact Cb.mk0 (ldc A n c L) (by simp [ldc]) _ rfl)
    have HB := hide (show Below w.heap.size w v by rw [← hW]; exact (Below.refl _ _).alloc (Nat.le_refl _) _)
    obtain ⟨a0, a1, a2, a3, a4, a5, a6⟩ : _ ∧ _ ∧ _ ∧ _ ∧ _ ∧ _ ∧ _ := ⟨HC.out.cell 0 _ rfl, HC.out.cell 1 _ rfl, HC.out.cell 2 _ rfl, HC.out.cell 3 _ rfl, HC.out.cell 4 _ rfl, HC.out.cell 5 _ rfl, HC.out.cell 6 _ rfl⟩; have az := HC.out.sz
    clear hW
    go_wp2_with (go_at_call 25; (with_reducible refine (check_any A c n L _ none (HR.out.below HB.out) HN.out hc63).mono ?_); rintro e w1 ⟨rfl, hb⟩; rw [HOK.out]; have HB1 := hide (HB.out.trans (hb.mono HB.out.size)); clear hb)
    refine bodyPost_ret (v := .tuple #[.int .i64 0, .int .i64 1]) (by simp [results, Tryz.results12, go_sem, *]) rfl ⟨rfl, HB1.out⟩
  · have HOK := hide hok
    have HL := hide ((ok_iff L).1 hok)
    clear hok
    have hn128 : n ≤ 128 := by have := HL.out.1; have := HN.out; omega
    go_enter Tryz.func12, Tryz.ntmps12
    go_upto_region 1 with (fail)
    generalize hW : World.alloc w _ = v
    have HC := hide (show Cb v w.heap.size (ldc A n c L) by rw [← hW]; exact Cb.mk0 (ldc A n c L) (by simp [ldc]) _ rfl)
    have HB := hide (show Below w.heap.size w v by rw [← hW]; exact (Below.refl _ _).alloc (Nat.le_refl _) _)
    obtain ⟨a0, a1, a2, a3, a4, a5, a6⟩ : _ ∧ _ ∧ _ ∧ _ ∧ _ ∧ _ ∧ _ := ⟨HC.out.cell 0 _ rfl, HC.out.cell 1 _ rfl, HC.out.cell 2 _ rfl, HC.out.cell 3 _ rfl, HC.out.cell 4 _ rfl, HC.out.cell 5 _ rfl, HC.out.cell 6 _ rfl⟩; have az := HC.out.sz
    clear hW
    go_upto_region 3 with (go_at_call 25; (with_reducible refine (check_any A c n L _ none (HR.out.below HB.out) HN.out hc63).mono ?_); rintro e w1 ⟨rfl, hb⟩; rw [HOK.out]; have HB1 := hide (HB.out.trans (hb.mono HB.out.size)); have HC1 := hide (HC.out.below hb); clear hb)
    clear a0 a1 a2 a3 a4 a5 a6 az
    obtain ⟨a0, a1, a2, a3, a4, a5, a6⟩ : _ ∧ _ ∧ _ ∧ _ ∧ _ ∧ _ ∧ _ := ⟨HC1.out.cell 0 _ rfl, HC1.out.cell 1 _ rfl, HC1.out.cell 2 _ rfl, HC1.out.cell 3 _ rfl, HC1.out.cell 4 _ rfl, HC1.out.cell 5 _ rfl, HC1.out.cell 6 _ rfl⟩; have az := HC1.out.sz
    go_upto_region 5 with (fail)
    go_loopw [4, 13] (fun u v wr => ∃ (k : Nat) (m : Int), v = .int .i64 (k : Int) ∧ k ≤ n ∧ u = .int .i64 m ∧ 0 ≤ m ∧ m ≤ 4194304 * (k : Int) ∧ Hid (m = spentOf (L.tks.take k)) ∧ Hid (Below w1.heap.size w1 wr)) (fun _ v _ => n - (intOf v).toNat)
    case atStart => exact ⟨0, 0, rfl, by omega, rfl, by omega, by omega, hide rfl, hide (Below.refl _ _)⟩
    case round =>
      obtain ⟨k, m, rfl, hk, rfl, hm0, hm, HM, HBr⟩ := hrel
      clear a0 a1 a2 a3 a4 a5 a6 az
      have HCr := hide (HC1.out.below HBr.out)
      obtain ⟨a0, a1, a2, a3, a4, a5, a6⟩ : _ ∧ _ ∧ _ ∧ _ ∧ _ ∧ _ ∧ _ := ⟨HCr.out.cell 0 _ rfl, HCr.out.cell 1 _ rfl, HCr.out.cell 2 _ rfl, HCr.out.cell 3 _ rfl, HCr.out.cell 4 _ rfl, HCr.out.cell 5 _ rfl, HCr.out.cell 6 _ rfl⟩; have az := HCr.out.sz
      have HBw := hide (HB1.out.trans (HBr.out.mono HB1.out.size))
      by_cases hkn : k = n
      · subst hkn
        go_wp2_with fail
        refine bodyPost_ret (v := .tuple #[.int .i64 m, .int .i64 0]) (by simp [results, Tryz.results12, go_sem, *]) rfl ⟨by rw [HM.out, List.take_of_length_le (by rw [HN.out]; omega)], HBw.out⟩
      · have hklt : (k : Int) < (n : Int) := by omega
        have hk0 : (0 : Int) ≤ (k : Int) := by omega
        obtain ⟨x, hx⟩ : ∃ x, L.tks[k]? = some x := ⟨_, List.getElem?_eq_getElem (by have := HN.out; omega)⟩
        have hbd := tk_bounds (HL.out.2.2.1 x (List.mem_of_getElem? hx))
        have HT := hide (spentOf_take hx)
        obtain ⟨b, o, hA, -, hb, hc⟩ := (HR.out.below HBw.out).at hx
        have c0 : wr.cell? ⟨b, o + k * 10, none⟩ = some (.string x.pk) := hc 0 _ rfl
        have c1 := hc 1 _ rfl
        have c2 := hc 2 _ rfl
        have c3 := hc 3 _ rfl
        have c4 := hc 4 _ rfl
        have c5 := hc 5 _ rfl
        have c6 := hc 6 _ rfl
        have c7 := hc 7 _ rfl
        have c8 := hc 8 _ rfl
        have c9 := hc 9 _ rfl
        clear hx hc
        subst hA
        obtain ⟨p, hp⟩ : ∃ p, p = x.cost * x.att := ⟨_, rfl⟩
        rw [← hp] at hbd
        have HPE := hide hp
        obtain ⟨hp0, hp4⟩ := hbd
        have hpw : IntKind.i64.wrap (x.cost * x.att) = p := by rw [← hp]; exact IntWalk.i64_in _ (by omega)
        clear hp
        go_wp2_with fail
        go_roundw
        case rel => exact ⟨k + 1, m + p, by go_num, by omega, by go_num, by omega, by omega, hide (by rw [HT.out, ← HPE.out, ← HM.out]), hide (by first | exact HBr.out.drew | ((repeat' (with_reducible refine Below.setCell ?_ (by first | (simp; done) | (simp; omega)) _)); exact HBr.out.alloc HBr.out.size _))⟩
        case measure => simp [intOf] <;> omega
set_option maxRecDepth 100000 in
set_option maxHeartbeats 8000000 in
theorem r38spent_any (w : World) (A : Option Addr) (c n : Nat) (L : Ld) (hR : Rs w none 10 Tk.vals A L.tks) (hn : L.tks.length = n) (hc63 : n ≤ 4294967296) :
    Calls Tryz.prog 23 #[.agg #[.slice A n c, .int .i64 L.r0, .int .i64 L.r1, .int .i64 L.r2, .int .i64 L.r3, .int .i64 L.r4, .int .i64 L.r5]] w fun e w' => e = .returned (.tuple #[.int .i64 (if L.ok then spentOf L.tks else 0), .int .i64 (if L.ok then 0 else 1)]) ∧ Below w.heap.size w w' := by
  have HR := hide hR
  have HN := hide hn
  clear hR hn
  cases hok : L.ok
  · have HOK := hide hok
    clear hok
    go_enter Tryz.func23, Tryz.ntmps23
    go_upto_region 1 with (fail)
    generalize hW : World.alloc w _ = v
    have HC := hide (show Cb v w.heap.size (ldc A n c L) by rw [← hW]; exact Cb.mk0 (ldc A n c L) (by simp [ldc]) _ rfl)
    have HB := hide (show Below w.heap.size w v by rw [← hW]; exact (Below.refl _ _).alloc (Nat.le_refl _) _)
    obtain ⟨a0, a1, a2, a3, a4, a5, a6⟩ : _ ∧ _ ∧ _ ∧ _ ∧ _ ∧ _ ∧ _ := ⟨HC.out.cell 0 _ rfl, HC.out.cell 1 _ rfl, HC.out.cell 2 _ rfl, HC.out.cell 3 _ rfl, HC.out.cell 4 _ rfl, HC.out.cell 5 _ rfl, HC.out.cell 6 _ rfl⟩; have az := HC.out.sz
    clear hW
    go_wp2_with (go_at_call 40; (with_reducible refine (rcheck_any A c n L _ none (HR.out.below HB.out) HN.out hc63).mono ?_); rintro e w1 ⟨rfl, hb⟩; rw [HOK.out]; have HB1 := hide (HB.out.trans (hb.mono HB.out.size)); clear hb)
    refine bodyPost_ret (v := .tuple #[.int .i64 0, .int .i64 1]) (by simp [results, Tryz.results23, go_sem, *]) rfl ⟨rfl, HB1.out⟩
  · have HOK := hide hok
    have HL := hide ((ok_iff L).1 hok)
    clear hok
    have hn128 : n ≤ 128 := by have := HL.out.1; have := HN.out; omega
    go_enter Tryz.func23, Tryz.ntmps23
    go_upto_region 1 with (fail)
    generalize hW : World.alloc w _ = v
    have HC := hide (show Cb v w.heap.size (ldc A n c L) by rw [← hW]; exact Cb.mk0 (ldc A n c L) (by simp [ldc]) _ rfl)
    have HB := hide (show Below w.heap.size w v by rw [← hW]; exact (Below.refl _ _).alloc (Nat.le_refl _) _)
    obtain ⟨a0, a1, a2, a3, a4, a5, a6⟩ : _ ∧ _ ∧ _ ∧ _ ∧ _ ∧ _ ∧ _ := ⟨HC.out.cell 0 _ rfl, HC.out.cell 1 _ rfl, HC.out.cell 2 _ rfl, HC.out.cell 3 _ rfl, HC.out.cell 4 _ rfl, HC.out.cell 5 _ rfl, HC.out.cell 6 _ rfl⟩; have az := HC.out.sz
    clear hW
    go_upto_region 3 with (go_at_call 40; (with_reducible refine (rcheck_any A c n L _ none (HR.out.below HB.out) HN.out hc63).mono ?_); rintro e w1 ⟨rfl, hb⟩; rw [HOK.out]; have HB1 := hide (HB.out.trans (hb.mono HB.out.size)); have HC1 := hide (HC.out.below hb); clear hb)
    clear a0 a1 a2 a3 a4 a5 a6 az
    obtain ⟨a0, a1, a2, a3, a4, a5, a6⟩ : _ ∧ _ ∧ _ ∧ _ ∧ _ ∧ _ ∧ _ := ⟨HC1.out.cell 0 _ rfl, HC1.out.cell 1 _ rfl, HC1.out.cell 2 _ rfl, HC1.out.cell 3 _ rfl, HC1.out.cell 4 _ rfl, HC1.out.cell 5 _ rfl, HC1.out.cell 6 _ rfl⟩; have az := HC1.out.sz
    go_upto_region 5 with (fail)
    go_loopw [4, 5] (fun u v wr => ∃ (k : Nat) (m : Int), v = .int .i64 (k : Int) ∧ k ≤ n ∧ u = .int .i64 m ∧ 0 ≤ m ∧ m ≤ 4194304 * (k : Int) ∧ Hid (m = spentOf (L.tks.take k)) ∧ Hid (Below w1.heap.size w1 wr)) (fun _ v _ => n - (intOf v).toNat)
    case atStart => exact ⟨0, 0, rfl, by omega, rfl, by omega, by omega, hide rfl, hide (Below.refl _ _)⟩
    case round =>
      obtain ⟨k, m, rfl, hk, rfl, hm0, hm, HM, HBr⟩ := hrel
      clear a0 a1 a2 a3 a4 a5 a6 az
      have HCr := hide (HC1.out.below HBr.out)
      obtain ⟨a0, a1, a2, a3, a4, a5, a6⟩ : _ ∧ _ ∧ _ ∧ _ ∧ _ ∧ _ ∧ _ := ⟨HCr.out.cell 0 _ rfl, HCr.out.cell 1 _ rfl, HCr.out.cell 2 _ rfl, HCr.out.cell 3 _ rfl, HCr.out.cell 4 _ rfl, HCr.out.cell 5 _ rfl, HCr.out.cell 6 _ rfl⟩; have az := HCr.out.sz
      have HBw := hide (HB1.out.trans (HBr.out.mono HB1.out.size))
      by_cases hkn : k = n
      · subst hkn
        go_wp2_with fail
        refine bodyPost_ret (v := .tuple #[.int .i64 m, .int .i64 0]) (by simp [results, Tryz.results23, go_sem, *]) rfl ⟨by rw [HM.out, List.take_of_length_le (by rw [HN.out]; omega)], HBw.out⟩
      · have hklt : (k : Int) < (n : Int) := by omega
        have hk0 : (0 : Int) ≤ (k : Int) := by omega
        obtain ⟨x, hx⟩ : ∃ x, L.tks[k]? = some x := ⟨_, List.getElem?_eq_getElem (by have := HN.out; omega)⟩
        have hbd := tk_bounds (HL.out.2.2.1 x (List.mem_of_getElem? hx))
        have HT := hide (spentOf_take hx)
        obtain ⟨b, o, hA, -, hb, hc⟩ := (HR.out.below HBw.out).at hx
        have c0 : wr.cell? ⟨b, o + k * 10, none⟩ = some (.string x.pk) := hc 0 _ rfl
        have c1 := hc 1 _ rfl
        have c2 := hc 2 _ rfl
        have c3 := hc 3 _ rfl
        have c4 := hc 4 _ rfl
        have c5 := hc 5 _ rfl
        have c6 := hc 6 _ rfl
        have c7 := hc 7 _ rfl
        have c8 := hc 8 _ rfl
        have c9 := hc 9 _ rfl
        clear hx hc
        subst hA
        obtain ⟨p, hp⟩ : ∃ p, p = x.cost * x.att := ⟨_, rfl⟩
        rw [← hp] at hbd
        have HPE := hide hp
        obtain ⟨hp0, hp4⟩ := hbd
        have hpw : IntKind.i64.wrap (x.cost * x.att) = p := by rw [← hp]; exact IntWalk.i64_in _ (by omega)
        clear hp
        go_upto_region 7 with (fail)
        go_region
        go_wp2_with fail
        go_roundw
        case rel => exact ⟨k + 1, m + p, by go_num, by omega, by go_num, by omega, by omega, hide (by rw [HT.out, ← HPE.out, ← HM.out]), hide (by first | exact HBr.out.drew | ((repeat' (with_reducible refine Below.setCell ?_ (by first | (simp; done) | (simp; omega)) _)); exact HBr.out.alloc HBr.out.size _))⟩
        case measure => simp [intOf] <;> omega
end Go.Proofs.YtjkffgcikbkjeaaGreat

/- Contracts: PLAN, the errors. -/
namespace Go.Proofs.YtjkffgcikbkjeaaGreat
open Go.RowKit

set_option maxRecDepth 100000 in
set_option maxHeartbeats 2000000 in
theorem plan_bad (w : World) (av : Option Nat) (A : Option Addr) (c n : Nat) (L : Ld) (hR : Rs w av 10 Tk.vals A L.tks) (hn : L.tks.length = n) (hc63 : n ≤ 4294967296) (t : Tk) (rev : Int) (hok : L.ok = false) :
    Calls Tryz.prog 16 #[.agg #[.slice A n c, .int .i64 L.r0, .int .i64 L.r1, .int .i64 L.r2, .int .i64 L.r3, .int .i64 L.r4, .int .i64 L.r5], .agg #[.string t.pk, .string t.ts, .int .i64 t.env, .int .i64 t.cost], .int .i64 rev] w fun e w' => e = .returned (.tuple #[.agg #[.slice none 0 0, .int .i64 0, .int .i64 0, .int .i64 0, .int .i64 0, .int .i64 0, .int .i64 0], .int .i64 0, .int .i64 1]) ∧ Below w.heap.size w w' := by
  have hN := hide hn; clear hn
  go_enter Tryz.func16, Tryz.ntmps16
  go_wp2_with (go_at_call 25; refine (check_any A c n L _ av (((hR.alloc _).alloc _).alloc _) hN.out (by omega)).mono ?_; rintro e w1 ⟨rfl, hb1⟩; obtain ⟨hc1, hf1, hz1⟩ := gcell (grown_of_below hb1 none) (w.heap.size + 3) (by first | (simp; done) | (simp; omega)); have : w.heap.size < w1.heap.size := (by omega); have : w.heap.size + 1 < w1.heap.size := (by omega); have : w.heap.size + 2 < w1.heap.size := (by omega))
  refine bodyPost_ret (by simp [results, Tryz.results16, go_sem, hc1]) rfl ⟨rfl, ?_⟩
  (refine Fr.below (S := fun _ => False) ?_ (Nat.le_refl _) (fun _ _ h => h); (repeat' first | (with_reducible refine Fr.setCell ?_ (Or.inl (by first | (simp; done) | (simp; omega))) _) | (with_reducible refine Fr.alloc ?_ _) | (with_reducible refine Fr.drew ?_)); exact ((((Fr.refl w _).alloc _).alloc _).alloc _).below_ hb1)

set_option maxRecDepth 100000 in
set_option maxHeartbeats 2000000 in
theorem plan_task (w : World) (av : Option Nat) (A : Option Addr) (c n : Nat) (L : Ld) (hR : Rs w av 10 Tk.vals A L.tks) (hn : L.tks.length = n) (hc63 : n ≤ 4294967296) (t : Tk) (rev : Int) (hok : L.ok = true) (ht : taskOk t = false) :
    Calls Tryz.prog 16 #[.agg #[.slice A n c, .int .i64 L.r0, .int .i64 L.r1, .int .i64 L.r2, .int .i64 L.r3, .int .i64 L.r4, .int .i64 L.r5], .agg #[.string t.pk, .string t.ts, .int .i64 t.env, .int .i64 t.cost], .int .i64 rev] w fun e w' => e = .returned (.tuple #[.agg #[.slice none 0 0, .int .i64 0, .int .i64 0, .int .i64 0, .int .i64 0, .int .i64 0, .int .i64 0], .int .i64 0, .int .i64 1]) ∧ Below w.heap.size w w' := by
  have hN := hide hn; clear hn
  go_enter Tryz.func16, Tryz.ntmps16
  go_wp2_with (first | (go_at_call 25; refine (check_any A c n L _ av (((hR.alloc _).alloc _).alloc _) hN.out (by omega)).mono ?_; rintro e w1 ⟨rfl, hb1⟩; obtain ⟨hc1, hf1, hz1⟩ := gcell (grown_of_below hb1 none) (w.heap.size + 3) (by first | (simp; done) | (simp; omega)); have : w.heap.size < w1.heap.size := (by omega); have : w.heap.size + 1 < w1.heap.size := (by omega); have : w.heap.size + 2 < w1.heap.size := (by omega)) | (go_at_call 27; refine (shcheck_one w1.heap.size t _ (by unfold TaskAt; refine ⟨?_, ?_, ?_, ?_⟩ <;> go_simp)).mono ?_; rintro e w2 ⟨rfl, hb2⟩; obtain ⟨hc2, hf2, hz2⟩ := gcell (grown_of_below hb2 none) (w1.heap.size + 1) (by simp); have : w1.heap.size < w2.heap.size := (by omega); have : w.heap.size < w2.heap.size := (by omega); have : w.heap.size + 1 < w2.heap.size := (by omega); have : w.heap.size + 2 < w2.heap.size := (by omega)))
  refine bodyPost_ret (by simp [results, Tryz.results16, go_sem, *]) rfl ⟨rfl, ?_⟩
  (refine Fr.below (S := fun _ => False) ?_ (Nat.le_refl _) (fun _ _ h => h); (repeat' first | (with_reducible refine Fr.setCell ?_ (Or.inl (by first | (simp; done) | (simp; omega))) _) | (with_reducible refine Fr.alloc ?_ _) | (with_reducible refine Fr.drew ?_)); exact ((((((Fr.refl w _).alloc _).alloc _).alloc _).below_ hb1).alloc _).below_ hb2)

set_option maxRecDepth 100000 in
set_option maxHeartbeats 2000000 in
theorem plan_rev (w : World) (av : Option Nat) (A : Option Addr) (c n : Nat) (L : Ld) (hR : Rs w av 10 Tk.vals A L.tks) (hn : L.tks.length = n) (hc63 : n ≤ 4294967296) (t : Tk) (rev : Int) (hok : L.ok = true) (ht : taskOk t = true) (hr : revB rev = false) :
    Calls Tryz.prog 16 #[.agg #[.slice A n c, .int .i64 L.r0, .int .i64 L.r1, .int .i64 L.r2, .int .i64 L.r3, .int .i64 L.r4, .int .i64 L.r5], .agg #[.string t.pk, .string t.ts, .int .i64 t.env, .int .i64 t.cost], .int .i64 rev] w fun e w' => e = .returned (.tuple #[.agg #[.slice none 0 0, .int .i64 0, .int .i64 0, .int .i64 0, .int .i64 0, .int .i64 0, .int .i64 0], .int .i64 0, .int .i64 3]) ∧ Below w.heap.size w w' := by
  have hN := hide hn; clear hn
  have hq : ¬ (1 ≤ rev ∧ rev ≤ 1073741824) := by simp [revB] at hr; omega
  have HR := hide hq
  clear hr hq
  go_enter Tryz.func16, Tryz.ntmps16
  go_wp2_with (first | (go_at_call 25; refine (check_any A c n L _ av (((hR.alloc _).alloc _).alloc _) hN.out (by omega)).mono ?_; rintro e w1 ⟨rfl, hb1⟩; obtain ⟨hc1, hf1, hz1⟩ := gcell (grown_of_below hb1 none) (w.heap.size + 3) (by first | (simp; done) | (simp; omega)); have : w.heap.size < w1.heap.size := (by omega); have : w.heap.size + 1 < w1.heap.size := (by omega); have : w.heap.size + 2 < w1.heap.size := (by omega)) | (go_at_call 27; refine (shcheck_one w1.heap.size t _ (by unfold TaskAt; refine ⟨?_, ?_, ?_, ?_⟩ <;> go_simp)).mono ?_; rintro e w2 ⟨rfl, hb2⟩; obtain ⟨hc2, hf2, hz2⟩ := gcell (grown_of_below hb2 none) (w1.heap.size + 1) (by simp); have : w1.heap.size < w2.heap.size := (by omega); have : w.heap.size < w2.heap.size := (by omega); have : w.heap.size + 1 < w2.heap.size := (by omega); have : w.heap.size + 2 < w2.heap.size := (by omega)))
  all_goals first | (exfalso; have := HR.out; omega) | skip
  all_goals
   refine bodyPost_ret (by simp [results, Tryz.results16, go_sem, *]) rfl ⟨rfl, ?_⟩
   (refine Fr.below (S := fun _ => False) ?_ (Nat.le_refl _) (fun _ _ h => h); (repeat' first | (with_reducible refine Fr.setCell ?_ (Or.inl (by first | (simp; done) | (simp; omega))) _) | (with_reducible refine Fr.alloc ?_ _) | (with_reducible refine Fr.drew ?_)); exact ((((((Fr.refl w _).alloc _).alloc _).alloc _).below_ hb1).alloc _).below_ hb2)

set_option maxRecDepth 100000 in
set_option maxHeartbeats 2000000 in
theorem plan_full (w : World) (av : Option Nat) (A : Option Addr) (c n : Nat) (L : Ld) (hR : Rs w av 10 Tk.vals A L.tks) (hn : L.tks.length = n) (hc63 : n ≤ 4294967296) (t : Tk) (rev : Int) (hok : L.ok = true) (ht : taskOk t = true) (hr : revB rev = true) (hf : n = 128) :
    Calls Tryz.prog 16 #[.agg #[.slice A n c, .int .i64 L.r0, .int .i64 L.r1, .int .i64 L.r2, .int .i64 L.r3, .int .i64 L.r4, .int .i64 L.r5], .agg #[.string t.pk, .string t.ts, .int .i64 t.env, .int .i64 t.cost], .int .i64 rev] w fun e w' => e = .returned (.tuple #[.agg #[.slice none 0 0, .int .i64 0, .int .i64 0, .int .i64 0, .int .i64 0, .int .i64 0, .int .i64 0], .int .i64 0, .int .i64 42]) ∧ Below w.heap.size w w' := by
  have hN := hide hn; clear hn
  have hq3 : (n : Int) = 128 := by omega
  clear hf
  have hq1 : 1 ≤ rev := by simp [revB] at hr; omega
  have hq2 : rev ≤ 1073741824 := by simp [revB] at hr; omega
  clear hr
  go_enter Tryz.func16, Tryz.ntmps16
  go_wp2_with (first | (go_at_call 25; refine (check_any A c n L _ av (((hR.alloc _).alloc _).alloc _) hN.out (by omega)).mono ?_; rintro e w1 ⟨rfl, hb1⟩; obtain ⟨hc1, hf1, hz1⟩ := gcell (grown_of_below hb1 none) (w.heap.size + 3) (by first | (simp; done) | (simp; omega)); have : w.heap.size < w1.heap.size := (by omega); have : w.heap.size + 1 < w1.heap.size := (by omega); have : w.heap.size + 2 < w1.heap.size := (by omega)) | (go_at_call 27; refine (shcheck_one w1.heap.size t _ (by unfold TaskAt; refine ⟨?_, ?_, ?_, ?_⟩ <;> go_simp)).mono ?_; rintro e w2 ⟨rfl, hb2⟩; obtain ⟨hc2, hf2, hz2⟩ := gcell (grown_of_below hb2 none) (w1.heap.size + 1) (by simp); have : w1.heap.size < w2.heap.size := (by omega); have : w.heap.size < w2.heap.size := (by omega); have : w.heap.size + 1 < w2.heap.size := (by omega); have : w.heap.size + 2 < w2.heap.size := (by omega)))
  refine bodyPost_ret (by simp [results, Tryz.results16, go_sem, *]) rfl ⟨rfl, ?_⟩
  (refine Fr.below (S := fun _ => False) ?_ (Nat.le_refl _) (fun _ _ h => h); (repeat' first | (with_reducible refine Fr.setCell ?_ (Or.inl (by first | (simp; done) | (simp; omega))) _) | (with_reducible refine Fr.alloc ?_ _) | (with_reducible refine Fr.drew ?_)); exact ((((((Fr.refl w _).alloc _).alloc _).alloc _).below_ hb1).alloc _).below_ hb2)

end Go.Proofs.YtjkffgcikbkjeaaGreat

/- Contracts: RPLAN, the errors. -/
namespace Go.Proofs.YtjkffgcikbkjeaaGreat
open Go.RowKit

end Go.Proofs.YtjkffgcikbkjeaaGreat

/- A region that draws its order, its reads first: the tail runs in a world with a name. -/
namespace Go.Proofs.YtjkffgcikbkjeaaGreat
open Go.RowKit

end Go.Proofs.YtjkffgcikbkjeaaGreat

/- Contracts: Plan, the new ticket. -/
namespace Go.Proofs.YtjkffgcikbkjeaaGreat
open Go.RowKit

theorem vals_of {w : World} {b : Nat} {t : Tk} (h : TkAt w b 0 t) : ∀ j u, t.vals[j]? = some u → w.cell? ⟨b, j, none⟩ = some u := by
  obtain ⟨h0, h1, h2, h3, h4, h5, h6, h7, h8, h9⟩ := h
  intro j u hu
  match j with
  | 0 => simp [Tk.vals] at hu; subst hu; simpa using h0
  | 1 => simp [Tk.vals] at hu; subst hu; simpa using h1
  | 2 => simp [Tk.vals] at hu; subst hu; simpa using h2
  | 3 => simp [Tk.vals] at hu; subst hu; simpa using h3
  | 4 => simp [Tk.vals] at hu; subst hu; simpa using h4
  | 5 => simp [Tk.vals] at hu; subst hu; simpa using h5
  | 6 => simp [Tk.vals] at hu; subst hu; simpa using h6
  | 7 => simp [Tk.vals] at hu; subst hu; simpa using h7
  | 8 => simp [Tk.vals] at hu; subst hu; simpa using h8
  | 9 => simp [Tk.vals] at hu; subst hu; simpa using h9
  | n + 10 => simp [Tk.vals] at hu

set_option maxRecDepth 100000 in
set_option maxHeartbeats 2000000 in
theorem plan_ok (w : World) (av : Option Nat) (A : Option Addr) (c n : Nat) (L : Ld) (hR : Rs w av 10 Tk.vals A L.tks) (hn : L.tks.length = n) (hc63 : n ≤ 4294967296) (t : Tk) (rev : Int) (hok : L.ok = true) (ht : taskOk t = true) (hr : revB rev = true) (hlt : n < 128) (hav : ∀ x, av = some x → x < w.heap.size) :
    Calls Tryz.prog 16 #[.agg #[.slice A n c, .int .i64 L.r0, .int .i64 L.r1, .int .i64 L.r2, .int .i64 L.r3, .int .i64 L.r4, .int .i64 L.r5], .agg #[.string t.pk, .string t.ts, .int .i64 t.env, .int .i64 t.cost], .int .i64 rev] w fun e w' => ∃ A' c', e = .returned (.tuple #[.agg #[.slice A' (n + 1) c', .int .i64 L.r0, .int .i64 L.r1, .int .i64 L.r2, .int .i64 L.r3, .int .i64 L.r4, .int .i64 L.r5], .int .i64 n, .int .i64 0]) ∧
      Rs w' av 10 Tk.vals A' (L.tks ++ [{ t with rev := rev, st := 0, att := 0, run := 0, ep := 0, out := 0 }]) ∧ Below w.heap.size w w' := by
  have hN := hide hn; clear hn
  have hq1 : 1 ≤ rev := by simp [revB] at hr; omega
  have hq2 : rev ≤ 1073741824 := by simp [revB] at hr; omega
  clear hr
  have hq3 : ¬ (n : Int) = 128 := by omega
  have HV := hide hav
  clear hav
  go_enter Tryz.func16, Tryz.ntmps16
  go_upto_region 8 with (first
    | (go_at_call 25; refine (check_any A c n L _ av (((hR.alloc _).alloc _).alloc _) hN.out (by omega)).mono ?_; rintro e w1 ⟨rfl, hb1⟩; obtain ⟨hc1, hf1, hz1⟩ := gcell (grown_of_below hb1 none) (w.heap.size + 3) (by first | (simp; done) | (simp; omega)); have : w.heap.size < w1.heap.size := (by omega); have : w.heap.size + 1 < w1.heap.size := (by omega); have : w.heap.size + 2 < w1.heap.size := (by omega))
    | (go_at_call 27; refine (shcheck_one w1.heap.size t _ (by unfold TaskAt; refine ⟨?_, ?_, ?_, ?_⟩ <;> go_simp)).mono ?_; rintro e w2 ⟨rfl, hb2⟩; obtain ⟨hc2, hf2, hz2⟩ := gcell (grown_of_below hb2 none) (w1.heap.size + 1) (by simp); have : w1.heap.size < w2.heap.size := (by omega); have : w.heap.size < w2.heap.size := (by omega); have : w.heap.size + 1 < w2.heap.size := (by omega); have : w.heap.size + 2 < w2.heap.size := (by omega))
    | (go_at_call 28; refine (copied_any A c n L _ av (((((((hR.alloc _).alloc _).alloc _)).below hb1).alloc _).below hb2) hN.out (by omega)).mono ?_; rintro e w3 ⟨g, rfl, hown3, hb3⟩; obtain ⟨hc3, hf3, hz3⟩ := gcell (grown_of_below hb3 none) w2.heap.size (by simp); have hgg := (hown3.lt g rfl).1; have hgl := (hown3.lt g rfl).2; have : w.heap.size < w3.heap.size := (by omega); have : w.heap.size + 1 < w3.heap.size := (by omega); have : w.heap.size + 2 < w3.heap.size := (by omega); have HO := hide hown3; clear hown3; have p0 : w3.cell? ⟨w.heap.size, 0, none⟩ = some (.slice A n c) := ((hc3 (w.heap.size) (0) (by omega) (by first | (simp; done) | (simp; omega))).trans (by first | (with_reducible assumption) | go_simp)); have p1 : w3.cell? ⟨w.heap.size, 1, none⟩ = some (.int .i64 L.r0) := ((hc3 (w.heap.size) (1) (by omega) (by first | (simp; done) | (simp; omega))).trans (by first | (with_reducible assumption) | go_simp)); have p2 : w3.cell? ⟨w.heap.size, 2, none⟩ = some (.int .i64 L.r1) := ((hc3 (w.heap.size) (2) (by omega) (by first | (simp; done) | (simp; omega))).trans (by first | (with_reducible assumption) | go_simp)); have p3 : w3.cell? ⟨w.heap.size, 3, none⟩ = some (.int .i64 L.r2) := ((hc3 (w.heap.size) (3) (by omega) (by first | (simp; done) | (simp; omega))).trans (by first | (with_reducible assumption) | go_simp)); have p4 : w3.cell? ⟨w.heap.size, 4, none⟩ = some (.int .i64 L.r3) := ((hc3 (w.heap.size) (4) (by omega) (by first | (simp; done) | (simp; omega))).trans (by first | (with_reducible assumption) | go_simp)); have p5 : w3.cell? ⟨w.heap.size, 5, none⟩ = some (.int .i64 L.r4) := ((hc3 (w.heap.size) (5) (by omega) (by first | (simp; done) | (simp; omega))).trans (by first | (with_reducible assumption) | go_simp)); have p6 : w3.cell? ⟨w.heap.size, 6, none⟩ = some (.int .i64 L.r5) := ((hc3 (w.heap.size) (6) (by omega) (by first | (simp; done) | (simp; omega))).trans (by first | (with_reducible assumption) | go_simp)); have q0 : w3.cell? ⟨w.heap.size + 2, 0, none⟩ = some (.slice none 0 0) := ((hc3 (w.heap.size + 2) (0) (by omega) (by first | (simp; done) | (simp; omega))).trans (by first | (with_reducible assumption) | go_simp)); have q1 : w3.cell? ⟨w.heap.size + 2, 1, none⟩ = some (.int .i64 0) := ((hc3 (w.heap.size + 2) (1) (by omega) (by first | (simp; done) | (simp; omega))).trans (by first | (with_reducible assumption) | go_simp)); have q2 : w3.cell? ⟨w.heap.size + 2, 2, none⟩ = some (.int .i64 0) := ((hc3 (w.heap.size + 2) (2) (by omega) (by first | (simp; done) | (simp; omega))).trans (by first | (with_reducible assumption) | go_simp)); have q3 : w3.cell? ⟨w.heap.size + 2, 3, none⟩ = some (.int .i64 0) := ((hc3 (w.heap.size + 2) (3) (by omega) (by first | (simp; done) | (simp; omega))).trans (by first | (with_reducible assumption) | go_simp)); have q4 : w3.cell? ⟨w.heap.size + 2, 4, none⟩ = some (.int .i64 0) := ((hc3 (w.heap.size + 2) (4) (by omega) (by first | (simp; done) | (simp; omega))).trans (by first | (with_reducible assumption) | go_simp)); have q5 : w3.cell? ⟨w.heap.size + 2, 5, none⟩ = some (.int .i64 0) := ((hc3 (w.heap.size + 2) (5) (by omega) (by first | (simp; done) | (simp; omega))).trans (by first | (with_reducible assumption) | go_simp)); have q6 : w3.cell? ⟨w.heap.size + 2, 6, none⟩ = some (.int .i64 0) := ((hc3 (w.heap.size + 2) (6) (by omega) (by first | (simp; done) | (simp; omega))).trans (by first | (with_reducible assumption) | go_simp)); have t0 : w3.cell? ⟨w.heap.size + 1, 0, none⟩ = some (.string t.pk) := ((hc3 (w.heap.size + 1) (0) (by omega) (by first | (simp; done) | (simp; omega))).trans (by first | (with_reducible assumption) | go_simp)); have t1 : w3.cell? ⟨w.heap.size + 1, 1, none⟩ = some (.string t.ts) := ((hc3 (w.heap.size + 1) (1) (by omega) (by first | (simp; done) | (simp; omega))).trans (by first | (with_reducible assumption) | go_simp)); have t2 : w3.cell? ⟨w.heap.size + 1, 2, none⟩ = some (.int .i64 t.env) := ((hc3 (w.heap.size + 1) (2) (by omega) (by first | (simp; done) | (simp; omega))).trans (by first | (with_reducible assumption) | go_simp)); have t3 : w3.cell? ⟨w.heap.size + 1, 3, none⟩ = some (.int .i64 t.cost) := ((hc3 (w.heap.size + 1) (3) (by omega) (by first | (simp; done) | (simp; omega))).trans (by first | (with_reducible assumption) | go_simp)); have g0 : ∀ j, w3.frozen? ⟨w.heap.size, j, none⟩ = false := (fun j => (hf3 (w.heap.size) j (by omega) (by first | (simp; done) | (simp; omega))).trans (by go_simp)); have g1 : ∀ j, w3.frozen? ⟨w.heap.size + 2, j, none⟩ = false := (fun j => (hf3 (w.heap.size + 2) j (by omega) (by first | (simp; done) | (simp; omega))).trans (by go_simp)); clear hc1 hc2 hc3 hf1 hf2 hf3)
    | fail)
  go_upto_region 9 with (first
    | (at_builtin; refine wl_append _ rfl (.tmp 37) (.tmp 41) 26 rfl w2.heap.size 76 _ 10 96 Tryz.underlying26 info76 rfl (by decide) (.slice (some ⟨g, 0, none⟩) n (n + 1)) n L.tks rfl (by ((repeat' first | (with_reducible refine own_far ?_ (by simp [Value.ownBlock]; omega) _) | (with_reducible refine own_drew ?_) | (with_reducible refine World.ownsRow.alloc ?_ _)); exact HO.out)) (some ⟨w3.heap.size, 0, none⟩) 1 1 [{ t with rev := rev, st := 0, att := 0, run := 0, ep := 0, out := 0 }] rfl (rs_one (by intro h; have := HV.out _ h.symm; omega) (by simp) (vals_of (by refine ⟨?_, ?_, ?_, ?_, ?_, ?_, ?_, ?_, ?_, ?_⟩ <;> go_simp))) rfl Tk.vals_len Tk.vals_one (by omega) (by decide) (by simp; omega) ?_; intro A1 c1 w4 hown4 hg4 hat4; obtain ⟨g4, cap4, hv4, hgb4, hgl4⟩ := hown4.form (by omega); injection hv4 with hv1 hv2 hv3; subst hv1; subst hv3; clear hv2; obtain ⟨hc4, hf4, hz4⟩ := gcell (row := some g) hg4 w3.heap.size (by simp); have p0 : w4.cell? ⟨w.heap.size, 0, none⟩ = some (.slice (some ⟨g, 0, none⟩) n (n + 1)) := ((hc4 (w.heap.size) (0) (by omega) (by first | (simp; done) | (simp; omega))).trans (by first | (with_reducible assumption) | go_simp)); have p1 : w4.cell? ⟨w.heap.size, 1, none⟩ = some (.int .i64 L.r0) := ((hc4 (w.heap.size) (1) (by omega) (by first | (simp; done) | (simp; omega))).trans (by first | (with_reducible assumption) | go_simp)); have p2 : w4.cell? ⟨w.heap.size, 2, none⟩ = some (.int .i64 L.r1) := ((hc4 (w.heap.size) (2) (by omega) (by first | (simp; done) | (simp; omega))).trans (by first | (with_reducible assumption) | go_simp)); have p3 : w4.cell? ⟨w.heap.size, 3, none⟩ = some (.int .i64 L.r2) := ((hc4 (w.heap.size) (3) (by omega) (by first | (simp; done) | (simp; omega))).trans (by first | (with_reducible assumption) | go_simp)); have p4 : w4.cell? ⟨w.heap.size, 4, none⟩ = some (.int .i64 L.r3) := ((hc4 (w.heap.size) (4) (by omega) (by first | (simp; done) | (simp; omega))).trans (by first | (with_reducible assumption) | go_simp)); have p5 : w4.cell? ⟨w.heap.size, 5, none⟩ = some (.int .i64 L.r4) := ((hc4 (w.heap.size) (5) (by omega) (by first | (simp; done) | (simp; omega))).trans (by first | (with_reducible assumption) | go_simp)); have p6 : w4.cell? ⟨w.heap.size, 6, none⟩ = some (.int .i64 L.r5) := ((hc4 (w.heap.size) (6) (by omega) (by first | (simp; done) | (simp; omega))).trans (by first | (with_reducible assumption) | go_simp)); have q0 : w4.cell? ⟨w.heap.size + 2, 0, none⟩ = some (.slice none 0 0) := ((hc4 (w.heap.size + 2) (0) (by omega) (by first | (simp; done) | (simp; omega))).trans (by first | (with_reducible assumption) | go_simp)); have q1 : w4.cell? ⟨w.heap.size + 2, 1, none⟩ = some (.int .i64 0) := ((hc4 (w.heap.size + 2) (1) (by omega) (by first | (simp; done) | (simp; omega))).trans (by first | (with_reducible assumption) | go_simp)); have q2 : w4.cell? ⟨w.heap.size + 2, 2, none⟩ = some (.int .i64 0) := ((hc4 (w.heap.size + 2) (2) (by omega) (by first | (simp; done) | (simp; omega))).trans (by first | (with_reducible assumption) | go_simp)); have q3 : w4.cell? ⟨w.heap.size + 2, 3, none⟩ = some (.int .i64 0) := ((hc4 (w.heap.size + 2) (3) (by omega) (by first | (simp; done) | (simp; omega))).trans (by first | (with_reducible assumption) | go_simp)); have q4 : w4.cell? ⟨w.heap.size + 2, 4, none⟩ = some (.int .i64 0) := ((hc4 (w.heap.size + 2) (4) (by omega) (by first | (simp; done) | (simp; omega))).trans (by first | (with_reducible assumption) | go_simp)); have q5 : w4.cell? ⟨w.heap.size + 2, 5, none⟩ = some (.int .i64 0) := ((hc4 (w.heap.size + 2) (5) (by omega) (by first | (simp; done) | (simp; omega))).trans (by first | (with_reducible assumption) | go_simp)); have q6 : w4.cell? ⟨w.heap.size + 2, 6, none⟩ = some (.int .i64 0) := ((hc4 (w.heap.size + 2) (6) (by omega) (by first | (simp; done) | (simp; omega))).trans (by first | (with_reducible assumption) | go_simp)); have g2 : ∀ j, w4.frozen? ⟨w.heap.size, j, none⟩ = false := (fun j => (hf4 (w.heap.size) j (by omega) (by first | (simp; done) | (simp; omega))).trans (by go_simp)); have g3 : ∀ j, w4.frozen? ⟨w.heap.size + 2, j, none⟩ = false := (fun j => (hf4 (w.heap.size + 2) j (by omega) (by first | (simp; done) | (simp; omega))).trans (by go_simp)); clear hc4 hf4 t0 t1 t2 t3 g0 g1; have HO4 := hide hown4; have HG4 := hide hg4; clear hown4 hg4 hat4)
    | fail)
  generalize hW : World.setCell w4 _ _ = w5
  have p0 : w5.cell? ⟨w.heap.size, 0, none⟩ = some (.slice (some ⟨g4, 0, none⟩) (n + 1) c1) := (by rw [← hW]; clear hW; go_simp); have p1 : w5.cell? ⟨w.heap.size, 1, none⟩ = some (.int .i64 L.r0) := (by rw [← hW]; clear hW; go_simp); have p2 : w5.cell? ⟨w.heap.size, 2, none⟩ = some (.int .i64 L.r1) := (by rw [← hW]; clear hW; go_simp); have p3 : w5.cell? ⟨w.heap.size, 3, none⟩ = some (.int .i64 L.r2) := (by rw [← hW]; clear hW; go_simp); have p4 : w5.cell? ⟨w.heap.size, 4, none⟩ = some (.int .i64 L.r3) := (by rw [← hW]; clear hW; go_simp); have p5 : w5.cell? ⟨w.heap.size, 5, none⟩ = some (.int .i64 L.r4) := (by rw [← hW]; clear hW; go_simp); have p6 : w5.cell? ⟨w.heap.size, 6, none⟩ = some (.int .i64 L.r5) := (by rw [← hW]; clear hW; go_simp)
  have q0 : w5.cell? ⟨w.heap.size + 2, 0, none⟩ = some (.slice none 0 0) := (by rw [← hW]; clear hW; go_simp); have q1 : w5.cell? ⟨w.heap.size + 2, 1, none⟩ = some (.int .i64 0) := (by rw [← hW]; clear hW; go_simp); have q2 : w5.cell? ⟨w.heap.size + 2, 2, none⟩ = some (.int .i64 0) := (by rw [← hW]; clear hW; go_simp); have q3 : w5.cell? ⟨w.heap.size + 2, 3, none⟩ = some (.int .i64 0) := (by rw [← hW]; clear hW; go_simp); have q4 : w5.cell? ⟨w.heap.size + 2, 4, none⟩ = some (.int .i64 0) := (by rw [← hW]; clear hW; go_simp); have q5 : w5.cell? ⟨w.heap.size + 2, 5, none⟩ = some (.int .i64 0) := (by rw [← hW]; clear hW; go_simp); have q6 : w5.cell? ⟨w.heap.size + 2, 6, none⟩ = some (.int .i64 0) := (by rw [← hW]; clear hW; go_simp)
  have g5 : ∀ j, w5.frozen? ⟨w.heap.size + 2, j, none⟩ = false := (by intro j; rw [← hW]; clear hW; go_simp)
  have HW := hide hW
  clear hW g2 g3
  go_region
  go_wp2_with fail
  refine bodyPost_ret (v := .tuple #[.agg #[.slice (some ⟨g4, 0, none⟩) (n + 1) c1, .int .i64 L.r0, .int .i64 L.r1, .int .i64 L.r2, .int .i64 L.r3, .int .i64 L.r4, .int .i64 L.r5], .int .i64 n, .int .i64 0]) (by simp [results, Tryz.results16, go_sem, *]) rfl ⟨some ⟨g4, 0, none⟩, c1, rfl, ?_, ?_⟩
  · refine Rs.of_own (base := w.heap.size) (n := n + 1) (c := c1) (e := 76) ?_ Tk.vals_len (by simp [hN.out]) HV.out
    have hW := HW.out
    clear HW
    subst hW
    ((repeat' first | (with_reducible refine own_far ?_ (by simp [Value.ownBlock]; omega) _) | (with_reducible refine own_drew ?_) | (with_reducible refine World.ownsRow.alloc ?_ _)); exact own_base HO4.out (by omega))
  · refine Fr.below (S := fun _ => False) ?_ (Nat.le_refl _) (fun _ _ h => h)
    have hW := HW.out
    clear HW
    subst hW
    (repeat' first | (with_reducible refine Fr.setCell ?_ (Or.inl (by first | (simp; done) | (simp; omega))) _) | (with_reducible refine Fr.alloc ?_ _) | (with_reducible refine Fr.drew ?_))
    refine Fr.grown (row := some g) ?_ HG4.out (by intro g' h; simp at h; omega)
    (repeat' first | (with_reducible refine Fr.setCell ?_ (Or.inl (by first | (simp; done) | (simp; omega))) _) | (with_reducible refine Fr.alloc ?_ _) | (with_reducible refine Fr.drew ?_))
    exact ((((((((Fr.refl w _).alloc _).alloc _).alloc _).below_ hb1).alloc _).below_ hb2).below_ hb3)

end Go.Proofs.YtjkffgcikbkjeaaGreat

/- Contracts of the reference: Plan, the new ticket. -/
namespace Go.Proofs.YtjkffgcikbkjeaaGreat
open Go.RowKit

end Go.Proofs.YtjkffgcikbkjeaaGreat

/- Contracts: Plan of both. -/
namespace Go.Proofs.YtjkffgcikbkjeaaGreat
open Go.RowKit

theorem plan_any (w : World) (av : Option Nat) (A : Option Addr) (c n : Nat) (L : Ld) (hR : Rs w av 10 Tk.vals A L.tks) (hn : L.tks.length = n) (hc63 : n ≤ 4294967296) (t : Tk) (rev : Int) (hav : ∀ x, av = some x → x < w.heap.size) :
    Calls Tryz.prog 16 #[.agg #[.slice A n c, .int .i64 L.r0, .int .i64 L.r1, .int .i64 L.r2, .int .i64 L.r3, .int .i64 L.r4, .int .i64 L.r5], .agg #[.string t.pk, .string t.ts, .int .i64 t.env, .int .i64 t.cost], .int .i64 rev] w fun e w' => ∃ A' c', e = .returned (.tuple #[.agg #[.slice A' (L.plan t rev).1.tks.length c', .int .i64 (L.plan t rev).1.r0, .int .i64 (L.plan t rev).1.r1, .int .i64 (L.plan t rev).1.r2, .int .i64 (L.plan t rev).1.r3, .int .i64 (L.plan t rev).1.r4, .int .i64 (L.plan t rev).1.r5], .int .i64 (L.plan t rev).2.1, .int .i64 (L.plan t rev).2.2]) ∧ Rs w' av 10 Tk.vals A' (L.plan t rev).1.tks ∧ Below w.heap.size w w' := by
  cases hok : L.ok
  · have e1 : L.plan t rev = (.nil, 0, 1) := by simp [Ld.plan, hok]
    rw [e1]
    exact (plan_bad w av A c n L hR hn hc63 t rev hok).mono fun e w' ⟨he, hb⟩ => ⟨none, 0, he, Rs.nil, hb⟩
  cases ht : taskOk t
  · have e1 : L.plan t rev = (.nil, 0, 1) := by simp [Ld.plan, hok, ht]
    rw [e1]
    exact (plan_task w av A c n L hR hn hc63 t rev hok ht).mono fun e w' ⟨he, hb⟩ => ⟨none, 0, he, Rs.nil, hb⟩
  cases hr : revB rev
  · have e1 : L.plan t rev = (.nil, 0, 3) := by simp [Ld.plan, hok, ht, hr]
    rw [e1]
    exact (plan_rev w av A c n L hR hn hc63 t rev hok ht hr).mono fun e w' ⟨he, hb⟩ => ⟨none, 0, he, Rs.nil, hb⟩
  by_cases hf : n = 128
  · have e1 : L.plan t rev = (.nil, 0, 42) := by simp [Ld.plan, hok, ht, hr, hn, hf]
    rw [e1]
    exact (plan_full w av A c n L hR hn hc63 t rev hok ht hr hf).mono fun e w' ⟨he, hb⟩ => ⟨none, 0, he, Rs.nil, hb⟩
  have h128 : n ≤ 128 := by simp [Ld.ok, hn] at hok; omega
  have e1 : L.plan t rev = ({ L with tks := L.tks ++ [{ t with rev := rev, st := 0, att := 0, run := 0, ep := 0, out := 0 }] }, (n : Int), 0) := by simp [Ld.plan, hok, ht, hr, hn, hf]
  rw [e1]
  refine (plan_ok w av A c n L hR hn hc63 t rev hok ht hr (by omega) hav).mono fun e w' ⟨A', c', he, hr', hb⟩ => ⟨A', c', ?_, hr', hb⟩
  have hlen : (L.tks ++ [{ t with rev := rev, st := 0, att := 0, run := 0, ep := 0, out := 0 }]).length = n + 1 := by simp [hn]
  dsimp only
  rw [hlen]
  exact he

end Go.Proofs.YtjkffgcikbkjeaaGreat
