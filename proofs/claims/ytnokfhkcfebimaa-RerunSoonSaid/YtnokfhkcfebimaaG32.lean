/- Contracts of the functions that these laws reach: part 32: Contracts: the reference's between, AtLeast, AtMost; Contracts: the reference's AtLeast, AtMost; Plain laws: the reference's sums count what the program's count; Plain laws of the bounds of a rate; The walk of the law NoiseTails; Contracts: report's closures, within, sort.Search over them. -/
import Derived.Test.YtnokfhkcfebimaaG31
import Derived.Test.YtnokfhkcfebimaaG19
import Derived.Test.YtnokfhkcfebimaaG26
set_option linter.unusedVariables false
set_option linter.unusedSimpArgs false

/- Contracts: the reference's between, AtLeast, AtMost. -/
namespace Go.Proofs.Ytnokfhkcfebimaa
open Go.RowKit

theorem sm_stop {r : Rat} {N : Nat} {f : Nat → Bool} {k : Nat} (h : ∀ j, k ≤ j → j ≤ N → f j = false) : ∀ m, sm r N f (k + m) = sm r N f k
  | 0 => rfl
  | m + 1 => by
    show sm r N f (k + m) + (if f (k + m) = true then tm r N (k + m) else 0) = _
    have add0 : ∀ x : Rat, x + 0 = x := fun x => by grind
    rw [sm_stop h m]
    by_cases hN : k + m ≤ N
    · rw [h _ (by omega) hN, if_neg (by simp), add0]
    · rw [tm_over (show N < k + m by omega)]
      split <;> rw [add0]
theorem sm_start {r : Rat} {N : Nat} {f : Nat → Bool} : ∀ {k : Nat}, (∀ j, j < k → f j = false) → sm r N f k = 0
  | 0, _ => rfl
  | k + 1, h => by
    show sm r N f k + (if f k = true then tm r N k else 0) = _
    have add0 : ∀ x : Rat, x + 0 = x := fun x => by grind
    rw [sm_start (fun j hj => h j (by omega)), h k (by omega), if_neg (by simp), add0]
theorem sm_end {r : Rat} {N : Nat} {f : Nat → Bool} {k : Nat} (h : ∀ j, k ≤ j → j ≤ N → f j = false) : sm r N f k = tot r N f := by
  unfold tot
  rcases Nat.le_total k (N + 1) with h1 | h1
  · obtain ⟨d, hd⟩ := Nat.exists_eq_add_of_le h1
    rw [hd, sm_stop h]
  · obtain ⟨d, rfl⟩ := Nat.exists_eq_add_of_le h1
    rw [sm_stop (k := N + 1) (fun j h2 h3 => by omega)]
def btw (lo hi : Int) (j : Nat) : Bool := decide (lo ≤ (j : Int)) && decide ((j : Int) ≤ hi)
end Go.Proofs.Ytnokfhkcfebimaa

/- Contracts: the reference's AtLeast, AtMost. -/
namespace Go.Proofs.Ytnokfhkcfebimaa
open Go.RowKit

end Go.Proofs.Ytnokfhkcfebimaa

/- Plain laws: the reference's sums count what the program's count. -/
namespace Go.Proofs.Ytnokfhkcfebimaa
open Go.RowKit

theorem sm_congr {r : Rat} {N : Nat} {f g : Nat → Bool} : ∀ {m : Nat}, (∀ j, j < m → f j = g j) → sm r N f m = sm r N g m
  | 0, _ => rfl
  | m + 1, h => by
    show sm r N f m + (if f m = true then tm r N m else 0) = sm r N g m + (if g m = true then tm r N m else 0)
    rw [sm_congr (fun j hj => h j (by omega)), h m (by omega)]
theorem tot_congr {r : Rat} {N : Nat} {f g : Nat → Bool} (h : ∀ j, j ≤ N → f j = g j) : tot r N f = tot r N g :=
  sm_congr (fun j hj => h j (by omega))
theorem totR_congr {o : Option Rat} {n : Int} {f g : Nat → Bool} (h : ∀ j : Nat, (j : Int) ≤ n → f j = g j) : totR o n f = totR o n g := by
  unfold totR
  split
  · split
    · rfl
    · cases o with
      | none => rfl
      | some r =>
        show (some (tot r n.toNat f), (0 : Int)) = (some (tot r n.toNat g), 0)
        rw [tot_congr (fun j hj => h j (by omega))]
  · rfl
theorem totR_ge (o : Option Rat) (n m : Int) : totR o n (btw m n) = totR o n (fun j => decide (m ≤ (j : Int))) :=
  totR_congr (fun j hj => by simp [btw, hj])
theorem totR_le (o : Option Rat) (n m : Int) : totR o n (btw 0 m) = totR o n (fun j => decide ((j : Int) ≤ m)) :=
  totR_congr (fun j hj => by simp [btw])
end Go.Proofs.Ytnokfhkcfebimaa

/- Plain laws of the bounds of a rate. -/
namespace Go.Proofs.Ytnokfhkcfebimaa

/-- At most k failures, at least k failures. -/
def atM (r : Rat) (n : Nat) (k : Int) : Rat := tot r n (fun j => decide ((j : Int) ≤ k))
def atL (r : Rat) (n : Nat) (k : Int) : Rat := tot r n (fun j => decide (k ≤ (j : Int)))
theorem atM_split (r : Rat) (n : Nat) (k : Int) : atM r n k = 1 - atL r n (k + 1) := by
  have h := tot_split r n (fun j => decide ((j : Int) ≤ k))
  have e : tot r n (fun i => !decide ((i : Int) ≤ k)) = atL r n (k + 1) := tot_congr (fun j _ => by
    rw [← decide_not]; exact decide_eq_decide.2 (by omega))
  rw [e] at h
  unfold atM
  grind
theorem up_closed (k : Int) (i : Nat) : decide (k ≤ (i : Int)) = true → decide (k ≤ ((i + 1 : Nat) : Int)) = true := by simp; omega
theorem atL_grow {r s : Rat} (h0 : 0 ≤ r) (h1 : s ≤ 1) (h : r ≤ s) (n : Nat) (k : Int) : atL r n k ≤ atL s n k := tot_grow h0 h1 h (up_closed k)
theorem atM_anti {r s : Rat} (h0 : 0 ≤ r) (h1 : s ≤ 1) (h : r ≤ s) (n : Nat) (k : Int) : atM s n k ≤ atM r n k := by
  rw [atM_split, atM_split]
  have := atL_grow h0 h1 h n (k + 1)
  grind
theorem atM_runs {r : Rat} (h0 : 0 ≤ r) (h1 : r ≤ 1) (n : Nat) (k : Int) : atM r (n + 1) k ≤ atM r n k := by
  rw [atM_split, atM_split]
  have : atL r n (k + 1) ≤ atL r (n + 1) (k + 1) := tot_more h0 h1 (up_closed (k + 1))
  grind
theorem atM_more {r : Rat} (h0 : 0 ≤ r) (h1 : r ≤ 1) (n : Nat) {k m : Int} (h : k ≤ m) : atM r n k ≤ atM r n m :=
  tot_mono h0 h1 (fun i hi => by simp at hi ⊢; omega)
theorem atL_less {r : Rat} (h0 : 0 ≤ r) (h1 : r ≤ 1) (n : Nat) {k m : Int} (h : k ≤ m) : atL r n m ≤ atL r n k :=
  tot_mono h0 h1 (fun i hi => by simp at hi ⊢; omega)
/-- What a search ends with. -/
def IsSr (g : Nat → Bool) (N r : Nat) : Prop := r ≤ N ∧ (r = 0 ∨ g (r - 1) = false) ∧ (r = N ∨ g r = true)
/-- The least one. -/
def IsLst (g : Nat → Bool) (N r : Nat) : Prop := r ≤ N ∧ (∀ h, h < r → g h = false) ∧ (r < N → g r = true)
theorem IsSr.lst {g : Nat → Bool} {N r : Nat} (h : IsSr g N r) (hm : ∀ i j, i ≤ j → g i = true → g j = true) : IsLst g N r := by
  obtain ⟨h1, h2, h3⟩ := h
  refine ⟨h1, fun i hi => ?_, fun hr => ?_⟩
  · rcases h2 with h2 | h2
    · omega
    · cases hg : g i with
      | false => rfl
      | true => rw [hm i (r - 1) (by omega) hg] at h2; cases h2
  · rcases h3 with h3 | h3
    · omega
    · exact h3
theorem IsLst.uniq {g : Nat → Bool} {N r s : Nat} (h : IsLst g N r) (k : IsLst g N s) : r = s := by
  rcases Nat.lt_trichotomy r s with h1 | h1 | h1
  · have := k.2.1 r h1
    rw [h.2.2 (by have := k.1; omega)] at this
    cases this
  · exact h1
  · have := h.2.1 s h1
    rw [k.2.2 (by have := h.1; omega)] at this
    cases this
theorem IsLst.cut {g : Nat → Bool} {N M r : Nat} (h : IsLst g N r) (hM : M ≤ N) : IsLst g M (min r M) := by
  obtain ⟨h1, h2, h3⟩ := h
  exact ⟨Nat.min_le_right _ _, fun i hi => h2 i (by omega), fun hr => by
    have e : min r M = r := by omega
    rw [e]; exact h3 (by omega)⟩
theorem IsLst.mono {g g' : Nat → Bool} {N r s : Nat} (h : IsLst g N r) (k : IsLst g' N s) (hg : ∀ i, g i = true → g' i = true) : s ≤ r := by
  rcases Nat.lt_or_ge r s with h1 | h1
  · have h2 := k.2.1 r h1
    rw [hg r (h.2.2 (by have := k.1; omega))] at h2
    cases h2
  · exact h1
/-- The greatest one. -/
def IsGrt (g : Nat → Bool) (N v : Nat) : Prop := v ≤ N ∧ (v = 0 ∨ g v = true) ∧ (v = N ∨ g (v + 1) = false)
theorem IsGrt.uniq {g : Nat → Bool} {N v u : Nat} (hm : ∀ i j, i ≤ j → g j = true → g i = true) (h : IsGrt g N v) (k : IsGrt g N u) : v = u := by
  have key : ∀ {v u : Nat}, IsGrt g N v → IsGrt g N u → ¬ v < u := by
    intro v u h k hlt
    rcases k.2.1 with h1 | h1
    · omega
    · rcases h.2.2 with h2 | h2
      · have := k.1; omega
      · rw [hm (v + 1) u (by omega) h1] at h2; cases h2
  have h1 := key h k
  have h2 := key k h
  omega
theorem IsLst.grt {g : Nat → Bool} {N r : Nat} (hm : ∀ i j, i ≤ j → g j = true → g i = true) (h : IsLst (fun i => !g i) (N + 1) r) : IsGrt g N (r - 1) := by
  obtain ⟨h1, h2, h3⟩ := h
  refine ⟨by omega, ?_, ?_⟩
  · rcases Nat.eq_zero_or_pos r with h4 | h4
    · left; omega
    · right
      have := h2 (r - 1) (by omega)
      simpa using this
  · by_cases h4 : r - 1 = N
    · exact .inl h4
    · right
      rcases Nat.eq_zero_or_pos r with h5 | h5
      · subst h5
        have h6 := h3 (by omega)
        simp only [Bool.not_eq_true'] at h6
        cases h7 : g (0 - 1 + 1) with
        | false => rfl
        | true => rw [hm 0 _ (by omega) h7] at h6; cases h6
      · have h6 := h3 (by omega)
        rw [show r - 1 + 1 = r by omega]
        simpa using h6
end Go.Proofs.Ytnokfhkcfebimaa

/- The walk of the law NoiseTails. -/
namespace Go.Proofs.Ytnokfhkcfebimaa
open Go.RowKit

theorem atmost_okI (w : World) (a : Fa) (r : Rat) (n : Nat) (N m : Int) (hN : N = n) (ha : Fo w a (some r)) (hc : Chn r) (hn : n ≤ 32) : Calls Try.prog 53 #[.agg #[.slice a.A a.n a.c, .slice a.B a.m a.d], .int .i64 N, .int .i64 m] w fun e w' => RetV w (tot r n (fun j => decide ((j : Int) ≤ m))) e w' := by
  subst hN
  exact atmost_ok w a r n m ha hc hn
theorem tails_one (r : Rat) (n : Nat) (k : Int) : tot r n (fun j => decide (k ≤ (j : Int))) + tot r n (fun j => decide ((j : Int) ≤ k - 1)) = 1 := by
  have h := tot_split r n (fun j => decide (k ≤ (j : Int)))
  have e : (fun j : Nat => !decide (k ≤ (j : Int))) = (fun j : Nat => decide ((j : Int) ≤ k - 1)) := by
    funext j
    rw [← decide_not]
    exact decide_eq_decide.2 (by omega)
  rw [e] at h
  exact h
end Go.Proofs.Ytnokfhkcfebimaa

/- Contracts: report's closures, within, sort.Search over them. -/
namespace Go.Proofs.Ytnokfhkcfebimaa
open Go.RowKit

theorem mk1000_chn {b : Nat} (h : b ≤ 1000) : Chn (mkRat (b : Int) 1000) := mk_chn (by omega) h (by omega)

set_option maxRecDepth 100000 in
set_option maxHeartbeats 8000000 in
theorem upg_any (w : World) (p : Fa) (r : Rat) (n : Nat) (m : Int) (b3 b4 : Nat) (h3 : w.cell? ⟨b3, 0, none⟩ = some (.int .i64 (n : Int))) (h4 : w.cell? ⟨b4, 0, none⟩ = some (.int .i64 m)) (s3 : b3 < w.heap.size) (s4 : b4 < w.heap.size) (hp : Fo w p (some r)) (hc : Chn r) (hn : n ≤ 32) :
    Calls Try.prog 95 #[.agg #[.slice p.A p.n p.c, .slice p.B p.m p.d], .pointer (some ⟨b3, 0, none⟩), .pointer (some ⟨b4, 0, none⟩)] w fun e w' => RetV w (atM r n m) e w' := by
  have HP := hide hp
  have HC := hide hc
  go_enter Try.func95, Try.ntmps95
  go_upto_region 1 with (fail)
  generalize hW : World.alloc (World.alloc w _) _ = v
  have HB := hide (show Bf v w.heap.size p r by rw [← hW]; exact ⟨(Bq.mk0 _ p rfl).alloc _, (HP.out.alloc _).alloc _⟩)
  have HR := hide (show Rb v (w.heap.size + 1) by rw [← hW]; exact Rb.mk0 _ (by simp))
  have HV := hide (show Below w.heap.size w v by rw [← hW]; exact ((Below.refl _ _).alloc (Nat.le_refl _) _).alloc (by simp) _)
  have k3 : v.cell? ⟨b3, 0, none⟩ = some (.int .i64 (n : Int)) := by rw [HV.out.cell (by exact s3)]; exact h3
  have k4 : v.cell? ⟨b4, 0, none⟩ = some (.int .i64 m) := by rw [HV.out.cell (by exact s4)]; exact h4
  have s0 := HB.out.b.c0
  have s1 := HB.out.b.c1
  clear hW hp hc h3 h4
  go_wp2_with (go_at_call 53; (with_reducible refine (atmost_ok _ p r n m HB.out.o HC.out hn).mono ?_); rintro e w1 ⟨c, rfl, ho, hb⟩; have HO := hide ho; have HB1 := hide (HV.out.trans (hb.mono HV.out.size)); have HR1 := hide (HR.out.below hb); obtain ⟨z0, z1, zf, zz, -⟩ := HR1.out; clear ho hb)
  refine bodyPost_ret (v := .tuple #[.agg #[.slice c.A c.n c.c, .slice c.B c.m c.d], .int .i64 0]) (by simp [results, Try.results95, go_sem, *]) rfl ⟨c, rfl, HO.out.put2 HR1.out.nb _ _ (by simp), Rb.end0 HB1.out (by omega) _ _⟩
set_option maxRecDepth 100000 in
set_option maxHeartbeats 8000000 in
theorem upwithin_any (w : World) (b : Nat) (hb1 : b ≤ 1000) (al : Fa) (ar : Rat) (n : Nat) (m : Int) (b3 b4 : Nat) (h3 : w.cell? ⟨b3, 0, none⟩ = some (.int .i64 (n : Int))) (h4 : w.cell? ⟨b4, 0, none⟩ = some (.int .i64 m)) (s3 : b3 < w.heap.size) (s4 : b4 < w.heap.size) (ha : Fo w al (some ar)) (hn : n ≤ 32) :
    Calls Try.prog 94 #[.int .i64 (b : Int), .agg #[.slice al.A al.n al.c, .slice al.B al.m al.d], .func (.func 95) #[] #[.pointer (some ⟨b3, 0, none⟩), .pointer (some ⟨b4, 0, none⟩)]] w fun e w' => e = .returned (.bool (decide (atM (mkRat (b : Int) 1000) n m ≤ ar))) ∧ Below w.heap.size w w' := by
  have HA := hide ha
  have HN := hide hn
  have hcc := mk1000_chn hb1
  have HC := hide hcc
  have HF := hide (show ∀ W, Calls Try.prog 123 #[.int .i64 (b : Int), .int .i64 1000] W fun e w' => Ret W (some (mkRat (b : Int) 1000), 0) e w' from fun W => fof_any W b 1000 (by omega) (by omega) (by omega))
  by_cases hle : atM (mkRat (b : Int) 1000) n m ≤ ar
  · have HX := hide (show decide (atM (mkRat (b : Int) 1000) n m ≤ ar) = true from decide_eq_true hle)
    have g1 : decide (cmpO (some (atM (mkRat (b : Int) 1000) n m)) (some ar) ≤ 0) = true := decide_eq_true (cmpQ_le.2 hle)
    clear ha hn hcc hle
    go_enter Try.func94, Try.ntmps94
    go_upto_region 1 with (fail)
    generalize hW : World.alloc w _ = v
    have HV := hide (show Below w.heap.size w v by rw [← hW]; exact (Below.refl _ _).alloc (Nat.le_refl _) _)
    have HL := hide (show Bf v w.heap.size al ar by rw [← hW]; exact ⟨Bq.mk0 _ al rfl, HA.out.alloc _⟩)
    clear hW
    go_upto_region 2 with (go_at_call 123; (with_reducible refine (HF.out _).mono ?_); rintro e w1 ⟨c, rfl, ho, hb⟩; have HO := hide (show Fo w1 c (some (mkRat (b : Int) 1000)) from ho); have HB1 := hide (HV.out.trans (hb.mono HV.out.size)); have HL1 := hide (HL.out.below hb); clear ho hb)
    generalize hW : World.alloc w1 _ = v2
    have HP2 := hide (show Bf v2 w1.heap.size c (mkRat (b : Int) 1000) by rw [← hW]; exact ⟨Bq.mk0 _ c rfl, HO.out.alloc _⟩)
    have HL2 := hide (show Bf v2 w.heap.size al ar by rw [← hW]; exact HL1.out.alloc _)
    have HB2 := hide (show Below w.heap.size w v2 by rw [← hW]; exact HB1.out.alloc HB1.out.size _)
    have k3 : v2.cell? ⟨b3, 0, none⟩ = some (.int .i64 (n : Int)) := by rw [HB2.out.cell (by exact s3)]; exact h3
    have k4 : v2.cell? ⟨b4, 0, none⟩ = some (.int .i64 m) := by rw [HB2.out.cell (by exact s4)]; exact h4
    have z3 : b3 < v2.heap.size := Nat.lt_of_lt_of_le s3 HB2.out.size
    have z4 : b4 < v2.heap.size := Nat.lt_of_lt_of_le s4 HB2.out.size
    obtain ⟨bp, hbp⟩ : ∃ x, x = w1.heap.size := ⟨_, rfl⟩
    rw [← hbp] at HP2 ⊢
    have p0 := HP2.out.b.c0
    have p1 := HP2.out.b.c1
    clear hW hbp h3 h4
    go_upto_region 3 with (go_at_call 95; (with_reducible refine (upg_any _ c _ n m b3 b4 k3 k4 z3 z4 HP2.out.o HC.out HN.out).mono ?_); rintro e w3 ⟨c2, rfl, ho, hb⟩; have HO3 := hide ho; have HB3 := hide (HB2.out.trans (hb.mono HB2.out.size)); have HL3 := hide (HL2.out.below hb); clear ho hb)
    generalize hW : World.alloc w3 _ = v4
    have HP4 := hide (show Bf v4 w3.heap.size c2 _ by rw [← hW]; exact ⟨Bq.mk0 _ c2 rfl, HO3.out.alloc _⟩)
    have HL4 := hide (show Bf v4 w.heap.size al ar by rw [← hW]; exact HL3.out.alloc _)
    have HB4 := hide (show Below w.heap.size w v4 by rw [← hW]; exact HB3.out.alloc HB3.out.size _)
    have q0 := HP4.out.b.c0
    have q1 := HP4.out.b.c1
    have u0 := HL4.out.b.c0
    have u1 := HL4.out.b.c1
    clear hW k3 k4 p0 p1
    go_wp2_with (go_at_call 37; (with_reducible refine (fcmp_o _ c2 al (some (atM (mkRat (b : Int) 1000) n m)) (some ar) HP4.out.o HL4.out.o).mono ?_); rintro e w5 ⟨rfl, hb⟩; have HB8 := hide (HB4.out.trans (hb.mono HB4.out.size)); clear hb)
    refine bodyPost_ret (v := .bool true) (by simp [results, Try.results94, go_sem, *]) rfl ⟨by rw [HX.out], HB8.out⟩
  · have HX := hide (show decide (atM (mkRat (b : Int) 1000) n m ≤ ar) = false from decide_eq_false hle)
    have g1 : decide (cmpO (some (atM (mkRat (b : Int) 1000) n m)) (some ar) ≤ 0) = false := decide_eq_false (fun h => hle (cmpQ_le.1 h))
    clear ha hn hcc hle
    go_enter Try.func94, Try.ntmps94
    go_upto_region 1 with (fail)
    generalize hW : World.alloc w _ = v
    have HV := hide (show Below w.heap.size w v by rw [← hW]; exact (Below.refl _ _).alloc (Nat.le_refl _) _)
    have HL := hide (show Bf v w.heap.size al ar by rw [← hW]; exact ⟨Bq.mk0 _ al rfl, HA.out.alloc _⟩)
    clear hW
    go_upto_region 2 with (go_at_call 123; (with_reducible refine (HF.out _).mono ?_); rintro e w1 ⟨c, rfl, ho, hb⟩; have HO := hide (show Fo w1 c (some (mkRat (b : Int) 1000)) from ho); have HB1 := hide (HV.out.trans (hb.mono HV.out.size)); have HL1 := hide (HL.out.below hb); clear ho hb)
    generalize hW : World.alloc w1 _ = v2
    have HP2 := hide (show Bf v2 w1.heap.size c (mkRat (b : Int) 1000) by rw [← hW]; exact ⟨Bq.mk0 _ c rfl, HO.out.alloc _⟩)
    have HL2 := hide (show Bf v2 w.heap.size al ar by rw [← hW]; exact HL1.out.alloc _)
    have HB2 := hide (show Below w.heap.size w v2 by rw [← hW]; exact HB1.out.alloc HB1.out.size _)
    have k3 : v2.cell? ⟨b3, 0, none⟩ = some (.int .i64 (n : Int)) := by rw [HB2.out.cell (by exact s3)]; exact h3
    have k4 : v2.cell? ⟨b4, 0, none⟩ = some (.int .i64 m) := by rw [HB2.out.cell (by exact s4)]; exact h4
    have z3 : b3 < v2.heap.size := Nat.lt_of_lt_of_le s3 HB2.out.size
    have z4 : b4 < v2.heap.size := Nat.lt_of_lt_of_le s4 HB2.out.size
    obtain ⟨bp, hbp⟩ : ∃ x, x = w1.heap.size := ⟨_, rfl⟩
    rw [← hbp] at HP2 ⊢
    have p0 := HP2.out.b.c0
    have p1 := HP2.out.b.c1
    clear hW hbp h3 h4
    go_upto_region 3 with (go_at_call 95; (with_reducible refine (upg_any _ c _ n m b3 b4 k3 k4 z3 z4 HP2.out.o HC.out HN.out).mono ?_); rintro e w3 ⟨c2, rfl, ho, hb⟩; have HO3 := hide ho; have HB3 := hide (HB2.out.trans (hb.mono HB2.out.size)); have HL3 := hide (HL2.out.below hb); clear ho hb)
    generalize hW : World.alloc w3 _ = v4
    have HP4 := hide (show Bf v4 w3.heap.size c2 _ by rw [← hW]; exact ⟨Bq.mk0 _ c2 rfl, HO3.out.alloc _⟩)
    have HL4 := hide (show Bf v4 w.heap.size al ar by rw [← hW]; exact HL3.out.alloc _)
    have HB4 := hide (show Below w.heap.size w v4 by rw [← hW]; exact HB3.out.alloc HB3.out.size _)
    have q0 := HP4.out.b.c0
    have q1 := HP4.out.b.c1
    have u0 := HL4.out.b.c0
    have u1 := HL4.out.b.c1
    clear hW k3 k4 p0 p1
    go_wp2_with (go_at_call 37; (with_reducible refine (fcmp_o _ c2 al (some (atM (mkRat (b : Int) 1000) n m)) (some ar) HP4.out.o HL4.out.o).mono ?_); rintro e w5 ⟨rfl, hb⟩; have HB8 := hide (HB4.out.trans (hb.mono HB4.out.size)); clear hb)
    refine bodyPost_ret (v := .bool false) (by simp [results, Try.results94, go_sem, *]) rfl ⟨by rw [HX.out], HB8.out⟩
set_option maxRecDepth 100000 in
set_option maxHeartbeats 8000000 in
theorem upcl_any (w : World) (b : Nat) (hb1 : b ≤ 1000) (al : Fa) (ar : Rat) (n : Nat) (m : Int) (b2 b3 b4 : Nat) (h3 : w.cell? ⟨b3, 0, none⟩ = some (.int .i64 (n : Int))) (h4 : w.cell? ⟨b4, 0, none⟩ = some (.int .i64 m)) (s3 : b3 < w.heap.size) (s4 : b4 < w.heap.size) (ha : Bf w b2 al ar) (hn : n ≤ 32) :
    Calls Try.prog 93 #[.int .i64 (b : Int), .pointer (some ⟨b2, 0, none⟩), .pointer (some ⟨b3, 0, none⟩), .pointer (some ⟨b4, 0, none⟩)] w fun e w' => e = .returned (.bool (decide (atM (mkRat (b : Int) 1000) n m ≤ ar))) ∧ Below w.heap.size w w' := by
  have HA := hide ha
  have a0 := ha.b.c0
  have a1 := ha.b.c1
  have HW := hide (upwithin_any w b hb1 al ar n m b3 b4 h3 h4 s3 s4 ha.o hn)
  obtain ⟨g, hg⟩ : ∃ g, g = decide (atM (mkRat (b : Int) 1000) n m ≤ ar) := ⟨_, rfl⟩
  rw [← hg] at HW ⊢
  clear ha h3 h4 hg
  go_enter Try.func93, Try.ntmps93
  go_wp2_with (go_at_call 94; (with_reducible refine HW.out.mono ?_); rintro e w1 ⟨rfl, hb⟩; have HB := hide hb; clear hb)
  refine bodyPost_ret (v := .bool (g)) (by simp [results, Try.results93, go_sem, *]) rfl ⟨rfl, HB.out⟩
set_option maxRecDepth 100000 in
set_option maxHeartbeats 8000000 in
theorem upsearch_any (w : World) (al : Fa) (ar : Rat) (n : Nat) (m : Int) (b2 b3 b4 : Nat) (h3 : w.cell? ⟨b3, 0, none⟩ = some (.int .i64 (n : Int))) (h4 : w.cell? ⟨b4, 0, none⟩ = some (.int .i64 m)) (s3 : b3 < w.heap.size) (s4 : b4 < w.heap.size) (ha : Bf w b2 al ar) (hn : n ≤ 32) :
    Calls Try.prog 92 #[.int .i64 1001, .func (.func 93) #[] #[.pointer (some ⟨b2, 0, none⟩), .pointer (some ⟨b3, 0, none⟩), .pointer (some ⟨b4, 0, none⟩)]] w fun e w' => ∃ r : Nat, e = .returned (.int .i64 (r : Int)) ∧ IsSr (fun (b : Nat) => decide (atM (mkRat (b : Int) 1000) n m ≤ ar)) 1001 r ∧ Below w.heap.size w w' := by
  have HA := hide (show ∀ W, Below w.heap.size w W → ∀ b : Nat, b ≤ 1000 → Calls Try.prog 93 #[.int .i64 (b : Int), .pointer (some ⟨b2, 0, none⟩), .pointer (some ⟨b3, 0, none⟩), .pointer (some ⟨b4, 0, none⟩)] W fun e w' => e = .returned (.bool (decide (atM (mkRat (b : Int) 1000) n m ≤ ar))) ∧ Below W.heap.size W w' from fun W hW b hb =>
    upcl_any W b hb al ar n m b2 b3 b4 (by rw [hW.cell (by exact s3)]; exact h3) (by rw [hW.cell (by exact s4)]; exact h4) (Nat.lt_of_lt_of_le s3 hW.size) (Nat.lt_of_lt_of_le s4 hW.size) (ha.below hW) hn)
  obtain ⟨G, hG⟩ : ∃ G : Nat → Bool, G = fun (b : Nat) => decide (atM (mkRat (b : Int) 1000) n m ≤ ar) := ⟨_, rfl⟩
  rw [← hG]
  have HG := hide (show ∀ W, Below w.heap.size w W → ∀ b : Nat, b ≤ 1000 → Calls Try.prog 93 #[.int .i64 (b : Int), .pointer (some ⟨b2, 0, none⟩), .pointer (some ⟨b3, 0, none⟩), .pointer (some ⟨b4, 0, none⟩)] W fun e w' => e = .returned (.bool (G b)) ∧ Below W.heap.size W w' from fun W hW b hb => by rw [hG]; exact HA.out W hW b hb)
  clear h3 h4 ha HA hG
  go_enter Try.func92, Try.ntmps92
  go_wp2_with fail
  go_loopw [5, 6] (fun iv jv wr => ∃ i j : Nat, iv = .int .i64 (i : Int) ∧ jv = .int .i64 (j : Int) ∧ i ≤ j ∧ j ≤ 1001 ∧ Hid (i = 0 ∨ G (i - 1) = false) ∧ Hid (j = 1001 ∨ G j = true) ∧ Hid (Below w.heap.size w wr)) (fun iv jv _ => ((intOf jv).toNat - (intOf iv).toNat))
  case atStart => exact ⟨0, 1001, rfl, rfl, by omega, by omega, hide (.inl rfl), hide (.inl rfl), hide (Below.refl _ _)⟩
  case round =>
    obtain ⟨i, j, rfl, rfl, hij, hj, HI, HJ, HB⟩ := hrel
    by_cases he : i = j
    · subst he
      have hlt : decide ((i : Int) < (i : Int)) = false := decide_eq_false (by omega)
      go_wp2_with fail
      go_ret
      exact ⟨i, rfl, ⟨hj, HI.out, HJ.out⟩, HB.out⟩
    · have hlt : decide ((i : Int) < (j : Int)) = true := decide_eq_true (by omega)
      have hlt2 : (i : Int) < (j : Int) := by omega
      obtain ⟨h, hh⟩ : ∃ h : Nat, h = (i + j) / 2 := ⟨_, rfl⟩
      have hh1 : i ≤ h := by omega
      have hh2 : h < j := by omega
      have hh3 : ((i : Int) + (j : Int)) / 2 = (h : Int) := by omega
      have hw2 : IntKind.u64.wrap ((i : Int) + (j : Int)) = (i : Int) + (j : Int) := by
        show ((i : Int) + (j : Int)) % 18446744073709551616 = _
        omega
      clear hh
      go_upto_region 4 with (fail)
      clear hh3 hw2
      have HC := hide (HG.out wr HB.out h (by omega))
      cases hg : G h
      · rw [hg] at HC
        have HGH := hide hg
        clear hg
        go_wp2_with (go_at_call 93; (with_reducible refine HC.out.mono ?_); rintro e w2 ⟨rfl, hb⟩; have HB2 := hide (HB.out.trans (hb.mono HB.out.size)); clear hb)
        go_roundw
        case rel => exact ⟨h + 1, j, by go_num, rfl, by omega, hj, hide (.inr (by simpa using HGH.out)), HJ, HB2⟩
        case measure => simp [intOf]; omega
      · rw [hg] at HC
        have HGH := hide hg
        clear hg
        go_wp2_with (go_at_call 93; (with_reducible refine HC.out.mono ?_); rintro e w2 ⟨rfl, hb⟩; have HB2 := hide (HB.out.trans (hb.mono HB.out.size)); clear hb)
        go_roundw
        case rel => exact ⟨i, h, rfl, rfl, by omega, by omega, HI, hide (.inr HGH.out), HB2⟩
        case measure => simp [intOf]; omega

set_option maxRecDepth 100000 in
set_option maxHeartbeats 8000000 in
theorem log_any (w : World) (p : Fa) (r : Rat) (n : Nat) (m : Int) (b3 b4 : Nat) (h3 : w.cell? ⟨b3, 0, none⟩ = some (.int .i64 (n : Int))) (h4 : w.cell? ⟨b4, 0, none⟩ = some (.int .i64 m)) (s3 : b3 < w.heap.size) (s4 : b4 < w.heap.size) (hp : Fo w p (some r)) (hc : Chn r) (hn : n ≤ 32) :
    Calls Try.prog 97 #[.agg #[.slice p.A p.n p.c, .slice p.B p.m p.d], .pointer (some ⟨b3, 0, none⟩), .pointer (some ⟨b4, 0, none⟩)] w fun e w' => RetV w (atL r n m) e w' := by
  have HP := hide hp
  have HC := hide hc
  go_enter Try.func97, Try.ntmps97
  go_upto_region 1 with (fail)
  generalize hW : World.alloc (World.alloc w _) _ = v
  have HB := hide (show Bf v w.heap.size p r by rw [← hW]; exact ⟨(Bq.mk0 _ p rfl).alloc _, (HP.out.alloc _).alloc _⟩)
  have HR := hide (show Rb v (w.heap.size + 1) by rw [← hW]; exact Rb.mk0 _ (by simp))
  have HV := hide (show Below w.heap.size w v by rw [← hW]; exact ((Below.refl _ _).alloc (Nat.le_refl _) _).alloc (by simp) _)
  have k3 : v.cell? ⟨b3, 0, none⟩ = some (.int .i64 (n : Int)) := by rw [HV.out.cell (by exact s3)]; exact h3
  have k4 : v.cell? ⟨b4, 0, none⟩ = some (.int .i64 m) := by rw [HV.out.cell (by exact s4)]; exact h4
  have s0 := HB.out.b.c0
  have s1 := HB.out.b.c1
  clear hW hp hc h3 h4
  go_wp2_with (go_at_call 54; (with_reducible refine (atleast_ok _ p r n m HB.out.o HC.out hn).mono ?_); rintro e w1 ⟨c, rfl, ho, hb⟩; have HO := hide ho; have HB1 := hide (HV.out.trans (hb.mono HV.out.size)); have HR1 := hide (HR.out.below hb); obtain ⟨z0, z1, zf, zz, -⟩ := HR1.out; clear ho hb)
  refine bodyPost_ret (v := .tuple #[.agg #[.slice c.A c.n c.c, .slice c.B c.m c.d], .int .i64 0]) (by simp [results, Try.results97, go_sem, *]) rfl ⟨c, rfl, HO.out.put2 HR1.out.nb _ _ (by simp), Rb.end0 HB1.out (by omega) _ _⟩
set_option maxRecDepth 100000 in
set_option maxHeartbeats 8000000 in
theorem lowithin_any (w : World) (b : Nat) (hb1 : b ≤ 1000) (al : Fa) (ar : Rat) (n : Nat) (m : Int) (b3 b4 : Nat) (h3 : w.cell? ⟨b3, 0, none⟩ = some (.int .i64 (n : Int))) (h4 : w.cell? ⟨b4, 0, none⟩ = some (.int .i64 m)) (s3 : b3 < w.heap.size) (s4 : b4 < w.heap.size) (ha : Fo w al (some ar)) (hn : n ≤ 32) :
    Calls Try.prog 94 #[.int .i64 (b : Int), .agg #[.slice al.A al.n al.c, .slice al.B al.m al.d], .func (.func 97) #[] #[.pointer (some ⟨b3, 0, none⟩), .pointer (some ⟨b4, 0, none⟩)]] w fun e w' => e = .returned (.bool (decide (atL (mkRat (b : Int) 1000) n m ≤ ar))) ∧ Below w.heap.size w w' := by
  have HA := hide ha
  have HN := hide hn
  have hcc := mk1000_chn hb1
  have HC := hide hcc
  have HF := hide (show ∀ W, Calls Try.prog 123 #[.int .i64 (b : Int), .int .i64 1000] W fun e w' => Ret W (some (mkRat (b : Int) 1000), 0) e w' from fun W => fof_any W b 1000 (by omega) (by omega) (by omega))
  by_cases hle : atL (mkRat (b : Int) 1000) n m ≤ ar
  · have HX := hide (show decide (atL (mkRat (b : Int) 1000) n m ≤ ar) = true from decide_eq_true hle)
    have g1 : decide (cmpO (some (atL (mkRat (b : Int) 1000) n m)) (some ar) ≤ 0) = true := decide_eq_true (cmpQ_le.2 hle)
    clear ha hn hcc hle
    go_enter Try.func94, Try.ntmps94
    go_upto_region 1 with (fail)
    generalize hW : World.alloc w _ = v
    have HV := hide (show Below w.heap.size w v by rw [← hW]; exact (Below.refl _ _).alloc (Nat.le_refl _) _)
    have HL := hide (show Bf v w.heap.size al ar by rw [← hW]; exact ⟨Bq.mk0 _ al rfl, HA.out.alloc _⟩)
    clear hW
    go_upto_region 2 with (go_at_call 123; (with_reducible refine (HF.out _).mono ?_); rintro e w1 ⟨c, rfl, ho, hb⟩; have HO := hide (show Fo w1 c (some (mkRat (b : Int) 1000)) from ho); have HB1 := hide (HV.out.trans (hb.mono HV.out.size)); have HL1 := hide (HL.out.below hb); clear ho hb)
    generalize hW : World.alloc w1 _ = v2
    have HP2 := hide (show Bf v2 w1.heap.size c (mkRat (b : Int) 1000) by rw [← hW]; exact ⟨Bq.mk0 _ c rfl, HO.out.alloc _⟩)
    have HL2 := hide (show Bf v2 w.heap.size al ar by rw [← hW]; exact HL1.out.alloc _)
    have HB2 := hide (show Below w.heap.size w v2 by rw [← hW]; exact HB1.out.alloc HB1.out.size _)
    have k3 : v2.cell? ⟨b3, 0, none⟩ = some (.int .i64 (n : Int)) := by rw [HB2.out.cell (by exact s3)]; exact h3
    have k4 : v2.cell? ⟨b4, 0, none⟩ = some (.int .i64 m) := by rw [HB2.out.cell (by exact s4)]; exact h4
    have z3 : b3 < v2.heap.size := Nat.lt_of_lt_of_le s3 HB2.out.size
    have z4 : b4 < v2.heap.size := Nat.lt_of_lt_of_le s4 HB2.out.size
    obtain ⟨bp, hbp⟩ : ∃ x, x = w1.heap.size := ⟨_, rfl⟩
    rw [← hbp] at HP2 ⊢
    have p0 := HP2.out.b.c0
    have p1 := HP2.out.b.c1
    clear hW hbp h3 h4
    go_upto_region 3 with (go_at_call 97; (with_reducible refine (log_any _ c _ n m b3 b4 k3 k4 z3 z4 HP2.out.o HC.out HN.out).mono ?_); rintro e w3 ⟨c2, rfl, ho, hb⟩; have HO3 := hide ho; have HB3 := hide (HB2.out.trans (hb.mono HB2.out.size)); have HL3 := hide (HL2.out.below hb); clear ho hb)
    generalize hW : World.alloc w3 _ = v4
    have HP4 := hide (show Bf v4 w3.heap.size c2 _ by rw [← hW]; exact ⟨Bq.mk0 _ c2 rfl, HO3.out.alloc _⟩)
    have HL4 := hide (show Bf v4 w.heap.size al ar by rw [← hW]; exact HL3.out.alloc _)
    have HB4 := hide (show Below w.heap.size w v4 by rw [← hW]; exact HB3.out.alloc HB3.out.size _)
    have q0 := HP4.out.b.c0
    have q1 := HP4.out.b.c1
    have u0 := HL4.out.b.c0
    have u1 := HL4.out.b.c1
    clear hW k3 k4 p0 p1
    go_wp2_with (go_at_call 37; (with_reducible refine (fcmp_o _ c2 al (some (atL (mkRat (b : Int) 1000) n m)) (some ar) HP4.out.o HL4.out.o).mono ?_); rintro e w5 ⟨rfl, hb⟩; have HB8 := hide (HB4.out.trans (hb.mono HB4.out.size)); clear hb)
    refine bodyPost_ret (v := .bool true) (by simp [results, Try.results94, go_sem, *]) rfl ⟨by rw [HX.out], HB8.out⟩
  · have HX := hide (show decide (atL (mkRat (b : Int) 1000) n m ≤ ar) = false from decide_eq_false hle)
    have g1 : decide (cmpO (some (atL (mkRat (b : Int) 1000) n m)) (some ar) ≤ 0) = false := decide_eq_false (fun h => hle (cmpQ_le.1 h))
    clear ha hn hcc hle
    go_enter Try.func94, Try.ntmps94
    go_upto_region 1 with (fail)
    generalize hW : World.alloc w _ = v
    have HV := hide (show Below w.heap.size w v by rw [← hW]; exact (Below.refl _ _).alloc (Nat.le_refl _) _)
    have HL := hide (show Bf v w.heap.size al ar by rw [← hW]; exact ⟨Bq.mk0 _ al rfl, HA.out.alloc _⟩)
    clear hW
    go_upto_region 2 with (go_at_call 123; (with_reducible refine (HF.out _).mono ?_); rintro e w1 ⟨c, rfl, ho, hb⟩; have HO := hide (show Fo w1 c (some (mkRat (b : Int) 1000)) from ho); have HB1 := hide (HV.out.trans (hb.mono HV.out.size)); have HL1 := hide (HL.out.below hb); clear ho hb)
    generalize hW : World.alloc w1 _ = v2
    have HP2 := hide (show Bf v2 w1.heap.size c (mkRat (b : Int) 1000) by rw [← hW]; exact ⟨Bq.mk0 _ c rfl, HO.out.alloc _⟩)
    have HL2 := hide (show Bf v2 w.heap.size al ar by rw [← hW]; exact HL1.out.alloc _)
    have HB2 := hide (show Below w.heap.size w v2 by rw [← hW]; exact HB1.out.alloc HB1.out.size _)
    have k3 : v2.cell? ⟨b3, 0, none⟩ = some (.int .i64 (n : Int)) := by rw [HB2.out.cell (by exact s3)]; exact h3
    have k4 : v2.cell? ⟨b4, 0, none⟩ = some (.int .i64 m) := by rw [HB2.out.cell (by exact s4)]; exact h4
    have z3 : b3 < v2.heap.size := Nat.lt_of_lt_of_le s3 HB2.out.size
    have z4 : b4 < v2.heap.size := Nat.lt_of_lt_of_le s4 HB2.out.size
    obtain ⟨bp, hbp⟩ : ∃ x, x = w1.heap.size := ⟨_, rfl⟩
    rw [← hbp] at HP2 ⊢
    have p0 := HP2.out.b.c0
    have p1 := HP2.out.b.c1
    clear hW hbp h3 h4
    go_upto_region 3 with (go_at_call 97; (with_reducible refine (log_any _ c _ n m b3 b4 k3 k4 z3 z4 HP2.out.o HC.out HN.out).mono ?_); rintro e w3 ⟨c2, rfl, ho, hb⟩; have HO3 := hide ho; have HB3 := hide (HB2.out.trans (hb.mono HB2.out.size)); have HL3 := hide (HL2.out.below hb); clear ho hb)
    generalize hW : World.alloc w3 _ = v4
    have HP4 := hide (show Bf v4 w3.heap.size c2 _ by rw [← hW]; exact ⟨Bq.mk0 _ c2 rfl, HO3.out.alloc _⟩)
    have HL4 := hide (show Bf v4 w.heap.size al ar by rw [← hW]; exact HL3.out.alloc _)
    have HB4 := hide (show Below w.heap.size w v4 by rw [← hW]; exact HB3.out.alloc HB3.out.size _)
    have q0 := HP4.out.b.c0
    have q1 := HP4.out.b.c1
    have u0 := HL4.out.b.c0
    have u1 := HL4.out.b.c1
    clear hW k3 k4 p0 p1
    go_wp2_with (go_at_call 37; (with_reducible refine (fcmp_o _ c2 al (some (atL (mkRat (b : Int) 1000) n m)) (some ar) HP4.out.o HL4.out.o).mono ?_); rintro e w5 ⟨rfl, hb⟩; have HB8 := hide (HB4.out.trans (hb.mono HB4.out.size)); clear hb)
    refine bodyPost_ret (v := .bool false) (by simp [results, Try.results94, go_sem, *]) rfl ⟨by rw [HX.out], HB8.out⟩
set_option maxRecDepth 100000 in
set_option maxHeartbeats 8000000 in
theorem locl_any (w : World) (b : Nat) (hb1 : b ≤ 1000) (al : Fa) (ar : Rat) (n : Nat) (m : Int) (b2 b3 b4 : Nat) (h3 : w.cell? ⟨b3, 0, none⟩ = some (.int .i64 (n : Int))) (h4 : w.cell? ⟨b4, 0, none⟩ = some (.int .i64 m)) (s3 : b3 < w.heap.size) (s4 : b4 < w.heap.size) (ha : Bf w b2 al ar) (hn : n ≤ 32) :
    Calls Try.prog 96 #[.int .i64 (b : Int), .pointer (some ⟨b2, 0, none⟩), .pointer (some ⟨b3, 0, none⟩), .pointer (some ⟨b4, 0, none⟩)] w fun e w' => e = .returned (.bool (!decide (atL (mkRat (b : Int) 1000) n m ≤ ar))) ∧ Below w.heap.size w w' := by
  have HA := hide ha
  have a0 := ha.b.c0
  have a1 := ha.b.c1
  have HW := hide (lowithin_any w b hb1 al ar n m b3 b4 h3 h4 s3 s4 ha.o hn)
  obtain ⟨g, hg⟩ : ∃ g, g = decide (atL (mkRat (b : Int) 1000) n m ≤ ar) := ⟨_, rfl⟩
  rw [← hg] at HW ⊢
  clear ha h3 h4 hg
  go_enter Try.func96, Try.ntmps96
  go_wp2_with (go_at_call 94; (with_reducible refine HW.out.mono ?_); rintro e w1 ⟨rfl, hb⟩; have HB := hide hb; clear hb)
  refine bodyPost_ret (v := .bool (!g)) (by simp [results, Try.results96, go_sem, *]) rfl ⟨rfl, HB.out⟩
set_option maxRecDepth 100000 in
set_option maxHeartbeats 8000000 in
theorem losearch_any (w : World) (al : Fa) (ar : Rat) (n : Nat) (m : Int) (b2 b3 b4 : Nat) (h3 : w.cell? ⟨b3, 0, none⟩ = some (.int .i64 (n : Int))) (h4 : w.cell? ⟨b4, 0, none⟩ = some (.int .i64 m)) (s3 : b3 < w.heap.size) (s4 : b4 < w.heap.size) (ha : Bf w b2 al ar) (hn : n ≤ 32) :
    Calls Try.prog 92 #[.int .i64 1001, .func (.func 96) #[] #[.pointer (some ⟨b2, 0, none⟩), .pointer (some ⟨b3, 0, none⟩), .pointer (some ⟨b4, 0, none⟩)]] w fun e w' => ∃ r : Nat, e = .returned (.int .i64 (r : Int)) ∧ IsSr (fun (b : Nat) => !decide (atL (mkRat (b : Int) 1000) n m ≤ ar)) 1001 r ∧ Below w.heap.size w w' := by
  have HA := hide (show ∀ W, Below w.heap.size w W → ∀ b : Nat, b ≤ 1000 → Calls Try.prog 96 #[.int .i64 (b : Int), .pointer (some ⟨b2, 0, none⟩), .pointer (some ⟨b3, 0, none⟩), .pointer (some ⟨b4, 0, none⟩)] W fun e w' => e = .returned (.bool (!decide (atL (mkRat (b : Int) 1000) n m ≤ ar))) ∧ Below W.heap.size W w' from fun W hW b hb =>
    locl_any W b hb al ar n m b2 b3 b4 (by rw [hW.cell (by exact s3)]; exact h3) (by rw [hW.cell (by exact s4)]; exact h4) (Nat.lt_of_lt_of_le s3 hW.size) (Nat.lt_of_lt_of_le s4 hW.size) (ha.below hW) hn)
  obtain ⟨G, hG⟩ : ∃ G : Nat → Bool, G = fun (b : Nat) => !decide (atL (mkRat (b : Int) 1000) n m ≤ ar) := ⟨_, rfl⟩
  rw [← hG]
  have HG := hide (show ∀ W, Below w.heap.size w W → ∀ b : Nat, b ≤ 1000 → Calls Try.prog 96 #[.int .i64 (b : Int), .pointer (some ⟨b2, 0, none⟩), .pointer (some ⟨b3, 0, none⟩), .pointer (some ⟨b4, 0, none⟩)] W fun e w' => e = .returned (.bool (G b)) ∧ Below W.heap.size W w' from fun W hW b hb => by rw [hG]; exact HA.out W hW b hb)
  clear h3 h4 ha HA hG
  go_enter Try.func92, Try.ntmps92
  go_wp2_with fail
  go_loopw [5, 6] (fun iv jv wr => ∃ i j : Nat, iv = .int .i64 (i : Int) ∧ jv = .int .i64 (j : Int) ∧ i ≤ j ∧ j ≤ 1001 ∧ Hid (i = 0 ∨ G (i - 1) = false) ∧ Hid (j = 1001 ∨ G j = true) ∧ Hid (Below w.heap.size w wr)) (fun iv jv _ => ((intOf jv).toNat - (intOf iv).toNat))
  case atStart => exact ⟨0, 1001, rfl, rfl, by omega, by omega, hide (.inl rfl), hide (.inl rfl), hide (Below.refl _ _)⟩
  case round =>
    obtain ⟨i, j, rfl, rfl, hij, hj, HI, HJ, HB⟩ := hrel
    by_cases he : i = j
    · subst he
      have hlt : decide ((i : Int) < (i : Int)) = false := decide_eq_false (by omega)
      go_wp2_with fail
      go_ret
      exact ⟨i, rfl, ⟨hj, HI.out, HJ.out⟩, HB.out⟩
    · have hlt : decide ((i : Int) < (j : Int)) = true := decide_eq_true (by omega)
      have hlt2 : (i : Int) < (j : Int) := by omega
      obtain ⟨h, hh⟩ : ∃ h : Nat, h = (i + j) / 2 := ⟨_, rfl⟩
      have hh1 : i ≤ h := by omega
      have hh2 : h < j := by omega
      have hh3 : ((i : Int) + (j : Int)) / 2 = (h : Int) := by omega
      have hw2 : IntKind.u64.wrap ((i : Int) + (j : Int)) = (i : Int) + (j : Int) := by
        show ((i : Int) + (j : Int)) % 18446744073709551616 = _
        omega
      clear hh
      go_upto_region 4 with (fail)
      clear hh3 hw2
      have HC := hide (HG.out wr HB.out h (by omega))
      cases hg : G h
      · rw [hg] at HC
        have HGH := hide hg
        clear hg
        go_wp2_with (go_at_call 96; (with_reducible refine HC.out.mono ?_); rintro e w2 ⟨rfl, hb⟩; have HB2 := hide (HB.out.trans (hb.mono HB.out.size)); clear hb)
        go_roundw
        case rel => exact ⟨h + 1, j, by go_num, rfl, by omega, hj, hide (.inr (by simpa using HGH.out)), HJ, HB2⟩
        case measure => simp [intOf]; omega
      · rw [hg] at HC
        have HGH := hide hg
        clear hg
        go_wp2_with (go_at_call 96; (with_reducible refine HC.out.mono ?_); rintro e w2 ⟨rfl, hb⟩; have HB2 := hide (HB.out.trans (hb.mono HB.out.size)); clear hb)
        go_roundw
        case rel => exact ⟨i, h, rfl, rfl, by omega, by omega, HI, hide (.inr HGH.out), HB2⟩
        case measure => simp [intOf]; omega
end Go.Proofs.Ytnokfhkcfebimaa
