/- Contracts of the functions that these laws reach: part 24: Contracts: report's closures, within, sort.Search over them; Contracts: report.check, Upper, Lower. -/
import Derived.Test.YtjkffgcikbkjeaaGreatP23
import Derived.Test.YtjkffgcikbkjeaaGreatP18
set_option linter.unusedVariables false
set_option linter.unusedSimpArgs false

/- Contracts: report's closures, within, sort.Search over them. -/
namespace Go.Proofs.YtjkffgcikbkjeaaGreat
open Go.RowKit

theorem mk1000_chn {b : Nat} (h : b ≤ 1000) : Chn (mkRat (b : Int) 1000) := mk_chn (by omega) h (by omega)

set_option maxRecDepth 100000 in
set_option maxHeartbeats 8000000 in
theorem upg_any (w : World) (p : Fa) (r : Rat) (n : Nat) (m : Int) (b3 b4 : Nat) (h3 : w.cell? ⟨b3, 0, none⟩ = some (.int .i64 (n : Int))) (h4 : w.cell? ⟨b4, 0, none⟩ = some (.int .i64 m)) (s3 : b3 < w.heap.size) (s4 : b4 < w.heap.size) (hp : Fo w p (some r)) (hc : Chn r) (hn : n ≤ 32) :
    Calls Tryz.prog 38 #[.agg #[.slice p.A p.n p.c, .slice p.B p.m p.d], .pointer (some ⟨b3, 0, none⟩), .pointer (some ⟨b4, 0, none⟩)] w fun e w' => RetV w (atM r n m) e w' := by
  have HP := hide hp
  have HC := hide hc
  go_enter Tryz.func38, Tryz.ntmps38
  go_upto_region 1 with (fail)
  generalize hW : World.alloc (World.alloc w _) _ = v
  have HB := hide (show Bf v w.heap.size p r by rw [← hW]; exact ⟨(Bq.mk0 _ p rfl).alloc _, (HP.out.alloc _).alloc _⟩)
  have HR := hide (show Rb v (w.heap.size + 1) by rw [← hW]; exact Rb.mk0 _ (by simp))
  have HV := hide (show Below w.heap.size w v by rw [← hW]; exact ((Below.refl _ _).alloc (Nat.le_refl _) _).alloc (by simp) _)
  have k3 : v.cell? ⟨b3, 0, none⟩ = some (.int .i64 (n : Int)) := by rw [HV.out.cell (by exact s3)]; exact h3
  have k4 : v.cell? ⟨b4, 0, none⟩ = some (.int .i64 m) := by rw [HV.out.cell (by exact s4)]; exact h4
  have s0 := HB.out.b.c0
  have s1 := HB.out.b.c1
  clear hW hp hc h3 h4
  go_wp2_with (go_at_call 39; (with_reducible refine (atmost_ok _ p r n m HB.out.o HC.out hn).mono ?_); rintro e w1 ⟨c, rfl, ho, hb⟩; have HO := hide ho; have HB1 := hide (HV.out.trans (hb.mono HV.out.size)); have HR1 := hide (HR.out.below hb); obtain ⟨z0, z1, zf, zz, -⟩ := HR1.out; clear ho hb)
  refine bodyPost_ret (v := .tuple #[.agg #[.slice c.A c.n c.c, .slice c.B c.m c.d], .int .i64 0]) (by simp [results, Tryz.results38, go_sem, *]) rfl ⟨c, rfl, HO.out.put2 HR1.out.nb _ _ (by simp), Rb.end0 HB1.out (by omega) _ _⟩
set_option maxRecDepth 100000 in
set_option maxHeartbeats 8000000 in
theorem upwithin_any (w : World) (b : Nat) (hb1 : b ≤ 1000) (al : Fa) (ar : Rat) (n : Nat) (m : Int) (b3 b4 : Nat) (h3 : w.cell? ⟨b3, 0, none⟩ = some (.int .i64 (n : Int))) (h4 : w.cell? ⟨b4, 0, none⟩ = some (.int .i64 m)) (s3 : b3 < w.heap.size) (s4 : b4 < w.heap.size) (ha : Fo w al (some ar)) (hn : n ≤ 32) :
    Calls Tryz.prog 37 #[.int .i64 (b : Int), .agg #[.slice al.A al.n al.c, .slice al.B al.m al.d], .func (.func 38) #[] #[.pointer (some ⟨b3, 0, none⟩), .pointer (some ⟨b4, 0, none⟩)]] w fun e w' => e = .returned (.bool (decide (atM (mkRat (b : Int) 1000) n m ≤ ar))) ∧ Below w.heap.size w w' := by
  have HA := hide ha
  have HN := hide hn
  have hcc := mk1000_chn hb1
  have HC := hide hcc
  have HF := hide (show ∀ W, Calls Tryz.prog 52 #[.int .i64 (b : Int), .int .i64 1000] W fun e w' => Ret W (some (mkRat (b : Int) 1000), 0) e w' from fun W => fof_any W b 1000 (by omega) (by omega) (by omega))
  by_cases hle : atM (mkRat (b : Int) 1000) n m ≤ ar
  · have HX := hide (show decide (atM (mkRat (b : Int) 1000) n m ≤ ar) = true from decide_eq_true hle)
    have g1 : decide (cmpO (some (atM (mkRat (b : Int) 1000) n m)) (some ar) ≤ 0) = true := decide_eq_true (cmpQ_le.2 hle)
    clear ha hn hcc hle
    go_enter Tryz.func37, Tryz.ntmps37
    go_upto_region 1 with (fail)
    generalize hW : World.alloc w _ = v
    have HV := hide (show Below w.heap.size w v by rw [← hW]; exact (Below.refl _ _).alloc (Nat.le_refl _) _)
    have HL := hide (show Bf v w.heap.size al ar by rw [← hW]; exact ⟨Bq.mk0 _ al rfl, HA.out.alloc _⟩)
    clear hW
    go_upto_region 2 with (go_at_call 52; (with_reducible refine (HF.out _).mono ?_); rintro e w1 ⟨c, rfl, ho, hb⟩; have HO := hide (show Fo w1 c (some (mkRat (b : Int) 1000)) from ho); have HB1 := hide (HV.out.trans (hb.mono HV.out.size)); have HL1 := hide (HL.out.below hb); clear ho hb)
    generalize hW : World.alloc w1 _ = v2
    have HP2 := hide (show Bf v2 w1.heap.size c (mkRat (b : Int) 1000) by rw [← hW]; exact ⟨Bq.mk0 _ c rfl, HO.out.alloc _⟩)
    have HL2 := hide (show Bf v2 w.heap.size al ar by rw [← hW]; exact HL1.out.alloc _)
    have HB2 := hide (show Below w.heap.size w v2 by rw [← hW]; exact HB1.out.alloc HB1.out.size _)
    have k3 : v2.cell? ⟨b3, 0, none⟩ = some (.int .i64 (n : Int)) := by rw [HB2.out.cell (by exact s3)]; exact h3
    have k4 : v2.cell? ⟨b4, 0, none⟩ = some (.int .i64 m) := by rw [HB2.out.cell (by exact s4)]; exact h4
    have z3 : b3 < v2.heap.size := Nat.lt_of_lt_of_le s3 HB2.out.size
    have z4 : b4 < v2.heap.size := Nat.lt_of_lt_of_le s4 HB2.out.size
    obtain ⟨bp, hbp⟩ : ∃ x, x = w1.heap.size := ⟨_, rfl⟩
    rw [← hbp] at HP2 ⊢
    have p0 := HP2.out.b.c0
    have p1 := HP2.out.b.c1
    clear hW hbp h3 h4
    go_upto_region 3 with (go_at_call 38; (with_reducible refine (upg_any _ c _ n m b3 b4 k3 k4 z3 z4 HP2.out.o HC.out HN.out).mono ?_); rintro e w3 ⟨c2, rfl, ho, hb⟩; have HO3 := hide ho; have HB3 := hide (HB2.out.trans (hb.mono HB2.out.size)); have HL3 := hide (HL2.out.below hb); clear ho hb)
    generalize hW : World.alloc w3 _ = v4
    have HP4 := hide (show Bf v4 w3.heap.size c2 _ by rw [← hW]; exact ⟨Bq.mk0 _ c2 rfl, HO3.out.alloc _⟩)
    have HL4 := hide (show Bf v4 w.heap.size al ar by rw [← hW]; exact HL3.out.alloc _)
    have HB4 := hide (show Below w.heap.size w v4 by rw [← hW]; exact HB3.out.alloc HB3.out.size _)
    have q0 := HP4.out.b.c0
    have q1 := HP4.out.b.c1
    have u0 := HL4.out.b.c0
    have u1 := HL4.out.b.c1
    clear hW k3 k4 p0 p1
    go_wp2_with (go_at_call 54; (with_reducible refine (fcmp_o _ c2 al (some (atM (mkRat (b : Int) 1000) n m)) (some ar) HP4.out.o HL4.out.o).mono ?_); rintro e w5 ⟨rfl, hb⟩; have HB8 := hide (HB4.out.trans (hb.mono HB4.out.size)); clear hb)
    refine bodyPost_ret (v := .bool true) (by simp [results, Tryz.results37, go_sem, *]) rfl ⟨by rw [HX.out], HB8.out⟩
  · have HX := hide (show decide (atM (mkRat (b : Int) 1000) n m ≤ ar) = false from decide_eq_false hle)
    have g1 : decide (cmpO (some (atM (mkRat (b : Int) 1000) n m)) (some ar) ≤ 0) = false := decide_eq_false (fun h => hle (cmpQ_le.1 h))
    clear ha hn hcc hle
    go_enter Tryz.func37, Tryz.ntmps37
    go_upto_region 1 with (fail)
    generalize hW : World.alloc w _ = v
    have HV := hide (show Below w.heap.size w v by rw [← hW]; exact (Below.refl _ _).alloc (Nat.le_refl _) _)
    have HL := hide (show Bf v w.heap.size al ar by rw [← hW]; exact ⟨Bq.mk0 _ al rfl, HA.out.alloc _⟩)
    clear hW
    go_upto_region 2 with (go_at_call 52; (with_reducible refine (HF.out _).mono ?_); rintro e w1 ⟨c, rfl, ho, hb⟩; have HO := hide (show Fo w1 c (some (mkRat (b : Int) 1000)) from ho); have HB1 := hide (HV.out.trans (hb.mono HV.out.size)); have HL1 := hide (HL.out.below hb); clear ho hb)
    generalize hW : World.alloc w1 _ = v2
    have HP2 := hide (show Bf v2 w1.heap.size c (mkRat (b : Int) 1000) by rw [← hW]; exact ⟨Bq.mk0 _ c rfl, HO.out.alloc _⟩)
    have HL2 := hide (show Bf v2 w.heap.size al ar by rw [← hW]; exact HL1.out.alloc _)
    have HB2 := hide (show Below w.heap.size w v2 by rw [← hW]; exact HB1.out.alloc HB1.out.size _)
    have k3 : v2.cell? ⟨b3, 0, none⟩ = some (.int .i64 (n : Int)) := by rw [HB2.out.cell (by exact s3)]; exact h3
    have k4 : v2.cell? ⟨b4, 0, none⟩ = some (.int .i64 m) := by rw [HB2.out.cell (by exact s4)]; exact h4
    have z3 : b3 < v2.heap.size := Nat.lt_of_lt_of_le s3 HB2.out.size
    have z4 : b4 < v2.heap.size := Nat.lt_of_lt_of_le s4 HB2.out.size
    obtain ⟨bp, hbp⟩ : ∃ x, x = w1.heap.size := ⟨_, rfl⟩
    rw [← hbp] at HP2 ⊢
    have p0 := HP2.out.b.c0
    have p1 := HP2.out.b.c1
    clear hW hbp h3 h4
    go_upto_region 3 with (go_at_call 38; (with_reducible refine (upg_any _ c _ n m b3 b4 k3 k4 z3 z4 HP2.out.o HC.out HN.out).mono ?_); rintro e w3 ⟨c2, rfl, ho, hb⟩; have HO3 := hide ho; have HB3 := hide (HB2.out.trans (hb.mono HB2.out.size)); have HL3 := hide (HL2.out.below hb); clear ho hb)
    generalize hW : World.alloc w3 _ = v4
    have HP4 := hide (show Bf v4 w3.heap.size c2 _ by rw [← hW]; exact ⟨Bq.mk0 _ c2 rfl, HO3.out.alloc _⟩)
    have HL4 := hide (show Bf v4 w.heap.size al ar by rw [← hW]; exact HL3.out.alloc _)
    have HB4 := hide (show Below w.heap.size w v4 by rw [← hW]; exact HB3.out.alloc HB3.out.size _)
    have q0 := HP4.out.b.c0
    have q1 := HP4.out.b.c1
    have u0 := HL4.out.b.c0
    have u1 := HL4.out.b.c1
    clear hW k3 k4 p0 p1
    go_wp2_with (go_at_call 54; (with_reducible refine (fcmp_o _ c2 al (some (atM (mkRat (b : Int) 1000) n m)) (some ar) HP4.out.o HL4.out.o).mono ?_); rintro e w5 ⟨rfl, hb⟩; have HB8 := hide (HB4.out.trans (hb.mono HB4.out.size)); clear hb)
    refine bodyPost_ret (v := .bool false) (by simp [results, Tryz.results37, go_sem, *]) rfl ⟨by rw [HX.out], HB8.out⟩
set_option maxRecDepth 100000 in
set_option maxHeartbeats 8000000 in
theorem upcl_any (w : World) (b : Nat) (hb1 : b ≤ 1000) (al : Fa) (ar : Rat) (n : Nat) (m : Int) (b2 b3 b4 : Nat) (h3 : w.cell? ⟨b3, 0, none⟩ = some (.int .i64 (n : Int))) (h4 : w.cell? ⟨b4, 0, none⟩ = some (.int .i64 m)) (s3 : b3 < w.heap.size) (s4 : b4 < w.heap.size) (ha : Bf w b2 al ar) (hn : n ≤ 32) :
    Calls Tryz.prog 36 #[.int .i64 (b : Int), .pointer (some ⟨b2, 0, none⟩), .pointer (some ⟨b3, 0, none⟩), .pointer (some ⟨b4, 0, none⟩)] w fun e w' => e = .returned (.bool (decide (atM (mkRat (b : Int) 1000) n m ≤ ar))) ∧ Below w.heap.size w w' := by
  have HA := hide ha
  have a0 := ha.b.c0
  have a1 := ha.b.c1
  have HW := hide (upwithin_any w b hb1 al ar n m b3 b4 h3 h4 s3 s4 ha.o hn)
  obtain ⟨g, hg⟩ : ∃ g, g = decide (atM (mkRat (b : Int) 1000) n m ≤ ar) := ⟨_, rfl⟩
  rw [← hg] at HW ⊢
  clear ha h3 h4 hg
  go_enter Tryz.func36, Tryz.ntmps36
  go_wp2_with (go_at_call 37; (with_reducible refine HW.out.mono ?_); rintro e w1 ⟨rfl, hb⟩; have HB := hide hb; clear hb)
  refine bodyPost_ret (v := .bool (g)) (by simp [results, Tryz.results36, go_sem, *]) rfl ⟨rfl, HB.out⟩
set_option maxRecDepth 100000 in
set_option maxHeartbeats 8000000 in
theorem upsearch_any (w : World) (al : Fa) (ar : Rat) (n : Nat) (m : Int) (b2 b3 b4 : Nat) (h3 : w.cell? ⟨b3, 0, none⟩ = some (.int .i64 (n : Int))) (h4 : w.cell? ⟨b4, 0, none⟩ = some (.int .i64 m)) (s3 : b3 < w.heap.size) (s4 : b4 < w.heap.size) (ha : Bf w b2 al ar) (hn : n ≤ 32) :
    Calls Tryz.prog 35 #[.int .i64 1001, .func (.func 36) #[] #[.pointer (some ⟨b2, 0, none⟩), .pointer (some ⟨b3, 0, none⟩), .pointer (some ⟨b4, 0, none⟩)]] w fun e w' => ∃ r : Nat, e = .returned (.int .i64 (r : Int)) ∧ IsSr (fun (b : Nat) => decide (atM (mkRat (b : Int) 1000) n m ≤ ar)) 1001 r ∧ Below w.heap.size w w' := by
  have HA := hide (show ∀ W, Below w.heap.size w W → ∀ b : Nat, b ≤ 1000 → Calls Tryz.prog 36 #[.int .i64 (b : Int), .pointer (some ⟨b2, 0, none⟩), .pointer (some ⟨b3, 0, none⟩), .pointer (some ⟨b4, 0, none⟩)] W fun e w' => e = .returned (.bool (decide (atM (mkRat (b : Int) 1000) n m ≤ ar))) ∧ Below W.heap.size W w' from fun W hW b hb =>
    upcl_any W b hb al ar n m b2 b3 b4 (by rw [hW.cell (by exact s3)]; exact h3) (by rw [hW.cell (by exact s4)]; exact h4) (Nat.lt_of_lt_of_le s3 hW.size) (Nat.lt_of_lt_of_le s4 hW.size) (ha.below hW) hn)
  obtain ⟨G, hG⟩ : ∃ G : Nat → Bool, G = fun (b : Nat) => decide (atM (mkRat (b : Int) 1000) n m ≤ ar) := ⟨_, rfl⟩
  rw [← hG]
  have HG := hide (show ∀ W, Below w.heap.size w W → ∀ b : Nat, b ≤ 1000 → Calls Tryz.prog 36 #[.int .i64 (b : Int), .pointer (some ⟨b2, 0, none⟩), .pointer (some ⟨b3, 0, none⟩), .pointer (some ⟨b4, 0, none⟩)] W fun e w' => e = .returned (.bool (G b)) ∧ Below W.heap.size W w' from fun W hW b hb => by rw [hG]; exact HA.out W hW b hb)
  clear h3 h4 ha HA hG
  go_enter Tryz.func35, Tryz.ntmps35
  go_wp2_with fail
  go_loopw [5, 6] (fun iv jv wr => ∃ i j : Nat, iv = .int .i64 (i : Int) ∧ jv = .int .i64 (j : Int) ∧ i ≤ j ∧ j ≤ 1001 ∧ Hid (i = 0 ∨ G (i - 1) = false) ∧ Hid (j = 1001 ∨ G j = true) ∧ Hid (Below w.heap.size w wr)) (fun iv jv _ => ((intOf jv).toNat - (intOf iv).toNat))
  case atStart => exact ⟨0, 1001, rfl, rfl, by omega, by omega, hide (.inl rfl), hide (.inl rfl), hide (Below.refl _ _)⟩
  case round =>
    obtain ⟨i, j, rfl, rfl, hij, hj, HI, HJ, HB⟩ := hrel
    by_cases he : i = j
    · subst he
      have hlt : decide ((i : Int) < (i : Int)) = false := decide_eq_false (by omega)
      go_wp2_with fail
      go_ret
      exact ⟨i, rfl, ⟨hj, HI.out, HJ.out⟩, HB.out⟩
    · have hlt : decide ((i : Int) < (j : Int)) = true := decide_eq_true (by omega)
      have hlt2 : (i : Int) < (j : Int) := by omega
      obtain ⟨h, hh⟩ : ∃ h : Nat, h = (i + j) / 2 := ⟨_, rfl⟩
      have hh1 : i ≤ h := by omega
      have hh2 : h < j := by omega
      have hh3 : ((i : Int) + (j : Int)) / 2 = (h : Int) := by omega
      have hw2 : IntKind.u64.wrap ((i : Int) + (j : Int)) = (i : Int) + (j : Int) := by
        show ((i : Int) + (j : Int)) % 18446744073709551616 = _
        omega
      clear hh
      go_upto_region 4 with (fail)
      clear hh3 hw2
      have HC := hide (HG.out wr HB.out h (by omega))
      cases hg : G h
      · rw [hg] at HC
        have HGH := hide hg
        clear hg
        go_wp2_with (go_at_call 36; (with_reducible refine HC.out.mono ?_); rintro e w2 ⟨rfl, hb⟩; have HB2 := hide (HB.out.trans (hb.mono HB.out.size)); clear hb)
        go_roundw
        case rel => exact ⟨h + 1, j, by go_num, rfl, by omega, hj, hide (.inr (by simpa using HGH.out)), HJ, HB2⟩
        case measure => simp [intOf]; omega
      · rw [hg] at HC
        have HGH := hide hg
        clear hg
        go_wp2_with (go_at_call 36; (with_reducible refine HC.out.mono ?_); rintro e w2 ⟨rfl, hb⟩; have HB2 := hide (HB.out.trans (hb.mono HB.out.size)); clear hb)
        go_roundw
        case rel => exact ⟨i, h, rfl, rfl, by omega, by omega, HI, hide (.inr HGH.out), HB2⟩
        case measure => simp [intOf]; omega

set_option maxRecDepth 100000 in
set_option maxHeartbeats 8000000 in
theorem log_any (w : World) (p : Fa) (r : Rat) (n : Nat) (m : Int) (b3 b4 : Nat) (h3 : w.cell? ⟨b3, 0, none⟩ = some (.int .i64 (n : Int))) (h4 : w.cell? ⟨b4, 0, none⟩ = some (.int .i64 m)) (s3 : b3 < w.heap.size) (s4 : b4 < w.heap.size) (hp : Fo w p (some r)) (hc : Chn r) (hn : n ≤ 32) :
    Calls Tryz.prog 46 #[.agg #[.slice p.A p.n p.c, .slice p.B p.m p.d], .pointer (some ⟨b3, 0, none⟩), .pointer (some ⟨b4, 0, none⟩)] w fun e w' => RetV w (atL r n m) e w' := by
  have HP := hide hp
  have HC := hide hc
  go_enter Tryz.func46, Tryz.ntmps46
  go_upto_region 1 with (fail)
  generalize hW : World.alloc (World.alloc w _) _ = v
  have HB := hide (show Bf v w.heap.size p r by rw [← hW]; exact ⟨(Bq.mk0 _ p rfl).alloc _, (HP.out.alloc _).alloc _⟩)
  have HR := hide (show Rb v (w.heap.size + 1) by rw [← hW]; exact Rb.mk0 _ (by simp))
  have HV := hide (show Below w.heap.size w v by rw [← hW]; exact ((Below.refl _ _).alloc (Nat.le_refl _) _).alloc (by simp) _)
  have k3 : v.cell? ⟨b3, 0, none⟩ = some (.int .i64 (n : Int)) := by rw [HV.out.cell (by exact s3)]; exact h3
  have k4 : v.cell? ⟨b4, 0, none⟩ = some (.int .i64 m) := by rw [HV.out.cell (by exact s4)]; exact h4
  have s0 := HB.out.b.c0
  have s1 := HB.out.b.c1
  clear hW hp hc h3 h4
  go_wp2_with (go_at_call 47; (with_reducible refine (atleast_ok _ p r n m HB.out.o HC.out hn).mono ?_); rintro e w1 ⟨c, rfl, ho, hb⟩; have HO := hide ho; have HB1 := hide (HV.out.trans (hb.mono HV.out.size)); have HR1 := hide (HR.out.below hb); obtain ⟨z0, z1, zf, zz, -⟩ := HR1.out; clear ho hb)
  refine bodyPost_ret (v := .tuple #[.agg #[.slice c.A c.n c.c, .slice c.B c.m c.d], .int .i64 0]) (by simp [results, Tryz.results46, go_sem, *]) rfl ⟨c, rfl, HO.out.put2 HR1.out.nb _ _ (by simp), Rb.end0 HB1.out (by omega) _ _⟩
set_option maxRecDepth 100000 in
set_option maxHeartbeats 8000000 in
theorem lowithin_any (w : World) (b : Nat) (hb1 : b ≤ 1000) (al : Fa) (ar : Rat) (n : Nat) (m : Int) (b3 b4 : Nat) (h3 : w.cell? ⟨b3, 0, none⟩ = some (.int .i64 (n : Int))) (h4 : w.cell? ⟨b4, 0, none⟩ = some (.int .i64 m)) (s3 : b3 < w.heap.size) (s4 : b4 < w.heap.size) (ha : Fo w al (some ar)) (hn : n ≤ 32) :
    Calls Tryz.prog 37 #[.int .i64 (b : Int), .agg #[.slice al.A al.n al.c, .slice al.B al.m al.d], .func (.func 46) #[] #[.pointer (some ⟨b3, 0, none⟩), .pointer (some ⟨b4, 0, none⟩)]] w fun e w' => e = .returned (.bool (decide (atL (mkRat (b : Int) 1000) n m ≤ ar))) ∧ Below w.heap.size w w' := by
  have HA := hide ha
  have HN := hide hn
  have hcc := mk1000_chn hb1
  have HC := hide hcc
  have HF := hide (show ∀ W, Calls Tryz.prog 52 #[.int .i64 (b : Int), .int .i64 1000] W fun e w' => Ret W (some (mkRat (b : Int) 1000), 0) e w' from fun W => fof_any W b 1000 (by omega) (by omega) (by omega))
  by_cases hle : atL (mkRat (b : Int) 1000) n m ≤ ar
  · have HX := hide (show decide (atL (mkRat (b : Int) 1000) n m ≤ ar) = true from decide_eq_true hle)
    have g1 : decide (cmpO (some (atL (mkRat (b : Int) 1000) n m)) (some ar) ≤ 0) = true := decide_eq_true (cmpQ_le.2 hle)
    clear ha hn hcc hle
    go_enter Tryz.func37, Tryz.ntmps37
    go_upto_region 1 with (fail)
    generalize hW : World.alloc w _ = v
    have HV := hide (show Below w.heap.size w v by rw [← hW]; exact (Below.refl _ _).alloc (Nat.le_refl _) _)
    have HL := hide (show Bf v w.heap.size al ar by rw [← hW]; exact ⟨Bq.mk0 _ al rfl, HA.out.alloc _⟩)
    clear hW
    go_upto_region 2 with (go_at_call 52; (with_reducible refine (HF.out _).mono ?_); rintro e w1 ⟨c, rfl, ho, hb⟩; have HO := hide (show Fo w1 c (some (mkRat (b : Int) 1000)) from ho); have HB1 := hide (HV.out.trans (hb.mono HV.out.size)); have HL1 := hide (HL.out.below hb); clear ho hb)
    generalize hW : World.alloc w1 _ = v2
    have HP2 := hide (show Bf v2 w1.heap.size c (mkRat (b : Int) 1000) by rw [← hW]; exact ⟨Bq.mk0 _ c rfl, HO.out.alloc _⟩)
    have HL2 := hide (show Bf v2 w.heap.size al ar by rw [← hW]; exact HL1.out.alloc _)
    have HB2 := hide (show Below w.heap.size w v2 by rw [← hW]; exact HB1.out.alloc HB1.out.size _)
    have k3 : v2.cell? ⟨b3, 0, none⟩ = some (.int .i64 (n : Int)) := by rw [HB2.out.cell (by exact s3)]; exact h3
    have k4 : v2.cell? ⟨b4, 0, none⟩ = some (.int .i64 m) := by rw [HB2.out.cell (by exact s4)]; exact h4
    have z3 : b3 < v2.heap.size := Nat.lt_of_lt_of_le s3 HB2.out.size
    have z4 : b4 < v2.heap.size := Nat.lt_of_lt_of_le s4 HB2.out.size
    obtain ⟨bp, hbp⟩ : ∃ x, x = w1.heap.size := ⟨_, rfl⟩
    rw [← hbp] at HP2 ⊢
    have p0 := HP2.out.b.c0
    have p1 := HP2.out.b.c1
    clear hW hbp h3 h4
    go_upto_region 3 with (go_at_call 46; (with_reducible refine (log_any _ c _ n m b3 b4 k3 k4 z3 z4 HP2.out.o HC.out HN.out).mono ?_); rintro e w3 ⟨c2, rfl, ho, hb⟩; have HO3 := hide ho; have HB3 := hide (HB2.out.trans (hb.mono HB2.out.size)); have HL3 := hide (HL2.out.below hb); clear ho hb)
    generalize hW : World.alloc w3 _ = v4
    have HP4 := hide (show Bf v4 w3.heap.size c2 _ by rw [← hW]; exact ⟨Bq.mk0 _ c2 rfl, HO3.out.alloc _⟩)
    have HL4 := hide (show Bf v4 w.heap.size al ar by rw [← hW]; exact HL3.out.alloc _)
    have HB4 := hide (show Below w.heap.size w v4 by rw [← hW]; exact HB3.out.alloc HB3.out.size _)
    have q0 := HP4.out.b.c0
    have q1 := HP4.out.b.c1
    have u0 := HL4.out.b.c0
    have u1 := HL4.out.b.c1
    clear hW k3 k4 p0 p1
    go_wp2_with (go_at_call 54; (with_reducible refine (fcmp_o _ c2 al (some (atL (mkRat (b : Int) 1000) n m)) (some ar) HP4.out.o HL4.out.o).mono ?_); rintro e w5 ⟨rfl, hb⟩; have HB8 := hide (HB4.out.trans (hb.mono HB4.out.size)); clear hb)
    refine bodyPost_ret (v := .bool true) (by simp [results, Tryz.results37, go_sem, *]) rfl ⟨by rw [HX.out], HB8.out⟩
  · have HX := hide (show decide (atL (mkRat (b : Int) 1000) n m ≤ ar) = false from decide_eq_false hle)
    have g1 : decide (cmpO (some (atL (mkRat (b : Int) 1000) n m)) (some ar) ≤ 0) = false := decide_eq_false (fun h => hle (cmpQ_le.1 h))
    clear ha hn hcc hle
    go_enter Tryz.func37, Tryz.ntmps37
    go_upto_region 1 with (fail)
    generalize hW : World.alloc w _ = v
    have HV := hide (show Below w.heap.size w v by rw [← hW]; exact (Below.refl _ _).alloc (Nat.le_refl _) _)
    have HL := hide (show Bf v w.heap.size al ar by rw [← hW]; exact ⟨Bq.mk0 _ al rfl, HA.out.alloc _⟩)
    clear hW
    go_upto_region 2 with (go_at_call 52; (with_reducible refine (HF.out _).mono ?_); rintro e w1 ⟨c, rfl, ho, hb⟩; have HO := hide (show Fo w1 c (some (mkRat (b : Int) 1000)) from ho); have HB1 := hide (HV.out.trans (hb.mono HV.out.size)); have HL1 := hide (HL.out.below hb); clear ho hb)
    generalize hW : World.alloc w1 _ = v2
    have HP2 := hide (show Bf v2 w1.heap.size c (mkRat (b : Int) 1000) by rw [← hW]; exact ⟨Bq.mk0 _ c rfl, HO.out.alloc _⟩)
    have HL2 := hide (show Bf v2 w.heap.size al ar by rw [← hW]; exact HL1.out.alloc _)
    have HB2 := hide (show Below w.heap.size w v2 by rw [← hW]; exact HB1.out.alloc HB1.out.size _)
    have k3 : v2.cell? ⟨b3, 0, none⟩ = some (.int .i64 (n : Int)) := by rw [HB2.out.cell (by exact s3)]; exact h3
    have k4 : v2.cell? ⟨b4, 0, none⟩ = some (.int .i64 m) := by rw [HB2.out.cell (by exact s4)]; exact h4
    have z3 : b3 < v2.heap.size := Nat.lt_of_lt_of_le s3 HB2.out.size
    have z4 : b4 < v2.heap.size := Nat.lt_of_lt_of_le s4 HB2.out.size
    obtain ⟨bp, hbp⟩ : ∃ x, x = w1.heap.size := ⟨_, rfl⟩
    rw [← hbp] at HP2 ⊢
    have p0 := HP2.out.b.c0
    have p1 := HP2.out.b.c1
    clear hW hbp h3 h4
    go_upto_region 3 with (go_at_call 46; (with_reducible refine (log_any _ c _ n m b3 b4 k3 k4 z3 z4 HP2.out.o HC.out HN.out).mono ?_); rintro e w3 ⟨c2, rfl, ho, hb⟩; have HO3 := hide ho; have HB3 := hide (HB2.out.trans (hb.mono HB2.out.size)); have HL3 := hide (HL2.out.below hb); clear ho hb)
    generalize hW : World.alloc w3 _ = v4
    have HP4 := hide (show Bf v4 w3.heap.size c2 _ by rw [← hW]; exact ⟨Bq.mk0 _ c2 rfl, HO3.out.alloc _⟩)
    have HL4 := hide (show Bf v4 w.heap.size al ar by rw [← hW]; exact HL3.out.alloc _)
    have HB4 := hide (show Below w.heap.size w v4 by rw [← hW]; exact HB3.out.alloc HB3.out.size _)
    have q0 := HP4.out.b.c0
    have q1 := HP4.out.b.c1
    have u0 := HL4.out.b.c0
    have u1 := HL4.out.b.c1
    clear hW k3 k4 p0 p1
    go_wp2_with (go_at_call 54; (with_reducible refine (fcmp_o _ c2 al (some (atL (mkRat (b : Int) 1000) n m)) (some ar) HP4.out.o HL4.out.o).mono ?_); rintro e w5 ⟨rfl, hb⟩; have HB8 := hide (HB4.out.trans (hb.mono HB4.out.size)); clear hb)
    refine bodyPost_ret (v := .bool false) (by simp [results, Tryz.results37, go_sem, *]) rfl ⟨by rw [HX.out], HB8.out⟩
set_option maxRecDepth 100000 in
set_option maxHeartbeats 8000000 in
theorem locl_any (w : World) (b : Nat) (hb1 : b ≤ 1000) (al : Fa) (ar : Rat) (n : Nat) (m : Int) (b2 b3 b4 : Nat) (h3 : w.cell? ⟨b3, 0, none⟩ = some (.int .i64 (n : Int))) (h4 : w.cell? ⟨b4, 0, none⟩ = some (.int .i64 m)) (s3 : b3 < w.heap.size) (s4 : b4 < w.heap.size) (ha : Bf w b2 al ar) (hn : n ≤ 32) :
    Calls Tryz.prog 45 #[.int .i64 (b : Int), .pointer (some ⟨b2, 0, none⟩), .pointer (some ⟨b3, 0, none⟩), .pointer (some ⟨b4, 0, none⟩)] w fun e w' => e = .returned (.bool (!decide (atL (mkRat (b : Int) 1000) n m ≤ ar))) ∧ Below w.heap.size w w' := by
  have HA := hide ha
  have a0 := ha.b.c0
  have a1 := ha.b.c1
  have HW := hide (lowithin_any w b hb1 al ar n m b3 b4 h3 h4 s3 s4 ha.o hn)
  obtain ⟨g, hg⟩ : ∃ g, g = decide (atL (mkRat (b : Int) 1000) n m ≤ ar) := ⟨_, rfl⟩
  rw [← hg] at HW ⊢
  clear ha h3 h4 hg
  go_enter Tryz.func45, Tryz.ntmps45
  go_wp2_with (go_at_call 37; (with_reducible refine HW.out.mono ?_); rintro e w1 ⟨rfl, hb⟩; have HB := hide hb; clear hb)
  refine bodyPost_ret (v := .bool (!g)) (by simp [results, Tryz.results45, go_sem, *]) rfl ⟨rfl, HB.out⟩
set_option maxRecDepth 100000 in
set_option maxHeartbeats 8000000 in
theorem losearch_any (w : World) (al : Fa) (ar : Rat) (n : Nat) (m : Int) (b2 b3 b4 : Nat) (h3 : w.cell? ⟨b3, 0, none⟩ = some (.int .i64 (n : Int))) (h4 : w.cell? ⟨b4, 0, none⟩ = some (.int .i64 m)) (s3 : b3 < w.heap.size) (s4 : b4 < w.heap.size) (ha : Bf w b2 al ar) (hn : n ≤ 32) :
    Calls Tryz.prog 35 #[.int .i64 1001, .func (.func 45) #[] #[.pointer (some ⟨b2, 0, none⟩), .pointer (some ⟨b3, 0, none⟩), .pointer (some ⟨b4, 0, none⟩)]] w fun e w' => ∃ r : Nat, e = .returned (.int .i64 (r : Int)) ∧ IsSr (fun (b : Nat) => !decide (atL (mkRat (b : Int) 1000) n m ≤ ar)) 1001 r ∧ Below w.heap.size w w' := by
  have HA := hide (show ∀ W, Below w.heap.size w W → ∀ b : Nat, b ≤ 1000 → Calls Tryz.prog 45 #[.int .i64 (b : Int), .pointer (some ⟨b2, 0, none⟩), .pointer (some ⟨b3, 0, none⟩), .pointer (some ⟨b4, 0, none⟩)] W fun e w' => e = .returned (.bool (!decide (atL (mkRat (b : Int) 1000) n m ≤ ar))) ∧ Below W.heap.size W w' from fun W hW b hb =>
    locl_any W b hb al ar n m b2 b3 b4 (by rw [hW.cell (by exact s3)]; exact h3) (by rw [hW.cell (by exact s4)]; exact h4) (Nat.lt_of_lt_of_le s3 hW.size) (Nat.lt_of_lt_of_le s4 hW.size) (ha.below hW) hn)
  obtain ⟨G, hG⟩ : ∃ G : Nat → Bool, G = fun (b : Nat) => !decide (atL (mkRat (b : Int) 1000) n m ≤ ar) := ⟨_, rfl⟩
  rw [← hG]
  have HG := hide (show ∀ W, Below w.heap.size w W → ∀ b : Nat, b ≤ 1000 → Calls Tryz.prog 45 #[.int .i64 (b : Int), .pointer (some ⟨b2, 0, none⟩), .pointer (some ⟨b3, 0, none⟩), .pointer (some ⟨b4, 0, none⟩)] W fun e w' => e = .returned (.bool (G b)) ∧ Below W.heap.size W w' from fun W hW b hb => by rw [hG]; exact HA.out W hW b hb)
  clear h3 h4 ha HA hG
  go_enter Tryz.func35, Tryz.ntmps35
  go_wp2_with fail
  go_loopw [5, 6] (fun iv jv wr => ∃ i j : Nat, iv = .int .i64 (i : Int) ∧ jv = .int .i64 (j : Int) ∧ i ≤ j ∧ j ≤ 1001 ∧ Hid (i = 0 ∨ G (i - 1) = false) ∧ Hid (j = 1001 ∨ G j = true) ∧ Hid (Below w.heap.size w wr)) (fun iv jv _ => ((intOf jv).toNat - (intOf iv).toNat))
  case atStart => exact ⟨0, 1001, rfl, rfl, by omega, by omega, hide (.inl rfl), hide (.inl rfl), hide (Below.refl _ _)⟩
  case round =>
    obtain ⟨i, j, rfl, rfl, hij, hj, HI, HJ, HB⟩ := hrel
    by_cases he : i = j
    · subst he
      have hlt : decide ((i : Int) < (i : Int)) = false := decide_eq_false (by omega)
      go_wp2_with fail
      go_ret
      exact ⟨i, rfl, ⟨hj, HI.out, HJ.out⟩, HB.out⟩
    · have hlt : decide ((i : Int) < (j : Int)) = true := decide_eq_true (by omega)
      have hlt2 : (i : Int) < (j : Int) := by omega
      obtain ⟨h, hh⟩ : ∃ h : Nat, h = (i + j) / 2 := ⟨_, rfl⟩
      have hh1 : i ≤ h := by omega
      have hh2 : h < j := by omega
      have hh3 : ((i : Int) + (j : Int)) / 2 = (h : Int) := by omega
      have hw2 : IntKind.u64.wrap ((i : Int) + (j : Int)) = (i : Int) + (j : Int) := by
        show ((i : Int) + (j : Int)) % 18446744073709551616 = _
        omega
      clear hh
      go_upto_region 4 with (fail)
      clear hh3 hw2
      have HC := hide (HG.out wr HB.out h (by omega))
      cases hg : G h
      · rw [hg] at HC
        have HGH := hide hg
        clear hg
        go_wp2_with (go_at_call 45; (with_reducible refine HC.out.mono ?_); rintro e w2 ⟨rfl, hb⟩; have HB2 := hide (HB.out.trans (hb.mono HB.out.size)); clear hb)
        go_roundw
        case rel => exact ⟨h + 1, j, by go_num, rfl, by omega, hj, hide (.inr (by simpa using HGH.out)), HJ, HB2⟩
        case measure => simp [intOf]; omega
      · rw [hg] at HC
        have HGH := hide hg
        clear hg
        go_wp2_with (go_at_call 45; (with_reducible refine HC.out.mono ?_); rintro e w2 ⟨rfl, hb⟩; have HB2 := hide (HB.out.trans (hb.mono HB.out.size)); clear hb)
        go_roundw
        case rel => exact ⟨i, h, rfl, rfl, by omega, by omega, HI, hide (.inr HGH.out), HB2⟩
        case measure => simp [intOf]; omega
end Go.Proofs.YtjkffgcikbkjeaaGreat

/- Contracts: report.check, Upper, Lower. -/
namespace Go.Proofs.YtjkffgcikbkjeaaGreat
open Go.RowKit

theorem mk1000_le {i j : Nat} (h : i ≤ j) : mkRat (i : Int) 1000 ≤ mkRat (j : Int) 1000 := by
  rw [Rat.mkRat_eq_div, Rat.mkRat_eq_div, Rat.div_def, Rat.div_def]
  refine Rat.mul_le_mul_of_nonneg_right ?_ (inv_nn (by decide))
  exact_mod_cast h
theorem IsSr.congr {g g' : Nat → Bool} {N r : Nat} (h : IsSr g N r) (hN : 0 < N) (e : ∀ i, i < N → g i = g' i) : IsSr g' N r := by
  obtain ⟨h1, h2, h3⟩ := h
  refine ⟨h1, ?_, ?_⟩
  · rcases h2 with h2 | h2
    · exact .inl h2
    · exact .inr (by rw [← e _ (by omega)]; exact h2)
  · rcases h3 with h3 | h3
    · exact .inl h3
    · by_cases hr : r = N
      · exact .inl hr
      · exact .inr (by rw [← e _ (by omega)]; exact h3)
theorem IsLst.congr {g g' : Nat → Bool} {N r : Nat} (h : IsLst g N r) (e : ∀ i, i < N → g i = g' i) : IsLst g' N r := by
  obtain ⟨h1, h2, h3⟩ := h
  exact ⟨h1, fun i hi => by rw [← e i (by omega)]; exact h2 i hi, fun hr => by rw [← e r hr]; exact h3 hr⟩
theorem IsGrt.congr {g g' : Nat → Bool} {N v : Nat} (h : IsGrt g N v) (e : ∀ i, i ≤ N → g i = g' i) : IsGrt g' N v := by
  obtain ⟨h1, h2, h3⟩ := h
  refine ⟨h1, ?_, ?_⟩
  · rcases h2 with h2 | h2
    · exact .inl h2
    · exact .inr (by rw [← e _ h1]; exact h2)
  · rcases h3 with h3 | h3
    · exact .inl h3
    · by_cases hv : v = N
      · exact .inl hv
      · exact .inr (by rw [← e _ (by omega)]; exact h3)
theorem lst_of_sr {g : Nat → Bool} {r : Nat} (h : IsSr g 1001 r) (hm : ∀ i j, i ≤ j → j ≤ 1000 → g i = true → g j = true) : IsLst g 1000 (min r 1000) := by
  have h1 := h.congr (g' := fun b => g b || decide (1000 < b)) (by omega) (fun i hi => by
    have : decide (1000 < i) = false := decide_eq_false (by omega)
    rw [this, Bool.or_false])
  have h2 := (h1.lst (fun i j hij hi => by
    simp only [Bool.or_eq_true, decide_eq_true_eq] at hi ⊢
    by_cases hj : 1000 < j
    · exact .inr hj
    · left
      rcases hi with hi | hi
      · exact hm i j hij (by omega) hi
      · omega)).cut (M := 1000) (by omega)
  exact IsLst.congr h2 (fun i hi => by
    have : decide (1000 < i) = false := decide_eq_false (by omega)
    rw [this, Bool.or_false])
theorem grt_of_sr {g : Nat → Bool} {r : Nat} (h : IsSr (fun i => !g i) 1001 r) (hm : ∀ i j, i ≤ j → j ≤ 1000 → g j = true → g i = true) : IsGrt g 1000 (r - 1) := by
  have h1 := h.congr (g' := fun b => !(g b && decide (b ≤ 1000))) (by omega) (fun i hi => by
    have : decide (i ≤ 1000) = true := decide_eq_true (by omega)
    rw [this, Bool.and_true])
  have hm' : ∀ i j, i ≤ j → (g j && decide (j ≤ 1000)) = true → (g i && decide (i ≤ 1000)) = true := fun i j hij hj => by
    simp only [Bool.and_eq_true, decide_eq_true_eq] at hj ⊢
    exact ⟨hm i j hij hj.2 hj.1, by omega⟩
  have h2 := IsLst.grt (g := fun b => g b && decide (b ≤ 1000)) hm' (N := 1000) (h1.lst (fun i j hij hi => by
    simp only [Bool.not_eq_true'] at hi ⊢
    cases hj : (g j && decide (j ≤ 1000)) with
    | false => rfl
    | true => rw [hm' i j hij hj] at hi; cases hi))
  exact IsGrt.congr h2 (fun i hi => by
    have : decide (i ≤ 1000) = true := decide_eq_true hi
    rw [this, Bool.and_true])
theorem atM_step {n : Nat} {m : Int} {ar : Rat} (i j : Nat) (hij : i ≤ j) (hj : j ≤ 1000) (h : decide (atM (mkRat (i : Int) 1000) n m ≤ ar) = true) : decide (atM (mkRat (j : Int) 1000) n m ≤ ar) = true := by
  rw [decide_eq_true_eq] at h ⊢
  exact Rat.le_trans (atM_anti (mk1000_chn (Nat.le_trans hij hj)).h0 (mk1000_chn hj).h1 (mk1000_le hij) n m) h
theorem atL_step {n : Nat} {m : Int} {ar : Rat} (i j : Nat) (hij : i ≤ j) (hj : j ≤ 1000) (h : decide (atL (mkRat (j : Int) 1000) n m ≤ ar) = true) : decide (atL (mkRat (i : Int) 1000) n m ≤ ar) = true := by
  rw [decide_eq_true_eq] at h ⊢
  exact Rat.le_trans (atL_grow (mk1000_chn (Nat.le_trans hij hj)).h0 (mk1000_chn hj).h1 (mk1000_le hij) n m) h
/-- What the search for the upper bound ends with. -/
theorem upper_is {n : Nat} {m : Int} {ar : Rat} {r : Nat} (h : IsSr (fun (b : Nat) => decide (atM (mkRat (b : Int) 1000) n m ≤ ar)) 1001 r) : IsLst (fun (b : Nat) => decide (atM (mkRat (b : Int) 1000) n m ≤ ar)) 1000 (min r 1000) := lst_of_sr h atM_step
theorem lower_is {n : Nat} {m : Int} {ar : Rat} {r : Nat} (h : IsSr (fun (b : Nat) => !decide (atL (mkRat (b : Int) 1000) n m ≤ ar)) 1001 r) : IsGrt (fun (b : Nat) => decide (atL (mkRat (b : Int) 1000) n m ≤ ar)) 1000 (r - 1) := grt_of_sr h atL_step
set_option maxRecDepth 100000 in
set_option maxHeartbeats 8000000 in
theorem repcheck_ok (w : World) (n : Nat) (m : Int) (al : Fa) (ar : Rat) (ha : Fo w al (some ar)) (hi : Inn ar) (hn : n ≤ 32) (hm : 0 ≤ m) (hmn : m ≤ n) :
    Calls Tryz.prog 34 #[.int .i64 (n : Int), .int .i64 m, .agg #[.slice al.A al.n al.c, .slice al.B al.m al.d]] w fun e w' => e = .returned (.int .i64 0) ∧ Below w.heap.size w w' := by
  have HA := hide ha
  have HCH := hide (show chO (some ar) = true by simp [chO, hi.c.h1, hi.c.hd])
  have HF := hide (show ∀ W, Calls Tryz.prog 52 #[.int .i64 1, .int .i64 1] W fun e w' => Ret W (some 1, 0) e w' from fun W => by
    have := fof_any W 1 1 (by omega) (by omega) (by omega)
    rwa [show mkRat ((1 : Nat) : Int) 1 = 1 by decide +kernel] at this)
  have hlen : 0 < al.n := (fq_len ha.1 (fracOf_self ha.2)).1.2 hi.p
  have g0 : decide ((al.n : Int) = 0) = false := decide_eq_false (by omega)
  have g1 : ¬ ((al.n : Int) = 0) := by omega
  have g2 : ((al.n : Int) == 0) = false := beq_eq_false_iff_ne.2 g1
  have hcv : cmpO (some ar) (some 1) < 0 := cmpQ_neg.2 hi.q
  obtain ⟨z, hz⟩ : ∃ z, z = cmpO (some ar) (some 1) := ⟨_, rfl⟩
  rw [← hz] at hcv
  have HZ := hide hz
  have g3 : ¬ (z = 0) := by omega
  have g4 : (z == 0) = false := beq_eq_false_iff_ne.2 g3
  have k1 : decide ((n : Int) < 0) = false := decide_eq_false (by omega)
  have k2 : decide ((32 : Int) < (n : Int)) = false := decide_eq_false (by omega)
  have k3 : decide (m < 0) = false := decide_eq_false (by omega)
  have k4 : decide ((n : Int) < m) = false := decide_eq_false (by omega)
  clear ha hi hz hlen
  go_enter Tryz.func34, Tryz.ntmps34
  go_upto_region 1 with (fail)
  generalize hW : World.alloc w _ = v
  have HV := hide (show Below w.heap.size w v by rw [← hW]; exact (Below.refl _ _).alloc (Nat.le_refl _) _)
  have HL := hide (show Bf v w.heap.size al ar by rw [← hW]; exact ⟨Bq.mk0 _ al rfl, HA.out.alloc _⟩)
  clear hW
  go_upto_region 2 with (go_at_call 52; (with_reducible refine (HF.out _).mono ?_); rintro e w1 ⟨c, rfl, ho, hb⟩; have HO := hide (show Fo w1 c (some 1) from ho); have HB1 := hide (HV.out.trans (hb.mono HV.out.size)); have HL1 := hide (HL.out.below hb); clear ho hb)
  generalize hW : World.alloc w1 _ = v2
  have HP2 := hide (show Bf v2 w1.heap.size c 1 by rw [← hW]; exact ⟨Bq.mk0 _ c rfl, HO.out.alloc _⟩)
  have HL2 := hide (show Bf v2 w.heap.size al ar by rw [← hW]; exact HL1.out.alloc _)
  have HB2 := hide (show Below w.heap.size w v2 by rw [← hW]; exact HB1.out.alloc HB1.out.size _)
  obtain ⟨bp, hbp⟩ : ∃ x, x = w1.heap.size := ⟨_, rfl⟩
  rw [← hbp] at HP2 ⊢
  have q0 := HL2.out.b.c0
  have q1 := HL2.out.b.c1
  clear hW hbp
  go_wp2_with (first
    | (go_at_call 54; (with_reducible refine (fcmp_o _ al c (some ar) (some 1) HL3.out.o HP3.out.o).mono ?_); rintro e w5 ⟨rfl, hb⟩; rw [← HZ.out]; have HB8 := hide (HB3.out.trans (hb.mono HB3.out.size)); clear hb)
    | (go_at_call 53; (with_reducible refine (chance_o _ al _ HL2.out.o).mono ?_); rintro e w2 ⟨rfl, hb⟩; rw [HCH.out]; have HB3 := hide (HB2.out.trans (hb.mono HB2.out.size)); have HP3 := hide (HP2.out.below hb); have HL3 := hide (HL2.out.below hb); have u0 := HL3.out.b.c0; have u1 := HL3.out.b.c1; have y0 := HP3.out.b.c0; have y1 := HP3.out.b.c1; clear hb))
  refine bodyPost_ret (v := .int .i64 0) (by simp [results, Tryz.results34, go_sem, *]) rfl ⟨rfl, HB8.out⟩
set_option maxRecDepth 100000 in
set_option maxHeartbeats 8000000 in
theorem upper_ok (w : World) (n : Nat) (m : Int) (al : Fa) (ar : Rat) (ha : Fo w al (some ar)) (hi : Inn ar) (hn : n ≤ 32) (hm : 0 ≤ m) (hmn : m ≤ n) :
    Calls Tryz.prog 22 #[.int .i64 (n : Int), .int .i64 m, .agg #[.slice al.A al.n al.c, .slice al.B al.m al.d]] w fun e w' => ∃ v : Nat, e = .returned (.tuple #[.int .i64 (v : Int), .int .i64 0]) ∧ IsLst (fun (b : Nat) => decide (atM (mkRat (b : Int) 1000) n m ≤ ar)) 1000 v ∧ Below w.heap.size w w' := by
  have HA := hide ha
  have HI := hide hi
  clear ha hi
  go_enter Tryz.func22, Tryz.ntmps22
  go_upto_region 1 with (fail)
  generalize hW : World.alloc (World.alloc (World.alloc w _) _) _ = v
  have HV := hide (show Below w.heap.size w v by rw [← hW]; exact (((Below.refl _ _).alloc (Nat.le_refl _) _).alloc (by simp) _).alloc (by simp; omega) _)
  have h3 : v.cell? ⟨w.heap.size, 0, none⟩ = some (.int .i64 (n : Int)) := by rw [← hW]; simp [go_sem]
  have h4 : v.cell? ⟨w.heap.size + 1, 0, none⟩ = some (.int .i64 m) := by rw [← hW]; simp [go_sem]
  have HL := hide (show Bf v (w.heap.size + 2) al ar by rw [← hW]; exact ⟨Bq.mk0 _ al (by simp), ((HA.out.alloc _).alloc _).alloc _⟩)
  have sz : w.heap.size + 2 < v.heap.size := HL.out.b.sz
  obtain ⟨b2, hb2⟩ : ∃ x, x = w.heap.size + 1 + 1 := ⟨_, rfl⟩
  have e2 : b2 = w.heap.size + 2 := hb2
  rw [← hb2]
  rw [← e2] at HL sz
  have k0 := HL.out.b.c0
  have k1 := HL.out.b.c1
  have s3 : w.heap.size < v.heap.size := by omega
  have s4 : w.heap.size + 1 < v.heap.size := by omega
  clear hW hb2 e2
  go_upto_region 5 with (first
    | (go_at_call 35; (with_reducible refine (upsearch_any _ al ar n m b2 w.heap.size (w.heap.size + 1) h31 h41 s31 s41 HL1.out hn).mono ?_); rintro e w2 ⟨r, rfl, hr, hb⟩; have HR := hide hr; have HB2 := hide (HB1.out.trans (hb.mono HB1.out.size)); clear hb)
    | (go_at_call 34; (with_reducible refine (repcheck_ok _ n m al ar HL.out.o HI.out hn hm hmn).mono ?_); rintro e w1 ⟨rfl, hb⟩; have HB1 := hide (HV.out.trans (hb.mono HV.out.size)); have HL1 := hide (HL.out.below hb); have h31 : w1.cell? ⟨w.heap.size, 0, none⟩ = some (.int .i64 (n : Int)) := (by rw [hb.cell (by exact s3)]; exact h3); have h41 : w1.cell? ⟨w.heap.size + 1, 0, none⟩ = some (.int .i64 m) := (by rw [hb.cell (by exact s4)]; exact h4); have s31 := Nat.lt_of_lt_of_le s3 hb.size; have s41 := Nat.lt_of_lt_of_le s4 hb.size; clear hb))
  have HLS := hide (upper_is HR.out)
  have hr1 : r ≤ 1001 := HR.out.1
  by_cases hrr : r ≤ 1000
  · have hmin : min r 1000 = r := by omega
    have HE := hide (show IsLst _ 1000 r by have := HLS.out; rwa [hmin] at this)
    have hm1 : min (r : Int) 1000 = (r : Int) := by omega
    clear hmin
    go_wp2_with fail
    refine bodyPost_ret (v := .tuple #[.int .i64 (r : Int), .int .i64 0]) (by simp [results, Tryz.results22, go_sem, *]) rfl ⟨r, rfl, HE.out, HB2.out⟩
  · obtain rfl : r = 1001 := by omega
    go_wp2_with fail
    refine bodyPost_ret (v := .tuple #[.int .i64 1000, .int .i64 0]) (by simp [results, Tryz.results22, go_sem, *]) rfl ⟨1000, rfl, HLS.out, HB2.out⟩
set_option maxRecDepth 100000 in
set_option maxHeartbeats 8000000 in
theorem loper_ok (w : World) (n : Nat) (m : Int) (al : Fa) (ar : Rat) (ha : Fo w al (some ar)) (hi : Inn ar) (hn : n ≤ 32) (hm : 0 ≤ m) (hmn : m ≤ n) :
    Calls Tryz.prog 26 #[.int .i64 (n : Int), .int .i64 m, .agg #[.slice al.A al.n al.c, .slice al.B al.m al.d]] w fun e w' => ∃ v : Nat, e = .returned (.tuple #[.int .i64 (v : Int), .int .i64 0]) ∧ IsGrt (fun (b : Nat) => decide (atL (mkRat (b : Int) 1000) n m ≤ ar)) 1000 v ∧ Below w.heap.size w w' := by
  have HA := hide ha
  have HI := hide hi
  clear ha hi
  go_enter Tryz.func26, Tryz.ntmps26
  go_upto_region 1 with (fail)
  generalize hW : World.alloc (World.alloc (World.alloc w _) _) _ = v
  have HV := hide (show Below w.heap.size w v by rw [← hW]; exact (((Below.refl _ _).alloc (Nat.le_refl _) _).alloc (by simp) _).alloc (by simp; omega) _)
  have h3 : v.cell? ⟨w.heap.size, 0, none⟩ = some (.int .i64 (n : Int)) := by rw [← hW]; simp [go_sem]
  have h4 : v.cell? ⟨w.heap.size + 1, 0, none⟩ = some (.int .i64 m) := by rw [← hW]; simp [go_sem]
  have HL := hide (show Bf v (w.heap.size + 2) al ar by rw [← hW]; exact ⟨Bq.mk0 _ al (by simp), ((HA.out.alloc _).alloc _).alloc _⟩)
  have sz : w.heap.size + 2 < v.heap.size := HL.out.b.sz
  obtain ⟨b2, hb2⟩ : ∃ x, x = w.heap.size + 1 + 1 := ⟨_, rfl⟩
  have e2 : b2 = w.heap.size + 2 := hb2
  rw [← hb2]
  rw [← e2] at HL sz
  have k0 := HL.out.b.c0
  have k1 := HL.out.b.c1
  have s3 : w.heap.size < v.heap.size := by omega
  have s4 : w.heap.size + 1 < v.heap.size := by omega
  clear hW hb2 e2
  go_upto_region 5 with (first
    | (go_at_call 35; (with_reducible refine (losearch_any _ al ar n m b2 w.heap.size (w.heap.size + 1) h31 h41 s31 s41 HL1.out hn).mono ?_); rintro e w2 ⟨r, rfl, hr, hb⟩; have HR := hide hr; have HB2 := hide (HB1.out.trans (hb.mono HB1.out.size)); clear hb)
    | (go_at_call 34; (with_reducible refine (repcheck_ok _ n m al ar HL.out.o HI.out hn hm hmn).mono ?_); rintro e w1 ⟨rfl, hb⟩; have HB1 := hide (HV.out.trans (hb.mono HV.out.size)); have HL1 := hide (HL.out.below hb); have h31 : w1.cell? ⟨w.heap.size, 0, none⟩ = some (.int .i64 (n : Int)) := (by rw [hb.cell (by exact s3)]; exact h3); have h41 : w1.cell? ⟨w.heap.size + 1, 0, none⟩ = some (.int .i64 m) := (by rw [hb.cell (by exact s4)]; exact h4); have s31 := Nat.lt_of_lt_of_le s3 hb.size; have s41 := Nat.lt_of_lt_of_le s4 hb.size; clear hb))
  have HLS := hide (lower_is HR.out)
  have hr1 : r ≤ 1001 := HR.out.1
  rcases Nat.eq_zero_or_pos r with hrr | hrr
  · subst hrr
    go_wp2_with fail
    refine bodyPost_ret (v := .tuple #[.int .i64 0, .int .i64 0]) (by simp [results, Tryz.results26, go_sem, *]) rfl ⟨0, rfl, HLS.out, HB2.out⟩
  · obtain ⟨k, rfl⟩ : ∃ k, r = k + 1 := ⟨r - 1, by omega⟩
    have e1 : ((k + 1 : Nat) : Int) - 1 = (k : Int) := by omega
    have e2 : max (k : Int) 0 = (k : Int) := by omega
    have e3 : wrap64 (((k + 1 : Nat) : Int) - 1) = (k : Int) := by rw [e1]; exact IntWalk.wrap64_in (k : Int) (by omega)
    go_wp2_with fail
    refine bodyPost_ret (v := .tuple #[.int .i64 (k : Int), .int .i64 0]) (by simp [results, Tryz.results26, go_sem, *]) rfl ⟨k, rfl, HLS.out, HB2.out⟩
end Go.Proofs.YtjkffgcikbkjeaaGreat
