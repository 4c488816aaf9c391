/- Contracts of the functions that these laws reach: part 23: Contracts: the example of the chapter; Words for the laws: a slice of ints that came in, the tape over it; Contracts of the reference: Open. -/
import Derived.Test.YtjhkgoengoiljaaG22
import Derived.Test.YtjhkgoengoiljaaG3
import Derived.Test.YtjhkgoengoiljaaG7
set_option linter.unusedVariables false
set_option linter.unusedSimpArgs false

/- Contracts: the example of the chapter. -/
namespace Go.Proofs.Ytjhkgoengoiljaa
open Go.RowKit

theorem ldv_no' (A : Option Addr) (n c : Nat) (L : Ld) : noStr (LDV A n c L).v0 ∧ noStr (LDV A n c L).v1 ∧ noStr (LDV A n c L).v2 ∧ noStr (LDV A n c L).v3 ∧ noStr (LDV A n c L).v4 ∧ noStr (LDV A n c L).v5 ∧ noStr (LDV A n c L).v6 := ⟨trivial, trivial, trivial, trivial, trivial, trivial, trivial⟩

set_option maxRecDepth 100000 in
set_option maxHeartbeats 2000000 in
theorem known_any (w : World) : Calls Try.prog 12 #[] w fun e w' => e = .returned (.bool true) ∧ Below w.heap.size w w' := by
  go_enter Try.func12, Try.ntmps12
  go_wp2_with fail
  refine (task_any 0 _).mono ?_
  rintro e w1 ⟨⟨t, rfl, ht⟩, hb1⟩
  have HT := hide ht
  have HB1 := hide hb1
  clear ht hb1
  go_wp2_with fail
  have c1 := plan_any w1 none none 0 0 Ld.nil Rs.nil rfl (by omega) t 1 (by simp)
  rw [kl_plan HT.out] at c1
  refine c1.mono ?_
  rintro e w2 ⟨B1, d1, rfl, hr1, hb2⟩
  clear c1
  have HR1 := hide hr1
  have HB2 := hide hb2
  clear hr1 hb2
  go_upto_region 2 with (fail)
  generalize hW : World.alloc w2 _ = v2
  have HS2 := hide (show B7 v2 w2.heap.size (LDV B1 (kl t 0 0 0 0 0 0 0 0 0).tks.length d1 (kl t 0 0 0 0 0 0 0 0 0)) from by
    rw [← hW]
    clear hW
    simp only [B7, LDV]
    refine ⟨by simp, ⟨?_, ?_, ?_, ?_, ?_, ?_, ?_⟩, ?_, ?_⟩ <;> first | (intro j; go_simp; done) | (go_simp; done))
  have HV2 := hide (show Rs v2 none 10 Tk.vals B1 (kl t 0 0 0 0 0 0 0 0 0).tks from by rw [← hW]; exact HR1.out.alloc _)
  have HF2 := hide (show Fr w v2 (fun _ => False) from by rw [← hW]; exact ((((Fr.refl w _).below_ HB1.out).below_ HB2.out).alloc _))
  have hG : w.heap.size ≤ w2.heap.size := by have := HB1.out.size; have := HB2.out.size; omega
  clear hW
  obtain ⟨-, p, gp, -⟩ := HS2.out
  simp only [LDV] at p
  obtain ⟨p0, p1, p2, p3, p4, p5, p6⟩ := p
  go_wp2_with fail
  have c1 := begin_any v2 none B1 d1 (kl t 0 0 0 0 0 0 0 0 0).tks.length (kl t 0 0 0 0 0 0 0 0 0) HV2.out rfl (by simp [kl]) 0 2 1 (by simp)
  rw [kl_begin1 HT.out] at c1
  refine c1.mono ?_
  rintro e w3 ⟨B2, d2, rfl, hr, hb⟩
  have HSx2 := hide (HS2.out.fr (Fr.of_below (fun _ => False) hb) (fun h => h))
  have HRx2 := hide hr
  have HFx2 := hide (HF2.out.below_ hb)
  clear c1 hr hb p0 p1 p2 p3 p4 p5 p6 gp
  obtain ⟨-, p, gp, -⟩ := HSx2.out
  simp only [LDV] at p
  obtain ⟨p0, p1, p2, p3, p4, p5, p6⟩ := p
  go_upto_region 3 with (fail)
  generalize hW : World.setCell (World.setCell (World.setCell (World.setCell (World.setCell (World.setCell (World.setCell w3 _ _) _ _) _ _) _ _) _ _) _ _) _ _ = v3
  obtain ⟨hs, hf⟩ : B7 v3 w2.heap.size (LDV B2 (kl t 1 1 2 1 0 0 0 0 0).tks.length d2 (kl t 1 1 2 1 0 0 0 0 0)) ∧ Fr w3 v3 (fun i => i = w2.heap.size) := by
    rw [← hW]
    have hh := And.intro (HSx2.out.put (LDV B2 (kl t 1 1 2 1 0 0 0 0 0).tks.length d2 (kl t 1 1 2 1 0 0 0 0 0))) (fr_put7 (w := w3) (b := w2.heap.size) (v0 := (LDV B2 (kl t 1 1 2 1 0 0 0 0 0).tks.length d2 (kl t 1 1 2 1 0 0 0 0 0)).v0) (v1 := (LDV B2 (kl t 1 1 2 1 0 0 0 0 0).tks.length d2 (kl t 1 1 2 1 0 0 0 0 0)).v1) (v2 := (LDV B2 (kl t 1 1 2 1 0 0 0 0 0).tks.length d2 (kl t 1 1 2 1 0 0 0 0 0)).v2) (v3 := (LDV B2 (kl t 1 1 2 1 0 0 0 0 0).tks.length d2 (kl t 1 1 2 1 0 0 0 0 0)).v3) (v4 := (LDV B2 (kl t 1 1 2 1 0 0 0 0 0).tks.length d2 (kl t 1 1 2 1 0 0 0 0 0)).v4) (v5 := (LDV B2 (kl t 1 1 2 1 0 0 0 0 0).tks.length d2 (kl t 1 1 2 1 0 0 0 0 0)).v5) (v6 := (LDV B2 (kl t 1 1 2 1 0 0 0 0 0).tks.length d2 (kl t 1 1 2 1 0 0 0 0 0)).v6))
    simp only [put7, LDV] at hh ⊢
    exact hh
  have HS3 := hide hs
  have HV3 := hide (HRx2.out.fr hf (fun hl b o hA _ h => rs_not_b7 HRx2.out tk_str HSx2.out (ldv_no' _ _ _ _) hl b o hA h))
  have HF3 := hide (HFx2.out.step hf (fun i hi h => by omega))
  clear hW hs hf p0 p1 p2 p3 p4 p5 p6 gp
  obtain ⟨-, p, gp, -⟩ := HS3.out
  simp only [LDV] at p
  obtain ⟨p0, p1, p2, p3, p4, p5, p6⟩ := p
  go_wp2_with fail
  have c1 := fail_any v3 none B2 d2 (kl t 1 1 2 1 0 0 0 0 0).tks.length (kl t 1 1 2 1 0 0 0 0 0) HV3.out rfl (by simp [kl]) 0 5 (by simp)
  rw [kl_fail HT.out] at c1
  refine c1.mono ?_
  rintro e w4 ⟨B3, d3, rfl, hr, hb⟩
  have HSx3 := hide (HS3.out.fr (Fr.of_below (fun _ => False) hb) (fun h => h))
  have HRx3 := hide hr
  have HFx3 := hide (HF3.out.below_ hb)
  clear c1 hr hb p0 p1 p2 p3 p4 p5 p6 gp
  obtain ⟨-, p, gp, -⟩ := HSx3.out
  simp only [LDV] at p
  obtain ⟨p0, p1, p2, p3, p4, p5, p6⟩ := p
  go_upto_region 4 with (fail)
  generalize hW : World.setCell (World.setCell (World.setCell (World.setCell (World.setCell (World.setCell (World.setCell w4 _ _) _ _) _ _) _ _) _ _) _ _) _ _ = v4
  obtain ⟨hs, hf⟩ : B7 v4 w2.heap.size (LDV B3 (kl t 0 1 0 0 0 0 0 0 0).tks.length d3 (kl t 0 1 0 0 0 0 0 0 0)) ∧ Fr w4 v4 (fun i => i = w2.heap.size) := by
    rw [← hW]
    have hh := And.intro (HSx3.out.put (LDV B3 (kl t 0 1 0 0 0 0 0 0 0).tks.length d3 (kl t 0 1 0 0 0 0 0 0 0))) (fr_put7 (w := w4) (b := w2.heap.size) (v0 := (LDV B3 (kl t 0 1 0 0 0 0 0 0 0).tks.length d3 (kl t 0 1 0 0 0 0 0 0 0)).v0) (v1 := (LDV B3 (kl t 0 1 0 0 0 0 0 0 0).tks.length d3 (kl t 0 1 0 0 0 0 0 0 0)).v1) (v2 := (LDV B3 (kl t 0 1 0 0 0 0 0 0 0).tks.length d3 (kl t 0 1 0 0 0 0 0 0 0)).v2) (v3 := (LDV B3 (kl t 0 1 0 0 0 0 0 0 0).tks.length d3 (kl t 0 1 0 0 0 0 0 0 0)).v3) (v4 := (LDV B3 (kl t 0 1 0 0 0 0 0 0 0).tks.length d3 (kl t 0 1 0 0 0 0 0 0 0)).v4) (v5 := (LDV B3 (kl t 0 1 0 0 0 0 0 0 0).tks.length d3 (kl t 0 1 0 0 0 0 0 0 0)).v5) (v6 := (LDV B3 (kl t 0 1 0 0 0 0 0 0 0).tks.length d3 (kl t 0 1 0 0 0 0 0 0 0)).v6))
    simp only [put7, LDV] at hh ⊢
    exact hh
  have HS4 := hide hs
  have HV4 := hide (HRx3.out.fr hf (fun hl b o hA _ h => rs_not_b7 HRx3.out tk_str HSx3.out (ldv_no' _ _ _ _) hl b o hA h))
  have HF4 := hide (HFx3.out.step hf (fun i hi h => by omega))
  clear hW hs hf p0 p1 p2 p3 p4 p5 p6 gp
  obtain ⟨-, p, gp, -⟩ := HS4.out
  simp only [LDV] at p
  obtain ⟨p0, p1, p2, p3, p4, p5, p6⟩ := p
  go_wp2_with fail
  have c1 := begin_any v4 none B3 d3 (kl t 0 1 0 0 0 0 0 0 0).tks.length (kl t 0 1 0 0 0 0 0 0 0) HV4.out rfl (by simp [kl]) 0 3 1 (by simp)
  rw [kl_begin2 HT.out] at c1
  refine c1.mono ?_
  rintro e w5 ⟨B4, d4, rfl, hr, hb⟩
  have HSx4 := hide (HS4.out.fr (Fr.of_below (fun _ => False) hb) (fun h => h))
  have HRx4 := hide hr
  have HFx4 := hide (HF4.out.below_ hb)
  clear c1 hr hb p0 p1 p2 p3 p4 p5 p6 gp
  obtain ⟨-, p, gp, -⟩ := HSx4.out
  simp only [LDV] at p
  obtain ⟨p0, p1, p2, p3, p4, p5, p6⟩ := p
  go_upto_region 5 with (fail)
  generalize hW : World.setCell (World.setCell (World.setCell (World.setCell (World.setCell (World.setCell (World.setCell w5 _ _) _ _) _ _) _ _) _ _) _ _) _ _ = v5
  obtain ⟨hs, hf⟩ : B7 v5 w2.heap.size (LDV B4 (kl t 1 2 3 1 0 0 0 0 0).tks.length d4 (kl t 1 2 3 1 0 0 0 0 0)) ∧ Fr w5 v5 (fun i => i = w2.heap.size) := by
    rw [← hW]
    have hh := And.intro (HSx4.out.put (LDV B4 (kl t 1 2 3 1 0 0 0 0 0).tks.length d4 (kl t 1 2 3 1 0 0 0 0 0))) (fr_put7 (w := w5) (b := w2.heap.size) (v0 := (LDV B4 (kl t 1 2 3 1 0 0 0 0 0).tks.length d4 (kl t 1 2 3 1 0 0 0 0 0)).v0) (v1 := (LDV B4 (kl t 1 2 3 1 0 0 0 0 0).tks.length d4 (kl t 1 2 3 1 0 0 0 0 0)).v1) (v2 := (LDV B4 (kl t 1 2 3 1 0 0 0 0 0).tks.length d4 (kl t 1 2 3 1 0 0 0 0 0)).v2) (v3 := (LDV B4 (kl t 1 2 3 1 0 0 0 0 0).tks.length d4 (kl t 1 2 3 1 0 0 0 0 0)).v3) (v4 := (LDV B4 (kl t 1 2 3 1 0 0 0 0 0).tks.length d4 (kl t 1 2 3 1 0 0 0 0 0)).v4) (v5 := (LDV B4 (kl t 1 2 3 1 0 0 0 0 0).tks.length d4 (kl t 1 2 3 1 0 0 0 0 0)).v5) (v6 := (LDV B4 (kl t 1 2 3 1 0 0 0 0 0).tks.length d4 (kl t 1 2 3 1 0 0 0 0 0)).v6))
    simp only [put7, LDV] at hh ⊢
    exact hh
  have HS5 := hide hs
  have HV5 := hide (HRx4.out.fr hf (fun hl b o hA _ h => rs_not_b7 HRx4.out tk_str HSx4.out (ldv_no' _ _ _ _) hl b o hA h))
  have HF5 := hide (HFx4.out.step hf (fun i hi h => by omega))
  clear hW hs hf p0 p1 p2 p3 p4 p5 p6 gp
  obtain ⟨-, p, gp, -⟩ := HS5.out
  simp only [LDV] at p
  obtain ⟨p0, p1, p2, p3, p4, p5, p6⟩ := p
  go_wp2_with fail
  generalize hW : World.alloc (World.alloc v5 _) _ = v6
  have HZ6 := hide (show (v6.cell? ⟨v5.heap.size, 0, none⟩ = some (.int .i64 3) ∧ v6.cell? ⟨v5.heap.size, 1, none⟩ = some (.int .i64 1) ∧ v6.cell? ⟨v5.heap.size, 2, none⟩ = some (.int .i64 2) ∧ v6.cell? ⟨v5.heap.size, 3, none⟩ = some (.int .i64 5)) ∧ v6.cell? ⟨v5.heap.size + 1, 0, none⟩ = some (.int .i64 0) ∧ v6.cell? ⟨v5.heap.size + 1, 1, none⟩ = some (.int .i64 1) ∧ v6.cell? ⟨v5.heap.size + 1, 2, none⟩ = some (.int .i64 2) ∧ v6.cell? ⟨v5.heap.size + 1, 3, none⟩ = some (.int .i64 1) ∧ v6.cell? ⟨v5.heap.size + 1, 4, none⟩ = some (.int .i64 2) ∧ v6.cell? ⟨v5.heap.size + 1, 5, none⟩ = some (.int .i64 0) ∧ v6.cell? ⟨v5.heap.size + 1, 6, none⟩ = some (.int .i64 2) ∧ v6.cell? ⟨v5.heap.size + 1, 7, none⟩ = some (.int .i64 3) ∧ v6.cell? ⟨v5.heap.size + 1, 8, none⟩ = some (.int .i64 1) ∧ v6.cell? ⟨v5.heap.size + 1, 9, none⟩ = some (.int .i64 1) ∧ v6.cell? ⟨v5.heap.size + 1, 10, none⟩ = some (.int .i64 0) ∧ v6.cell? ⟨v5.heap.size + 1, 11, none⟩ = some (.int .i64 2) ∧ v6.cell? ⟨v5.heap.size + 1, 12, none⟩ = some (.int .i64 3) ∧ v6.cell? ⟨v5.heap.size + 1, 13, none⟩ = some (.int .i64 1) ∧ v6.cell? ⟨v5.heap.size + 1, 14, none⟩ = some (.int .i64 1) ∧ v6.cell? ⟨v5.heap.size + 1, 15, none⟩ = some (.int .i64 0) ∧ v6.cell? ⟨v5.heap.size + 1, 16, none⟩ = some (.int .i64 2) ∧ v6.cell? ⟨v5.heap.size + 1, 17, none⟩ = some (.int .i64 3) ∧ v6.cell? ⟨v5.heap.size + 1, 18, none⟩ = some (.int .i64 1) ∧ v6.cell? ⟨v5.heap.size + 1, 19, none⟩ = some (.int .i64 2) from by
    rw [← hW]
    clear hW
    repeat' apply And.intro
    all_goals (first | (go_simp; done) | (simp; done)))
  have HF56 := hide (show Fr v5 v6 (fun _ => False) from by rw [← hW]; exact ((Fr.refl _ _).alloc _).alloc _)
  have hz6 : v6.heap.size = v5.heap.size + 2 := by rw [← hW]; simp
  clear hW p0 p1 p2 p3 p4 p5 p6 gp
  have HS6 := hide (HS5.out.fr HF56.out (fun h => h))
  have HV6 := hide (HV5.out.fr HF56.out (fun _ _ _ _ _ h => h))
  have HF6 := hide (HF5.out.step HF56.out (fun _ _ h => h))
  have hGv : w2.heap.size < v5.heap.size := HS5.out.1
  go_loopw [75] (fun x wr => ∃ (k : Nat) (B : Option Addr) (d : Nat), k ≤ 4 ∧ x = .int .i64 k ∧ Hid (B7 wr w2.heap.size (LDV B 1 d (ks t k))) ∧ Hid (Rs wr none 10 Tk.vals B (ks t k).tks) ∧ Hid (Fr v6 wr (fun i => i = w2.heap.size))) (fun x _ => 4 - (intOf x).toNat)
  case atStart => exact ⟨0, B4, d4, by omega, rfl, HS6, HV6, hide (Fr.refl _ _)⟩
  case round =>
    obtain ⟨k, B, d, hk, rfl, HS, HV, HF⟩ := hrel
    obtain ⟨⟨z0, z1, z2, z3⟩, y0, y1, y2, y3, y4, y5, y6, y7, y8, y9, y10, y11, y12, y13, y14, y15, y16, y17, y18, y19⟩ := HZ6.out
    rcases (show k = 0 ∨ k = 1 ∨ k = 2 ∨ k = 3 ∨ k = 4 from by omega) with rfl | rfl | rfl | rfl | rfl
    · have hz := HF.out.size
      have hbw := HF.out.block v5.heap.size (by omega) (by omega)
      have hbr := HF.out.block (v5.heap.size + 1) (by omega) (by omega)
      have r0 : wr.cell? ⟨v5.heap.size + 1, 0, none⟩ = some (.int .i64 0) := (World.cell?_of_block (w := v6) (a := ⟨v5.heap.size + 1, 0, none⟩) hbr).trans y0
      have r1 : wr.cell? ⟨v5.heap.size + 1, 1, none⟩ = some (.int .i64 1) := (World.cell?_of_block (w := v6) (a := ⟨v5.heap.size + 1, 1, none⟩) hbr).trans y1
      have r2 : wr.cell? ⟨v5.heap.size + 1, 2, none⟩ = some (.int .i64 2) := (World.cell?_of_block (w := v6) (a := ⟨v5.heap.size + 1, 2, none⟩) hbr).trans y2
      have r3 : wr.cell? ⟨v5.heap.size + 1, 3, none⟩ = some (.int .i64 1) := (World.cell?_of_block (w := v6) (a := ⟨v5.heap.size + 1, 3, none⟩) hbr).trans y3
      have r4 : wr.cell? ⟨v5.heap.size + 1, 4, none⟩ = some (.int .i64 2) := (World.cell?_of_block (w := v6) (a := ⟨v5.heap.size + 1, 4, none⟩) hbr).trans y4
      have HQ := hide ((World.cell?_of_block (w := v6) (a := ⟨v5.heap.size, 0, none⟩) hbw).trans z0)
      have hgw : v5.heap.size + 2 ≤ wr.heap.size := by omega
      clear z0 z1 z2 z3 y0 y1 y2 y3 y4 y5 y6 y7 y8 y9 y10 y11 y12 y13 y14 y15 y16 y17 y18 y19 hbw hbr hz
      obtain ⟨gl, p, gp, -⟩ := HS.out
      simp only [LDV] at p
      obtain ⟨p0, p1, p2, p3, p4, p5, p6⟩ := p
      go_upto_region 11 with (fail)
      generalize hW : World.alloc wr _ = v7
      have hf7 : Fr wr v7 (fun _ => False) := by rw [← hW]; exact (Fr.refl _ _).alloc _
      have q : v7.cell? ⟨wr.heap.size, 0, none⟩ = some (.int .i64 0) ∧ v7.cell? ⟨wr.heap.size, 1, none⟩ = some (.int .i64 1) ∧ v7.cell? ⟨wr.heap.size, 2, none⟩ = some (.int .i64 2) ∧ v7.cell? ⟨wr.heap.size, 3, none⟩ = some (.int .i64 1) ∧ v7.cell? ⟨wr.heap.size, 4, none⟩ = some (.int .i64 2) := by
        rw [← hW]; clear hW
        refine ⟨?_, ?_, ?_, ?_, ?_⟩ <;> go_simp
      have gz7 : wr.heap.size < v7.heap.size := by rw [← hW]; simp
      clear hW p0 p1 p2 p3 p4 p5 p6 gp gl r0 r1 r2 r3 r4
      have HS7 := hide (HS.out.fr hf7 (fun h => h))
      have HV7 := hide (HV.out.fr hf7 (fun _ _ _ _ _ h => h))
      have HF7 := hide (HF.out.step hf7 (fun _ _ h => h.elim))
      have HQ7 := hide ((World.cell?_of_block (w := wr) (a := ⟨v5.heap.size, 0, none⟩) (hf7.block v5.heap.size (by omega) (fun h => h))).trans HQ.out)
      clear hf7
      obtain ⟨q0, q1, q2, q3, q4⟩ := q
      obtain ⟨gl, p, gp, -⟩ := HS7.out
      simp only [LDV] at p
      obtain ⟨p0, p1, p2, p3, p4, p5, p6⟩ := p
      go_wp2_with fail
      have c1 := take_any v7 none B d 1 (ks t 0) HV7.out rfl (by omega) (kr 0) (by simp)
      rw [ks_take HT.out (by omega)] at c1
      refine c1.mono ?_
      rintro e w8 ⟨C, e1, rfl, hr, hb⟩
      have hf8 := Fr.of_below (fun _ => False) hb
      have HS8 := hide (HS7.out.fr hf8 (fun h => h))
      have HV8 := hide hr
      have HF8 := hide (HF7.out.below_ hb)
      have HQ8 := hide ((World.cell?_of_block (w := v7) (a := ⟨v5.heap.size, 0, none⟩) (hf8.block v5.heap.size (by omega) (fun h => h))).trans HQ7.out)
      have gz8 : v7.heap.size ≤ w8.heap.size := hb.size
      clear hf8 hr hb c1 p0 p1 p2 p3 p4 p5 p6 gp gl q0 q1 q2 q3 q4
      obtain ⟨gl, p, gp, -⟩ := HS8.out
      simp only [LDV] at p
      obtain ⟨p0, p1, p2, p3, p4, p5, p6⟩ := p
      go_upto_region 12 with (fail)
      generalize hW : World.alloc w8 _ = v9
      have q : B7 v9 w8.heap.size (LDV C (ks t 1).tks.length e1 (ks t 1)) := by
        rw [← hW]
        clear hW
        simp only [B7, LDV]
        refine ⟨by simp, ⟨?_, ?_, ?_, ?_, ?_, ?_, ?_⟩, ?_, ?_⟩ <;> first | (intro j; go_simp; done) | (go_simp; done)
      have hf9 : Fr w8 v9 (fun _ => False) := by rw [← hW]; exact (Fr.refl _ _).alloc _
      clear hW p0 p1 p2 p3 p4 p5 p6 gp gl
      have HS9 := hide (HS8.out.fr hf9 (fun h => h))
      have HV9 := hide (HV8.out.fr hf9 (fun _ _ _ _ _ h => h))
      have HF9 := hide (HF8.out.step hf9 (fun _ _ h => h.elim))
      have HQ9 := hide ((World.cell?_of_block (w := w8) (a := ⟨v5.heap.size, 0, none⟩) (hf9.block v5.heap.size (by omega) (fun h => h))).trans HQ8.out)
      have gz9 := hf9.size
      clear hf9
      obtain ⟨gl1, q, -, -⟩ := q
      simp only [LDV] at q
      obtain ⟨q0, q1, q2, q3, q4, q5, q6⟩ := q
      obtain ⟨gl, p, gp, -⟩ := HS9.out
      simp only [LDV] at p
      obtain ⟨p0, p1, p2, p3, p4, p5, p6⟩ := p
      go_upto_region 13 with (fail)
      generalize hW : World.setCell (World.setCell (World.setCell (World.setCell (World.setCell (World.setCell (World.setCell v9 _ _) _ _) _ _) _ _) _ _) _ _) _ _ = v10
      obtain ⟨hs, hf⟩ : B7 v10 w2.heap.size (LDV C (ks t 1).tks.length e1 (ks t 1)) ∧ Fr v9 v10 (fun i => i = w2.heap.size) := by
        rw [← hW]
        have hh := And.intro (HS9.out.put (LDV C (ks t 1).tks.length e1 (ks t 1))) (fr_put7 (w := v9) (b := w2.heap.size) (v0 := (LDV C (ks t 1).tks.length e1 (ks t 1)).v0) (v1 := (LDV C (ks t 1).tks.length e1 (ks t 1)).v1) (v2 := (LDV C (ks t 1).tks.length e1 (ks t 1)).v2) (v3 := (LDV C (ks t 1).tks.length e1 (ks t 1)).v3) (v4 := (LDV C (ks t 1).tks.length e1 (ks t 1)).v4) (v5 := (LDV C (ks t 1).tks.length e1 (ks t 1)).v5) (v6 := (LDV C (ks t 1).tks.length e1 (ks t 1)).v6))
        simp only [put7, LDV] at hh ⊢
        exact hh
      have HS10 := hide hs
      have HV10 := hide (HV9.out.fr hf (fun hl b o hA _ h => rs_not_b7 HV9.out tk_str HS9.out (ldv_no' _ _ _ _) hl b o hA h))
      have HF10 := hide (HF9.out.step hf (fun i hi h => h))
      have hq : v10.cell? ⟨v5.heap.size, 0, none⟩ = some (.int .i64 3) := (World.cell?_of_block (w := v9) (a := ⟨v5.heap.size, 0, none⟩) (hf.block v5.heap.size (by omega) (by omega))).trans HQ9.out
      clear hW hs hf p0 p1 p2 p3 p4 p5 p6 gp q0 q1 q2 q3 q4 q5 q6 gl1
      go_wp2_with fail
      go_roundw
      case rel => exact ⟨1, C, e1, by omega, rfl, HS10, HV10, HF10⟩
      case measure => simp [intOf]
    · have hz := HF.out.size
      have hbw := HF.out.block v5.heap.size (by omega) (by omega)
      have hbr := HF.out.block (v5.heap.size + 1) (by omega) (by omega)
      have r0 : wr.cell? ⟨v5.heap.size + 1, 5, none⟩ = some (.int .i64 0) := (World.cell?_of_block (w := v6) (a := ⟨v5.heap.size + 1, 5, none⟩) hbr).trans y5
      have r1 : wr.cell? ⟨v5.heap.size + 1, 6, none⟩ = some (.int .i64 2) := (World.cell?_of_block (w := v6) (a := ⟨v5.heap.size + 1, 6, none⟩) hbr).trans y6
      have r2 : wr.cell? ⟨v5.heap.size + 1, 7, none⟩ = some (.int .i64 3) := (World.cell?_of_block (w := v6) (a := ⟨v5.heap.size + 1, 7, none⟩) hbr).trans y7
      have r3 : wr.cell? ⟨v5.heap.size + 1, 8, none⟩ = some (.int .i64 1) := (World.cell?_of_block (w := v6) (a := ⟨v5.heap.size + 1, 8, none⟩) hbr).trans y8
      have r4 : wr.cell? ⟨v5.heap.size + 1, 9, none⟩ = some (.int .i64 1) := (World.cell?_of_block (w := v6) (a := ⟨v5.heap.size + 1, 9, none⟩) hbr).trans y9
      have HQ := hide ((World.cell?_of_block (w := v6) (a := ⟨v5.heap.size, 1, none⟩) hbw).trans z1)
      have hgw : v5.heap.size + 2 ≤ wr.heap.size := by omega
      clear z0 z1 z2 z3 y0 y1 y2 y3 y4 y5 y6 y7 y8 y9 y10 y11 y12 y13 y14 y15 y16 y17 y18 y19 hbw hbr hz
      obtain ⟨gl, p, gp, -⟩ := HS.out
      simp only [LDV] at p
      obtain ⟨p0, p1, p2, p3, p4, p5, p6⟩ := p
      go_upto_region 11 with (fail)
      generalize hW : World.alloc wr _ = v7
      have hf7 : Fr wr v7 (fun _ => False) := by rw [← hW]; exact (Fr.refl _ _).alloc _
      have q : v7.cell? ⟨wr.heap.size, 0, none⟩ = some (.int .i64 0) ∧ v7.cell? ⟨wr.heap.size, 1, none⟩ = some (.int .i64 2) ∧ v7.cell? ⟨wr.heap.size, 2, none⟩ = some (.int .i64 3) ∧ v7.cell? ⟨wr.heap.size, 3, none⟩ = some (.int .i64 1) ∧ v7.cell? ⟨wr.heap.size, 4, none⟩ = some (.int .i64 1) := by
        rw [← hW]; clear hW
        refine ⟨?_, ?_, ?_, ?_, ?_⟩ <;> go_simp
      have gz7 : wr.heap.size < v7.heap.size := by rw [← hW]; simp
      clear hW p0 p1 p2 p3 p4 p5 p6 gp gl r0 r1 r2 r3 r4
      have HS7 := hide (HS.out.fr hf7 (fun h => h))
      have HV7 := hide (HV.out.fr hf7 (fun _ _ _ _ _ h => h))
      have HF7 := hide (HF.out.step hf7 (fun _ _ h => h.elim))
      have HQ7 := hide ((World.cell?_of_block (w := wr) (a := ⟨v5.heap.size, 1, none⟩) (hf7.block v5.heap.size (by omega) (fun h => h))).trans HQ.out)
      clear hf7
      obtain ⟨q0, q1, q2, q3, q4⟩ := q
      obtain ⟨gl, p, gp, -⟩ := HS7.out
      simp only [LDV] at p
      obtain ⟨p0, p1, p2, p3, p4, p5, p6⟩ := p
      go_wp2_with fail
      have c1 := take_any v7 none B d 1 (ks t 1) HV7.out rfl (by omega) (kr 1) (by simp)
      rw [ks_take HT.out (by omega)] at c1
      refine c1.mono ?_
      rintro e w8 ⟨C, e1, rfl, hr, hb⟩
      have hf8 := Fr.of_below (fun _ => False) hb
      have HS8 := hide (HS7.out.fr hf8 (fun h => h))
      have HV8 := hide hr
      have HF8 := hide (HF7.out.below_ hb)
      have HQ8 := hide ((World.cell?_of_block (w := v7) (a := ⟨v5.heap.size, 1, none⟩) (hf8.block v5.heap.size (by omega) (fun h => h))).trans HQ7.out)
      have gz8 : v7.heap.size ≤ w8.heap.size := hb.size
      clear hf8 hr hb c1 p0 p1 p2 p3 p4 p5 p6 gp gl q0 q1 q2 q3 q4
      obtain ⟨gl, p, gp, -⟩ := HS8.out
      simp only [LDV] at p
      obtain ⟨p0, p1, p2, p3, p4, p5, p6⟩ := p
      go_upto_region 12 with (fail)
      generalize hW : World.alloc w8 _ = v9
      have q : B7 v9 w8.heap.size (LDV C (ks t 2).tks.length e1 (ks t 2)) := by
        rw [← hW]
        clear hW
        simp only [B7, LDV]
        refine ⟨by simp, ⟨?_, ?_, ?_, ?_, ?_, ?_, ?_⟩, ?_, ?_⟩ <;> first | (intro j; go_simp; done) | (go_simp; done)
      have hf9 : Fr w8 v9 (fun _ => False) := by rw [← hW]; exact (Fr.refl _ _).alloc _
      clear hW p0 p1 p2 p3 p4 p5 p6 gp gl
      have HS9 := hide (HS8.out.fr hf9 (fun h => h))
      have HV9 := hide (HV8.out.fr hf9 (fun _ _ _ _ _ h => h))
      have HF9 := hide (HF8.out.step hf9 (fun _ _ h => h.elim))
      have HQ9 := hide ((World.cell?_of_block (w := w8) (a := ⟨v5.heap.size, 1, none⟩) (hf9.block v5.heap.size (by omega) (fun h => h))).trans HQ8.out)
      have gz9 := hf9.size
      clear hf9
      obtain ⟨gl1, q, -, -⟩ := q
      simp only [LDV] at q
      obtain ⟨q0, q1, q2, q3, q4, q5, q6⟩ := q
      obtain ⟨gl, p, gp, -⟩ := HS9.out
      simp only [LDV] at p
      obtain ⟨p0, p1, p2, p3, p4, p5, p6⟩ := p
      go_upto_region 13 with (fail)
      generalize hW : World.setCell (World.setCell (World.setCell (World.setCell (World.setCell (World.setCell (World.setCell v9 _ _) _ _) _ _) _ _) _ _) _ _) _ _ = v10
      obtain ⟨hs, hf⟩ : B7 v10 w2.heap.size (LDV C (ks t 2).tks.length e1 (ks t 2)) ∧ Fr v9 v10 (fun i => i = w2.heap.size) := by
        rw [← hW]
        have hh := And.intro (HS9.out.put (LDV C (ks t 2).tks.length e1 (ks t 2))) (fr_put7 (w := v9) (b := w2.heap.size) (v0 := (LDV C (ks t 2).tks.length e1 (ks t 2)).v0) (v1 := (LDV C (ks t 2).tks.length e1 (ks t 2)).v1) (v2 := (LDV C (ks t 2).tks.length e1 (ks t 2)).v2) (v3 := (LDV C (ks t 2).tks.length e1 (ks t 2)).v3) (v4 := (LDV C (ks t 2).tks.length e1 (ks t 2)).v4) (v5 := (LDV C (ks t 2).tks.length e1 (ks t 2)).v5) (v6 := (LDV C (ks t 2).tks.length e1 (ks t 2)).v6))
        simp only [put7, LDV] at hh ⊢
        exact hh
      have HS10 := hide hs
      have HV10 := hide (HV9.out.fr hf (fun hl b o hA _ h => rs_not_b7 HV9.out tk_str HS9.out (ldv_no' _ _ _ _) hl b o hA h))
      have HF10 := hide (HF9.out.step hf (fun i hi h => h))
      have hq : v10.cell? ⟨v5.heap.size, 1, none⟩ = some (.int .i64 1) := (World.cell?_of_block (w := v9) (a := ⟨v5.heap.size, 1, none⟩) (hf.block v5.heap.size (by omega) (by omega))).trans HQ9.out
      clear hW hs hf p0 p1 p2 p3 p4 p5 p6 gp q0 q1 q2 q3 q4 q5 q6 gl1
      go_wp2_with fail
      go_roundw
      case rel => exact ⟨2, C, e1, by omega, rfl, HS10, HV10, HF10⟩
      case measure => simp [intOf]
    · have hz := HF.out.size
      have hbw := HF.out.block v5.heap.size (by omega) (by omega)
      have hbr := HF.out.block (v5.heap.size + 1) (by omega) (by omega)
      have r0 : wr.cell? ⟨v5.heap.size + 1, 10, none⟩ = some (.int .i64 0) := (World.cell?_of_block (w := v6) (a := ⟨v5.heap.size + 1, 10, none⟩) hbr).trans y10
      have r1 : wr.cell? ⟨v5.heap.size + 1, 11, none⟩ = some (.int .i64 2) := (World.cell?_of_block (w := v6) (a := ⟨v5.heap.size + 1, 11, none⟩) hbr).trans y11
      have r2 : wr.cell? ⟨v5.heap.size + 1, 12, none⟩ = some (.int .i64 3) := (World.cell?_of_block (w := v6) (a := ⟨v5.heap.size + 1, 12, none⟩) hbr).trans y12
      have r3 : wr.cell? ⟨v5.heap.size + 1, 13, none⟩ = some (.int .i64 1) := (World.cell?_of_block (w := v6) (a := ⟨v5.heap.size + 1, 13, none⟩) hbr).trans y13
      have r4 : wr.cell? ⟨v5.heap.size + 1, 14, none⟩ = some (.int .i64 1) := (World.cell?_of_block (w := v6) (a := ⟨v5.heap.size + 1, 14, none⟩) hbr).trans y14
      have HQ := hide ((World.cell?_of_block (w := v6) (a := ⟨v5.heap.size, 2, none⟩) hbw).trans z2)
      have hgw : v5.heap.size + 2 ≤ wr.heap.size := by omega
      clear z0 z1 z2 z3 y0 y1 y2 y3 y4 y5 y6 y7 y8 y9 y10 y11 y12 y13 y14 y15 y16 y17 y18 y19 hbw hbr hz
      obtain ⟨gl, p, gp, -⟩ := HS.out
      simp only [LDV] at p
      obtain ⟨p0, p1, p2, p3, p4, p5, p6⟩ := p
      go_upto_region 11 with (fail)
      generalize hW : World.alloc wr _ = v7
      have hf7 : Fr wr v7 (fun _ => False) := by rw [← hW]; exact (Fr.refl _ _).alloc _
      have q : v7.cell? ⟨wr.heap.size, 0, none⟩ = some (.int .i64 0) ∧ v7.cell? ⟨wr.heap.size, 1, none⟩ = some (.int .i64 2) ∧ v7.cell? ⟨wr.heap.size, 2, none⟩ = some (.int .i64 3) ∧ v7.cell? ⟨wr.heap.size, 3, none⟩ = some (.int .i64 1) ∧ v7.cell? ⟨wr.heap.size, 4, none⟩ = some (.int .i64 1) := by
        rw [← hW]; clear hW
        refine ⟨?_, ?_, ?_, ?_, ?_⟩ <;> go_simp
      have gz7 : wr.heap.size < v7.heap.size := by rw [← hW]; simp
      clear hW p0 p1 p2 p3 p4 p5 p6 gp gl r0 r1 r2 r3 r4
      have HS7 := hide (HS.out.fr hf7 (fun h => h))
      have HV7 := hide (HV.out.fr hf7 (fun _ _ _ _ _ h => h))
      have HF7 := hide (HF.out.step hf7 (fun _ _ h => h.elim))
      have HQ7 := hide ((World.cell?_of_block (w := wr) (a := ⟨v5.heap.size, 2, none⟩) (hf7.block v5.heap.size (by omega) (fun h => h))).trans HQ.out)
      clear hf7
      obtain ⟨q0, q1, q2, q3, q4⟩ := q
      obtain ⟨gl, p, gp, -⟩ := HS7.out
      simp only [LDV] at p
      obtain ⟨p0, p1, p2, p3, p4, p5, p6⟩ := p
      go_wp2_with fail
      have c1 := take_any v7 none B d 1 (ks t 2) HV7.out rfl (by omega) (kr 2) (by simp)
      rw [ks_take HT.out (by omega)] at c1
      refine c1.mono ?_
      rintro e w8 ⟨C, e1, rfl, hr, hb⟩
      have hf8 := Fr.of_below (fun _ => False) hb
      have HS8 := hide (HS7.out.fr hf8 (fun h => h))
      have HV8 := hide hr
      have HF8 := hide (HF7.out.below_ hb)
      have HQ8 := hide ((World.cell?_of_block (w := v7) (a := ⟨v5.heap.size, 2, none⟩) (hf8.block v5.heap.size (by omega) (fun h => h))).trans HQ7.out)
      have gz8 : v7.heap.size ≤ w8.heap.size := hb.size
      clear hf8 hr hb c1 p0 p1 p2 p3 p4 p5 p6 gp gl q0 q1 q2 q3 q4
      obtain ⟨gl, p, gp, -⟩ := HS8.out
      simp only [LDV] at p
      obtain ⟨p0, p1, p2, p3, p4, p5, p6⟩ := p
      go_upto_region 12 with (fail)
      generalize hW : World.alloc w8 _ = v9
      have q : B7 v9 w8.heap.size (LDV C (ks t 3).tks.length e1 (ks t 3)) := by
        rw [← hW]
        clear hW
        simp only [B7, LDV]
        refine ⟨by simp, ⟨?_, ?_, ?_, ?_, ?_, ?_, ?_⟩, ?_, ?_⟩ <;> first | (intro j; go_simp; done) | (go_simp; done)
      have hf9 : Fr w8 v9 (fun _ => False) := by rw [← hW]; exact (Fr.refl _ _).alloc _
      clear hW p0 p1 p2 p3 p4 p5 p6 gp gl
      have HS9 := hide (HS8.out.fr hf9 (fun h => h))
      have HV9 := hide (HV8.out.fr hf9 (fun _ _ _ _ _ h => h))
      have HF9 := hide (HF8.out.step hf9 (fun _ _ h => h.elim))
      have HQ9 := hide ((World.cell?_of_block (w := w8) (a := ⟨v5.heap.size, 2, none⟩) (hf9.block v5.heap.size (by omega) (fun h => h))).trans HQ8.out)
      have gz9 := hf9.size
      clear hf9
      obtain ⟨gl1, q, -, -⟩ := q
      simp only [LDV] at q
      obtain ⟨q0, q1, q2, q3, q4, q5, q6⟩ := q
      obtain ⟨gl, p, gp, -⟩ := HS9.out
      simp only [LDV] at p
      obtain ⟨p0, p1, p2, p3, p4, p5, p6⟩ := p
      go_upto_region 13 with (fail)
      generalize hW : World.setCell (World.setCell (World.setCell (World.setCell (World.setCell (World.setCell (World.setCell v9 _ _) _ _) _ _) _ _) _ _) _ _) _ _ = v10
      obtain ⟨hs, hf⟩ : B7 v10 w2.heap.size (LDV C (ks t 3).tks.length e1 (ks t 3)) ∧ Fr v9 v10 (fun i => i = w2.heap.size) := by
        rw [← hW]
        have hh := And.intro (HS9.out.put (LDV C (ks t 3).tks.length e1 (ks t 3))) (fr_put7 (w := v9) (b := w2.heap.size) (v0 := (LDV C (ks t 3).tks.length e1 (ks t 3)).v0) (v1 := (LDV C (ks t 3).tks.length e1 (ks t 3)).v1) (v2 := (LDV C (ks t 3).tks.length e1 (ks t 3)).v2) (v3 := (LDV C (ks t 3).tks.length e1 (ks t 3)).v3) (v4 := (LDV C (ks t 3).tks.length e1 (ks t 3)).v4) (v5 := (LDV C (ks t 3).tks.length e1 (ks t 3)).v5) (v6 := (LDV C (ks t 3).tks.length e1 (ks t 3)).v6))
        simp only [put7, LDV] at hh ⊢
        exact hh
      have HS10 := hide hs
      have HV10 := hide (HV9.out.fr hf (fun hl b o hA _ h => rs_not_b7 HV9.out tk_str HS9.out (ldv_no' _ _ _ _) hl b o hA h))
      have HF10 := hide (HF9.out.step hf (fun i hi h => h))
      have hq : v10.cell? ⟨v5.heap.size, 2, none⟩ = some (.int .i64 2) := (World.cell?_of_block (w := v9) (a := ⟨v5.heap.size, 2, none⟩) (hf.block v5.heap.size (by omega) (by omega))).trans HQ9.out
      clear hW hs hf p0 p1 p2 p3 p4 p5 p6 gp q0 q1 q2 q3 q4 q5 q6 gl1
      go_wp2_with fail
      go_roundw
      case rel => exact ⟨3, C, e1, by omega, rfl, HS10, HV10, HF10⟩
      case measure => simp [intOf]
    · have hz := HF.out.size
      have hbw := HF.out.block v5.heap.size (by omega) (by omega)
      have hbr := HF.out.block (v5.heap.size + 1) (by omega) (by omega)
      have r0 : wr.cell? ⟨v5.heap.size + 1, 15, none⟩ = some (.int .i64 0) := (World.cell?_of_block (w := v6) (a := ⟨v5.heap.size + 1, 15, none⟩) hbr).trans y15
      have r1 : wr.cell? ⟨v5.heap.size + 1, 16, none⟩ = some (.int .i64 2) := (World.cell?_of_block (w := v6) (a := ⟨v5.heap.size + 1, 16, none⟩) hbr).trans y16
      have r2 : wr.cell? ⟨v5.heap.size + 1, 17, none⟩ = some (.int .i64 3) := (World.cell?_of_block (w := v6) (a := ⟨v5.heap.size + 1, 17, none⟩) hbr).trans y17
      have r3 : wr.cell? ⟨v5.heap.size + 1, 18, none⟩ = some (.int .i64 1) := (World.cell?_of_block (w := v6) (a := ⟨v5.heap.size + 1, 18, none⟩) hbr).trans y18
      have r4 : wr.cell? ⟨v5.heap.size + 1, 19, none⟩ = some (.int .i64 2) := (World.cell?_of_block (w := v6) (a := ⟨v5.heap.size + 1, 19, none⟩) hbr).trans y19
      have HQ := hide ((World.cell?_of_block (w := v6) (a := ⟨v5.heap.size, 3, none⟩) hbw).trans z3)
      have hgw : v5.heap.size + 2 ≤ wr.heap.size := by omega
      clear z0 z1 z2 z3 y0 y1 y2 y3 y4 y5 y6 y7 y8 y9 y10 y11 y12 y13 y14 y15 y16 y17 y18 y19 hbw hbr hz
      obtain ⟨gl, p, gp, -⟩ := HS.out
      simp only [LDV] at p
      obtain ⟨p0, p1, p2, p3, p4, p5, p6⟩ := p
      go_upto_region 11 with (fail)
      generalize hW : World.alloc wr _ = v7
      have hf7 : Fr wr v7 (fun _ => False) := by rw [← hW]; exact (Fr.refl _ _).alloc _
      have q : v7.cell? ⟨wr.heap.size, 0, none⟩ = some (.int .i64 0) ∧ v7.cell? ⟨wr.heap.size, 1, none⟩ = some (.int .i64 2) ∧ v7.cell? ⟨wr.heap.size, 2, none⟩ = some (.int .i64 3) ∧ v7.cell? ⟨wr.heap.size, 3, none⟩ = some (.int .i64 1) ∧ v7.cell? ⟨wr.heap.size, 4, none⟩ = some (.int .i64 2) := by
        rw [← hW]; clear hW
        refine ⟨?_, ?_, ?_, ?_, ?_⟩ <;> go_simp
      have gz7 : wr.heap.size < v7.heap.size := by rw [← hW]; simp
      clear hW p0 p1 p2 p3 p4 p5 p6 gp gl r0 r1 r2 r3 r4
      have HS7 := hide (HS.out.fr hf7 (fun h => h))
      have HV7 := hide (HV.out.fr hf7 (fun _ _ _ _ _ h => h))
      have HF7 := hide (HF.out.step hf7 (fun _ _ h => h.elim))
      have HQ7 := hide ((World.cell?_of_block (w := wr) (a := ⟨v5.heap.size, 3, none⟩) (hf7.block v5.heap.size (by omega) (fun h => h))).trans HQ.out)
      clear hf7
      obtain ⟨q0, q1, q2, q3, q4⟩ := q
      obtain ⟨gl, p, gp, -⟩ := HS7.out
      simp only [LDV] at p
      obtain ⟨p0, p1, p2, p3, p4, p5, p6⟩ := p
      go_wp2_with fail
      have c1 := take_any v7 none B d 1 (ks t 3) HV7.out rfl (by omega) (kr 3) (by simp)
      rw [ks_take HT.out (by omega)] at c1
      refine c1.mono ?_
      rintro e w8 ⟨C, e1, rfl, hr, hb⟩
      have hf8 := Fr.of_below (fun _ => False) hb
      have HS8 := hide (HS7.out.fr hf8 (fun h => h))
      have HV8 := hide hr
      have HF8 := hide (HF7.out.below_ hb)
      have HQ8 := hide ((World.cell?_of_block (w := v7) (a := ⟨v5.heap.size, 3, none⟩) (hf8.block v5.heap.size (by omega) (fun h => h))).trans HQ7.out)
      have gz8 : v7.heap.size ≤ w8.heap.size := hb.size
      clear hf8 hr hb c1 p0 p1 p2 p3 p4 p5 p6 gp gl q0 q1 q2 q3 q4
      obtain ⟨gl, p, gp, -⟩ := HS8.out
      simp only [LDV] at p
      obtain ⟨p0, p1, p2, p3, p4, p5, p6⟩ := p
      go_upto_region 12 with (fail)
      generalize hW : World.alloc w8 _ = v9
      have q : B7 v9 w8.heap.size (LDV C (ks t 4).tks.length e1 (ks t 4)) := by
        rw [← hW]
        clear hW
        simp only [B7, LDV]
        refine ⟨by simp, ⟨?_, ?_, ?_, ?_, ?_, ?_, ?_⟩, ?_, ?_⟩ <;> first | (intro j; go_simp; done) | (go_simp; done)
      have hf9 : Fr w8 v9 (fun _ => False) := by rw [← hW]; exact (Fr.refl _ _).alloc _
      clear hW p0 p1 p2 p3 p4 p5 p6 gp gl
      have HS9 := hide (HS8.out.fr hf9 (fun h => h))
      have HV9 := hide (HV8.out.fr hf9 (fun _ _ _ _ _ h => h))
      have HF9 := hide (HF8.out.step hf9 (fun _ _ h => h.elim))
      have HQ9 := hide ((World.cell?_of_block (w := w8) (a := ⟨v5.heap.size, 3, none⟩) (hf9.block v5.heap.size (by omega) (fun h => h))).trans HQ8.out)
      have gz9 := hf9.size
      clear hf9
      obtain ⟨gl1, q, -, -⟩ := q
      simp only [LDV] at q
      obtain ⟨q0, q1, q2, q3, q4, q5, q6⟩ := q
      obtain ⟨gl, p, gp, -⟩ := HS9.out
      simp only [LDV] at p
      obtain ⟨p0, p1, p2, p3, p4, p5, p6⟩ := p
      go_upto_region 13 with (fail)
      generalize hW : World.setCell (World.setCell (World.setCell (World.setCell (World.setCell (World.setCell (World.setCell v9 _ _) _ _) _ _) _ _) _ _) _ _) _ _ = v10
      obtain ⟨hs, hf⟩ : B7 v10 w2.heap.size (LDV C (ks t 4).tks.length e1 (ks t 4)) ∧ Fr v9 v10 (fun i => i = w2.heap.size) := by
        rw [← hW]
        have hh := And.intro (HS9.out.put (LDV C (ks t 4).tks.length e1 (ks t 4))) (fr_put7 (w := v9) (b := w2.heap.size) (v0 := (LDV C (ks t 4).tks.length e1 (ks t 4)).v0) (v1 := (LDV C (ks t 4).tks.length e1 (ks t 4)).v1) (v2 := (LDV C (ks t 4).tks.length e1 (ks t 4)).v2) (v3 := (LDV C (ks t 4).tks.length e1 (ks t 4)).v3) (v4 := (LDV C (ks t 4).tks.length e1 (ks t 4)).v4) (v5 := (LDV C (ks t 4).tks.length e1 (ks t 4)).v5) (v6 := (LDV C (ks t 4).tks.length e1 (ks t 4)).v6))
        simp only [put7, LDV] at hh ⊢
        exact hh
      have HS10 := hide hs
      have HV10 := hide (HV9.out.fr hf (fun hl b o hA _ h => rs_not_b7 HV9.out tk_str HS9.out (ldv_no' _ _ _ _) hl b o hA h))
      have HF10 := hide (HF9.out.step hf (fun i hi h => h))
      have hq : v10.cell? ⟨v5.heap.size, 3, none⟩ = some (.int .i64 5) := (World.cell?_of_block (w := v9) (a := ⟨v5.heap.size, 3, none⟩) (hf.block v5.heap.size (by omega) (by omega))).trans HQ9.out
      clear hW hs hf p0 p1 p2 p3 p4 p5 p6 gp q0 q1 q2 q3 q4 q5 q6 gl1
      go_wp2_with fail
      go_roundw
      case rel => exact ⟨4, C, e1, by omega, rfl, HS10, HV10, HF10⟩
      case measure => simp [intOf]
    · clear z0 z1 z2 z3 y0 y1 y2 y3 y4 y5 y6 y7 y8 y9 y10 y11 y12 y13 y14 y15 y16 y17 y18 y19
      go_wp2_with fail
      refine bodyPost_ret (v := .bool true) (by simp [results, Try.results12, go_sem, *]) rfl ⟨rfl, ?_⟩
      have h := HF6.out.step HF.out (fun i hi h => by omega)
      exact h.below (Nat.le_refl _) (fun _ _ h => h)

end Go.Proofs.Ytjhkgoengoiljaa

/- Words for the laws: a slice of ints that came in, the tape over it. -/
namespace Go.Proofs.Ytjhkgoengoiljaa
open Go.RowKit

/-- A row of ints that came in reads as a list. -/
theorem came_ints {w : World} {a : Option Addr} {len cap : Nat} {zs : List Int}
    (h : (a = none ∧ len = 0 ∧ cap = 0 ∧ zs = []) ∨ ∃ x, a = some x ∧ len ≤ cap ∧ cap ≤ maxLen ∧ zs.length = cap ∧ (∀ i, i < zs.length → w.cell? (x.add i) = some (.int .i64 (zs.getD i 0))) ∧ ∀ n ∈ zs, (Lit.int .i64 n).wf = true) :
    ∃ l : List Int, l.length = len ∧ Rs w none 1 iv a l := by
  rcases h with ⟨rfl, rfl, rfl, rfl⟩ | ⟨x, rfl, hl, hm, hz, hcell, _⟩
  · exact ⟨[], rfl, Rs.nil⟩
  · refine ⟨zs.take len, by simp; omega, fun hne => ?_⟩
    have hpos : 0 < zs.length := by
      cases zs with
      | nil => simp at hne
      | cons z zs => simp
    obtain ⟨b, o, sp⟩ := x
    have h0 := hcell 0 hpos
    rw [Addr.add, if_pos rfl] at h0
    have hsp : sp = none := by
      cases sp with
      | none => rfl
      | some s =>
        simp only [World.cell?] at h0
        split at h0 <;> simp at h0
    subst hsp
    have hb : b < w.heap.size := by
      rcases Nat.lt_or_ge b w.heap.size with h | h
      · exact h
      · simp only [World.cell?, Array.getElem?_eq_none h] at h0
        cases h0
    refine ⟨b, o, rfl, by simp, hb, fun k z hk j u hu => ?_⟩
    match j with
    | 0 =>
      simp [iv] at hu
      subst hu
      rw [List.getElem?_take] at hk
      split at hk
      · have hk2 : k < zs.length := (List.getElem?_eq_some_iff.1 hk).1
        have := hcell k hk2
        rw [Addr.add_lit] at this
        simp only [Nat.mul_one, Nat.add_zero]
        rw [this]
        simp [List.getD_eq_getElem?_getD, hk]
      · cases hk
    | j + 1 => simp [iv] at hu

/-- The tape just made. -/
theorem tape_new {w : World} {A : Option Addr} {n c : Nat} {l : List Int} (h : Rs w none 1 iv A l) (hl : l.length = n) (t : TypeId) : TapeAt (w.alloc (.cells #[.slice A n c, .int .i64 0] t)) w.heap.size A n c l 0 := by
  refine ⟨by simp, by go_simp, by go_simp, fun j => by go_simp, fun hne => ?_, hl⟩
  obtain ⟨b, o, h1, _, h3, h4⟩ := h hne
  refine ⟨b, o, h1, by intro e; injection e with e; omega, by simp; omega, fun k a hk j u hu => ?_⟩
  have := h4 k a hk j u hu
  rw [← this]
  exact World.cell?_of_block (w := w) (a := ⟨b, o + k * 1 + j, none⟩) (((Below.refl w.heap.size w).alloc (Nat.le_refl _) _).block b h3)

end Go.Proofs.Ytjhkgoengoiljaa

/- Contracts of the reference: Open. -/
namespace Go.Proofs.Ytjhkgoengoiljaa
open Go.RowKit

set_option maxRecDepth 100000 in
set_option maxHeartbeats 1000000 in
theorem ropen_bad (w : World) (av : Option Nat) (A : Option Addr) (c n : Nat) (L : Ld) (hR : Rs w av 10 Tk.vals A L.tks) (hn : L.tks.length = n) (hc63 : n ≤ 4294967296) (hok : L.ok = false) :
    Calls Try.prog 29 #[.agg #[.slice A n c, .int .i64 L.r0, .int .i64 L.r1, .int .i64 L.r2, .int .i64 L.r3, .int .i64 L.r4, .int .i64 L.r5]] w fun e w' => e = .returned (.slice none 0 0) ∧ Below w.heap.size w w' := by
  have hN := hide hn; clear hn
  have HK := hide hok; clear hok
  go_enter Try.func29, Try.ntmps29
  go_wp2_with (go_at_call 30; refine (rcheck_any A c n L _ av (hR.alloc _) hN.out hc63).mono ?_; rintro e w1 ⟨rfl, hb1⟩; rw [HK.out]; obtain ⟨hc1, hf1, hz1⟩ := gcell (grown_of_below hb1 none) (w.heap.size + 1) (by first | (simp; done) | (simp; omega)); have : w.heap.size < w1.heap.size := (by omega))
  go_ret
  exact ⟨rfl, ((Below.refl _ _).alloc (Nat.le_refl _) _).trans (hb1.mono (by simp))⟩

set_option maxRecDepth 100000 in
set_option maxHeartbeats 2000000 in
theorem ropen_ok (w : World) (av : Option Nat) (A : Option Addr) (c n : Nat) (L : Ld) (hR : Rs w av 10 Tk.vals A L.tks) (hn : L.tks.length = n) (hc63 : n ≤ 4294967296) (hok : L.ok = true) (hav : ∀ x, av = some x → x < w.heap.size) :
    Calls Try.prog 29 #[.agg #[.slice A n c, .int .i64 L.r0, .int .i64 L.r1, .int .i64 L.r2, .int .i64 L.r3, .int .i64 L.r4, .int .i64 L.r5]] w fun e w' => (∃ A' c', e = .returned (.slice A' (idxs notDone L.tks 0).length c') ∧ Rs w' av 1 iv A' (idxs notDone L.tks 0)) ∧ Below w.heap.size w w' := by
  have hN := hide hn; clear hn
  have HK := hide hok; clear hok
  have HV := hide hav; clear hav
  go_enter Try.func29, Try.ntmps29
  go_wp2_with (go_at_call 30; refine (rcheck_any A c n L _ av (hR.alloc _) hN.out hc63).mono ?_; rintro e w1 ⟨rfl, hb1⟩; rw [HK.out]; obtain ⟨hc1, hf1, hz1⟩ := gcell (grown_of_below hb1 none) (w.heap.size + 1) (by first | (simp; done) | (simp; omega)); have : w.heap.size < w1.heap.size := (by omega))
  have HR1 := hide ((hR.alloc (.cells #[.slice A n c, .int .i64 L.r0, .int .i64 L.r1, .int .i64 L.r2, .int .i64 L.r3, .int .i64 L.r4, .int .i64 L.r5] 26)).below hb1)
  have HB1 := hide hb1
  have z0 : w1.cell? ⟨w.heap.size, 0, none⟩ = some (.slice A n c) := by go_simp
  have Z0 := hide z0
  clear hc1 hf1 hb1 z0
  go_loopw [3, 4] (fun v x wr => ∃ (k : Nat) (A' : Option Addr) (c' : Nat), k ≤ n ∧ x = .int .i64 k ∧ v = .slice A' (idxs notDone (L.tks.take k) 0).length c' ∧ Hid (wr.ownsRow w1.heap.size 3 1 (.slice A' (idxs notDone (L.tks.take k) 0).length c') (idxs notDone (L.tks.take k) 0).length ((idxs notDone (L.tks.take k) 0).flatMap iv)) ∧ Hid (Below w1.heap.size w1 wr)) (fun _ x _ => n - (intOf x).toNat)
  case atStart => exact ⟨0, none, 0, by omega, rfl, rfl, hide (World.ownsRow_nil _ _ _ _), hide (Below.refl _ _)⟩
  case round =>
    obtain ⟨k, A', c', hk, rfl, rfl, HO, HB⟩ := hrel
    obtain ⟨m, hm⟩ : ∃ m, m = (idxs notDone (L.tks.take k) 0).length := ⟨_, rfl⟩
    have hm2 : m ≤ k := by
      have h1 := idxs_len notDone (L.tks.take k) 0
      have h2 : (L.tks.take k).length ≤ k := List.length_take_le _ _
      omega
    by_cases hlt : k < n
    · have hi1 : (0 : Int) ≤ (k : Int) := by omega
      have hi2 : (k : Int) < (n : Int) := by omega
      obtain ⟨t, ht⟩ : ∃ t, L.tks[k]? = some t := ⟨_, List.getElem?_eq_getElem (by have := hN.out; omega)⟩
      have HT := hide (idxs_take notDone ht)
      obtain ⟨b, o, rfl, -, hb, hcells⟩ := (HR1.out.below HB.out).at ht
      obtain ⟨f0, f1, f2, f3, f4, f5, f6, f7, f8, f9⟩ := tkAt_of hcells
      have hz := HB.out.size
      have z1 : wr.cell? ⟨w.heap.size, 0, none⟩ = some (.slice (some ⟨b, o, none⟩) n c) := (HB.out.cell (p := ⟨w.heap.size, 0, none⟩) this).trans Z0.out
      rw [← hm] at HO ⊢
      have HM := hide hm
      clear hcells ht hm
      cases hs : (t.st == 2)
      · have hs2 : (t.st != 2) = true := by simp [bne, hs]
        have HS := hide (show notDone t = true by simp [notDone, stIs, hs])
        clear hs
        go_wp2_with (at_builtin; refine wl_append _ rfl (.tmp 22) (.tmp 24) 22 (by rfl) w1.heap.size 3 _ 1 8 Try.underlying22 info3 rfl (by decide) (.slice A' m c') m (idxs notDone (L.tks.take k) 0) (by rfl) (HO.out.alloc _) _ 1 1 [(k : Int)] (by rfl) (rs_one (av := none) (by simp) (by simp) (by intro j u hu; match j with | 0 => simp [iv] at hu; subst hu; go_simp | j + 1 => simp [iv] at hu)) rfl iv_len iv_one (by omega) (by decide) (by simp; omega) ?_; intro A2 c2 w2 hown2 hg2 _; have HO2 := hide hown2; have HG2 := hide hg2; clear hown2 hg2)
        go_wp2_with fail
        go_roundw
        case rel =>
          have e1 := HT.out
          rw [HS.out, if_pos rfl] at e1
          have e2 : (idxs notDone (L.tks.take k) 0 ++ [(k : Int)]).length = m + 1 := by simp [HM.out]
          refine ⟨k + 1, A2, c2, by omega, by go_num, ?_, hide ?_, hide ?_⟩
          · rw [e1, e2]
          · rw [e1, e2]; exact HO2.out
          · exact ((HB.out.alloc hz _).grown HG2.out (by simp; omega) (own_ge HO.out))
        case measure => simp [intOf]; omega
      · have hs2 : (t.st != 2) = false := by simp [bne, hs]
        have HS := hide (show notDone t = false by simp [notDone, stIs, hs])
        clear hs
        go_wp2_with fail
        go_roundw
        case rel =>
          have e1 := HT.out
          rw [HS.out, if_neg (by simp), List.append_nil] at e1
          refine ⟨k + 1, A', c', by omega, by go_num, ?_, hide ?_, hide ?_⟩
          · rw [e1, ← HM.out]
          · rw [e1, ← HM.out]; exact HO.out
          · exact HB.out
        case measure => simp [intOf]; omega
    · have hkn : decide ((k : Int) < (n : Int)) = false := by simp; omega
      have e0 : L.tks.take k = L.tks := List.take_of_length_le (by have := hN.out; omega)
      rw [e0] at hm HO ⊢
      have HM := hide hm
      have z1 : wr.cell? ⟨w.heap.size, 0, none⟩ = some (.slice A n c) := (HB.out.cell (p := ⟨w.heap.size, 0, none⟩) this).trans Z0.out
      clear e0 hm
      go_wp2_with fail
      go_ret
      refine ⟨⟨A', _, rfl, ?_⟩, ((Below.refl _ _).alloc (Nat.le_refl _) _).trans ((HB1.out.mono (by simp)).trans (HB.out.mono (by omega)))⟩
      exact Rs.of_own HO.out iv_len rfl (fun x hx => by have := HV.out x hx; omega)

end Go.Proofs.Ytjhkgoengoiljaa
