/- Contracts of the functions that these laws reach: part 11: Contracts: what becomes of a report, by the program's list of rules; Contracts of the reference: the class of a report; Contracts: delivery.Send of one report on the empty network (what Take asks of it); Contracts: delivery.Send of one report on the empty network: OK. -/
import Derived.Test.YtjhkgoengoiljaaG10
import Derived.Test.YtjhkgoengoiljaaG2
import Derived.Test.YtjhkgoengoiljaaG3
import Derived.Deep.RegionHeld3
import Derived.Laws.EntriesVeiled
import Derived.Test.YtjhkgoengoiljaaG5
set_option linter.unusedVariables false
set_option linter.unusedSimpArgs false

/- Contracts: what becomes of a report, by the program's list of rules. -/
namespace Go.Proofs.Ytjhkgoengoiljaa
open Go.RowKit

def ruleB (t : Tk) (p : Rp) : Nat → Bool
  | 0 => (t.st == 1) && sameB t p
  | 1 => sameB t p && (t.out == p.out)
  | 2 => sameB t p && repB t.out
  | _ => true
def kindNo : Nat → Int
  | 0 => 1
  | 1 => 2
  | 2 => 5
  | _ => 3
theorem kindOf_rule {t : Tk} {p : Rp} {k : Nat} (h : ∀ j, j < k → ruleB t p j = false) (hk : ruleB t p k = true) (h3 : k ≤ 3) : kindOf t p = kindNo k := by
  unfold kindOf
  match k, h3 with
  | 0, _ => simp [ruleB] at hk; simp [hk, kindNo]
  | 1, _ =>
    have h0 := h 0 (by omega)
    simp [ruleB] at hk h0
    have : ¬ t.st = 1 := fun e => by simp [h0 e] at hk
    simp [this, hk, kindNo]
  | 2, _ =>
    have h0 := h 0 (by omega)
    have h1 := h 1 (by omega)
    simp [ruleB] at hk h0 h1
    have a : ¬ t.st = 1 := fun e => by simp [h0 e] at hk
    have b : ¬ t.out = p.out := h1 hk.1
    simp [a, b, hk, kindNo]
  | 3, _ =>
    have h0 := h 0 (by omega)
    have h1 := h 1 (by omega)
    have h2 := h 2 (by omega)
    simp only [ruleB] at h0 h1 h2
    cases hs : sameB t p
    · simp [kindNo]
    · simp [hs] at h0 h1 h2
      simp [h0, h1, h2, kindNo]
theorem rule_some (t : Tk) (p : Rp) : ∃ k, k ≤ 3 ∧ (∀ j, j < k → ruleB t p j = false) ∧ ruleB t p k = true := by
  cases h0 : ruleB t p 0
  · cases h1 : ruleB t p 1
    · cases h2 : ruleB t p 2
      · exact ⟨3, by omega, fun j hj => by match j, hj with | 0, _ => exact h0 | 1, _ => exact h1 | 2, _ => exact h2, rfl⟩
      · exact ⟨2, by omega, fun j hj => by match j, hj with | 0, _ => exact h0 | 1, _ => exact h1, h2⟩
    · exact ⟨1, by omega, fun j hj => by match j, hj with | 0, _ => exact h0, h1⟩
  · exact ⟨0, by omega, fun j hj => by omega, h0⟩

set_option maxRecDepth 100000 in
set_option maxHeartbeats 1000000 in
theorem kind_none (A : Option Addr) (n c : Nat) (L : Ld) (p : Rp) (w : World) (hn : L.tks.length = n) (hk : L.get? p.tick = none) :
    Calls Try.prog 46 #[.agg #[.slice A n c, .int .i64 L.r0, .int .i64 L.r1, .int .i64 L.r2, .int .i64 L.r3, .int .i64 L.r4, .int .i64 L.r5], .agg #[.int .i64 p.tick, .int .i64 p.att, .int .i64 p.run, .int .i64 p.ep, .int .i64 p.out]] w fun e w' => e = .returned (.int .i64 4) ∧ Below w.heap.size w w' := by
  have hkk : (decide (0 ≤ p.tick) && decide (p.tick < n)) = false := by have := get?_none hk; rw [hn] at this; simp at this ⊢; omega
  have HK := hide hkk
  clear hn hk hkk
  go_enter Try.func46, Try.ntmps46
  go_wp2_with (go_at_call 62; refine (has_any A n c L p.tick _).mono ?_; rintro e w1 ⟨rfl, hb1⟩; rw [HK.out]; obtain ⟨hc1, hf1, hz1⟩ := gcell (grown_of_below hb1 none) (w.heap.size + 2) (by first | (simp; done) | (simp; omega)); have : w.heap.size < w1.heap.size := (by omega); have : w.heap.size + 1 < w1.heap.size := (by omega))
  go_ret
  exact ⟨rfl, (((Below.refl _ _).alloc (Nat.le_refl _) _).alloc (by simp) _).trans (hb1.mono (by simp; omega))⟩

set_option maxRecDepth 100000 in
set_option maxHeartbeats 2000000 in
theorem kind_some (A : Option Addr) (n c : Nat) (L : Ld) (i : Nat) (att run ep out : Int) (t : Tk) (w : World) (av : Option Nat) (hR : Rs w av 10 Tk.vals A L.tks) (hn : L.tks.length = n) (hi : i < n) (h63 : n ≤ 4294967296) (hk : L.tks[i]? = some t) :
    Calls Try.prog 46 #[.agg #[.slice A n c, .int .i64 L.r0, .int .i64 L.r1, .int .i64 L.r2, .int .i64 L.r3, .int .i64 L.r4, .int .i64 L.r5], .agg #[.int .i64 (⟨i, att, run, ep, out⟩ : Rp).tick, .int .i64 (⟨i, att, run, ep, out⟩ : Rp).att, .int .i64 (⟨i, att, run, ep, out⟩ : Rp).run, .int .i64 (⟨i, att, run, ep, out⟩ : Rp).ep, .int .i64 (⟨i, att, run, ep, out⟩ : Rp).out]] w fun e w' => e = .returned (.int .i64 (kindOf t ⟨i, att, run, ep, out⟩)) ∧ Below w.heap.size w w' := by
  have hkk : (decide (0 ≤ (i : Int)) && decide ((i : Int) < n)) = true := by simp; omega
  have HK := hide hkk
  have hiI : (i : Int) < (n : Int) := by omega
  have hi0 : (0 : Int) ≤ (i : Int) := by omega
  have HN := hide hn
  have HG := hide hk
  obtain ⟨b, o, rfl, -, -, -⟩ := hR.at hk
  clear hkk hn hk
  go_enter Try.func46, Try.ntmps46
  go_wp2_with (first
    | (go_at_call 62; refine (has_any _ n c L i _).mono ?_; rintro e w1 ⟨rfl, hb1⟩; rw [HK.out]; obtain ⟨hc1, hf1, hz1⟩ := gcell (grown_of_below hb1 none) (w.heap.size + 2) (by first | (simp; done) | (simp; omega)); have : w.heap.size < w1.heap.size := (by omega); have : w.heap.size + 1 < w1.heap.size := (by omega))
    | (go_at_call 65; refine (rules_any _).mono ?_; rintro e w2 ⟨rfl, hr2, hz2, hb2⟩; obtain ⟨hc2, hf2⟩ := bcell hb2))
  go_loopw [14] (fun x wr => ∃ k : Nat, k ≤ 3 ∧ x = .int .i64 k ∧ Hid (∀ j, j < k → ruleB t ⟨i, att, run, ep, out⟩ j = false) ∧ Hid (Below w2.heap.size w2 wr)) (fun x _ => 4 - (intOf x).toNat)
  case atStart => exact ⟨0, by omega, rfl, hide (fun j hj => by omega), hide (Below.refl _ _)⟩
  case round =>
    obtain ⟨k, hk3, rfl, HP, HB⟩ := hrel
    have hb3 := HB.out
    obtain ⟨hc3, hf3⟩ := bcell hb3
    have hz3 := hb3.size
    have n0 : w.heap.size < w2.heap.size := by omega
    have n1 : w.heap.size + 1 < w2.heap.size := by omega
    have n2 : w1.heap.size < w2.heap.size := by omega
    have hR3 := (((((hR.alloc _).alloc _)).below hb1).below hb2).below hb3
    obtain ⟨b', o', hA, hne, hbb, hcells⟩ := hR3.at HG.out
    obtain ⟨rfl, rfl⟩ : b = b' ∧ o = o' := by simpa using hA
    obtain ⟨f0, f1, f2, f3, f4, f5, f6, f7, f8, f9⟩ := tkAt_of hcells
    have sk : wr.cell? ⟨w.heap.size, 0, none⟩ = some (.slice (some ⟨b, o, none⟩) n c) ∧ wr.cell? ⟨w.heap.size + 1, 0, none⟩ = some (.int .i64 i) ∧ wr.cell? ⟨w.heap.size + 1, 1, none⟩ = some (.int .i64 att) ∧ wr.cell? ⟨w.heap.size + 1, 2, none⟩ = some (.int .i64 run) ∧ wr.cell? ⟨w.heap.size + 1, 3, none⟩ = some (.int .i64 ep) ∧ wr.cell? ⟨w.heap.size + 1, 4, none⟩ = some (.int .i64 out) := by refine ⟨?_, ?_, ?_, ?_, ?_, ?_⟩ <;> go_simp
    obtain ⟨s0, s1, s2, s3, s4, s5⟩ := sk
    have ru : RulesAt wr w1.heap.size := by
      unfold RulesAt at hr2 ⊢
      obtain ⟨q0, q1, q2, q3, q4, q5, q6, q7⟩ := hr2
      refine ⟨?_, ?_, ?_, ?_, ?_, ?_, ?_, ?_⟩ <;> go_simp
    obtain ⟨q0, q1, q2, q3, q4, q5, q6, q7⟩ := ru
    have HR1 := hide hb1
    have HR2 := hide hb2
    have HR3 := hide hb3
    have HRR := hide hR3
    have l0 : w.heap.size < wr.heap.size + 1 := by omega
    have l1 : w.heap.size + 1 < wr.heap.size + 1 := by omega
    have l2 : b < wr.heap.size + 1 := by omega
    have l3 : w1.heap.size < wr.heap.size + 1 := by omega
    have m0 : ¬ b = wr.heap.size := by omega
    have m1 : ¬ w.heap.size = wr.heap.size := by omega
    have m2 : ¬ w.heap.size + 1 = wr.heap.size := by omega
    have m3 : ¬ w1.heap.size = wr.heap.size := by omega
    clear hcells hA hc1 hf1 hc2 hf2 hc3 hf3 hb1 hb2 hb3 hR3 hr2 HB
    have hkk : k = 0 ∨ k = 1 ∨ k = 2 ∨ k = 3 := by omega
    cases hrk : ruleB t ⟨i, att, run, ep, out⟩ k
    · have HK2 := hide hrk
      clear hrk
      rcases hkk with rfl | rfl | rfl | rfl
      · go_wp2_with fail
        go_region_held3 (fun W => (W.cell? ⟨w.heap.size, 0, none⟩ = some (.slice (some ⟨b, o, none⟩) n c) ∧ W.cell? ⟨w.heap.size + 1, 0, none⟩ = some (.int .i64 i) ∧ W.cell? ⟨w.heap.size + 1, 1, none⟩ = some (.int .i64 att) ∧ W.cell? ⟨w.heap.size + 1, 2, none⟩ = some (.int .i64 run) ∧ W.cell? ⟨w.heap.size + 1, 3, none⟩ = some (.int .i64 ep) ∧ W.cell? ⟨w.heap.size + 1, 4, none⟩ = some (.int .i64 out)) ∧ (W.cell? ⟨b, (o + i * 10), none⟩ = some (.string t.pk) ∧ W.cell? ⟨b, (o + i * 10) + 1, none⟩ = some (.string t.ts) ∧ W.cell? ⟨b, (o + i * 10) + 2, none⟩ = some (.int .i64 t.env) ∧ W.cell? ⟨b, (o + i * 10) + 3, none⟩ = some (.int .i64 t.cost) ∧ W.cell? ⟨b, (o + i * 10) + 4, none⟩ = some (.int .i64 t.rev) ∧ W.cell? ⟨b, (o + i * 10) + 5, none⟩ = some (.int .i64 t.st) ∧ W.cell? ⟨b, (o + i * 10) + 6, none⟩ = some (.int .i64 t.att) ∧ W.cell? ⟨b, (o + i * 10) + 7, none⟩ = some (.int .i64 t.run) ∧ W.cell? ⟨b, (o + i * 10) + 8, none⟩ = some (.int .i64 t.ep) ∧ W.cell? ⟨b, (o + i * 10) + 9, none⟩ = some (.int .i64 t.out)) ∧ W.cell? ⟨wr.heap.size, 1, none⟩ = some (.func (.func 72) #[] #[])) (first | (go_keep; done) | ((try dsimp only); (repeat' apply And.intro) <;> first | (go_keep; done) | ((repeat rw [World.cell?_setCell_other _ _ _ _ (by intro h; injection h; omega)]); go_keep; done))) ((go_at_call 72; refine (rule1_any t ⟨i, att, run, ep, out⟩ _).mono ?_; rintro e w3 ⟨rfl, hb4⟩; rw [show ((t.st == 1) && sameB t ⟨i, att, run, ep, out⟩) = false from HK2.out]; obtain ⟨hc4, hf4⟩ := bcell hb4))
        go_wp2_with fail
        have HR4 := hide hb4
        clear hc4 hf4 hb4
        go_roundw
        case rel =>
          refine ⟨1, by omega, by go_num, hide (fun j hj => ?_), hide ?_⟩
          · rcases Nat.lt_succ_iff_lt_or_eq.1 hj with h | rfl
            · exact HP.out j h
            · exact HK2.out
          · refine Fr.below (S := fun _ => False) ?_ (Nat.le_refl _) (fun _ _ h => h)
            refine Fr.below_ ?_ HR4.out
            (repeat' first | (with_reducible refine Fr.setCell ?_ (Or.inl (by first | (simp; done) | (simp; omega))) _) | (with_reducible refine Fr.alloc ?_ _) | (with_reducible refine Fr.drew ?_))
            exact Fr.of_below _ HR3.out
        case measure => simp [intOf]
      · go_wp2_with fail
        go_region_held3 (fun W => (W.cell? ⟨w.heap.size, 0, none⟩ = some (.slice (some ⟨b, o, none⟩) n c) ∧ W.cell? ⟨w.heap.size + 1, 0, none⟩ = some (.int .i64 i) ∧ W.cell? ⟨w.heap.size + 1, 1, none⟩ = some (.int .i64 att) ∧ W.cell? ⟨w.heap.size + 1, 2, none⟩ = some (.int .i64 run) ∧ W.cell? ⟨w.heap.size + 1, 3, none⟩ = some (.int .i64 ep) ∧ W.cell? ⟨w.heap.size + 1, 4, none⟩ = some (.int .i64 out)) ∧ (W.cell? ⟨b, (o + i * 10), none⟩ = some (.string t.pk) ∧ W.cell? ⟨b, (o + i * 10) + 1, none⟩ = some (.string t.ts) ∧ W.cell? ⟨b, (o + i * 10) + 2, none⟩ = some (.int .i64 t.env) ∧ W.cell? ⟨b, (o + i * 10) + 3, none⟩ = some (.int .i64 t.cost) ∧ W.cell? ⟨b, (o + i * 10) + 4, none⟩ = some (.int .i64 t.rev) ∧ W.cell? ⟨b, (o + i * 10) + 5, none⟩ = some (.int .i64 t.st) ∧ W.cell? ⟨b, (o + i * 10) + 6, none⟩ = some (.int .i64 t.att) ∧ W.cell? ⟨b, (o + i * 10) + 7, none⟩ = some (.int .i64 t.run) ∧ W.cell? ⟨b, (o + i * 10) + 8, none⟩ = some (.int .i64 t.ep) ∧ W.cell? ⟨b, (o + i * 10) + 9, none⟩ = some (.int .i64 t.out)) ∧ W.cell? ⟨wr.heap.size, 1, none⟩ = some (.func (.func 74) #[] #[])) (first | (go_keep; done) | ((try dsimp only); (repeat' apply And.intro) <;> first | (go_keep; done) | ((repeat rw [World.cell?_setCell_other _ _ _ _ (by intro h; injection h; omega)]); go_keep; done))) ((go_at_call 74; refine (rule2_any t ⟨i, att, run, ep, out⟩ _).mono ?_; rintro e w3 ⟨rfl, hb4⟩; rw [show (sameB t ⟨i, att, run, ep, out⟩ && (t.out == (⟨i, att, run, ep, out⟩ : Rp).out)) = false from HK2.out]; obtain ⟨hc4, hf4⟩ := bcell hb4))
        go_wp2_with fail
        have HR4 := hide hb4
        clear hc4 hf4 hb4
        go_roundw
        case rel =>
          refine ⟨2, by omega, by go_num, hide (fun j hj => ?_), hide ?_⟩
          · rcases Nat.lt_succ_iff_lt_or_eq.1 hj with h | rfl
            · exact HP.out j h
            · exact HK2.out
          · refine Fr.below (S := fun _ => False) ?_ (Nat.le_refl _) (fun _ _ h => h)
            refine Fr.below_ ?_ HR4.out
            (repeat' first | (with_reducible refine Fr.setCell ?_ (Or.inl (by first | (simp; done) | (simp; omega))) _) | (with_reducible refine Fr.alloc ?_ _) | (with_reducible refine Fr.drew ?_))
            exact Fr.of_below _ HR3.out
        case measure => simp [intOf]
      · go_wp2_with fail
        go_region_held3 (fun W => (W.cell? ⟨w.heap.size, 0, none⟩ = some (.slice (some ⟨b, o, none⟩) n c) ∧ W.cell? ⟨w.heap.size + 1, 0, none⟩ = some (.int .i64 i) ∧ W.cell? ⟨w.heap.size + 1, 1, none⟩ = some (.int .i64 att) ∧ W.cell? ⟨w.heap.size + 1, 2, none⟩ = some (.int .i64 run) ∧ W.cell? ⟨w.heap.size + 1, 3, none⟩ = some (.int .i64 ep) ∧ W.cell? ⟨w.heap.size + 1, 4, none⟩ = some (.int .i64 out)) ∧ (W.cell? ⟨b, (o + i * 10), none⟩ = some (.string t.pk) ∧ W.cell? ⟨b, (o + i * 10) + 1, none⟩ = some (.string t.ts) ∧ W.cell? ⟨b, (o + i * 10) + 2, none⟩ = some (.int .i64 t.env) ∧ W.cell? ⟨b, (o + i * 10) + 3, none⟩ = some (.int .i64 t.cost) ∧ W.cell? ⟨b, (o + i * 10) + 4, none⟩ = some (.int .i64 t.rev) ∧ W.cell? ⟨b, (o + i * 10) + 5, none⟩ = some (.int .i64 t.st) ∧ W.cell? ⟨b, (o + i * 10) + 6, none⟩ = some (.int .i64 t.att) ∧ W.cell? ⟨b, (o + i * 10) + 7, none⟩ = some (.int .i64 t.run) ∧ W.cell? ⟨b, (o + i * 10) + 8, none⟩ = some (.int .i64 t.ep) ∧ W.cell? ⟨b, (o + i * 10) + 9, none⟩ = some (.int .i64 t.out)) ∧ W.cell? ⟨wr.heap.size, 1, none⟩ = some (.func (.func 75) #[] #[])) (first | (go_keep; done) | ((try dsimp only); (repeat' apply And.intro) <;> first | (go_keep; done) | ((repeat rw [World.cell?_setCell_other _ _ _ _ (by intro h; injection h; omega)]); go_keep; done))) ((go_at_call 75; refine (rule3_any t ⟨i, att, run, ep, out⟩ _).mono ?_; rintro e w3 ⟨rfl, hb4⟩; rw [show (sameB t ⟨i, att, run, ep, out⟩ && repB t.out) = false from HK2.out]; obtain ⟨hc4, hf4⟩ := bcell hb4))
        go_wp2_with fail
        have HR4 := hide hb4
        clear hc4 hf4 hb4
        go_roundw
        case rel =>
          refine ⟨3, by omega, by go_num, hide (fun j hj => ?_), hide ?_⟩
          · rcases Nat.lt_succ_iff_lt_or_eq.1 hj with h | rfl
            · exact HP.out j h
            · exact HK2.out
          · refine Fr.below (S := fun _ => False) ?_ (Nat.le_refl _) (fun _ _ h => h)
            refine Fr.below_ ?_ HR4.out
            (repeat' first | (with_reducible refine Fr.setCell ?_ (Or.inl (by first | (simp; done) | (simp; omega))) _) | (with_reducible refine Fr.alloc ?_ _) | (with_reducible refine Fr.drew ?_))
            exact Fr.of_below _ HR3.out
        case measure => simp [intOf]
      · exact absurd HK2.out (by simp [ruleB])
    · have HK2 := hide hrk
      clear hrk
      rcases hkk with rfl | rfl | rfl | rfl
      · go_wp2_with fail
        go_region_held3 (fun W => (W.cell? ⟨w.heap.size, 0, none⟩ = some (.slice (some ⟨b, o, none⟩) n c) ∧ W.cell? ⟨w.heap.size + 1, 0, none⟩ = some (.int .i64 i) ∧ W.cell? ⟨w.heap.size + 1, 1, none⟩ = some (.int .i64 att) ∧ W.cell? ⟨w.heap.size + 1, 2, none⟩ = some (.int .i64 run) ∧ W.cell? ⟨w.heap.size + 1, 3, none⟩ = some (.int .i64 ep) ∧ W.cell? ⟨w.heap.size + 1, 4, none⟩ = some (.int .i64 out)) ∧ (W.cell? ⟨b, (o + i * 10), none⟩ = some (.string t.pk) ∧ W.cell? ⟨b, (o + i * 10) + 1, none⟩ = some (.string t.ts) ∧ W.cell? ⟨b, (o + i * 10) + 2, none⟩ = some (.int .i64 t.env) ∧ W.cell? ⟨b, (o + i * 10) + 3, none⟩ = some (.int .i64 t.cost) ∧ W.cell? ⟨b, (o + i * 10) + 4, none⟩ = some (.int .i64 t.rev) ∧ W.cell? ⟨b, (o + i * 10) + 5, none⟩ = some (.int .i64 t.st) ∧ W.cell? ⟨b, (o + i * 10) + 6, none⟩ = some (.int .i64 t.att) ∧ W.cell? ⟨b, (o + i * 10) + 7, none⟩ = some (.int .i64 t.run) ∧ W.cell? ⟨b, (o + i * 10) + 8, none⟩ = some (.int .i64 t.ep) ∧ W.cell? ⟨b, (o + i * 10) + 9, none⟩ = some (.int .i64 t.out)) ∧ W.cell? ⟨wr.heap.size, 1, none⟩ = some (.func (.func 72) #[] #[])) (first | (go_keep; done) | ((try dsimp only); (repeat' apply And.intro) <;> first | (go_keep; done) | ((repeat rw [World.cell?_setCell_other _ _ _ _ (by intro h; injection h; omega)]); go_keep; done))) ((go_at_call 72; refine (rule1_any t ⟨i, att, run, ep, out⟩ _).mono ?_; rintro e w3 ⟨rfl, hb4⟩; rw [show ((t.st == 1) && sameB t ⟨i, att, run, ep, out⟩) = true from HK2.out]; obtain ⟨hc4, hf4⟩ := bcell hb4))
        go_wp2_with fail
        have HR4 := hide hb4
        clear hc4 hf4 hb4
        go_ret
        refine ⟨ret_int (kindOf_rule HP.out HK2.out (by omega)).symm, ?_⟩
        refine Fr.below (S := fun _ => False) ?_ (Nat.le_refl _) (fun _ _ h => h)
        refine Fr.below_ ?_ HR4.out
        (repeat' first | (with_reducible refine Fr.setCell ?_ (Or.inl (by first | (simp; done) | (simp; omega))) _) | (with_reducible refine Fr.alloc ?_ _) | (with_reducible refine Fr.drew ?_))
        exact (((((Fr.refl w _).alloc _).alloc _).below_ HR1.out).below_ HR2.out).below_ HR3.out
      · go_wp2_with fail
        go_region_held3 (fun W => (W.cell? ⟨w.heap.size, 0, none⟩ = some (.slice (some ⟨b, o, none⟩) n c) ∧ W.cell? ⟨w.heap.size + 1, 0, none⟩ = some (.int .i64 i) ∧ W.cell? ⟨w.heap.size + 1, 1, none⟩ = some (.int .i64 att) ∧ W.cell? ⟨w.heap.size + 1, 2, none⟩ = some (.int .i64 run) ∧ W.cell? ⟨w.heap.size + 1, 3, none⟩ = some (.int .i64 ep) ∧ W.cell? ⟨w.heap.size + 1, 4, none⟩ = some (.int .i64 out)) ∧ (W.cell? ⟨b, (o + i * 10), none⟩ = some (.string t.pk) ∧ W.cell? ⟨b, (o + i * 10) + 1, none⟩ = some (.string t.ts) ∧ W.cell? ⟨b, (o + i * 10) + 2, none⟩ = some (.int .i64 t.env) ∧ W.cell? ⟨b, (o + i * 10) + 3, none⟩ = some (.int .i64 t.cost) ∧ W.cell? ⟨b, (o + i * 10) + 4, none⟩ = some (.int .i64 t.rev) ∧ W.cell? ⟨b, (o + i * 10) + 5, none⟩ = some (.int .i64 t.st) ∧ W.cell? ⟨b, (o + i * 10) + 6, none⟩ = some (.int .i64 t.att) ∧ W.cell? ⟨b, (o + i * 10) + 7, none⟩ = some (.int .i64 t.run) ∧ W.cell? ⟨b, (o + i * 10) + 8, none⟩ = some (.int .i64 t.ep) ∧ W.cell? ⟨b, (o + i * 10) + 9, none⟩ = some (.int .i64 t.out)) ∧ W.cell? ⟨wr.heap.size, 1, none⟩ = some (.func (.func 74) #[] #[])) (first | (go_keep; done) | ((try dsimp only); (repeat' apply And.intro) <;> first | (go_keep; done) | ((repeat rw [World.cell?_setCell_other _ _ _ _ (by intro h; injection h; omega)]); go_keep; done))) ((go_at_call 74; refine (rule2_any t ⟨i, att, run, ep, out⟩ _).mono ?_; rintro e w3 ⟨rfl, hb4⟩; rw [show (sameB t ⟨i, att, run, ep, out⟩ && (t.out == (⟨i, att, run, ep, out⟩ : Rp).out)) = true from HK2.out]; obtain ⟨hc4, hf4⟩ := bcell hb4))
        go_wp2_with fail
        have HR4 := hide hb4
        clear hc4 hf4 hb4
        go_ret
        refine ⟨ret_int (kindOf_rule HP.out HK2.out (by omega)).symm, ?_⟩
        refine Fr.below (S := fun _ => False) ?_ (Nat.le_refl _) (fun _ _ h => h)
        refine Fr.below_ ?_ HR4.out
        (repeat' first | (with_reducible refine Fr.setCell ?_ (Or.inl (by first | (simp; done) | (simp; omega))) _) | (with_reducible refine Fr.alloc ?_ _) | (with_reducible refine Fr.drew ?_))
        exact (((((Fr.refl w _).alloc _).alloc _).below_ HR1.out).below_ HR2.out).below_ HR3.out
      · go_wp2_with fail
        go_region_held3 (fun W => (W.cell? ⟨w.heap.size, 0, none⟩ = some (.slice (some ⟨b, o, none⟩) n c) ∧ W.cell? ⟨w.heap.size + 1, 0, none⟩ = some (.int .i64 i) ∧ W.cell? ⟨w.heap.size + 1, 1, none⟩ = some (.int .i64 att) ∧ W.cell? ⟨w.heap.size + 1, 2, none⟩ = some (.int .i64 run) ∧ W.cell? ⟨w.heap.size + 1, 3, none⟩ = some (.int .i64 ep) ∧ W.cell? ⟨w.heap.size + 1, 4, none⟩ = some (.int .i64 out)) ∧ (W.cell? ⟨b, (o + i * 10), none⟩ = some (.string t.pk) ∧ W.cell? ⟨b, (o + i * 10) + 1, none⟩ = some (.string t.ts) ∧ W.cell? ⟨b, (o + i * 10) + 2, none⟩ = some (.int .i64 t.env) ∧ W.cell? ⟨b, (o + i * 10) + 3, none⟩ = some (.int .i64 t.cost) ∧ W.cell? ⟨b, (o + i * 10) + 4, none⟩ = some (.int .i64 t.rev) ∧ W.cell? ⟨b, (o + i * 10) + 5, none⟩ = some (.int .i64 t.st) ∧ W.cell? ⟨b, (o + i * 10) + 6, none⟩ = some (.int .i64 t.att) ∧ W.cell? ⟨b, (o + i * 10) + 7, none⟩ = some (.int .i64 t.run) ∧ W.cell? ⟨b, (o + i * 10) + 8, none⟩ = some (.int .i64 t.ep) ∧ W.cell? ⟨b, (o + i * 10) + 9, none⟩ = some (.int .i64 t.out)) ∧ W.cell? ⟨wr.heap.size, 1, none⟩ = some (.func (.func 75) #[] #[])) (first | (go_keep; done) | ((try dsimp only); (repeat' apply And.intro) <;> first | (go_keep; done) | ((repeat rw [World.cell?_setCell_other _ _ _ _ (by intro h; injection h; omega)]); go_keep; done))) ((go_at_call 75; refine (rule3_any t ⟨i, att, run, ep, out⟩ _).mono ?_; rintro e w3 ⟨rfl, hb4⟩; rw [show (sameB t ⟨i, att, run, ep, out⟩ && repB t.out) = true from HK2.out]; obtain ⟨hc4, hf4⟩ := bcell hb4))
        go_wp2_with fail
        have HR4 := hide hb4
        clear hc4 hf4 hb4
        go_ret
        refine ⟨ret_int (kindOf_rule HP.out HK2.out (by omega)).symm, ?_⟩
        refine Fr.below (S := fun _ => False) ?_ (Nat.le_refl _) (fun _ _ h => h)
        refine Fr.below_ ?_ HR4.out
        (repeat' first | (with_reducible refine Fr.setCell ?_ (Or.inl (by first | (simp; done) | (simp; omega))) _) | (with_reducible refine Fr.alloc ?_ _) | (with_reducible refine Fr.drew ?_))
        exact (((((Fr.refl w _).alloc _).alloc _).below_ HR1.out).below_ HR2.out).below_ HR3.out
      · go_wp2_with fail
        go_region_held3 (fun W => (W.cell? ⟨w.heap.size, 0, none⟩ = some (.slice (some ⟨b, o, none⟩) n c) ∧ W.cell? ⟨w.heap.size + 1, 0, none⟩ = some (.int .i64 i) ∧ W.cell? ⟨w.heap.size + 1, 1, none⟩ = some (.int .i64 att) ∧ W.cell? ⟨w.heap.size + 1, 2, none⟩ = some (.int .i64 run) ∧ W.cell? ⟨w.heap.size + 1, 3, none⟩ = some (.int .i64 ep) ∧ W.cell? ⟨w.heap.size + 1, 4, none⟩ = some (.int .i64 out)) ∧ (W.cell? ⟨b, (o + i * 10), none⟩ = some (.string t.pk) ∧ W.cell? ⟨b, (o + i * 10) + 1, none⟩ = some (.string t.ts) ∧ W.cell? ⟨b, (o + i * 10) + 2, none⟩ = some (.int .i64 t.env) ∧ W.cell? ⟨b, (o + i * 10) + 3, none⟩ = some (.int .i64 t.cost) ∧ W.cell? ⟨b, (o + i * 10) + 4, none⟩ = some (.int .i64 t.rev) ∧ W.cell? ⟨b, (o + i * 10) + 5, none⟩ = some (.int .i64 t.st) ∧ W.cell? ⟨b, (o + i * 10) + 6, none⟩ = some (.int .i64 t.att) ∧ W.cell? ⟨b, (o + i * 10) + 7, none⟩ = some (.int .i64 t.run) ∧ W.cell? ⟨b, (o + i * 10) + 8, none⟩ = some (.int .i64 t.ep) ∧ W.cell? ⟨b, (o + i * 10) + 9, none⟩ = some (.int .i64 t.out)) ∧ W.cell? ⟨wr.heap.size, 1, none⟩ = some (.func (.func 76) #[] #[])) (first | (go_keep; done) | ((try dsimp only); (repeat' apply And.intro) <;> first | (go_keep; done) | ((repeat rw [World.cell?_setCell_other _ _ _ _ (by intro h; injection h; omega)]); go_keep; done))) ((go_at_call 76; refine (rule4_any t ⟨i, att, run, ep, out⟩ _).mono ?_; rintro e w3 ⟨rfl, hb4⟩; obtain ⟨hc4, hf4⟩ := bcell hb4))
        go_wp2_with fail
        have HR4 := hide hb4
        clear hc4 hf4 hb4
        go_ret
        refine ⟨ret_int (kindOf_rule HP.out HK2.out (by omega)).symm, ?_⟩
        refine Fr.below (S := fun _ => False) ?_ (Nat.le_refl _) (fun _ _ h => h)
        refine Fr.below_ ?_ HR4.out
        (repeat' first | (with_reducible refine Fr.setCell ?_ (Or.inl (by first | (simp; done) | (simp; omega))) _) | (with_reducible refine Fr.alloc ?_ _) | (with_reducible refine Fr.drew ?_))
        exact (((((Fr.refl w _).alloc _).alloc _).below_ HR1.out).below_ HR2.out).below_ HR3.out

end Go.Proofs.Ytjhkgoengoiljaa

/- Contracts of the reference: the class of a report. -/
namespace Go.Proofs.Ytjhkgoengoiljaa
open Go.RowKit

def classOf (t : Tk) (p : Rp) : Int :=
  if sameB t p && (t.st == 1) then 1 else if sameB t p && (t.st == 2) && (t.out == p.out) then 2 else if sameB t p && (t.st == 2) && decide (t.out ≤ 3) then 5 else 3

theorem class_kind {t : Tk} {p : Rp} (ht : tkOk t = true) (hp : reportOk p = true) : classOf t p = kindOf t p := by
  have hs : stateB t = true := by simp [tkOk] at ht; exact ht.2
  have ho : 1 ≤ p.out ∧ p.out ≤ 3 := by simp [reportOk, repB] at hp; omega
  unfold classOf kindOf
  cases hsm : sameB t p
  · simp
  · by_cases h1 : t.st = 1
    · simp [h1]
    · by_cases h2 : t.st = 2
      · simp [h2]
        by_cases h3 : t.out = p.out
        · simp [h3]
        · simp only [h3, if_false]
          have : (repB t.out = true) ↔ t.out ≤ 3 := by
            simp only [stateB, h2] at hs
            simp only [repB, Bool.and_eq_true, decide_eq_true_eq]
            simp only [show ¬ (2 : Int) = 0 by decide, show ¬ (2 : Int) = 1 by decide, if_false, if_true] at hs
            by_cases h6 : t.out = 6
            · omega
            · by_cases h45 : t.out = 4 ∨ t.out = 5
              · omega
              · simp only [h6, h45, if_false, Bool.and_eq_true, repB, decide_eq_true_eq] at hs
                omega
          simp only [this]
      · have h0 : t.st = 0 := by
          by_cases h0 : t.st = 0
          · exact h0
          · simp [stateB, h0, h1, h2] at hs
        have hout : t.out = 0 := by simp [stateB, h0] at hs; exact hs.2
        simp [h0, hout, repB]
        omega

set_option maxRecDepth 100000 in
set_option maxHeartbeats 1000000 in
theorem class_none (A : Option Addr) (n c : Nat) (L : Ld) (p : Rp) (w : World) (hn : L.tks.length = n) (hk : L.get? p.tick = none) (hp : 0 ≤ p.tick) :
    Calls Try.prog 57 #[.agg #[.slice A n c, .int .i64 L.r0, .int .i64 L.r1, .int .i64 L.r2, .int .i64 L.r3, .int .i64 L.r4, .int .i64 L.r5], .agg #[.int .i64 p.tick, .int .i64 p.att, .int .i64 p.run, .int .i64 p.ep, .int .i64 p.out]] w fun e w' => e = .returned (.int .i64 4) ∧ Below w.heap.size w w' := by
  have hkk : decide ((n : Int) ≤ p.tick) = true := by have := get?_none hk; rw [hn] at this; simp at this ⊢; omega
  clear hn hk hp
  go_enter Try.func57, Try.ntmps57
  go_wp2_with fail
  go_ret
  exact ⟨rfl, ((Below.refl _ _).alloc (Nat.le_refl _) _).alloc (by simp) _⟩

set_option maxRecDepth 100000 in
set_option maxHeartbeats 2000000 in
theorem class_some (A : Option Addr) (n c : Nat) (L : Ld) (i : Nat) (att run ep out : Int) (t : Tk) (w : World) (av : Option Nat) (hR : Rs w av 10 Tk.vals A L.tks) (hn : L.tks.length = n) (hi : i < n) (h63 : n ≤ 4294967296) (hk : L.tks[i]? = some t) :
    Calls Try.prog 57 #[.agg #[.slice A n c, .int .i64 L.r0, .int .i64 L.r1, .int .i64 L.r2, .int .i64 L.r3, .int .i64 L.r4, .int .i64 L.r5], .agg #[.int .i64 (⟨i, att, run, ep, out⟩ : Rp).tick, .int .i64 (⟨i, att, run, ep, out⟩ : Rp).att, .int .i64 (⟨i, att, run, ep, out⟩ : Rp).run, .int .i64 (⟨i, att, run, ep, out⟩ : Rp).ep, .int .i64 (⟨i, att, run, ep, out⟩ : Rp).out]] w fun e w' => e = .returned (.int .i64 (classOf t ⟨i, att, run, ep, out⟩)) ∧ Below w.heap.size w w' := by
  have hiI : (i : Int) < (n : Int) := by omega
  have hiJ : decide ((n : Int) ≤ (i : Int)) = false := by simp; omega
  have hi0 : (0 : Int) ≤ (i : Int) := by omega
  have HG := hide hk
  obtain ⟨b, o, rfl, hne, hb, hcells⟩ := hR.at hk
  obtain ⟨f0, f1, f2, f3, f4, f5, f6, f7, f8, f9⟩ := tkAt_of hcells
  have l0 : b < w.heap.size + 1 := by omega
  have l1 : b < w.heap.size + 2 := by omega
  clear hcells hn hk
  cases e1 : (t.att == att)
  · have HC : Hid (classOf t ⟨i, att, run, ep, out⟩ = 3) := hide (by simp [classOf, sameB, e1])
    go_enter Try.func57, Try.ntmps57
    go_wp2_with fail
    go_ret
    exact ⟨ret_int HC.out.symm, (((Below.refl _ _).alloc (Nat.le_refl _) _).alloc (by simp) _).alloc (by simp; omega) _⟩
  cases e2 : (t.run == run)
  · have HC : Hid (classOf t ⟨i, att, run, ep, out⟩ = 3) := hide (by simp [classOf, sameB, e1, e2])
    go_enter Try.func57, Try.ntmps57
    go_wp2_with fail
    go_ret
    exact ⟨ret_int HC.out.symm, (((Below.refl _ _).alloc (Nat.le_refl _) _).alloc (by simp) _).alloc (by simp; omega) _⟩
  cases e3 : (t.ep == ep)
  · have HC : Hid (classOf t ⟨i, att, run, ep, out⟩ = 3) := hide (by simp [classOf, sameB, e1, e2, e3])
    go_enter Try.func57, Try.ntmps57
    go_wp2_with fail
    go_ret
    exact ⟨ret_int HC.out.symm, (((Below.refl _ _).alloc (Nat.le_refl _) _).alloc (by simp) _).alloc (by simp; omega) _⟩
  cases e4 : (t.st == 1)
  rotate_left
  · have HC : Hid (classOf t ⟨i, att, run, ep, out⟩ = 1) := hide (by simp [classOf, sameB, e1, e2, e3, e4])
    go_enter Try.func57, Try.ntmps57
    go_wp2_with fail
    go_ret
    exact ⟨ret_int HC.out.symm, (((Below.refl _ _).alloc (Nat.le_refl _) _).alloc (by simp) _).alloc (by simp; omega) _⟩
  cases e5 : (t.st == 2)
  · have HC : Hid (classOf t ⟨i, att, run, ep, out⟩ = 3) := hide (by simp [classOf, sameB, e1, e2, e3, e4, e5])
    go_enter Try.func57, Try.ntmps57
    go_wp2_with fail
    go_ret
    exact ⟨ret_int HC.out.symm, (((Below.refl _ _).alloc (Nat.le_refl _) _).alloc (by simp) _).alloc (by simp; omega) _⟩
  cases e6 : (t.out == out)
  rotate_left
  · have HC : Hid (classOf t ⟨i, att, run, ep, out⟩ = 2) := hide (by simp [classOf, sameB, e1, e2, e3, e4, e5, e6])
    go_enter Try.func57, Try.ntmps57
    go_wp2_with fail
    go_ret
    exact ⟨ret_int HC.out.symm, (((Below.refl _ _).alloc (Nat.le_refl _) _).alloc (by simp) _).alloc (by simp; omega) _⟩
  cases e7 : decide (t.out ≤ 3)
  · have e8 : ¬ t.out ≤ 3 := by simpa using e7
    have HC : Hid (classOf t ⟨i, att, run, ep, out⟩ = 3) := hide (by simp [classOf, sameB, e1, e2, e3, e4, e5, e6, e7])
    go_enter Try.func57, Try.ntmps57
    go_wp2_with fail
    go_ret
    exact ⟨ret_int HC.out.symm, (((Below.refl _ _).alloc (Nat.le_refl _) _).alloc (by simp) _).alloc (by simp; omega) _⟩
  · have HC : Hid (classOf t ⟨i, att, run, ep, out⟩ = 5) := hide (by simp [classOf, sameB, e1, e2, e3, e4, e5, e6, e7])
    go_enter Try.func57, Try.ntmps57
    go_wp2_with fail
    go_ret
    exact ⟨ret_int HC.out.symm, (((Below.refl _ _).alloc (Nat.le_refl _) _).alloc (by simp) _).alloc (by simp; omega) _⟩

end Go.Proofs.Ytjhkgoengoiljaa

/- Contracts: delivery.Send of one report on the empty network (what Take asks of it). -/
namespace Go.Proofs.Ytjhkgoengoiljaa
open Go.RowKit

set_option maxRecDepth 100000 in
set_option maxHeartbeats 1000000 in
theorem dcheck_nil (w : World) : Calls Try.prog 63 #[.agg #[.int .i64 0, .slice none 0 0]] w fun e w' => e = .returned (.bool true) ∧ Below w.heap.size w w' := by
  go_enter Try.func63, Try.ntmps63
  go_wp2
  refine wp_loop_rounds 1 ?_
  rw [rounds_succ]
  go_wp2
  go_ret
  exact ⟨rfl, (Below.refl _ _).alloc (Nat.le_refl _) _⟩

set_option maxRecDepth 100000 in
set_option maxHeartbeats 1000000 in
theorem send_bad (w : World) (p : Rp) (hr : reportOk p = false) :
    Calls Try.prog 45 #[.agg #[.int .i64 0, .slice none 0 0], .agg #[.int .i64 p.tick, .int .i64 p.att, .int .i64 p.run, .int .i64 p.ep, .int .i64 p.out]] w fun e w' => e = .returned (.tuple #[.agg #[.int .i64 0, .slice none 0 0], .int .i64 1]) ∧ Below w.heap.size w w' := by
  have HR := hide hr
  clear hr
  go_enter Try.func45, Try.ntmps45
  go_wp2_with (first
    | (go_at_call 63; refine (dcheck_nil _).mono ?_; rintro e w1 ⟨rfl, hb1⟩; obtain ⟨hc1, hf1, hz1⟩ := gcell (grown_of_below hb1 none) (w.heap.size + 3) (by first | (simp; done) | (simp; omega)); have : w.heap.size < w1.heap.size := (by omega); have : w.heap.size + 1 < w1.heap.size := (by omega); have : w.heap.size + 2 < w1.heap.size := (by omega))
    | (go_at_call 64; refine (dright_any p _).mono ?_; rintro e w2 ⟨rfl, hb2⟩; rw [HR.out]; obtain ⟨hc2, hf2, hz2⟩ := gcell (grown_of_below hb2 none) w1.heap.size (by simp); have : w.heap.size + 2 < w2.heap.size := (by omega)))
  refine bodyPost_ret (by simp [results, Try.results45, go_sem, *]) rfl ⟨rfl, ?_⟩
  (refine Fr.below (S := fun _ => False) ?_ (Nat.le_refl _) (fun _ _ h => h); (repeat' first | (with_reducible refine Fr.setCell ?_ (Or.inl (by first | (simp; done) | (simp; omega))) _) | (with_reducible refine Fr.alloc ?_ _) | (with_reducible refine Fr.drew ?_)); exact (((((Fr.refl w _).alloc _).alloc _).alloc _).below_ hb1).below_ hb2)

end Go.Proofs.Ytjhkgoengoiljaa

/- Contracts: delivery.Send of one report on the empty network: OK. -/
namespace Go.Proofs.Ytjhkgoengoiljaa
open Go.RowKit

theorem wl_make_raw {P : Program} {w : World} {ops : Array Oper} {rest : List Oper} {o : Oper} {a : Act} {Q : Exit → Act → World → Prop}
    (hg : o.guard = none) (l k : Operand) (t : TypeId) (hop : o.op = Op.makeSlice t l k)
    (e : TypeId) (z : Value) (size bytes : Nat) (h1 : P.underlying t = some (.slice e)) (h2 : (P.info? e).map (fun i => (i.zero, i.size, i.bytes)) = some (some z, size, bytes))
    (n c : Nat) (hl : a.eval l = .int .i64 n) (hc : a.eval k = .int .i64 c) (hnc : n ≤ c) (b2 : bytes * c ≤ 281474976710656) (b3 : c ≤ maxLen) (cs : Array Value) (hcs : madeCells z.cells (c * size) = cs)
    (hK : wpList P ops Q rest (a.put o.dst (.slice (some ⟨w.heap.size, 0, none⟩) n c)) (w.alloc (.cells cs e))) :
    wpList P ops Q (o :: rest) a w := by
  obtain ⟨i, hi, hz, hsz, hby⟩ := info_parts h2
  subst hsz hby hcs
  have hb : (i.bytes : Int) * (c : Int) ≤ 281474976710656 := by
    have h : ((i.bytes * c : Nat) : Int) ≤ 281474976710656 := by omega
    rwa [Int.natCast_mul] at h
  have hm : c ≤ 9223372036854775807 := by simp only [maxLen] at b3; omega
  have hr := run_make (P := P) w t e i z h1 hi hz .i64 .i64 n c (by omega) (by omega) hb (by omega)
  simp only [Int.toNat_natCast] at hr
  refine wpList_plain hg fun K hK' => ?_
  unfold Oper.wp
  simp only [execOp, hop, hl, hc, hr, Result.andThen, Sem.run_bind, Sem.run_pure, Oper.upon]
  exact hK' _ _ hK

theorem wl_copy0 {P : Program} {w : World} {ops : Array Oper} {rest : List Oper} {o : Oper} {a : Act} {Q : Exit → Act → World → Prop} (hgd : o.guard = none) (d s : Operand) (dT sT : TypeId)
    (ho : o.op = .call { callee := .builtin .copy, args := #[d, s], argTypes := #[dT, sT] }) (elem : TypeId) (size : Nat) (hu : P.underlying dT = some (.slice elem)) (hsz : (P.info? elem).map (·.size) = some size)
    (g : Addr) (cap : Nat) (hd : a.eval d = .slice (some g) 0 cap) (hs : a.eval s = .slice none 0 0)
    (h : wpList P ops Q rest (a.put o.dst (goInt 0)) w) :
    wpList P ops Q (o :: rest) a w := by
  have hr : (Builtin.copy_ #[dT, sT] o.type #[.slice (some g) 0 cap, .slice none 0 0]).run P w = .ok (goInt 0) w := by
    cases hq : P.info? elem with
    | none => simp [hq] at hsz
    | some i => simp [Builtin.copy_, run_underlying hu, sizeOf, typeInfo, hq, Builtin.lenOf, Builtin.firstCells, storeCells]
  refine wpList_plain hgd fun K hK' => ?_
  unfold Oper.wp
  simp only [execOp, ho, resolve, invoke, builtin, hd, hs, hr, Result.andThen, Sem.run_bind, Sem.run_pure, List.map_toArray, List.map_cons, List.map_nil, Oper.upon]
  exact hK' _ _ h

theorem size103 : (Try.prog.info? 103).map (·.size) = some 6 := by kernel_rfl
theorem info103 : (Try.prog.info? 103).map (fun i => (i.zero, i.size, i.bytes)) = some (some (.agg #[.int .i64 0, .int .i64 0, .int .i64 0, .int .i64 0, .int .i64 0, .int .i64 0]), 6, 48) := by kernel_rfl

/-- A letter: its number and the report. -/
def ltVals (x : Int × Rp) : List Value := [.int .i64 x.1, .int .i64 x.2.tick, .int .i64 x.2.att, .int .i64 x.2.run, .int .i64 x.2.ep, .int .i64 x.2.out]
theorem ltVals_len (x : Int × Rp) : (ltVals x).length = 6 := rfl
theorem ltVals_one (x : Int × Rp) : ∀ u ∈ ltVals x, u.oneCell' = true := by
  intro u hu
  simp [ltVals] at hu
  rcases hu with rfl | rfl | rfl | rfl | rfl | rfl <;> rfl

set_option maxRecDepth 100000 in
set_option maxHeartbeats 1000000 in
theorem send_ok (w : World) (p : Rp) (hr : reportOk p = true) :
    Calls Try.prog 45 #[.agg #[.int .i64 0, .slice none 0 0], .agg #[.int .i64 p.tick, .int .i64 p.att, .int .i64 p.run, .int .i64 p.ep, .int .i64 p.out]] w fun e w' => (∃ A' c', e = .returned (.tuple #[.agg #[.int .i64 1, .slice A' 1 c'], .int .i64 0])) ∧ Below w.heap.size w w' := by
  have HR := hide hr
  clear hr
  go_enter Try.func45, Try.ntmps45
  go_wp2_with (first
    | (refine wl_copy0 rfl (.tmp 36) (.tmp 38) 81 81 rfl 103 6 Try.underlying81 size103 ⟨w2.heap.size, 0, none⟩ 1 rfl rfl ?_)
    | (at_make; refine wl_make _ rfl _ _ _ rfl w2.heap.size 103 _ 6 48 Try.underlying81 info103 w2.heap.size 0 1 (by simp) _ _ rfl rfl rfl (by omega) (by omega) rfl (by omega) (by simp only [maxLen]; omega) (by simp) ?_; intro w5 ys hown5 hys5 hg5; obtain ⟨hc5, hf5, hz5⟩ := gcell hg5 w2.heap.size (by simp))
    | (go_at_call 63; refine (dcheck_nil _).mono ?_; rintro e w1 ⟨rfl, hb1⟩; obtain ⟨hc1, hf1, hz1⟩ := gcell (grown_of_below hb1 none) (w.heap.size + 3) (by first | (simp; done) | (simp; omega)); have : w.heap.size < w1.heap.size := (by omega); have : w.heap.size + 1 < w1.heap.size := (by omega); have : w.heap.size + 2 < w1.heap.size := (by omega))
    | (go_at_call 64; refine (dright_any p _).mono ?_; rintro e w2 ⟨rfl, hb2⟩; rw [HR.out]; obtain ⟨hc2, hf2, hz2⟩ := gcell (grown_of_below hb2 none) w1.heap.size (by simp); have : w.heap.size < w2.heap.size := (by omega); have : w.heap.size + 1 < w2.heap.size := (by omega); have : w.heap.size + 2 < w2.heap.size := (by omega)))
  have s1 : w5.cell? ⟨w.heap.size, 0, none⟩ = some (.int .i64 0) ∧ w5.cell? ⟨w.heap.size, 1, none⟩ = some (.slice none 0 0) := by refine ⟨?_, ?_⟩ <;> go_simp
  have s2 : w5.cell? ⟨w.heap.size + 1, 0, none⟩ = some (.int .i64 p.tick) ∧ w5.cell? ⟨w.heap.size + 1, 1, none⟩ = some (.int .i64 p.att) ∧ w5.cell? ⟨w.heap.size + 1, 2, none⟩ = some (.int .i64 p.run) ∧ w5.cell? ⟨w.heap.size + 1, 3, none⟩ = some (.int .i64 p.ep) ∧ w5.cell? ⟨w.heap.size + 1, 4, none⟩ = some (.int .i64 p.out) := by refine ⟨?_, ?_, ?_, ?_, ?_⟩ <;> go_simp
  have g5 : ∀ j, w5.frozen? ⟨w.heap.size + 2, j, none⟩ = false := by intro j; go_simp
  have z0 : w5.cell? ⟨w.heap.size + 2, 0, none⟩ = some (.int .i64 0) := by go_simp
  have z1 : w5.cell? ⟨w.heap.size + 2, 1, none⟩ = some (.slice none 0 0) := by go_simp
  obtain ⟨a0, a1⟩ := s1
  obtain ⟨b0, b1, b2, b3, b4⟩ := s2
  have n0 : w.heap.size < w5.heap.size := by omega
  have k0 : ¬ (w.heap.size = w.heap.size + 1 + 1) := by omega
  have n1 : w.heap.size + 1 < w5.heap.size := by omega
  have n2 : w.heap.size + 2 < w5.heap.size := by omega
  have hy : ys = [] := by rw [hys5.out]; simp
  subst hy
  have HO := hide hown5
  have HG := hide hg5
  have HB1 := hide hb1
  have HB2 := hide hb2
  clear hc1 hc2 hf1 hf2 hc5 hf5 hown5 hg5 hb1 hb2 hys5
  go_region_held3 (fun W => W.cell? ⟨w.heap.size, 0, none⟩ = some (.int .i64 0) ∧ W.cell? ⟨w.heap.size, 1, none⟩ = some (.slice none 0 0) ∧ W.cell? ⟨w.heap.size + 1, 0, none⟩ = some (.int .i64 p.tick) ∧ W.cell? ⟨w.heap.size + 1, 1, none⟩ = some (.int .i64 p.att) ∧ W.cell? ⟨w.heap.size + 1, 2, none⟩ = some (.int .i64 p.run) ∧ W.cell? ⟨w.heap.size + 1, 3, none⟩ = some (.int .i64 p.ep) ∧ W.cell? ⟨w.heap.size + 1, 4, none⟩ = some (.int .i64 p.out)) (first | (go_keep; done) | ((try dsimp only); (repeat' apply And.intro) <;> first | (go_keep; done) | ((repeat rw [World.cell?_setCell_other _ _ _ _ (by intro h; injection h; omega)]); go_keep; done)))
    ((refine step_append _ (by rfl) (.tmp 43) (.tmp 48) 81 (by rfl) w2.heap.size 103 _ 6 48 Try.underlying81 info103 rfl (by decide) (.slice (some ⟨w2.heap.size, 0, none⟩) 0 1) 0 ([] : List (Int × Rp)) (by rfl) (HO.out.drew.alloc _) _ 1 1 [((0 : Int), p)] (by rfl) (rs_one (av := none) (by simp) (by simp) (by intro j u hu; match j with | 0 | 1 | 2 | 3 | 4 | 5 => simp [ltVals] at hu; subst hu; go_simp | j + 6 => simp [ltVals] at hu)) rfl ltVals_len ltVals_one (by omega) (by decide) (by simp; omega) ?_; intro A6 c6 w6 hown6 hg6 hat6; obtain ⟨hc6, hf6, hz6⟩ := gcell_up hg6 w2.heap.size (by simp; omega) (by intro g h; simp [Value.ownBlock] at h; omega); have HG6 := hide hg6; clear hown6 hat6 hg6))
  go_wp2_with fail
  refine bodyPost_ret (v := .tuple #[.agg #[.int .i64 1, .slice A6 1 c6], .int .i64 0]) (by simp [results, Try.results45, go_sem, *]; first | done | rfl | decide) rfl ⟨⟨_, _, rfl⟩, ?_⟩
  refine Fr.below (S := fun _ => False) ?_ (Nat.le_refl _) (fun _ _ h => h)
  (repeat' first | (with_reducible refine Fr.setCell ?_ (Or.inl (by first | (simp; done) | (simp; omega))) _) | (with_reducible refine Fr.alloc ?_ _) | (with_reducible refine Fr.drew ?_))
  refine Fr.grown ?_ HG6.out (by intro g h; simp [Value.ownBlock] at h; omega)
  (repeat' first | (with_reducible refine Fr.setCell ?_ (Or.inl (by first | (simp; done) | (simp; omega))) _) | (with_reducible refine Fr.alloc ?_ _) | (with_reducible refine Fr.drew ?_))
  exact (Fr.grown ((((((Fr.refl w _).alloc _).alloc _).alloc _).below_ HB1.out).below_ HB2.out) HG.out (by simp))

end Go.Proofs.Ytjhkgoengoiljaa
