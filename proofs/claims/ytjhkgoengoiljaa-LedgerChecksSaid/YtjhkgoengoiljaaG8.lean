/- Contracts of the functions that these laws reach: part 8: Contracts: Lose; Contracts of the reference: Lose; Contracts: Lose, whole. -/
import Derived.Test.YtjhkgoengoiljaaG7
import Derived.Test.YtjhkgoengoiljaaG2
import Derived.Deep.Cut
import Derived.Test.YtjhkgoengoiljaaG5
import Derived.Deep.RegionWith
import Derived.Deep.DeepCutAuto
set_option linter.unusedVariables false
set_option linter.unusedSimpArgs false

/- Contracts: Lose. -/
namespace Go.Proofs.Ytjhkgoengoiljaa
open Go.RowKit

theorem own_ne {w : World} {base g : Nat} {e : TypeId} {s n : Nat} {v : Value} {xs : List Value} (h : w.ownsRow base e s v n xs) (hg : g < base) : ∀ g', v.ownBlock = some g' → ¬ (g' = g) := by
  intro g' h' he
  have := own_ge h g' h'
  omega
def mixed (f : Tk → Tk) (l : List Tk) (k : Nat) : List Tk := (l.take k).map f ++ l.drop k
theorem mixed_zero (f : Tk → Tk) (l : List Tk) : mixed f l 0 = l := by simp [mixed]
theorem mixed_all (f : Tk → Tk) (l : List Tk) (k : Nat) (h : l.length ≤ k) : mixed f l k = l.map f := by simp [mixed, List.take_of_length_le h, List.drop_of_length_le h]
theorem mixed_at (f : Tk → Tk) {l : List Tk} {k : Nat} {t : Tk} (h : l[k]? = some t) : (mixed f l k)[k]? = some t := by
  have hk := (List.getElem?_eq_some_iff.1 h).1
  rw [mixed, List.getElem?_append_right (by simp; omega)]
  simp [Nat.min_eq_left (Nat.le_of_lt hk), h]
theorem mixed_set (f : Tk → Tk) {l : List Tk} {k : Nat} {t : Tk} (h : l[k]? = some t) : (mixed f l k).set k (f t) = mixed f l (k + 1) := by
  have hk := (List.getElem?_eq_some_iff.1 h).1
  have he : l[k] = t := by rw [List.getElem?_eq_getElem hk] at h; injection h
  rw [mixed, mixed, List.set_append_right _ _ (by simp; omega)]
  simp only [List.length_map, List.length_take, Nat.min_eq_left (Nat.le_of_lt hk), Nat.sub_self]
  rw [List.drop_eq_getElem_cons hk, List.set_cons_zero, List.take_add_one, h]
  simp
theorem mixed_same (f : Tk → Tk) {l : List Tk} {k : Nat} {t : Tk} (h : l[k]? = some t) (hf : f t = t) : mixed f l (k + 1) = mixed f l k := by
  rw [← mixed_set f h, hf]
  apply List.ext_getElem?
  intro i
  rw [List.getElem?_set]
  split
  · rename_i e
    subst e
    rw [mixed_at f h]
    split
    · rfl
    · rename_i h2
      have := (List.getElem?_eq_some_iff.1 (mixed_at f h)).1
      omega
  · rfl
theorem mixed_len (f : Tk → Tk) (l : List Tk) (k : Nat) : (mixed f l k).length = l.length := by
  simp [mixed]
  omega

set_option maxRecDepth 100000 in
set_option maxHeartbeats 1000000 in
theorem lose_bad (w : World) (av : Option Nat) (A : Option Addr) (c n : Nat) (L : Ld) (hR : Rs w av 10 Tk.vals A L.tks) (hn : L.tks.length = n) (hc63 : n ≤ 4294967296) (run ep : Int) (hok : L.ok = false) :
    Calls Try.prog 24 #[.agg #[.slice A n c, .int .i64 L.r0, .int .i64 L.r1, .int .i64 L.r2, .int .i64 L.r3, .int .i64 L.r4, .int .i64 L.r5], .int .i64 run, .int .i64 ep] w fun e w' => e = .returned (.tuple #[.agg #[.slice none 0 0, .int .i64 0, .int .i64 0, .int .i64 0, .int .i64 0, .int .i64 0, .int .i64 0], .slice none 0 0, .int .i64 1]) ∧ Below w.heap.size w w' := by
  have hN := hide hn; clear hn
  have HK := hide hok; clear hok
  go_enter Try.func24, Try.ntmps24
  go_wp2_with (go_at_call 11; refine (check_any A c n L _ av ((hR.alloc _).alloc _) hN.out hc63).mono ?_; rintro e w1 ⟨rfl, hb1⟩; rw [HK.out]; obtain ⟨hc1, hf1, hz1⟩ := gcell (grown_of_below hb1 none) (w.heap.size + 2) (by first | (simp; done) | (simp; omega)); have : w.heap.size < w1.heap.size := (by omega); have : w.heap.size + 1 < w1.heap.size := (by omega))
  refine bodyPost_ret (by simp [results, Try.results24, go_sem, *]) rfl ⟨rfl, ?_⟩
  (refine Fr.below (S := fun _ => False) ?_ (Nat.le_refl _) (fun _ _ h => h); (repeat' first | (with_reducible refine Fr.setCell ?_ (Or.inl (by first | (simp; done) | (simp; omega))) _) | (with_reducible refine Fr.alloc ?_ _) | (with_reducible refine Fr.drew ?_)); exact (((Fr.refl w _).alloc _).alloc _).below_ hb1)

set_option maxRecDepth 100000 in
set_option maxHeartbeats 2000000 in
theorem lose_ok (w : World) (av : Option Nat) (A : Option Addr) (c n : Nat) (L : Ld) (hR : Rs w av 10 Tk.vals A L.tks) (hn : L.tks.length = n) (hc63 : n ≤ 4294967296) (run ep : Int) (hok : L.ok = true) (hav : ∀ x, av = some x → x < w.heap.size) :
    Calls Try.prog 24 #[.agg #[.slice A n c, .int .i64 L.r0, .int .i64 L.r1, .int .i64 L.r2, .int .i64 L.r3, .int .i64 L.r4, .int .i64 L.r5], .int .i64 run, .int .i64 ep] w fun e w' => (∃ A' c' B d, e = .returned (.tuple #[.agg #[.slice A' n c', .int .i64 L.r0, .int .i64 L.r1, .int .i64 L.r2, .int .i64 L.r3, .int .i64 L.r4, .int .i64 L.r5], .slice B (idxs (isOn run ep) L.tks 0).length d, .int .i64 0]) ∧ Rs w' av 10 Tk.vals A' (L.tks.map (loseTk run ep)) ∧ Rs w' av 1 iv B (idxs (isOn run ep) L.tks 0) ∧ (∀ b o, B = some ⟨b, o, none⟩ → w.heap.size ≤ b)) ∧ Below w.heap.size w w' := by
  have h128 : n ≤ 128 := by have : L.tks.length ≤ 128 := (by simp [Ld.ok] at hok; exact hok.1.1.1); omega
  have hN := hide hn; clear hn
  have HK := hide hok; clear hok
  have HV := hide hav; clear hav
  go_enter Try.func24, Try.ntmps24
  go_upto_region 4 with (first
    | (go_at_call 11; refine (check_any A c n L _ av ((hR.alloc _).alloc _) hN.out hc63).mono ?_; rintro e w1 ⟨rfl, hb1⟩; rw [HK.out]; obtain ⟨hc1, hf1, hz1⟩ := gcell (grown_of_below hb1 none) (w.heap.size + 2) (by first | (simp; done) | (simp; omega)); have : w.heap.size < w1.heap.size := (by omega); have : w.heap.size + 1 < w1.heap.size := (by omega))
    | (go_at_call 41; refine (copied_any A c n L _ av (((hR.alloc _).alloc _).below hb1) hN.out h128).mono ?_; rintro e w2 ⟨g, rfl, hown2, hb2⟩; obtain ⟨hc2, hf2⟩ := bcell hb2; have hz2 := hb2.size; have : w.heap.size < w2.heap.size := (by omega); have : w.heap.size + 1 < w2.heap.size := (by omega); have : w2.cell? ⟨w.heap.size, 0, none⟩ = some (.slice A n c) := (by go_simp); have : w2.cell? ⟨w.heap.size, 1, none⟩ = some (.int .i64 L.r0) := (by go_simp); have : w2.cell? ⟨w.heap.size, 2, none⟩ = some (.int .i64 L.r1) := (by go_simp); have : w2.cell? ⟨w.heap.size, 3, none⟩ = some (.int .i64 L.r2) := (by go_simp); have : w2.cell? ⟨w.heap.size, 4, none⟩ = some (.int .i64 L.r3) := (by go_simp); have : w2.cell? ⟨w.heap.size, 5, none⟩ = some (.int .i64 L.r4) := (by go_simp); have : w2.cell? ⟨w.heap.size, 6, none⟩ = some (.int .i64 L.r5) := (by go_simp); have : w2.cell? ⟨w.heap.size + 1, 0, none⟩ = some (.slice none 0 0) := (by go_simp); have : w2.cell? ⟨w.heap.size + 1, 1, none⟩ = some (.int .i64 0) := (by go_simp); have : w2.cell? ⟨w.heap.size + 1, 2, none⟩ = some (.int .i64 0) := (by go_simp); have : w2.cell? ⟨w.heap.size + 1, 3, none⟩ = some (.int .i64 0) := (by go_simp); have : w2.cell? ⟨w.heap.size + 1, 4, none⟩ = some (.int .i64 0) := (by go_simp); have : w2.cell? ⟨w.heap.size + 1, 5, none⟩ = some (.int .i64 0) := (by go_simp); have : w2.cell? ⟨w.heap.size + 1, 6, none⟩ = some (.int .i64 0) := (by go_simp); have : ∀ j, w2.frozen? ⟨w.heap.size, j, none⟩ = false := (by intro j; go_simp); have : ∀ j, w2.frozen? ⟨w.heap.size + 1, j, none⟩ = false := (by intro j; go_simp); have HO2 := hide hown2; have HB1 := hide hb1; have HB2 := hide hb2; clear hc1 hf1 hc2 hf2 hown2 hb1 hb2))
  have hgg := (HO2.out.lt g rfl).1
  have hgl := (HO2.out.lt g rfl).2
  generalize hW : World.setCell (World.setCell (World.setCell (World.setCell (World.setCell (World.setCell (World.setCell w2 _ _) _ _) _ _) _ _) _ _) _ _) _ _ = w5
  have p0 : w5.cell? ⟨w.heap.size, 0, none⟩ = some (.slice (some ⟨g, 0, none⟩) n (n + 1)) := (by rw [← hW]; clear hW; go_simp); have p1 : w5.cell? ⟨w.heap.size, 1, none⟩ = some (.int .i64 (L.r0)) := (by rw [← hW]; clear hW; go_simp); have p2 : w5.cell? ⟨w.heap.size, 2, none⟩ = some (.int .i64 (L.r1)) := (by rw [← hW]; clear hW; go_simp); have p3 : w5.cell? ⟨w.heap.size, 3, none⟩ = some (.int .i64 (L.r2)) := (by rw [← hW]; clear hW; go_simp); have p4 : w5.cell? ⟨w.heap.size, 4, none⟩ = some (.int .i64 (L.r3)) := (by rw [← hW]; clear hW; go_simp); have p5 : w5.cell? ⟨w.heap.size, 5, none⟩ = some (.int .i64 (L.r4)) := (by rw [← hW]; clear hW; go_simp); have p6 : w5.cell? ⟨w.heap.size, 6, none⟩ = some (.int .i64 (L.r5)) := (by rw [← hW]; clear hW; go_simp)
  have q0 : w5.cell? ⟨w.heap.size + 1, 0, none⟩ = some (.slice none 0 0) := (by rw [← hW]; clear hW; go_simp); have q1 : w5.cell? ⟨w.heap.size + 1, 1, none⟩ = some (.int .i64 0) := (by rw [← hW]; clear hW; go_simp); have q2 : w5.cell? ⟨w.heap.size + 1, 2, none⟩ = some (.int .i64 0) := (by rw [← hW]; clear hW; go_simp); have q3 : w5.cell? ⟨w.heap.size + 1, 3, none⟩ = some (.int .i64 0) := (by rw [← hW]; clear hW; go_simp); have q4 : w5.cell? ⟨w.heap.size + 1, 4, none⟩ = some (.int .i64 0) := (by rw [← hW]; clear hW; go_simp); have q5 : w5.cell? ⟨w.heap.size + 1, 5, none⟩ = some (.int .i64 0) := (by rw [← hW]; clear hW; go_simp); have q6 : w5.cell? ⟨w.heap.size + 1, 6, none⟩ = some (.int .i64 0) := (by rw [← hW]; clear hW; go_simp)
  have g5 : ∀ j, w5.frozen? ⟨w.heap.size + 1, j, none⟩ = false := (by intro j; rw [← hW]; clear hW; go_simp)
  have hz5 : w5.heap.size = w2.heap.size := by rw [← hW]; simp
  have HO5 := hide (show w5.ownsRow w1.heap.size 43 10 (.slice (some ⟨g, 0, none⟩) n (n + 1)) n (L.tks.flatMap Tk.vals) from by
    rw [← hW]
    ((repeat' first | (with_reducible refine own_far ?_ (by simp [Value.ownBlock]; omega) _) | (with_reducible refine own_drew ?_) | (with_reducible refine World.ownsRow.alloc ?_ _)); exact HO2.out))
  have HF5 := hide (show Fr w w5 (fun _ => False) from by
    rw [← hW]
    (repeat' first | (with_reducible refine Fr.setCell ?_ (Or.inl (by first | (simp; done) | (simp; omega))) _) | (with_reducible refine Fr.alloc ?_ _) | (with_reducible refine Fr.drew ?_))
    exact (((((Fr.refl w _).alloc _).alloc _).below_ HB1.out).below_ HB2.out))
  have m0 : ¬ w.heap.size = g := by omega
  have m1 : ¬ w.heap.size + 1 = g := by omega
  have n0 : w.heap.size < w5.heap.size := by omega
  have n1 : w.heap.size + 1 < w5.heap.size := by omega
  have P0 := hide p0
  have PP := hide (And.intro p0 (And.intro p1 (And.intro p2 (And.intro p3 (And.intro p4 (And.intro p5 p6))))))
  have QQ := hide (And.intro q0 (And.intro q1 (And.intro q2 (And.intro q3 (And.intro q4 (And.intro q5 q6))))))
  have G5 := hide g5
  clear hW p1 p2 p3 p4 p5 p6 q0 q1 q2 q3 q4 q5 q6 g5
  go_wp2_with fail
  go_loopw [9, 21] (fun v x wr => ∃ (k : Nat) (A' : Option Addr) (c' : Nat), k ≤ n ∧ x = .int .i64 k ∧ v = .slice A' (idxs (isOn run ep) (L.tks.take k) 0).length c' ∧ Hid (wr.ownsRow w5.heap.size 3 1 (.slice A' (idxs (isOn run ep) (L.tks.take k) 0).length c') (idxs (isOn run ep) (L.tks.take k) 0).length ((idxs (isOn run ep) (L.tks.take k) 0).flatMap iv)) ∧
    Hid (wr.ownsRow w1.heap.size 43 10 (.slice (some ⟨g, 0, none⟩) n (n + 1)) n ((mixed (loseTk run ep) L.tks k).flatMap Tk.vals)) ∧ Hid (Fr w5 wr (fun i => i = g))) (fun _ x _ => n - (intOf x).toNat)
  case atStart => exact ⟨0, none, 0, by omega, rfl, rfl, hide (World.ownsRow_nil _ _ _ _), hide (by rw [mixed_zero]; exact HO5.out), hide (Fr.refl _ _)⟩
  case round =>
    obtain ⟨k, A', c', hk, rfl, rfl, HO, HT, HF⟩ := hrel
    obtain ⟨m, hm⟩ : ∃ m, m = (idxs (isOn run ep) (L.tks.take k) 0).length := ⟨_, rfl⟩
    have hm2 : m ≤ k := by
      have h1 := idxs_len (isOn run ep) (L.tks.take k) 0
      have h2 : (L.tks.take k).length ≤ k := List.length_take_le _ _
      omega
    have hzr := HF.out.size
    have z0 : wr.cell? ⟨w.heap.size, 0, none⟩ = some (.slice (some ⟨g, 0, none⟩) n (n + 1)) := (World.cell?_of_block (w := w5) (HF.out.block _ n0 m0)).trans P0.out
    by_cases hlt : k < n
    · have hi1 : (0 : Int) ≤ (k : Int) := by omega
      have hi2 : (k : Int) < (n : Int) := by omega
      obtain ⟨t, ht⟩ : ∃ t, L.tks[k]? = some t := ⟨_, List.getElem?_eq_getElem (by have := hN.out; omega)⟩
      have HI := hide (idxs_take (isOn run ep) ht)
      have HKT := hide ht
      obtain ⟨f0, f1, f2, f3, f4, f5, f6, f7, f8, f9⟩ := tkAt_of (own_cells Tk.vals_len HT.out (mixed_at (loseTk run ep) ht))
      rw [← hm] at HO ⊢
      have HM := hide hm
      clear ht hm
      cases e1 : (t.st == 1)
      · have HS := hide (show isOn run ep t = false by simp [isOn, e1]); go_wp2_with fail; go_roundw; (case rel => (have e1 := HI.out; rw [HS.out, if_neg (by simp), List.append_nil] at e1; have e3 : loseTk run ep t = t := (by rw [loseTk, if_neg (by rw [HS.out]; simp)]); refine ⟨k + 1, A', c', by omega, by go_num, ?_, hide ?_, hide ?_, HF⟩; (rw [e1, ← HM.out]); (rw [e1, ← HM.out]; exact HO.out); (rw [mixed_same _ HKT.out e3]; exact HT.out))); (case measure => (simp [intOf]; omega))
      cases e2 : (t.run == run)
      · have HS := hide (show isOn run ep t = false by simp [isOn, e2]); go_wp2_with fail; go_roundw; (case rel => (have e1 := HI.out; rw [HS.out, if_neg (by simp), List.append_nil] at e1; have e3 : loseTk run ep t = t := (by rw [loseTk, if_neg (by rw [HS.out]; simp)]); refine ⟨k + 1, A', c', by omega, by go_num, ?_, hide ?_, hide ?_, HF⟩; (rw [e1, ← HM.out]); (rw [e1, ← HM.out]; exact HO.out); (rw [mixed_same _ HKT.out e3]; exact HT.out))); (case measure => (simp [intOf]; omega))
      cases e3 : (t.ep == ep)
      · have HS := hide (show isOn run ep t = false by simp [isOn, e3]); go_wp2_with fail; go_roundw; (case rel => (have e1 := HI.out; rw [HS.out, if_neg (by simp), List.append_nil] at e1; have e3 : loseTk run ep t = t := (by rw [loseTk, if_neg (by rw [HS.out]; simp)]); refine ⟨k + 1, A', c', by omega, by go_num, ?_, hide ?_, hide ?_, HF⟩; (rw [e1, ← HM.out]); (rw [e1, ← HM.out]; exact HO.out); (rw [mixed_same _ HKT.out e3]; exact HT.out))); (case measure => (simp [intOf]; omega))
      have HS := hide (show isOn run ep t = true by simp [isOn, e1, e2, e3])
      go_wp2_with (first
        | (go_at_call 48; refine (lfail_any g k n (n + 1) w1.heap.size 5 _ t _ HT.out (mixed_at _ HKT.out)).mono ?_; rintro e w6 ⟨rfl, hown6, hfr6⟩; have HO6 := hide hown6; have HF6 := hide hfr6; have hz6 := hfr6.size; clear hown6 hfr6)
        | (at_builtin; refine wl_append _ rfl (.tmp 51) (.tmp 53) 22 (by rfl) w5.heap.size 3 _ 1 8 Try.underlying22 info3 rfl (by decide) (.slice A' m c') m (idxs (isOn run ep) (L.tks.take k) 0) (by rfl) ((own_fr HO.out HF6.out (own_ne HO.out (by omega))).alloc _) _ 1 1 [(k : Int)] (by rfl) (rs_one (av := none) (by simp) (by simp) (by intro j u hu; match j with | 0 => simp [iv] at hu; subst hu; go_simp | j + 1 => simp [iv] at hu)) rfl iv_len iv_one (by omega) (by decide) (by simp; omega) ?_; intro A2 c2 w7 hown7 hg7 _; have HO7 := hide hown7; have HG7 := hide hg7; clear hown7 hg7))
      go_wp2_with fail
      go_roundw
      case rel =>
        have e1 := HI.out
        rw [HS.out, if_pos rfl] at e1
        have e2 : (idxs (isOn run ep) (L.tks.take k) 0 ++ [(k : Int)]).length = m + 1 := by simp [HM.out]
        have e3 : loseTk run ep t = t.failed 5 := by rw [loseTk, if_pos HS.out]
        have hne : ∀ g', (Value.slice A' m c').ownBlock = some g' → w5.heap.size ≤ g' := own_ge HO.out
        refine ⟨k + 1, A2, c2, by omega, by go_num, ?_, hide ?_, hide ?_, hide ?_⟩
        · rw [e1, e2]
        · rw [e1, e2]; exact HO7.out
        · rw [← mixed_set _ HKT.out, e3]
          exact (HO6.out.alloc _).kept HG7.out (.inr (by intro h; have h2 : w5.heap.size ≤ g := hne g h.symm; omega))
        · exact ((HF.out.step HF6.out (fun _ _ h => h)).alloc _).grown HG7.out (fun g' h => Or.inl (hne g' h))
      case measure => simp [intOf]; omega
    · have hkn : decide ((k : Int) < (n : Int)) = false := by simp; omega
      obtain ⟨hcF, hfF, -⟩ := fcell HF.out w5.heap.size (Nat.le_refl _)
      obtain ⟨p0, p1, p2, p3, p4, p5, p6⟩ := PP.out
      obtain ⟨q0, q1, q2, q3, q4, q5, q6⟩ := QQ.out
      have g5 := G5.out
      have e0 : L.tks.take k = L.tks := List.take_of_length_le (by have := hN.out; omega)
      rw [e0] at hm HO ⊢
      rw [mixed_all _ _ _ (by have := hN.out; omega)] at HT
      have HM := hide hm
      clear e0 hm
      go_wp2_with fail
      refine bodyPost_ret (v := .tuple #[.agg #[.slice (some ⟨g, 0, none⟩) n (n + 1), .int .i64 L.r0, .int .i64 L.r1, .int .i64 L.r2, .int .i64 L.r3, .int .i64 L.r4, .int .i64 L.r5], .slice A' (idxs (isOn run ep) L.tks 0).length c', .int .i64 0]) (by simp [results, Try.results24, go_sem, *]) rfl ⟨⟨some ⟨g, 0, none⟩, n + 1, A', c', rfl, ?_, ?_, ?_⟩, ?_⟩
      · refine Rs.of_own (base := w.heap.size) (n := n) (c := n + 1) (e := 43) ?_ Tk.vals_len (by simp [hN.out]) HV.out
        ((repeat' first | (with_reducible refine own_far ?_ (by simp [Value.ownBlock]; omega) _) | (with_reducible refine own_drew ?_) | (with_reducible refine World.ownsRow.alloc ?_ _)); exact own_base HT.out (by omega))
      · refine Rs.of_own (base := w.heap.size) (c := c') (e := 3) ?_ iv_len rfl HV.out
        have hge := own_ge HO.out
        have hne : ∀ j, j < w5.heap.size → (Value.slice A' (idxs (isOn run ep) L.tks 0).length c').ownBlock ≠ some j := fun j hj h => by have := hge j h; omega
        (repeat' first | (with_reducible refine own_far ?_ (hne _ n1) _) | (with_reducible refine own_drew ?_))
        exact own_base HO.out (by omega)
      · intro b o h
        subst h
        have := own_ge HO.out b rfl
        omega
      · refine Fr.below (S := fun _ => False) ?_ (Nat.le_refl _) (fun _ _ h => h)
        (repeat' first | (with_reducible refine Fr.setCell ?_ (Or.inl (by first | (simp; done) | (simp; omega))) _) | (with_reducible refine Fr.alloc ?_ _) | (with_reducible refine Fr.drew ?_))
        exact HF5.out.step HF.out (fun i hi h => by omega)

end Go.Proofs.Ytjhkgoengoiljaa

/- Contracts of the reference: Lose. -/
namespace Go.Proofs.Ytjhkgoengoiljaa
open Go.RowKit

set_option maxRecDepth 100000 in
set_option maxHeartbeats 1000000 in
theorem rlose_bad (w : World) (av : Option Nat) (A : Option Addr) (c n : Nat) (L : Ld) (hR : Rs w av 10 Tk.vals A L.tks) (hn : L.tks.length = n) (hc63 : n ≤ 4294967296) (run ep : Int) (hok : L.ok = false) :
    Calls Try.prog 38 #[.agg #[.slice A n c, .int .i64 L.r0, .int .i64 L.r1, .int .i64 L.r2, .int .i64 L.r3, .int .i64 L.r4, .int .i64 L.r5], .int .i64 run, .int .i64 ep] w fun e w' => e = .returned (.tuple #[.agg #[.slice none 0 0, .int .i64 0, .int .i64 0, .int .i64 0, .int .i64 0, .int .i64 0, .int .i64 0], .slice none 0 0, .int .i64 1]) ∧ Below w.heap.size w w' := by
  have hN := hide hn; clear hn
  have HK := hide hok; clear hok
  go_enter Try.func38, Try.ntmps38
  go_wp2_with (go_at_call 30; refine (rcheck_any A c n L _ av ((hR.alloc _).alloc _) hN.out hc63).mono ?_; rintro e w1 ⟨rfl, hb1⟩; rw [HK.out]; obtain ⟨hc1, hf1, hz1⟩ := gcell (grown_of_below hb1 none) (w.heap.size + 2) (by first | (simp; done) | (simp; omega)); have : w.heap.size < w1.heap.size := (by omega); have : w.heap.size + 1 < w1.heap.size := (by omega))
  refine bodyPost_ret (by simp [results, Try.results38, go_sem, *]) rfl ⟨rfl, ?_⟩
  (refine Fr.below (S := fun _ => False) ?_ (Nat.le_refl _) (fun _ _ h => h); (repeat' first | (with_reducible refine Fr.setCell ?_ (Or.inl (by first | (simp; done) | (simp; omega))) _) | (with_reducible refine Fr.alloc ?_ _) | (with_reducible refine Fr.drew ?_)); exact (((Fr.refl w _).alloc _).alloc _).below_ hb1)

set_option maxRecDepth 100000 in
set_option maxHeartbeats 2000000 in
theorem rlose_ok (w : World) (av : Option Nat) (A : Option Addr) (c n : Nat) (L : Ld) (hR : Rs w av 10 Tk.vals A L.tks) (hn : L.tks.length = n) (hc63 : n ≤ 4294967296) (run ep : Int) (hok : L.ok = true) (hav : ∀ x, av = some x → x < w.heap.size) :
    Calls Try.prog 38 #[.agg #[.slice A n c, .int .i64 L.r0, .int .i64 L.r1, .int .i64 L.r2, .int .i64 L.r3, .int .i64 L.r4, .int .i64 L.r5], .int .i64 run, .int .i64 ep] w fun e w' => (∃ A' c' B d, e = .returned (.tuple #[.agg #[.slice A' n c', .int .i64 L.r0, .int .i64 L.r1, .int .i64 L.r2, .int .i64 L.r3, .int .i64 L.r4, .int .i64 L.r5], .slice B (idxs (isOn run ep) L.tks 0).length d, .int .i64 0]) ∧ Rs w' av 10 Tk.vals A' (L.tks.map (loseTk run ep)) ∧ Rs w' av 1 iv B (idxs (isOn run ep) L.tks 0) ∧ (∀ b o, B = some ⟨b, o, none⟩ → w.heap.size ≤ b)) ∧ Below w.heap.size w w' := by
  have hN := hide hn
  have HK := hide hok; clear hok
  have HV := hide hav; clear hav
  have HNE0 := hide (show n ≠ 0 → ∀ b o, A = some ⟨b, o, none⟩ → b ≠ w.heap.size ∧ b ≠ w.heap.size + 1 from by
    intro h0 b o hA
    obtain ⟨b', o', hA', _, hb, _⟩ := hR (by intro h; rw [h] at hn; simp at hn; omega)
    rw [hA] at hA'
    injection hA' with hA'
    injection hA' with h1 h2
    omega)
  clear hn
  go_enter Try.func38, Try.ntmps38
  go_wp2_with (go_at_call 30; refine (rcheck_any A c n L _ av ((hR.alloc _).alloc _) hN.out hc63).mono ?_; rintro e w1 ⟨rfl, hb1⟩; rw [HK.out]; obtain ⟨hc1, hf1, hz1⟩ := gcell (grown_of_below hb1 none) (w.heap.size + 2) (by first | (simp; done) | (simp; omega)); have : w.heap.size < w1.heap.size := (by omega); have : w.heap.size + 1 < w1.heap.size := (by omega))
  have HR1 := hide (((hR.alloc _).alloc _).below hb1)
  have HF1 := hide ((((Fr.refl w (fun _ => False)).alloc _).alloc _).below_ hb1)
  have HC1 := hide (show (w1.cell? ⟨w.heap.size, 0, none⟩ = some (.slice A n c) ∧ w1.cell? ⟨w.heap.size, 1, none⟩ = some (.int .i64 L.r0) ∧ w1.cell? ⟨w.heap.size, 2, none⟩ = some (.int .i64 L.r1) ∧ w1.cell? ⟨w.heap.size, 3, none⟩ = some (.int .i64 L.r2) ∧ w1.cell? ⟨w.heap.size, 4, none⟩ = some (.int .i64 L.r3) ∧ w1.cell? ⟨w.heap.size, 5, none⟩ = some (.int .i64 L.r4) ∧ w1.cell? ⟨w.heap.size, 6, none⟩ = some (.int .i64 L.r5)) ∧ (∀ j, w1.frozen? ⟨w.heap.size, j, none⟩ = false) ∧ (w1.cell? ⟨w.heap.size + 1, 0, none⟩ = some (.slice none 0 0) ∧ w1.cell? ⟨w.heap.size + 1, 1, none⟩ = some (.int .i64 0) ∧ w1.cell? ⟨w.heap.size + 1, 2, none⟩ = some (.int .i64 0) ∧ w1.cell? ⟨w.heap.size + 1, 3, none⟩ = some (.int .i64 0) ∧ w1.cell? ⟨w.heap.size + 1, 4, none⟩ = some (.int .i64 0) ∧ w1.cell? ⟨w.heap.size + 1, 5, none⟩ = some (.int .i64 0) ∧ w1.cell? ⟨w.heap.size + 1, 6, none⟩ = some (.int .i64 0)) ∧ (∀ j, w1.frozen? ⟨w.heap.size + 1, j, none⟩ = false) from by
    refine ⟨⟨?_, ?_, ?_, ?_, ?_, ?_, ?_⟩, ?_, ⟨?_, ?_, ?_, ?_, ?_, ?_, ?_⟩, ?_⟩
    iterate 7 (go_simp)
    (intro j; go_simp)
    iterate 7 (go_simp)
    (intro j; go_simp))
  clear hc1 hf1 hb1 hR
  go_loopw [9, 10] (fun v x wr => ∃ (k : Nat) (A' : Option Addr) (c' : Nat) (AA : Option Addr) (cc : Nat), k ≤ n ∧ x = .int .i64 k ∧ v = .slice A' (idxs (isOn run ep) (L.tks.take k) 0).length c' ∧
    Hid ((wr.cell? ⟨w.heap.size, 0, none⟩ = some (.slice AA n cc) ∧ wr.cell? ⟨w.heap.size, 1, none⟩ = some (.int .i64 L.r0) ∧ wr.cell? ⟨w.heap.size, 2, none⟩ = some (.int .i64 L.r1) ∧ wr.cell? ⟨w.heap.size, 3, none⟩ = some (.int .i64 L.r2) ∧ wr.cell? ⟨w.heap.size, 4, none⟩ = some (.int .i64 L.r3) ∧ wr.cell? ⟨w.heap.size, 5, none⟩ = some (.int .i64 L.r4) ∧ wr.cell? ⟨w.heap.size, 6, none⟩ = some (.int .i64 L.r5)) ∧ (∀ j, wr.frozen? ⟨w.heap.size, j, none⟩ = false) ∧ (wr.cell? ⟨w.heap.size + 1, 0, none⟩ = some (.slice none 0 0) ∧ wr.cell? ⟨w.heap.size + 1, 1, none⟩ = some (.int .i64 0) ∧ wr.cell? ⟨w.heap.size + 1, 2, none⟩ = some (.int .i64 0) ∧ wr.cell? ⟨w.heap.size + 1, 3, none⟩ = some (.int .i64 0) ∧ wr.cell? ⟨w.heap.size + 1, 4, none⟩ = some (.int .i64 0) ∧ wr.cell? ⟨w.heap.size + 1, 5, none⟩ = some (.int .i64 0) ∧ wr.cell? ⟨w.heap.size + 1, 6, none⟩ = some (.int .i64 0)) ∧ (∀ j, wr.frozen? ⟨w.heap.size + 1, j, none⟩ = false)) ∧
    Hid (wr.ownsRow w1.heap.size 3 1 (.slice A' (idxs (isOn run ep) (L.tks.take k) 0).length c') (idxs (isOn run ep) (L.tks.take k) 0).length ((idxs (isOn run ep) (L.tks.take k) 0).flatMap iv)) ∧
    Hid (Rs wr av 10 Tk.vals AA (mixed (loseTk run ep) L.tks k)) ∧ Hid (n ≠ 0 → ∀ b o, AA = some ⟨b, o, none⟩ → b ≠ w.heap.size ∧ b ≠ w.heap.size + 1) ∧ Hid (Fr w1 wr (fun i => i = w.heap.size))) (fun _ x _ => n - (intOf x).toNat)
  case atStart => exact ⟨0, none, 0, A, c, by omega, rfl, rfl, HC1, hide (World.ownsRow_nil _ _ _ _), hide (by rw [mixed_zero]; exact HR1.out), HNE0, hide (Fr.refl _ _)⟩
  case round =>
    obtain ⟨k, A', c', AA, cc, hk, rfl, rfl, HC, HO, HRR, HNE, HF⟩ := hrel
    obtain ⟨m, hm⟩ : ∃ m, m = (idxs (isOn run ep) (L.tks.take k) 0).length := ⟨_, rfl⟩
    have hm2 : m ≤ k := by
      have h1 := idxs_len (isOn run ep) (L.tks.take k) 0
      have h2 : (L.tks.take k).length ≤ k := List.length_take_le _ _
      omega
    have hzr := HF.out.size
    have n0 : w.heap.size < wr.heap.size := by omega
    have n1 : w.heap.size + 1 < wr.heap.size := by omega
    obtain ⟨⟨p0, p1, p2, p3, p4, p5, p6⟩, gp, ⟨q0, q1, q2, q3, q4, q5, q6⟩, gq⟩ := HC.out
    by_cases hlt : k < n
    · have hi1 : (0 : Int) ≤ (k : Int) := by omega
      have hi2 : (k : Int) < (n : Int) := by omega
      obtain ⟨t, ht⟩ : ∃ t, L.tks[k]? = some t := ⟨_, List.getElem?_eq_getElem (by have := hN.out; omega)⟩
      have HI := hide (idxs_take (isOn run ep) ht)
      have HKT := hide ht
      obtain ⟨b, o, rfl, -, hb, hcells⟩ := HRR.out.at (mixed_at (loseTk run ep) ht)
      obtain ⟨f0, f1, f2, f3, f4, f5, f6, f7, f8, f9⟩ := tkAt_of hcells
      rw [← hm] at HO ⊢
      have HM := hide hm
      clear ht hm hcells
      cases e1 : (t.st == 1)
      · have HS := hide (show isOn run ep t = false by simp [isOn, e1]); go_wp2_with fail; go_roundw; (case rel => (have e1 := HI.out; rw [HS.out, if_neg (by simp), List.append_nil] at e1; have e3 : loseTk run ep t = t := (by rw [loseTk, if_neg (by rw [HS.out]; simp)]); refine ⟨k + 1, A', c', some ⟨b, o, none⟩, cc, by omega, by go_num, ?_, hide ?_, hide ?_, hide ?_, HNE, hide ?_⟩; (rw [e1, ← HM.out]); (refine ⟨⟨?_, ?_, ?_, ?_, ?_, ?_, ?_⟩, ?_, ⟨?_, ?_, ?_, ?_, ?_, ?_, ?_⟩, ?_⟩; (iterate 7 (go_simp)); (intro j; go_simp); (iterate 7 (go_simp)); (intro j; go_simp)); (rw [e1, ← HM.out]; exact HO.out.alloc _); (rw [mixed_same _ HKT.out e3]; exact HRR.out.alloc _); (exact HF.out.alloc _))); (case measure => (simp [intOf]; omega))
      cases e2 : (t.run == run)
      · have HS := hide (show isOn run ep t = false by simp [isOn, e2]); go_wp2_with fail; go_roundw; (case rel => (have e1 := HI.out; rw [HS.out, if_neg (by simp), List.append_nil] at e1; have e3 : loseTk run ep t = t := (by rw [loseTk, if_neg (by rw [HS.out]; simp)]); refine ⟨k + 1, A', c', some ⟨b, o, none⟩, cc, by omega, by go_num, ?_, hide ?_, hide ?_, hide ?_, HNE, hide ?_⟩; (rw [e1, ← HM.out]); (refine ⟨⟨?_, ?_, ?_, ?_, ?_, ?_, ?_⟩, ?_, ⟨?_, ?_, ?_, ?_, ?_, ?_, ?_⟩, ?_⟩; (iterate 7 (go_simp)); (intro j; go_simp); (iterate 7 (go_simp)); (intro j; go_simp)); (rw [e1, ← HM.out]; exact HO.out.alloc _); (rw [mixed_same _ HKT.out e3]; exact HRR.out.alloc _); (exact HF.out.alloc _))); (case measure => (simp [intOf]; omega))
      cases e3 : (t.ep == ep)
      · have HS := hide (show isOn run ep t = false by simp [isOn, e3]); go_wp2_with fail; go_roundw; (case rel => (have e1 := HI.out; rw [HS.out, if_neg (by simp), List.append_nil] at e1; have e3 : loseTk run ep t = t := (by rw [loseTk, if_neg (by rw [HS.out]; simp)]); refine ⟨k + 1, A', c', some ⟨b, o, none⟩, cc, by omega, by go_num, ?_, hide ?_, hide ?_, hide ?_, HNE, hide ?_⟩; (rw [e1, ← HM.out]); (refine ⟨⟨?_, ?_, ?_, ?_, ?_, ?_, ?_⟩, ?_, ⟨?_, ?_, ?_, ?_, ?_, ?_, ?_⟩, ?_⟩; (iterate 7 (go_simp)); (intro j; go_simp); (iterate 7 (go_simp)); (intro j; go_simp)); (rw [e1, ← HM.out]; exact HO.out.alloc _); (rw [mixed_same _ HKT.out e3]; exact HRR.out.alloc _); (exact HF.out.alloc _))); (case measure => (simp [intOf]; omega))
      have HS := hide (show isOn run ep t = true by simp [isOn, e1, e2, e3])
      go_upto_region 9 with (fail)
      have l0 : w.heap.size < wr.heap.size + 1 := by omega
      have l1 : w.heap.size + 1 < wr.heap.size + 1 := by omega
      have l2 : ¬ wr.heap.size = w.heap.size := by omega
      have l3 : ¬ wr.heap.size = w.heap.size + 1 := by omega
      go_cut [] (fun w8 => ∃ (g c7 : Nat), Hid ((w8.cell? ⟨w.heap.size, 0, none⟩ = some (.slice (some ⟨g, 0, none⟩) n c7) ∧ w8.cell? ⟨w.heap.size, 1, none⟩ = some (.int .i64 L.r0) ∧ w8.cell? ⟨w.heap.size, 2, none⟩ = some (.int .i64 L.r1) ∧ w8.cell? ⟨w.heap.size, 3, none⟩ = some (.int .i64 L.r2) ∧ w8.cell? ⟨w.heap.size, 4, none⟩ = some (.int .i64 L.r3) ∧ w8.cell? ⟨w.heap.size, 5, none⟩ = some (.int .i64 L.r4) ∧ w8.cell? ⟨w.heap.size, 6, none⟩ = some (.int .i64 L.r5)) ∧ (∀ j, w8.frozen? ⟨w.heap.size, j, none⟩ = false) ∧ (w8.cell? ⟨w.heap.size + 1, 0, none⟩ = some (.slice none 0 0) ∧ w8.cell? ⟨w.heap.size + 1, 1, none⟩ = some (.int .i64 0) ∧ w8.cell? ⟨w.heap.size + 1, 2, none⟩ = some (.int .i64 0) ∧ w8.cell? ⟨w.heap.size + 1, 3, none⟩ = some (.int .i64 0) ∧ w8.cell? ⟨w.heap.size + 1, 4, none⟩ = some (.int .i64 0) ∧ w8.cell? ⟨w.heap.size + 1, 5, none⟩ = some (.int .i64 0) ∧ w8.cell? ⟨w.heap.size + 1, 6, none⟩ = some (.int .i64 0)) ∧ (∀ j, w8.frozen? ⟨w.heap.size + 1, j, none⟩ = false)) ∧
        Hid (w8.ownsRow wr.heap.size 43 10 (.slice (some ⟨g, 0, none⟩) n c7) n ((mixed (loseTk run ep) L.tks (k + 1)).flatMap Tk.vals)) ∧ Hid (w8.ownsRow w1.heap.size 3 1 (.slice A' m c') m ((idxs (isOn run ep) (L.tks.take k) 0).flatMap iv)) ∧ Hid (Fr w1 w8 (fun i => i = w.heap.size)))
      case first =>
        go_region_with
          (first
            | ((go_at_call 58; refine (failed_any t 5 _).mono ?_; rintro e w6 ⟨rfl, hb6⟩; obtain ⟨hc6, hf6⟩ := bcell hb6; have HB6 := hide hb6; have hz6 := hb6.size))
            | ((go_at_call 55; refine (with_any _ av _ cc n ({ L with tks := mixed (loseTk run ep) L.tks k } : Ld) (((HRR.out.alloc _).drew).below HB6.out) ((mixed_len _ _ _).trans hN.out) (by omega) k (t.failed 5) hlt).mono ?_; rintro e w7 ⟨g, c7, rfl, hown7, hb7⟩; obtain ⟨hc7, hf7⟩ := bcell hb7; have HB7 := hide hb7; have hz7 := hb7.size; have HO7 := hide hown7; have o0 : w.heap.size < w6.heap.size := (by simp at hz6; omega); have o1 : w.heap.size + 1 < w6.heap.size := (by simp at hz6; omega); have o2 : wr.heap.size < w6.heap.size := (by simp at hz6; omega); clear hown7)))
        all_goals
          have hg6 := (HO7.out.lt g rfl).1
          have hg7 := (HO7.out.lt g rfl).2
          clear p0 p1 p2 p3 p4 p5 p6 q0 q1 q2 q3 q4 q5 q6 f0 f1 f2 f3 f4 f5 f6 f7 f8 f9 gp gq
          go_wp2_with fail
          go_meet
          case rel =>
            clear hc6 hf6 hc7 hf7
            obtain ⟨⟨p0, p1, p2, p3, p4, p5, p6⟩, gp', ⟨q0, q1, q2, q3, q4, q5, q6⟩, gq'⟩ := HC.out
            have e3 : t.failed 5 = loseTk run ep t := by rw [loseTk, if_pos HS.out]
            have hne : ∀ j, j < w1.heap.size → (Value.slice A' m c').ownBlock ≠ some j := fun j hj h => by have := own_ge HO.out j h; omega
            have hfr : Fr wr w7 (fun _ => False) := ((((Fr.refl wr _).alloc _).drew).below_ HB6.out).below_ HB7.out
            obtain ⟨hcF, hfF, -⟩ := fcell hfr wr.heap.size (Nat.le_refl _)
            have tr : ∀ {b o : Nat} {v : Value}, b < wr.heap.size → wr.cell? ⟨b, o, none⟩ = some v → w7.cell? ⟨b, o, none⟩ = some v := fun hb h => (hcF _ _ hb (fun h => h)).trans h
            have B0 : w.heap.size ≠ w.heap.size + 1 := by omega
            refine ⟨g, c7, hide ?_, hide ?_, hide ?_, hide ?_⟩
            · exact ⟨put7_cells (tr n0 p0) (tr n0 p1) (tr n0 p2) (tr n0 p3) (tr n0 p4) (tr n0 p5) (tr n0 p6), fun j => (put7_frozen _ _).trans ((hfF _ _ n0 (fun h => h)).trans (gp' j)),
                ⟨(put7_other _ _ B0).trans (tr n1 q0), (put7_other _ _ B0).trans (tr n1 q1), (put7_other _ _ B0).trans (tr n1 q2), (put7_other _ _ B0).trans (tr n1 q3), (put7_other _ _ B0).trans (tr n1 q4), (put7_other _ _ B0).trans (tr n1 q5), (put7_other _ _ B0).trans (tr n1 q6)⟩,
                fun j => (put7_frozen _ _).trans ((hfF _ _ n1 (fun h => h)).trans (gq' j))⟩
            · rw [← mixed_set _ HKT.out, ← e3]
              simp at hz6
              ((repeat' first | (with_reducible refine own_far ?_ (by simp [Value.ownBlock]; omega) _) | (with_reducible refine own_drew ?_) | (with_reducible refine World.ownsRow.alloc ?_ _)); exact own_base HO7.out (by omega))
            · (repeat' first | (with_reducible refine own_far ?_ (hne _ (by omega)) _))
              exact own_below (own_below (own_drew (HO.out.alloc _)) HB6.out) HB7.out
            · (iterate 7 (refine Fr.setCell ?_ (Or.inr (by rfl)) _))
              exact (((HF.out.alloc _).drew).below_ HB6.out).below_ HB7.out
      case rest =>
        obtain ⟨g, c7, HC8, HT8, HO8, HF8⟩ := hcut
        have hzc := HF8.out.size
        have hgl := (HT8.out.lt g rfl).2
        have hgg := (HT8.out.lt g rfl).1
        clear p0 p1 p2 p3 p4 p5 p6 q0 q1 q2 q3 q4 q5 q6 gp gq f0 f1 f2 f3 f4 f5 f6 f7 f8 f9
        go_wp2_with (at_builtin; refine wl_append _ rfl (.tmp 48) (.tmp 50) 22 (by rfl) w1.heap.size 3 _ 1 8 Try.underlying22 info3 rfl (by decide) (.slice A' m c') m (idxs (isOn run ep) (L.tks.take k) 0) (by rfl) (HO8.out.alloc _) _ 1 1 [(k : Int)] (by rfl) (rs_one (av := none) (by simp) (by simp) (by intro j u hu; match j with | 0 => simp [iv] at hu; subst hu; go_simp | j + 1 => simp [iv] at hu)) rfl iv_len iv_one (by omega) (by decide) (by simp; omega) ?_; intro A2 c2 w9 hown9 hg9 hat9; have HO9 := hide hown9; have HG9 := hide hg9; clear hown9 hg9 hat9)
        go_wp2_with fail
        go_roundw
        case rel =>
          have e1 := HI.out
          rw [HS.out, if_pos rfl] at e1
          have e2 : (idxs (isOn run ep) (L.tks.take k) 0 ++ [(k : Int)]).length = m + 1 := by simp [HM.out]
          have hne2 : ∀ g', (Value.slice A' m c').ownBlock = some g' → w1.heap.size ≤ g' := own_ge HO8.out
          have hne3 : ∀ g', (Value.slice A' m c').ownBlock = some g' → g' < wr.heap.size := fun g' h => (HO.out.lt g' h).2
          have hF9 : Fr wc w9 (fun i => w1.heap.size ≤ i) := ((Fr.refl wc _).alloc _).grown HG9.out (fun g' h => Or.inr (hne2 g' h))
          have HT9 : w9.ownsRow wr.heap.size 43 10 (.slice (some ⟨g, 0, none⟩) n c7) n ((mixed (loseTk run ep) L.tks (k + 1)).flatMap Tk.vals) :=
            (HT8.out.alloc _).kept HG9.out (.inr (by intro h; have h2 : g < wr.heap.size := hne3 g h.symm; omega))
          obtain ⟨⟨p0, p1, p2, p3, p4, p5, p6⟩, gp, ⟨q0, q1, q2, q3, q4, q5, q6⟩, gq⟩ := HC8.out
          obtain ⟨hcF, hfF, -⟩ := fcell hF9 w1.heap.size hzc
          have B0 : w.heap.size < w1.heap.size := by omega
          have B1 : w.heap.size + 1 < w1.heap.size := by omega
          have tr : ∀ {b o : Nat} {v : Value}, b < w1.heap.size → wc.cell? ⟨b, o, none⟩ = some v → w9.cell? ⟨b, o, none⟩ = some v := fun hb h => (hcF _ _ hb (by omega)).trans h
          refine ⟨k + 1, A2, c2, some ⟨g, 0, none⟩, c7, by omega, by go_num, ?_, hide ?_, hide ?_, hide ?_, hide ?_, hide ?_⟩
          · rw [e1, e2]
          · exact ⟨⟨tr B0 p0, tr B0 p1, tr B0 p2, tr B0 p3, tr B0 p4, tr B0 p5, tr B0 p6⟩, fun j => (hfF _ _ B0 (by omega)).trans (gp j), ⟨tr B1 q0, tr B1 q1, tr B1 q2, tr B1 q3, tr B1 q4, tr B1 q5, tr B1 q6⟩, fun j => (hfF _ _ B1 (by omega)).trans (gq j)⟩
          · rw [e1, e2]; exact HO9.out
          · exact Rs.of_own (own_base HT9 (show w.heap.size ≤ wr.heap.size by omega)) Tk.vals_len (by rw [mixed_len]; exact hN.out) HV.out
          · intro _ b1 o1 h
            injection h with h
            injection h with h1 h2
            omega
          · exact (HF8.out.alloc _).grown HG9.out (fun g' h => Or.inl (hne2 g' h))
        case measure => simp [intOf]; omega
    · have hkn : decide ((k : Int) < (n : Int)) = false := by simp; omega
      have e0 : L.tks.take k = L.tks := List.take_of_length_le (by have := hN.out; omega)
      rw [e0] at hm HO ⊢
      rw [mixed_all _ _ _ (by have := hN.out; omega)] at HRR
      have HM := hide hm
      clear e0 hm
      go_wp2_with fail
      refine bodyPost_ret (v := .tuple #[.agg #[.slice AA n cc, .int .i64 L.r0, .int .i64 L.r1, .int .i64 L.r2, .int .i64 L.r3, .int .i64 L.r4, .int .i64 L.r5], .slice A' (idxs (isOn run ep) L.tks 0).length c', .int .i64 0]) (by simp [results, Try.results38, go_sem, *]) rfl ⟨⟨AA, cc, A', c', rfl, ?_, ?_, ?_⟩, ?_⟩
      · by_cases h0 : n = 0
        · have hnil : L.tks = [] := List.eq_nil_of_length_eq_zero (by rw [hN.out]; exact h0)
          rw [hnil]
          exact Rs.nil
        · have hne := HNE.out h0
          (repeat' first | (with_reducible refine Rs.far ?_ (fun b o h => (hne b o h).2) _) | (with_reducible refine Rs.drew ?_))
          exact HRR.out
      · refine Rs.of_own (base := w.heap.size) (c := c') (e := 3) ?_ iv_len rfl HV.out
        have hne : ∀ j, j < w1.heap.size → (Value.slice A' (idxs (isOn run ep) L.tks 0).length c').ownBlock ≠ some j := fun j hj h => by have := own_ge HO.out j h; omega
        (repeat' first | (with_reducible refine own_far ?_ (hne _ (by omega)) _) | (with_reducible refine own_drew ?_))
        exact own_base HO.out (by omega)
      · intro b o h
        subst h
        have := own_ge HO.out b rfl
        omega
      · refine Fr.below (S := fun _ => False) ?_ (Nat.le_refl _) (fun _ _ h => h)
        (repeat' first | (with_reducible refine Fr.setCell ?_ (Or.inl (by first | (simp; done) | (simp; omega))) _) | (with_reducible refine Fr.alloc ?_ _) | (with_reducible refine Fr.drew ?_))
        exact HF1.out.step HF.out (fun i hi h => by omega)

end Go.Proofs.Ytjhkgoengoiljaa

/- Contracts: Lose, whole. -/
namespace Go.Proofs.Ytjhkgoengoiljaa
open Go.RowKit

theorem lose_any (w : World) (av : Option Nat) (A : Option Addr) (c n : Nat) (L : Ld) (hR : Rs w av 10 Tk.vals A L.tks) (hn : L.tks.length = n) (hc63 : n ≤ 4294967296) (run ep : Int) (hav : ∀ x, av = some x → x < w.heap.size) :
    Calls Try.prog 24 #[.agg #[.slice A n c, .int .i64 L.r0, .int .i64 L.r1, .int .i64 L.r2, .int .i64 L.r3, .int .i64 L.r4, .int .i64 L.r5], .int .i64 run, .int .i64 ep] w fun e w' => ∃ A' c' B d, e = .returned (.tuple #[.agg #[.slice A' (L.lose run ep).1.tks.length c', .int .i64 (L.lose run ep).1.r0, .int .i64 (L.lose run ep).1.r1, .int .i64 (L.lose run ep).1.r2, .int .i64 (L.lose run ep).1.r3, .int .i64 (L.lose run ep).1.r4, .int .i64 (L.lose run ep).1.r5], .slice B (L.lose run ep).2.1.length d, .int .i64 (L.lose run ep).2.2]) ∧ Rs w' av 10 Tk.vals A' (L.lose run ep).1.tks ∧ Rs w' av 1 iv B (L.lose run ep).2.1 ∧ (∀ b o, B = some ⟨b, o, none⟩ → w.heap.size ≤ b) ∧ Below w.heap.size w w' := by
  cases hok : L.ok
  · have e1 : L.lose run ep = (.nil, [], 1) := by simp [Ld.lose, hok]
    rw [e1]
    exact (lose_bad w av A c n L hR hn hc63 run ep hok).mono fun e w' ⟨he, hb⟩ => ⟨none, 0, none, 0, he, Rs.nil, Rs.nil, by simp, hb⟩
  · have e1 : L.lose run ep = ({ L with tks := L.tks.map (loseTk run ep) }, idxs (isOn run ep) L.tks 0, 0) := by simp [Ld.lose, hok]
    rw [e1]
    refine (lose_ok w av A c n L hR hn hc63 run ep hok hav).mono fun e w' ⟨⟨A', c', B, d, he, h1, h2, h3⟩, hb⟩ => ⟨A', c', B, d, ?_, h1, h2, h3, hb⟩
    dsimp only
    rw [List.length_map, hn]
    exact he

theorem rlose_any (w : World) (av : Option Nat) (A : Option Addr) (c n : Nat) (L : Ld) (hR : Rs w av 10 Tk.vals A L.tks) (hn : L.tks.length = n) (hc63 : n ≤ 4294967296) (run ep : Int) (hav : ∀ x, av = some x → x < w.heap.size) :
    Calls Try.prog 38 #[.agg #[.slice A n c, .int .i64 L.r0, .int .i64 L.r1, .int .i64 L.r2, .int .i64 L.r3, .int .i64 L.r4, .int .i64 L.r5], .int .i64 run, .int .i64 ep] w fun e w' => ∃ A' c' B d, e = .returned (.tuple #[.agg #[.slice A' (L.lose run ep).1.tks.length c', .int .i64 (L.lose run ep).1.r0, .int .i64 (L.lose run ep).1.r1, .int .i64 (L.lose run ep).1.r2, .int .i64 (L.lose run ep).1.r3, .int .i64 (L.lose run ep).1.r4, .int .i64 (L.lose run ep).1.r5], .slice B (L.lose run ep).2.1.length d, .int .i64 (L.lose run ep).2.2]) ∧ Rs w' av 10 Tk.vals A' (L.lose run ep).1.tks ∧ Rs w' av 1 iv B (L.lose run ep).2.1 ∧ (∀ b o, B = some ⟨b, o, none⟩ → w.heap.size ≤ b) ∧ Below w.heap.size w w' := by
  cases hok : L.ok
  · have e1 : L.lose run ep = (.nil, [], 1) := by simp [Ld.lose, hok]
    rw [e1]
    exact (rlose_bad w av A c n L hR hn hc63 run ep hok).mono fun e w' ⟨he, hb⟩ => ⟨none, 0, none, 0, he, Rs.nil, Rs.nil, by simp, hb⟩
  · have e1 : L.lose run ep = ({ L with tks := L.tks.map (loseTk run ep) }, idxs (isOn run ep) L.tks 0, 0) := by simp [Ld.lose, hok]
    rw [e1]
    refine (rlose_ok w av A c n L hR hn hc63 run ep hok hav).mono fun e w' ⟨⟨A', c', B, d, he, h1, h2, h3⟩, hb⟩ => ⟨A', c', B, d, ?_, h1, h2, h3, hb⟩
    dsimp only
    rw [List.length_map, hn]
    exact he

end Go.Proofs.Ytjhkgoengoiljaa
