/- Contracts of the functions that these laws reach: part 16: Contracts of the reference: Take, an accepted report; Contracts of the reference: Take, whole; The switch of the law's step, taken out of the code; The switch of the law's step: cancel. (printed by gensw.py); The switch of the law's step: fail. (printed by gensw.py). -/
import Derived.Test.YtjhkgoengoiljaaG15
import Derived.Deep.Cut
import Derived.Deep.RegionHeld3
import Derived.Test.YtjhkgoengoiljaaG3
import Derived.Test.YtjhkgoengoiljaaG5
import Derived.Test.YtjhkgoengoiljaaG7
import Derived.Test.YtjhkgoengoiljaaG8
import Derived.Test.YtjhkgoengoiljaaG10
import Derived.Deep.CutBlock
import Derived.Deep.DeepCutAuto
import Derived.Outline
set_option linter.unusedVariables false
set_option linter.unusedSimpArgs false

/- Contracts of the reference: Take, an accepted report. -/
namespace Go.Proofs.Ytjhkgoengoiljaa
open Go.RowKit

set_option maxRecDepth 100000 in
set_option maxHeartbeats 2000000 in
theorem rtake_ok1 (w : World) (av : Option Nat) (A : Option Addr) (c n : Nat) (L : Ld) (hR : Rs w av 10 Tk.vals A L.tks) (hn : L.tks.length = n) (hc63 : n ≤ 4294967296) (p : Rp) (i : Nat) (t : Tk) (hpt : p.tick = i) (hi : i < n) (hti : L.tks[i]? = some t) (hp : reportOk p = true) (hok : L.ok = true) (hk : L.kind p = 1) (hr : L.r1 ≠ 1073741824) (hav : ∀ x, av = some x → x < w.heap.size) :
    Calls Try.prog 36 #[.agg #[.slice A n c, .int .i64 L.r0, .int .i64 L.r1, .int .i64 L.r2, .int .i64 L.r3, .int .i64 L.r4, .int .i64 L.r5], .agg #[.int .i64 p.tick, .int .i64 p.att, .int .i64 p.run, .int .i64 p.ep, .int .i64 p.out]] w fun e w' => ∃ A' c', e = .returned (.tuple #[.agg #[.slice A' n c', .int .i64 ({ L with r1 := L.r1 + 1 } : Ld).r0, .int .i64 ({ L with r1 := L.r1 + 1 } : Ld).r1, .int .i64 ({ L with r1 := L.r1 + 1 } : Ld).r2, .int .i64 ({ L with r1 := L.r1 + 1 } : Ld).r3, .int .i64 ({ L with r1 := L.r1 + 1 } : Ld).r4, .int .i64 ({ L with r1 := L.r1 + 1 } : Ld).r5], .int .i64 1, .int .i64 0]) ∧ Rs w' av 10 Tk.vals A' (L.tks.set i { t with st := 2, out := p.out }) ∧ Below w.heap.size w w' := by
  obtain ⟨⟨a1, b1⟩, -, -, -, -⟩ := ok_reps hok
  have hq : (L.r1 == 1073741824) = false := by simp [hr]
  have hN := hide hn; clear hn
  have HP := hide hp; clear hp
  have HK := hide hok; clear hok
  have HKI := hide hk; clear hk
  have HV := hide hav; clear hav
  have HT := hide hti
  have HPT := hide hpt; clear hpt
  have hiI : (i : Int) < (n : Int) := by omega
  have hi0 : (0 : Int) ≤ (i : Int) := by omega
  clear hr
  obtain ⟨b, o, rfl, -, hb0, -⟩ := hR.at hti
  clear hti
  go_enter Try.func36, Try.ntmps36
  go_upto_region 7 with (first | (go_at_call 30; refine (rcheck_any _ c n L _ av (((hR.alloc _).alloc _).alloc _) hN.out hc63).mono ?_; rintro e w1 ⟨rfl, hb1⟩; rw [HK.out]; obtain ⟨hc1, hf1, hz1⟩ := gcell (grown_of_below hb1 none) (w.heap.size + 3) (by first | (simp; done) | (simp; omega)); have : w.heap.size < w1.heap.size := (by omega); have : w.heap.size + 1 < w1.heap.size := (by omega); have : w.heap.size + 2 < w1.heap.size := (by omega)) | (go_at_call 56; refine (r32right_any p _).mono ?_; rintro e w2 ⟨rfl, hb2⟩; rw [HP.out]; obtain ⟨hc2, hf2, hz2⟩ := gcell (grown_of_below hb2 none) w1.heap.size (by simp); have : w.heap.size < w2.heap.size := (by omega); have : w.heap.size + 1 < w2.heap.size := (by omega); have : w.heap.size + 2 < w2.heap.size := (by omega)) | ((go_at_call 57; refine (rclass_any _ n c L p _ av (((((hR.alloc _).alloc _).alloc _).below hb1).below hb2) hN.out hc63 HK.out HP.out).mono ?_; rintro e w3 ⟨rfl, hb3⟩; rw [HKI.out]; obtain ⟨hc3, hf3, hz3⟩ := gcell (grown_of_below hb3 none) w2.heap.size (by simp); have : w.heap.size < w3.heap.size := (by omega); have : w.heap.size + 1 < w3.heap.size := (by omega); have : w.heap.size + 2 < w3.heap.size := (by omega); have : w3.cell? ⟨w.heap.size, 0, none⟩ = some (.slice (some ⟨b, o, none⟩) n c) := (by go_simp); have : w3.cell? ⟨w.heap.size, 1, none⟩ = some (.int .i64 L.r0) := (by go_simp); have : w3.cell? ⟨w.heap.size, 2, none⟩ = some (.int .i64 L.r1) := (by go_simp); have : w3.cell? ⟨w.heap.size, 3, none⟩ = some (.int .i64 L.r2) := (by go_simp); have : w3.cell? ⟨w.heap.size, 4, none⟩ = some (.int .i64 L.r3) := (by go_simp); have : w3.cell? ⟨w.heap.size, 5, none⟩ = some (.int .i64 L.r4) := (by go_simp); have : w3.cell? ⟨w.heap.size, 6, none⟩ = some (.int .i64 L.r5) := (by go_simp); have : w3.cell? ⟨w.heap.size + 2, 0, none⟩ = some (.slice none 0 0) := (by go_simp); have : w3.cell? ⟨w.heap.size + 2, 1, none⟩ = some (.int .i64 0) := (by go_simp); have : w3.cell? ⟨w.heap.size + 2, 2, none⟩ = some (.int .i64 0) := (by go_simp); have : w3.cell? ⟨w.heap.size + 2, 3, none⟩ = some (.int .i64 0) := (by go_simp); have : w3.cell? ⟨w.heap.size + 2, 4, none⟩ = some (.int .i64 0) := (by go_simp); have : w3.cell? ⟨w.heap.size + 2, 5, none⟩ = some (.int .i64 0) := (by go_simp); have : w3.cell? ⟨w.heap.size + 2, 6, none⟩ = some (.int .i64 0) := (by go_simp); have : w3.cell? ⟨w.heap.size + 1, 0, none⟩ = some (.int .i64 p.tick) := (by go_simp); have : w3.cell? ⟨w.heap.size + 1, 1, none⟩ = some (.int .i64 p.att) := (by go_simp); have : w3.cell? ⟨w.heap.size + 1, 2, none⟩ = some (.int .i64 p.run) := (by go_simp); have : w3.cell? ⟨w.heap.size + 1, 3, none⟩ = some (.int .i64 p.ep) := (by go_simp); have : w3.cell? ⟨w.heap.size + 1, 4, none⟩ = some (.int .i64 p.out) := (by go_simp); have : ∀ j, w3.frozen? ⟨w.heap.size, j, none⟩ = false := (by intro j; go_simp); have : ∀ j, w3.frozen? ⟨w.heap.size + 2, j, none⟩ = false := (by intro j; go_simp); have HB1 := hide hb1; have HB2 := hide hb2; have HB3 := hide hb3; clear hc1 hf1 hc2 hf2 hc3 hf3 hb1 hb2 hb3)))
  have HRR := hide ((((((hR.alloc _).alloc _).alloc _).below HB1.out).below HB2.out).below HB3.out)
  clear hR
  generalize hW : World.setCell w3 _ _ = w5
  have p0 : w5.cell? ⟨w.heap.size, 0, none⟩ = some (.slice (some ⟨b, o, none⟩) n c) := (by rw [← hW]; clear hW; go_simp); have p1 : w5.cell? ⟨w.heap.size, 1, none⟩ = some (.int .i64 (L.r0)) := (by rw [← hW]; clear hW; go_simp); have p2 : w5.cell? ⟨w.heap.size, 2, none⟩ = some (.int .i64 (L.r1 + 1)) := (by rw [← hW]; clear hW; go_simp); have p3 : w5.cell? ⟨w.heap.size, 3, none⟩ = some (.int .i64 (L.r2)) := (by rw [← hW]; clear hW; go_simp); have p4 : w5.cell? ⟨w.heap.size, 4, none⟩ = some (.int .i64 (L.r3)) := (by rw [← hW]; clear hW; go_simp); have p5 : w5.cell? ⟨w.heap.size, 5, none⟩ = some (.int .i64 (L.r4)) := (by rw [← hW]; clear hW; go_simp); have p6 : w5.cell? ⟨w.heap.size, 6, none⟩ = some (.int .i64 (L.r5)) := (by rw [← hW]; clear hW; go_simp)
  have q0 : w5.cell? ⟨w.heap.size + 2, 0, none⟩ = some (.slice none 0 0) := (by rw [← hW]; clear hW; go_simp); have q1 : w5.cell? ⟨w.heap.size + 2, 1, none⟩ = some (.int .i64 0) := (by rw [← hW]; clear hW; go_simp); have q2 : w5.cell? ⟨w.heap.size + 2, 2, none⟩ = some (.int .i64 0) := (by rw [← hW]; clear hW; go_simp); have q3 : w5.cell? ⟨w.heap.size + 2, 3, none⟩ = some (.int .i64 0) := (by rw [← hW]; clear hW; go_simp); have q4 : w5.cell? ⟨w.heap.size + 2, 4, none⟩ = some (.int .i64 0) := (by rw [← hW]; clear hW; go_simp); have q5 : w5.cell? ⟨w.heap.size + 2, 5, none⟩ = some (.int .i64 0) := (by rw [← hW]; clear hW; go_simp); have q6 : w5.cell? ⟨w.heap.size + 2, 6, none⟩ = some (.int .i64 0) := (by rw [← hW]; clear hW; go_simp)
  have g4 : ∀ j, w5.frozen? ⟨w.heap.size, j, none⟩ = false := (by intro j; rw [← hW]; clear hW; go_simp)
  have g5 : ∀ j, w5.frozen? ⟨w.heap.size + 2, j, none⟩ = false := (by intro j; rw [← hW]; clear hW; go_simp)
  have y0 : w5.cell? ⟨w.heap.size + 1, 0, none⟩ = some (.int .i64 i) := by rw [← hW, ← HPT.out]; clear hW; go_simp
  have y4 : w5.cell? ⟨w.heap.size + 1, 4, none⟩ = some (.int .i64 p.out) := by rw [← hW]; clear hW; go_simp
  have HR5 := hide (show Rs w5 av 10 Tk.vals (some ⟨b, o, none⟩) L.tks from by rw [← hW]; exact HRR.out.far (by intro b1 o1 h; injection h with h; injection h with h1 h2; subst h1; exact Nat.ne_of_lt hb0) _)
  obtain ⟨b', o', hA, hne, hbb, hcells⟩ := HR5.out.at HT.out
  obtain ⟨rfl, rfl⟩ : b = b' ∧ o = o' := by simpa using hA
  obtain ⟨f0, f1, f2, f3, f4, f5, f6, f7, f8, f9⟩ := tkAt_of hcells
  clear hcells hA
  have hz5 : w3.heap.size = w5.heap.size := by rw [← hW]; simp
  have HW := hide hW
  clear hW
  go_wp2_with fail
  have q1 : w.heap.size < w5.heap.size := by omega
  have q2 : w.heap.size + 1 < w5.heap.size := by omega
  have q3 : w.heap.size + 2 < w5.heap.size := by omega
  go_region_held3 (fun W => W.cell? ⟨w.heap.size + 1, 4, none⟩ = some (.int .i64 p.out)) (first | (go_keep; done) | ((try dsimp only); (repeat' apply And.intro) <;> first | (go_keep; done) | ((repeat rw [World.cell?_setCell_other _ _ _ _ (by intro h; injection h; omega)]); go_keep; done))) (fail)
  have HRD := hide ((HR5.out.alloc (.cells #[.string t.pk, .string t.ts, .int .i64 t.env, .int .i64 t.cost, .int .i64 t.rev, .int .i64 2, .int .i64 t.att, .int .i64 t.run, .int .i64 t.ep, .int .i64 p.out] 43)).drew)
  clear f0 f1 f2 f3 f4 f5 f6 f7 f8 f9
  go_wp2_with fail
  refine (with_any _ av (some ⟨b, o, none⟩) c n ({ L with r1 := L.r1 + 1 } : Ld) HRD.out hN.out hc63 i { t with st := 2, out := p.out } hi).mono ?_
  rintro e w6 ⟨g, c', rfl, hown6, hb6⟩
  obtain ⟨hc6, hf6⟩ := bcell hb6
  have m1 : w.heap.size < w5.heap.size + 1 := by omega
  have m2 : w.heap.size + 1 < w5.heap.size + 1 := by omega
  have m3 : w.heap.size + 2 < w5.heap.size + 1 := by omega
  have hz6 := hb6.size
  have HO := hide hown6
  have HB6 := hide hb6
  have m4 : w.heap.size < w6.heap.size := by simp at hz6; omega
  have : w6.cell? ⟨w.heap.size + 2, 0, none⟩ = some (.slice none 0 0) := (by go_simp); have : w6.cell? ⟨w.heap.size + 2, 1, none⟩ = some (.int .i64 0) := (by go_simp); have : w6.cell? ⟨w.heap.size + 2, 2, none⟩ = some (.int .i64 0) := (by go_simp); have : w6.cell? ⟨w.heap.size + 2, 3, none⟩ = some (.int .i64 0) := (by go_simp); have : w6.cell? ⟨w.heap.size + 2, 4, none⟩ = some (.int .i64 0) := (by go_simp); have : w6.cell? ⟨w.heap.size + 2, 5, none⟩ = some (.int .i64 0) := (by go_simp); have : w6.cell? ⟨w.heap.size + 2, 6, none⟩ = some (.int .i64 0) := (by go_simp)
  have : ∀ j, w6.frozen? ⟨w.heap.size, j, none⟩ = false := (by intro j; go_simp)
  have : ∀ j, w6.frozen? ⟨w.heap.size + 2, j, none⟩ = false := (by intro j; go_simp)
  have z0 : w6.cell? ⟨w.heap.size, 0, none⟩ = some (.slice (some ⟨b, o, none⟩) n c) := by go_simp
  have z1 : w6.cell? ⟨w.heap.size, 1, none⟩ = some (.int .i64 L.r0) := by go_simp
  have z2 : w6.cell? ⟨w.heap.size, 2, none⟩ = some (.int .i64 (L.r1 + 1)) := by go_simp
  have z3 : w6.cell? ⟨w.heap.size, 3, none⟩ = some (.int .i64 L.r2) := by go_simp
  have z4 : w6.cell? ⟨w.heap.size, 4, none⟩ = some (.int .i64 L.r3) := by go_simp
  have z5 : w6.cell? ⟨w.heap.size, 5, none⟩ = some (.int .i64 L.r4) := by go_simp
  have z6 : w6.cell? ⟨w.heap.size, 6, none⟩ = some (.int .i64 L.r5) := by go_simp
  clear hc6 hf6 hown6 hb6
  go_wp2_with fail
  refine bodyPost_ret (v := .tuple #[.agg #[.slice (some ⟨g, 0, none⟩) n c', .int .i64 ({ L with r1 := L.r1 + 1 } : Ld).r0, .int .i64 ({ L with r1 := L.r1 + 1 } : Ld).r1, .int .i64 ({ L with r1 := L.r1 + 1 } : Ld).r2, .int .i64 ({ L with r1 := L.r1 + 1 } : Ld).r3, .int .i64 ({ L with r1 := L.r1 + 1 } : Ld).r4, .int .i64 ({ L with r1 := L.r1 + 1 } : Ld).r5], .int .i64 1, .int .i64 0]) (by simp [results, Try.results36, go_sem, *]) rfl ⟨some ⟨g, 0, none⟩, c', rfl, ?_, ?_⟩
  · refine Rs.of_own (base := w.heap.size) (n := n) (c := c') (e := 43) ?_ Tk.vals_len (by simp [hN.out]) HV.out
    have hgg := (HO.out.lt g rfl).1
    simp at hgg
    ((repeat' first | (with_reducible refine own_far ?_ (by simp [Value.ownBlock]; omega) _) | (with_reducible refine own_drew ?_) | (with_reducible refine World.ownsRow.alloc ?_ _)); exact own_base HO.out (by simp; omega))
  · refine Fr.below (S := fun _ => False) ?_ (Nat.le_refl _) (fun _ _ h => h)
    (repeat' first | (with_reducible refine Fr.setCell ?_ (Or.inl (by first | (simp; done) | (simp; omega))) _) | (with_reducible refine Fr.alloc ?_ _) | (with_reducible refine Fr.drew ?_))
    refine Fr.below_ ?_ HB6.out
    (repeat' first | (with_reducible refine Fr.setCell ?_ (Or.inl (by first | (simp; done) | (simp; omega))) _) | (with_reducible refine Fr.alloc ?_ _) | (with_reducible refine Fr.drew ?_))
    have hW := HW.out; clear HW; subst hW
    (repeat' first | (with_reducible refine Fr.setCell ?_ (Or.inl (by first | (simp; done) | (simp; omega))) _) | (with_reducible refine Fr.alloc ?_ _) | (with_reducible refine Fr.drew ?_))
    exact (((((((Fr.refl w _).alloc _).alloc _).alloc _).below_ HB1.out).below_ HB2.out).below_ HB3.out)

end Go.Proofs.Ytjhkgoengoiljaa

/- Contracts of the reference: Take, whole. -/
namespace Go.Proofs.Ytjhkgoengoiljaa
open Go.RowKit

theorem rtake_any (w : World) (av : Option Nat) (A : Option Addr) (c n : Nat) (L : Ld) (hR : Rs w av 10 Tk.vals A L.tks) (hn : L.tks.length = n) (hc63 : n ≤ 4294967296) (p : Rp) (hav : ∀ x, av = some x → x < w.heap.size) :
    Calls Try.prog 36 #[.agg #[.slice A n c, .int .i64 L.r0, .int .i64 L.r1, .int .i64 L.r2, .int .i64 L.r3, .int .i64 L.r4, .int .i64 L.r5], .agg #[.int .i64 p.tick, .int .i64 p.att, .int .i64 p.run, .int .i64 p.ep, .int .i64 p.out]] w fun e w' => ∃ A' c', e = .returned (.tuple #[.agg #[.slice A' (L.take p).1.tks.length c', .int .i64 (L.take p).1.r0, .int .i64 (L.take p).1.r1, .int .i64 (L.take p).1.r2, .int .i64 (L.take p).1.r3, .int .i64 (L.take p).1.r4, .int .i64 (L.take p).1.r5], .int .i64 (L.take p).2.1, .int .i64 (L.take p).2.2]) ∧ Rs w' av 10 Tk.vals A' (L.take p).1.tks ∧ Below w.heap.size w w' := by
  cases hok : L.ok
  · have e1 : L.take p = (.nil, 0, 1) := by simp [Ld.take, hok]
    rw [e1]
    exact (rtake_bad w av A c n L hR hn hc63 p hok).mono fun e w' ⟨he, hb⟩ => ⟨none, 0, he, Rs.nil, hb⟩
  cases hp : reportOk p
  · have e1 : L.take p = (.nil, 0, 1) := by simp [Ld.take, hp]
    rw [e1]
    exact (rtake_badrep w av A c n L hR hn hc63 p hok hp).mono fun e w' ⟨he, hb⟩ => ⟨none, 0, he, Rs.nil, hb⟩
  rcases kind_mem L p with hk | hk | hk | hk | hk
  · by_cases hr : L.r1 = 1073741824
    · have e1 : L.take p = (.nil, 0, 2) := by simp [Ld.take, hok, hp, hk, Ld.rep, hr]
      rw [e1]
      exact (rtake_full1 w av A c n L hR hn hc63 p hp hok hk hr).mono fun e w' ⟨he, hb⟩ => ⟨none, 0, he, Rs.nil, hb⟩
    · obtain ⟨i, t, h1, h2, h3, h4⟩ := kind_one hk
      have e1 : L.take p = ({ L with r1 := L.r1 + 1, tks := L.tks.set i { t with st := 2, out := p.out } }, 1, 0) := by
        simp [Ld.take, hok, hp, hk, Ld.rep, hr]; exact take_acc h1 h4
      rw [e1]
      refine (rtake_ok1 w av A c n L hR hn hc63 p i t h1 (by omega) h3 hp hok hk hr hav).mono fun e w' ⟨A', c', he, hr', hb⟩ => ⟨A', c', ?_, hr', hb⟩
      have hlen : (L.tks.set i { t with st := 2, out := p.out }).length = n := by simp [hn]
      dsimp only
      rw [hlen]
      exact he
  · by_cases hr : L.r2 = 1073741824
    · have e1 : L.take p = (.nil, 0, 2) := by simp [Ld.take, hok, hp, hk, Ld.rep, hr]
      rw [e1]
      exact (rtake_full2 w av A c n L hR hn hc63 p hp hok hk hr).mono fun e w' ⟨he, hb⟩ => ⟨none, 0, he, Rs.nil, hb⟩
    · have e1 : L.take p = ({ L with r2 := L.r2 + 1 }, 2, 0) := by simp [Ld.take, hok, hp, hk, Ld.rep, hr, Ld.count]
      rw [e1]
      refine (rtake_ok2 w av A c n L hR hn hc63 p hp hok hk hr).mono fun e w' ⟨he, hb⟩ => ⟨A, c, ?_, hR.below hb, hb⟩
      dsimp only
      rw [hn]
      exact he
  · by_cases hr : L.r3 = 1073741824
    · have e1 : L.take p = (.nil, 0, 2) := by simp [Ld.take, hok, hp, hk, Ld.rep, hr]
      rw [e1]
      exact (rtake_full3 w av A c n L hR hn hc63 p hp hok hk hr).mono fun e w' ⟨he, hb⟩ => ⟨none, 0, he, Rs.nil, hb⟩
    · have e1 : L.take p = ({ L with r3 := L.r3 + 1 }, 3, 0) := by simp [Ld.take, hok, hp, hk, Ld.rep, hr, Ld.count]
      rw [e1]
      refine (rtake_ok3 w av A c n L hR hn hc63 p hp hok hk hr).mono fun e w' ⟨he, hb⟩ => ⟨A, c, ?_, hR.below hb, hb⟩
      dsimp only
      rw [hn]
      exact he
  · by_cases hr : L.r4 = 1073741824
    · have e1 : L.take p = (.nil, 0, 2) := by simp [Ld.take, hok, hp, hk, Ld.rep, hr]
      rw [e1]
      exact (rtake_full4 w av A c n L hR hn hc63 p hp hok hk hr).mono fun e w' ⟨he, hb⟩ => ⟨none, 0, he, Rs.nil, hb⟩
    · have e1 : L.take p = ({ L with r4 := L.r4 + 1 }, 4, 0) := by simp [Ld.take, hok, hp, hk, Ld.rep, hr, Ld.count]
      rw [e1]
      refine (rtake_ok4 w av A c n L hR hn hc63 p hp hok hk hr).mono fun e w' ⟨he, hb⟩ => ⟨A, c, ?_, hR.below hb, hb⟩
      dsimp only
      rw [hn]
      exact he
  · by_cases hr : L.r5 = 1073741824
    · have e1 : L.take p = (.nil, 0, 2) := by simp [Ld.take, hok, hp, hk, Ld.rep, hr]
      rw [e1]
      exact (rtake_full5 w av A c n L hR hn hc63 p hp hok hk hr).mono fun e w' ⟨he, hb⟩ => ⟨none, 0, he, Rs.nil, hb⟩
    · have e1 : L.take p = ({ L with r5 := L.r5 + 1 }, 5, 0) := by simp [Ld.take, hok, hp, hk, Ld.rep, hr, Ld.count]
      rw [e1]
      refine (rtake_ok5 w av A c n L hR hn hc63 p hp hok hk hr).mono fun e w' ⟨he, hb⟩ => ⟨A, c, ?_, hR.below hb, hb⟩
      dsimp only
      rw [hn]
      exact he

end Go.Proofs.Ytjhkgoengoiljaa

/- The switch of the law's step, taken out of the code. -/
namespace Go.Proofs.Ytjhkgoengoiljaa
open Go.RowKit

/-- The first block of this number. -/
def blockOf (n : Nat) : Code → Option Code
  | .block i c => if i = n then some (.block i c) else blockOf n c
  | .seq x y => match blockOf n x with
    | some c => some c
    | none => blockOf n y
  | .cond _ x y => match blockOf n x with
    | some c => some c
    | none => blockOf n y
  | .loop c => blockOf n c
  | .scope c => blockOf n c
  | _ => none
noncomputable def swCode : Code := (Try.f14.body.bind (blockOf 0)).getD .skip

end Go.Proofs.Ytjhkgoengoiljaa

/- The switch of the law's step: cancel. (printed by gensw.py) -/
namespace Go.Proofs.Ytjhkgoengoiljaa
open Go.RowKit

set_option maxRecDepth 100000 in
set_option maxHeartbeats 8000000 in
theorem sw_cancel (w : World) (T : Nat) (A : Option Addr) (n c : Nat) (l : List Int) (a : Nat) (ha : a ≤ 4294900000) (A1 A2 : Option Addr) (m c1 c2 : Nat) (L : Ld) (hm : m ≤ 128) (hTl : T < w.heap.size)
    (HR1 : Hid (Rs w (some T) 10 Tk.vals A1 L.tks)) (HR2 : Hid (Rs w (some T) 10 Tk.vals A2 L.tks)) (HL : Hid (L.tks.length = m)) (HOA : Hid (l ≠ [] → ∀ b o, A = some ⟨b, o, none⟩ → b < w.heap.size)) (HOV : Hid (∀ x, some T = some x → x < w.heap.size))
    (k v : Int) (hgr : v = 13) (w3 : World) (HS3 : Hid (S6 w3 w.heap.size (LDV A1 m c1 L) (LDV A2 m c2 L) LZV LZV LZV LZV)) (HF3 : Hid (Fr w w3 (fun i => i = T))) (HT3 : Hid (TapeAt w3 T A n c l (a + 2 + 1)))
    (u3 u17 u18 u19 u20 u21 u22 u23 u24 u25 u26 u27 u28 u29 u30 u31 u32 u33 u34 u35 u36 u38 u39 u40 u41 u42 u43 u44 u45 u46 u47 u48 u49 u50 u51 u52 u53 u54 u55 u56 u57 u58 u59 u60 u61 u62 u63 u64 u65 u66 u67 u68 u69 u70 u71 u72 u73 u74 u75 u76 u77 u78 u79 u80 u81 u82 u83 u84 u85 u86 u87 u88 u89 u90 u91 u92 u93 u94 u95 u96 u97 u98 u99 u100 u101 u102 u103 u104 u105 u106 u107 u108 u109 u110 u111 u112 u113 u114 u115 u116 u117 u118 u119 u120 u121 u122 u123 u124 u125 u126 u127 u128 u129 u130 u131 u132 u133 u134 u135 u136 u137 u138 u139 u140 u141 u142 u143 u144 u145 u146 u147 u148 u149 u150 u151 u152 u153 u154 u155 u156 u157 u158 u159 u160 u161 u162 u163 u164 u165 u166 u167 u168 u169 u170 u171 u172 u173 u174 u175 u176 u177 u178 u179 u180 u181 u182 u183 u184 u185 u186 u187 u188 u189 u190 u191 u192 u193 u194 u195 u196 u197 u198 u199 u200 u201 u202 u203 u204 u205 u206 u207 u208 u209 u210 u211 u212 u213 u214 u215 u216 u217 u218 u219 u220 u221 u222 u223 u224 u225 u226 u227 u228 u229 u230 u231 u232 u233 u234 u235 u236 u237 u238 u239 u240 u241 u242 u243 u244 u245 u246 u247 u248 u249 u250 u251 : Value) (K' : Act → World → Prop) (Q' : Exit → Act → World → Prop)
    (HM : Hid (∀ (X : Ld) (er va : Int) (B1 B2 : Option Addr) (d1 d2 x a' : Nat) (wx : World) (z3 z17 z18 z19 z20 z21 z22 z23 z24 z25 z26 z27 z28 z29 z30 z31 z32 z33 z34 z35 z36 z37 z38 z39 z40 z41 z42 z43 z44 z45 z46 z47 z48 z49 z50 z51 z52 z53 z54 z55 z56 z57 z58 z59 z60 z61 z62 z63 z64 z65 z66 z67 z68 z69 z70 z71 z72 z73 z74 z75 z76 z77 z78 z79 z80 z81 z82 z83 z84 z85 z86 z87 z88 z89 z90 z91 z92 z93 z94 z95 z96 z97 z98 z99 z100 z101 z102 z103 z104 z105 z106 z107 z108 z109 z110 z111 z112 z113 z114 z115 z116 z117 z118 z119 z120 z121 z122 z123 z124 z125 z126 z127 z128 z129 z130 z131 z132 z133 z134 z135 z136 z137 z138 z139 z140 z141 z142 z143 z144 z145 z146 z147 z148 z149 z150 z151 z152 z153 z154 z155 z156 z157 z158 z159 z160 z161 z162 z163 z164 z165 z166 z167 z168 z169 z170 z171 z172 z173 z174 z175 z176 z177 z178 z179 z180 z181 z182 z183 z184 z185 z186 z187 z188 z189 z190 z191 z192 z193 z194 z195 z196 z197 z198 z199 z200 z201 z202 z203 z204 z205 z206 z207 z208 z209 z210 z211 z212 z213 z214 z215 z216 z217 z218 z219 z220 z221 z222 z223 z224 z225 z226 z227 z228 z229 z230 z231 z232 z233 z234 z235 z236 z237 z238 z239 z240 z241 z242 z243 z244 z245 z246 z247 z248 z249 z250 z251 : Value), (er = 0 → StepR L X) → X.tks.length = x → S6 wx w.heap.size (LDV A1 m c1 L) (LDV A2 m c2 L) LZV LZV (LDV B1 x d1 X) (LDV B2 x d2 X) → Rs wx (some T) 10 Tk.vals B1 X.tks → Rs wx (some T) 10 Tk.vals B2 X.tks → TapeAt wx T A n c l a' → Fr w wx (fun i => i = T) → a' ≤ a + 12 → x ≤ 129 → K' ⟨List.toArray (.pointer (some ⟨T, 0, none⟩) :: .agg #[.slice A1 m c1, .int .i64 L.r0, .int .i64 L.r1, .int .i64 L.r2, .int .i64 L.r3, .int .i64 L.r4, .int .i64 L.r5] :: .agg #[.slice A2 m c2, .int .i64 L.r0, .int .i64 L.r1, .int .i64 L.r2, .int .i64 L.r3, .int .i64 L.r4, .int .i64 L.r5] :: z3 :: .pointer (some ⟨w.heap.size, 0, none⟩) :: .pointer (some ⟨w.heap.size + 1, 0, none⟩) :: .pointer (some ⟨w.heap.size + 1 + 1, 0, none⟩) :: .pointer (some ⟨w.heap.size + 1 + 1 + 1, 0, none⟩) :: .bool false :: .pointer (some ⟨w.heap.size + 1 + 1 + 1 + 1, 0, none⟩) :: .pointer (some ⟨w.heap.size + 1 + 1 + 1 + 1 + 1, 0, none⟩) :: .int .i64 er :: .int .i64 er :: .int .i64 va :: .int .i64 va :: .bool true :: .int .i64 k :: z17 :: z18 :: z19 :: z20 :: z21 :: z22 :: z23 :: z24 :: z25 :: z26 :: z27 :: z28 :: z29 :: z30 :: z31 :: z32 :: z33 :: z34 :: z35 :: z36 :: z37 :: z38 :: z39 :: z40 :: z41 :: z42 :: z43 :: z44 :: z45 :: z46 :: z47 :: z48 :: z49 :: z50 :: z51 :: z52 :: z53 :: z54 :: z55 :: z56 :: z57 :: z58 :: z59 :: z60 :: z61 :: z62 :: z63 :: z64 :: z65 :: z66 :: z67 :: z68 :: z69 :: z70 :: z71 :: z72 :: z73 :: z74 :: z75 :: z76 :: z77 :: z78 :: z79 :: z80 :: z81 :: z82 :: z83 :: z84 :: z85 :: z86 :: z87 :: z88 :: z89 :: z90 :: z91 :: z92 :: z93 :: z94 :: z95 :: z96 :: z97 :: z98 :: z99 :: z100 :: z101 :: z102 :: z103 :: z104 :: z105 :: z106 :: z107 :: z108 :: z109 :: z110 :: z111 :: z112 :: z113 :: z114 :: z115 :: z116 :: z117 :: z118 :: z119 :: z120 :: z121 :: z122 :: z123 :: z124 :: z125 :: z126 :: z127 :: z128 :: z129 :: z130 :: z131 :: z132 :: z133 :: z134 :: z135 :: z136 :: z137 :: z138 :: z139 :: z140 :: z141 :: z142 :: z143 :: z144 :: z145 :: z146 :: z147 :: z148 :: z149 :: z150 :: z151 :: z152 :: z153 :: z154 :: z155 :: z156 :: z157 :: z158 :: z159 :: z160 :: z161 :: z162 :: z163 :: z164 :: z165 :: z166 :: z167 :: z168 :: z169 :: z170 :: z171 :: z172 :: z173 :: z174 :: z175 :: z176 :: z177 :: z178 :: z179 :: z180 :: z181 :: z182 :: z183 :: z184 :: z185 :: z186 :: z187 :: z188 :: z189 :: z190 :: z191 :: z192 :: z193 :: z194 :: z195 :: z196 :: z197 :: z198 :: z199 :: z200 :: z201 :: z202 :: z203 :: z204 :: z205 :: z206 :: z207 :: z208 :: z209 :: z210 :: z211 :: z212 :: z213 :: z214 :: z215 :: z216 :: z217 :: z218 :: z219 :: z220 :: z221 :: z222 :: z223 :: z224 :: z225 :: z226 :: z227 :: z228 :: z229 :: z230 :: z231 :: z232 :: z233 :: z234 :: z235 :: z236 :: z237 :: z238 :: z239 :: z240 :: z241 :: z242 :: z243 :: z244 :: z245 :: z246 :: z247 :: z248 :: z249 :: z250 :: z251 :: []), []⟩ wx)) :
    Code.wp Try.prog swCode (Exit.then K' Q') ⟨List.toArray (.pointer (some ⟨T, 0, none⟩) :: .agg #[.slice A1 m c1, .int .i64 L.r0, .int .i64 L.r1, .int .i64 L.r2, .int .i64 L.r3, .int .i64 L.r4, .int .i64 L.r5] :: .agg #[.slice A2 m c2, .int .i64 L.r0, .int .i64 L.r1, .int .i64 L.r2, .int .i64 L.r3, .int .i64 L.r4, .int .i64 L.r5] :: u3 :: .pointer (some ⟨w.heap.size, 0, none⟩) :: .pointer (some ⟨w.heap.size + 1, 0, none⟩) :: .pointer (some ⟨w.heap.size + 1 + 1, 0, none⟩) :: .pointer (some ⟨w.heap.size + 1 + 1 + 1, 0, none⟩) :: .bool false :: .pointer (some ⟨w.heap.size + 1 + 1 + 1 + 1, 0, none⟩) :: .pointer (some ⟨w.heap.size + 1 + 1 + 1 + 1 + 1, 0, none⟩) :: .int .i64 0 :: .int .i64 0 :: .int .i64 0 :: .int .i64 0 :: .bool true :: .int .i64 k :: u17 :: u18 :: u19 :: u20 :: u21 :: u22 :: u23 :: u24 :: u25 :: u26 :: u27 :: u28 :: u29 :: u30 :: u31 :: u32 :: u33 :: u34 :: u35 :: u36 :: .int .i64 v :: u38 :: u39 :: u40 :: u41 :: u42 :: u43 :: u44 :: u45 :: u46 :: u47 :: u48 :: u49 :: u50 :: u51 :: u52 :: u53 :: u54 :: u55 :: u56 :: u57 :: u58 :: u59 :: u60 :: u61 :: u62 :: u63 :: u64 :: u65 :: u66 :: u67 :: u68 :: u69 :: u70 :: u71 :: u72 :: u73 :: u74 :: u75 :: u76 :: u77 :: u78 :: u79 :: u80 :: u81 :: u82 :: u83 :: u84 :: u85 :: u86 :: u87 :: u88 :: u89 :: u90 :: u91 :: u92 :: u93 :: u94 :: u95 :: u96 :: u97 :: u98 :: u99 :: u100 :: u101 :: u102 :: u103 :: u104 :: u105 :: u106 :: u107 :: u108 :: u109 :: u110 :: u111 :: u112 :: u113 :: u114 :: u115 :: u116 :: u117 :: u118 :: u119 :: u120 :: u121 :: u122 :: u123 :: u124 :: u125 :: u126 :: u127 :: u128 :: u129 :: u130 :: u131 :: u132 :: u133 :: u134 :: u135 :: u136 :: u137 :: u138 :: u139 :: u140 :: u141 :: u142 :: u143 :: u144 :: u145 :: u146 :: u147 :: u148 :: u149 :: u150 :: u151 :: u152 :: u153 :: u154 :: u155 :: u156 :: u157 :: u158 :: u159 :: u160 :: u161 :: u162 :: u163 :: u164 :: u165 :: u166 :: u167 :: u168 :: u169 :: u170 :: u171 :: u172 :: u173 :: u174 :: u175 :: u176 :: u177 :: u178 :: u179 :: u180 :: u181 :: u182 :: u183 :: u184 :: u185 :: u186 :: u187 :: u188 :: u189 :: u190 :: u191 :: u192 :: u193 :: u194 :: u195 :: u196 :: u197 :: u198 :: u199 :: u200 :: u201 :: u202 :: u203 :: u204 :: u205 :: u206 :: u207 :: u208 :: u209 :: u210 :: u211 :: u212 :: u213 :: u214 :: u215 :: u216 :: u217 :: u218 :: u219 :: u220 :: u221 :: u222 :: u223 :: u224 :: u225 :: u226 :: u227 :: u228 :: u229 :: u230 :: u231 :: u232 :: u233 :: u234 :: u235 :: u236 :: u237 :: u238 :: u239 :: u240 :: u241 :: u242 :: u243 :: u244 :: u245 :: u246 :: u247 :: u248 :: u249 :: u250 :: u251 :: []), []⟩ w3 := by
  conv => arg 2; whnf
  subst hgr
  obtain ⟨⟨-, p, gp, -⟩, -, -, -, -, -⟩ := HS3.out
  simp only [LDV, LZV] at p
  obtain ⟨p0, p1, p2, p3, p4, p5, p6⟩ := p
  go_wp2_with fail
  refine (cancel_any _ (some T) A1 c1 m L (HR1.out.tape HF3.out) HL.out (by omega) k (fun x hx => Nat.lt_of_lt_of_le (HOV.out x hx) HF3.out.size)).mono ?_
  rintro e wa ⟨B1, d1, rfl, hra, hba⟩
  have HSa := hide (HS3.out.fr (Fr.of_below (fun _ => False) hba) (fun _ _ _ h => h))
  have HTa := hide (HT3.out.below hba)
  have HFa := hide (HF3.out.below_ hba)
  have HBa := hide hba
  have HRa := hide hra
  clear p0 p1 p2 p3 p4 p5 p6 gp
  clear hba hra
  obtain ⟨X, hX⟩ : ∃ X, X = (L.cancel k) := ⟨_, rfl⟩
  rw [← hX] at HRa ⊢
  have HXX := hide hX
  clear hX
  obtain ⟨-, -, -, -, ⟨-, t, gt, -⟩, -⟩ := HSa.out
  simp only [LDV, LZV] at t
  obtain ⟨t0, t1, t2, t3, t4, t5, t6⟩ := t
  go_upto_region 10 with (fail)
  generalize hW : World.setCell (World.setCell (World.setCell (World.setCell (World.setCell (World.setCell (World.setCell wa _ _) _ _) _ _) _ _) _ _) _ _) _ _ = wb
  obtain ⟨hs, hr, ht, hf⟩ : S6 wb w.heap.size (LDV A1 m c1 L) (LDV A2 m c2 L) LZV LZV (LDV B1 X.1.tks.length d1 X.1) LZV ∧ Rs wb (some T) 10 Tk.vals B1 X.1.tks ∧ TapeAt wb T A n c l (a + 2 + 1) ∧ Fr wa wb (fun i => i = w.heap.size + 4) := by
    rw [← hW]
    have hh := put4_all (LDV B1 X.1.tks.length d1 X.1) HSa.out HRa.out HTa.out hTl HOA.out
    simp only [put7, Nat.add_assoc, Nat.reduceAdd] at hh ⊢
    exact hh
  have HSb := hide hs
  have HTb := hide ht
  have HFb := hide (HFa.out.step hf (fun i hi h => by omega))
  have HFab := hide hf
  have HRb := hide hr
  clear t0 t1 t2 t3 t4 t5 t6 gt
  clear hW hs ht hf hr
  obtain ⟨-, ⟨-, q, gq, -⟩, -, -, -, -⟩ := HSb.out
  simp only [LDV, LZV] at q
  obtain ⟨q0, q1, q2, q3, q4, q5, q6⟩ := q
  go_wp2_with fail
  refine (rcancel_any _ (some T) A2 c2 m L (HR2.out.tape HFb.out) HL.out (by omega) k (fun x hx => Nat.lt_of_lt_of_le (HOV.out x hx) HFb.out.size)).mono ?_
  rintro e wc ⟨B2, d2, rfl, hrc, hbc⟩
  have HSc := hide (HSb.out.fr (Fr.of_below (fun _ => False) hbc) (fun _ _ _ h => h))
  have HTc := hide (HTb.out.below hbc)
  have HFc := hide (HFb.out.below_ hbc)
  have HRc := hide (HRb.out.below hbc)
  have HRd := hide hrc
  clear q0 q1 q2 q3 q4 q5 q6 gq
  clear hbc hrc
  rw [← HXX.out] at HRd ⊢
  obtain ⟨-, -, -, -, -, ⟨-, u, gu, -⟩⟩ := HSc.out
  simp only [LDV, LZV] at u
  obtain ⟨u0, u1, u2, u3, u4, u5, u6⟩ := u
  go_wp2_with fail
  generalize hW : World.setCell (World.setCell (World.setCell (World.setCell (World.setCell (World.setCell (World.setCell wc _ _) _ _) _ _) _ _) _ _) _ _) _ _ = wd
  obtain ⟨hs, hr, hr2, ht, hf⟩ : S6 wd w.heap.size (LDV A1 m c1 L) (LDV A2 m c2 L) LZV LZV (LDV B1 X.1.tks.length d1 X.1) (LDV B2 X.1.tks.length d2 X.1) ∧ Rs wd (some T) 10 Tk.vals B1 X.1.tks ∧ Rs wd (some T) 10 Tk.vals B2 X.1.tks ∧ TapeAt wd T A n c l (a + 2 + 1) ∧ Fr wc wd (fun i => i = w.heap.size + 5) := by
    rw [← hW]
    have hh := put5_all (LDV B2 X.1.tks.length d2 X.1) HSc.out HRc.out HRd.out HTc.out hTl HOA.out
    simp only [put7, Nat.add_assoc, Nat.reduceAdd] at hh ⊢
    exact hh
  clear hW
  have HE := hide (show X.2 = 0 → StepR L X.1 from by
    intro h
    have hX := HXX.out
    rw [hX] at h ⊢
    exact .inr (.inr (.inr (.inr (.inr (.inr ⟨k, h, rfl⟩))))))
  have hlen : X.1.tks.length ≤ 129 := by
    have := HXX.out
    have h2 := HL.out
    rw [this]
    have := cancel_len L
    exact Nat.le_trans (this _) (by omega)
  exact HM.out X.1 (X.2) (0) B1 B2 d1 d2 X.1.tks.length (a + 2 + 1) wd _ _ _ _ _ _ _ _ _ _ _ _ _ _ _ _ _ _ _ _ _ _ _ _ _ _ _ _ _ _ _ _ _ _ _ _ _ _ _ _ _ _ _ _ _ _ _ _ _ _ _ _ _ _ _ _ _ _ _ _ _ _ _ _ _ _ _ _ _ _ _ _ _ _ _ _ _ _ _ _ _ _ _ _ _ _ _ _ _ _ _ _ _ _ _ _ _ _ _ _ _ _ _ _ _ _ _ _ _ _ _ _ _ _ _ _ _ _ _ _ _ _ _ _ _ _ _ _ _ _ _ _ _ _ _ _ _ _ _ _ _ _ _ _ _ _ _ _ _ _ _ _ _ _ _ _ _ _ _ _ _ _ _ _ _ _ _ _ _ _ _ _ _ _ _ _ _ _ _ _ _ _ _ _ _ _ _ _ _ _ _ _ _ _ _ _ _ _ _ _ _ _ _ _ _ _ _ _ _ _ _ _ _ _ _ _ _ _ _ _ _ _ _ _ _ _ _ _ _ _ _ _ _ _ _ _ HE.out rfl hs hr hr2 ht (HFc.out.step hf (fun i hi h => by omega)) (by omega) hlen

end Go.Proofs.Ytjhkgoengoiljaa

/- The switch of the law's step: fail. (printed by gensw.py) -/
namespace Go.Proofs.Ytjhkgoengoiljaa
open Go.RowKit

set_option maxRecDepth 100000 in
set_option maxHeartbeats 8000000 in
theorem sw_fail (w : World) (T : Nat) (A : Option Addr) (n c : Nat) (l : List Int) (a : Nat) (ha : a ≤ 4294900000) (A1 A2 : Option Addr) (m c1 c2 : Nat) (L : Ld) (hm : m ≤ 128) (hTl : T < w.heap.size)
    (HR1 : Hid (Rs w (some T) 10 Tk.vals A1 L.tks)) (HR2 : Hid (Rs w (some T) 10 Tk.vals A2 L.tks)) (HL : Hid (L.tks.length = m)) (HOA : Hid (l ≠ [] → ∀ b o, A = some ⟨b, o, none⟩ → b < w.heap.size)) (HOV : Hid (∀ x, some T = some x → x < w.heap.size))
    (k v : Int) (hgr : v = 11) (w3 : World) (HS3 : Hid (S6 w3 w.heap.size (LDV A1 m c1 L) (LDV A2 m c2 L) LZV LZV LZV LZV)) (HF3 : Hid (Fr w w3 (fun i => i = T))) (HT3 : Hid (TapeAt w3 T A n c l (a + 2 + 1)))
    (u3 u17 u18 u19 u20 u21 u22 u23 u24 u25 u26 u27 u28 u29 u30 u31 u32 u33 u34 u35 u36 u38 u39 u40 u41 u42 u43 u44 u45 u46 u47 u48 u49 u50 u51 u52 u53 u54 u55 u56 u57 u58 u59 u60 u61 u62 u63 u64 u65 u66 u67 u68 u69 u70 u71 u72 u73 u74 u75 u76 u77 u78 u79 u80 u81 u82 u83 u84 u85 u86 u87 u88 u89 u90 u91 u92 u93 u94 u95 u96 u97 u98 u99 u100 u101 u102 u103 u104 u105 u106 u107 u108 u109 u110 u111 u112 u113 u114 u115 u116 u117 u118 u119 u120 u121 u122 u123 u124 u125 u126 u127 u128 u129 u130 u131 u132 u133 u134 u135 u136 u137 u138 u139 u140 u141 u142 u143 u144 u145 u146 u147 u148 u149 u150 u151 u152 u153 u154 u155 u156 u157 u158 u159 u160 u161 u162 u163 u164 u165 u166 u167 u168 u169 u170 u171 u172 u173 u174 u175 u176 u177 u178 u179 u180 u181 u182 u183 u184 u185 u186 u187 u188 u189 u190 u191 u192 u193 u194 u195 u196 u197 u198 u199 u200 u201 u202 u203 u204 u205 u206 u207 u208 u209 u210 u211 u212 u213 u214 u215 u216 u217 u218 u219 u220 u221 u222 u223 u224 u225 u226 u227 u228 u229 u230 u231 u232 u233 u234 u235 u236 u237 u238 u239 u240 u241 u242 u243 u244 u245 u246 u247 u248 u249 u250 u251 : Value) (K' : Act → World → Prop) (Q' : Exit → Act → World → Prop)
    (HM : Hid (∀ (X : Ld) (er va : Int) (B1 B2 : Option Addr) (d1 d2 x a' : Nat) (wx : World) (z3 z17 z18 z19 z20 z21 z22 z23 z24 z25 z26 z27 z28 z29 z30 z31 z32 z33 z34 z35 z36 z37 z38 z39 z40 z41 z42 z43 z44 z45 z46 z47 z48 z49 z50 z51 z52 z53 z54 z55 z56 z57 z58 z59 z60 z61 z62 z63 z64 z65 z66 z67 z68 z69 z70 z71 z72 z73 z74 z75 z76 z77 z78 z79 z80 z81 z82 z83 z84 z85 z86 z87 z88 z89 z90 z91 z92 z93 z94 z95 z96 z97 z98 z99 z100 z101 z102 z103 z104 z105 z106 z107 z108 z109 z110 z111 z112 z113 z114 z115 z116 z117 z118 z119 z120 z121 z122 z123 z124 z125 z126 z127 z128 z129 z130 z131 z132 z133 z134 z135 z136 z137 z138 z139 z140 z141 z142 z143 z144 z145 z146 z147 z148 z149 z150 z151 z152 z153 z154 z155 z156 z157 z158 z159 z160 z161 z162 z163 z164 z165 z166 z167 z168 z169 z170 z171 z172 z173 z174 z175 z176 z177 z178 z179 z180 z181 z182 z183 z184 z185 z186 z187 z188 z189 z190 z191 z192 z193 z194 z195 z196 z197 z198 z199 z200 z201 z202 z203 z204 z205 z206 z207 z208 z209 z210 z211 z212 z213 z214 z215 z216 z217 z218 z219 z220 z221 z222 z223 z224 z225 z226 z227 z228 z229 z230 z231 z232 z233 z234 z235 z236 z237 z238 z239 z240 z241 z242 z243 z244 z245 z246 z247 z248 z249 z250 z251 : Value), (er = 0 → StepR L X) → X.tks.length = x → S6 wx w.heap.size (LDV A1 m c1 L) (LDV A2 m c2 L) LZV LZV (LDV B1 x d1 X) (LDV B2 x d2 X) → Rs wx (some T) 10 Tk.vals B1 X.tks → Rs wx (some T) 10 Tk.vals B2 X.tks → TapeAt wx T A n c l a' → Fr w wx (fun i => i = T) → a' ≤ a + 12 → x ≤ 129 → K' ⟨List.toArray (.pointer (some ⟨T, 0, none⟩) :: .agg #[.slice A1 m c1, .int .i64 L.r0, .int .i64 L.r1, .int .i64 L.r2, .int .i64 L.r3, .int .i64 L.r4, .int .i64 L.r5] :: .agg #[.slice A2 m c2, .int .i64 L.r0, .int .i64 L.r1, .int .i64 L.r2, .int .i64 L.r3, .int .i64 L.r4, .int .i64 L.r5] :: z3 :: .pointer (some ⟨w.heap.size, 0, none⟩) :: .pointer (some ⟨w.heap.size + 1, 0, none⟩) :: .pointer (some ⟨w.heap.size + 1 + 1, 0, none⟩) :: .pointer (some ⟨w.heap.size + 1 + 1 + 1, 0, none⟩) :: .bool false :: .pointer (some ⟨w.heap.size + 1 + 1 + 1 + 1, 0, none⟩) :: .pointer (some ⟨w.heap.size + 1 + 1 + 1 + 1 + 1, 0, none⟩) :: .int .i64 er :: .int .i64 er :: .int .i64 va :: .int .i64 va :: .bool true :: .int .i64 k :: z17 :: z18 :: z19 :: z20 :: z21 :: z22 :: z23 :: z24 :: z25 :: z26 :: z27 :: z28 :: z29 :: z30 :: z31 :: z32 :: z33 :: z34 :: z35 :: z36 :: z37 :: z38 :: z39 :: z40 :: z41 :: z42 :: z43 :: z44 :: z45 :: z46 :: z47 :: z48 :: z49 :: z50 :: z51 :: z52 :: z53 :: z54 :: z55 :: z56 :: z57 :: z58 :: z59 :: z60 :: z61 :: z62 :: z63 :: z64 :: z65 :: z66 :: z67 :: z68 :: z69 :: z70 :: z71 :: z72 :: z73 :: z74 :: z75 :: z76 :: z77 :: z78 :: z79 :: z80 :: z81 :: z82 :: z83 :: z84 :: z85 :: z86 :: z87 :: z88 :: z89 :: z90 :: z91 :: z92 :: z93 :: z94 :: z95 :: z96 :: z97 :: z98 :: z99 :: z100 :: z101 :: z102 :: z103 :: z104 :: z105 :: z106 :: z107 :: z108 :: z109 :: z110 :: z111 :: z112 :: z113 :: z114 :: z115 :: z116 :: z117 :: z118 :: z119 :: z120 :: z121 :: z122 :: z123 :: z124 :: z125 :: z126 :: z127 :: z128 :: z129 :: z130 :: z131 :: z132 :: z133 :: z134 :: z135 :: z136 :: z137 :: z138 :: z139 :: z140 :: z141 :: z142 :: z143 :: z144 :: z145 :: z146 :: z147 :: z148 :: z149 :: z150 :: z151 :: z152 :: z153 :: z154 :: z155 :: z156 :: z157 :: z158 :: z159 :: z160 :: z161 :: z162 :: z163 :: z164 :: z165 :: z166 :: z167 :: z168 :: z169 :: z170 :: z171 :: z172 :: z173 :: z174 :: z175 :: z176 :: z177 :: z178 :: z179 :: z180 :: z181 :: z182 :: z183 :: z184 :: z185 :: z186 :: z187 :: z188 :: z189 :: z190 :: z191 :: z192 :: z193 :: z194 :: z195 :: z196 :: z197 :: z198 :: z199 :: z200 :: z201 :: z202 :: z203 :: z204 :: z205 :: z206 :: z207 :: z208 :: z209 :: z210 :: z211 :: z212 :: z213 :: z214 :: z215 :: z216 :: z217 :: z218 :: z219 :: z220 :: z221 :: z222 :: z223 :: z224 :: z225 :: z226 :: z227 :: z228 :: z229 :: z230 :: z231 :: z232 :: z233 :: z234 :: z235 :: z236 :: z237 :: z238 :: z239 :: z240 :: z241 :: z242 :: z243 :: z244 :: z245 :: z246 :: z247 :: z248 :: z249 :: z250 :: z251 :: []), []⟩ wx)) :
    Code.wp Try.prog swCode (Exit.then K' Q') ⟨List.toArray (.pointer (some ⟨T, 0, none⟩) :: .agg #[.slice A1 m c1, .int .i64 L.r0, .int .i64 L.r1, .int .i64 L.r2, .int .i64 L.r3, .int .i64 L.r4, .int .i64 L.r5] :: .agg #[.slice A2 m c2, .int .i64 L.r0, .int .i64 L.r1, .int .i64 L.r2, .int .i64 L.r3, .int .i64 L.r4, .int .i64 L.r5] :: u3 :: .pointer (some ⟨w.heap.size, 0, none⟩) :: .pointer (some ⟨w.heap.size + 1, 0, none⟩) :: .pointer (some ⟨w.heap.size + 1 + 1, 0, none⟩) :: .pointer (some ⟨w.heap.size + 1 + 1 + 1, 0, none⟩) :: .bool false :: .pointer (some ⟨w.heap.size + 1 + 1 + 1 + 1, 0, none⟩) :: .pointer (some ⟨w.heap.size + 1 + 1 + 1 + 1 + 1, 0, none⟩) :: .int .i64 0 :: .int .i64 0 :: .int .i64 0 :: .int .i64 0 :: .bool true :: .int .i64 k :: u17 :: u18 :: u19 :: u20 :: u21 :: u22 :: u23 :: u24 :: u25 :: u26 :: u27 :: u28 :: u29 :: u30 :: u31 :: u32 :: u33 :: u34 :: u35 :: u36 :: .int .i64 v :: u38 :: u39 :: u40 :: u41 :: u42 :: u43 :: u44 :: u45 :: u46 :: u47 :: u48 :: u49 :: u50 :: u51 :: u52 :: u53 :: u54 :: u55 :: u56 :: u57 :: u58 :: u59 :: u60 :: u61 :: u62 :: u63 :: u64 :: u65 :: u66 :: u67 :: u68 :: u69 :: u70 :: u71 :: u72 :: u73 :: u74 :: u75 :: u76 :: u77 :: u78 :: u79 :: u80 :: u81 :: u82 :: u83 :: u84 :: u85 :: u86 :: u87 :: u88 :: u89 :: u90 :: u91 :: u92 :: u93 :: u94 :: u95 :: u96 :: u97 :: u98 :: u99 :: u100 :: u101 :: u102 :: u103 :: u104 :: u105 :: u106 :: u107 :: u108 :: u109 :: u110 :: u111 :: u112 :: u113 :: u114 :: u115 :: u116 :: u117 :: u118 :: u119 :: u120 :: u121 :: u122 :: u123 :: u124 :: u125 :: u126 :: u127 :: u128 :: u129 :: u130 :: u131 :: u132 :: u133 :: u134 :: u135 :: u136 :: u137 :: u138 :: u139 :: u140 :: u141 :: u142 :: u143 :: u144 :: u145 :: u146 :: u147 :: u148 :: u149 :: u150 :: u151 :: u152 :: u153 :: u154 :: u155 :: u156 :: u157 :: u158 :: u159 :: u160 :: u161 :: u162 :: u163 :: u164 :: u165 :: u166 :: u167 :: u168 :: u169 :: u170 :: u171 :: u172 :: u173 :: u174 :: u175 :: u176 :: u177 :: u178 :: u179 :: u180 :: u181 :: u182 :: u183 :: u184 :: u185 :: u186 :: u187 :: u188 :: u189 :: u190 :: u191 :: u192 :: u193 :: u194 :: u195 :: u196 :: u197 :: u198 :: u199 :: u200 :: u201 :: u202 :: u203 :: u204 :: u205 :: u206 :: u207 :: u208 :: u209 :: u210 :: u211 :: u212 :: u213 :: u214 :: u215 :: u216 :: u217 :: u218 :: u219 :: u220 :: u221 :: u222 :: u223 :: u224 :: u225 :: u226 :: u227 :: u228 :: u229 :: u230 :: u231 :: u232 :: u233 :: u234 :: u235 :: u236 :: u237 :: u238 :: u239 :: u240 :: u241 :: u242 :: u243 :: u244 :: u245 :: u246 :: u247 :: u248 :: u249 :: u250 :: u251 :: []), []⟩ w3 := by
  conv => arg 2; whnf
  subst hgr
  go_wp2_with fail
  refine (pick_any _ T A n c l (a + 2 + 1) _ 5 5 [4, 5, 4, 5, 1] (HT3.out.alloc _) (by omega) (rs_new (Nat.lt_of_lt_of_le hTl HF3.out.size) [4, 5, 4, 5, 1] 3) rfl (by decide) (by decide)).mono ?_
  rintro e w4 ⟨⟨o, ho, rfl⟩, ht4, hf4⟩
  have HS4 := hide ((HS3.out.fr ((Fr.refl _ (fun _ => False)).alloc _) (fun _ _ _ h => h)).fr hf4 (fun i h1 h2 h3 => by omega))
  have HF4 := hide ((HF3.out.alloc _).trans hf4)
  have HT4 := hide ht4
  clear ht4 hf4
  obtain ⟨⟨-, p, gp, -⟩, -, -, -, -, -⟩ := HS4.out
  simp only [LDV, LZV] at p
  obtain ⟨p0, p1, p2, p3, p4, p5, p6⟩ := p
  go_wp2_with fail
  refine (fail_any _ (some T) A1 c1 m L (HR1.out.tape HF4.out) HL.out (by omega) k o (fun x hx => Nat.lt_of_lt_of_le (HOV.out x hx) HF4.out.size)).mono ?_
  rintro e wa ⟨B1, d1, rfl, hra, hba⟩
  have HSa := hide (HS4.out.fr (Fr.of_below (fun _ => False) hba) (fun _ _ _ h => h))
  have HTa := hide (HT4.out.below hba)
  have HFa := hide (HF4.out.below_ hba)
  have HBa := hide hba
  have HRa := hide hra
  clear p0 p1 p2 p3 p4 p5 p6 gp
  clear hba hra
  obtain ⟨X, hX⟩ : ∃ X, X = (L.fail k o) := ⟨_, rfl⟩
  rw [← hX] at HRa ⊢
  have HXX := hide hX
  clear hX
  obtain ⟨-, -, -, -, ⟨-, t, gt, -⟩, -⟩ := HSa.out
  simp only [LDV, LZV] at t
  obtain ⟨t0, t1, t2, t3, t4, t5, t6⟩ := t
  go_upto_region 44 with (fail)
  generalize hW : World.setCell (World.setCell (World.setCell (World.setCell (World.setCell (World.setCell (World.setCell wa _ _) _ _) _ _) _ _) _ _) _ _) _ _ = wb
  obtain ⟨hs, hr, ht, hf⟩ : S6 wb w.heap.size (LDV A1 m c1 L) (LDV A2 m c2 L) LZV LZV (LDV B1 X.1.tks.length d1 X.1) LZV ∧ Rs wb (some T) 10 Tk.vals B1 X.1.tks ∧ TapeAt wb T A n c l (a + 2 + 1 + 1) ∧ Fr wa wb (fun i => i = w.heap.size + 4) := by
    rw [← hW]
    have hh := put4_all (LDV B1 X.1.tks.length d1 X.1) HSa.out HRa.out HTa.out hTl HOA.out
    simp only [put7, Nat.add_assoc, Nat.reduceAdd] at hh ⊢
    exact hh
  have HSb := hide hs
  have HTb := hide ht
  have HFb := hide (HFa.out.step hf (fun i hi h => by omega))
  have HFab := hide hf
  have HRb := hide hr
  clear t0 t1 t2 t3 t4 t5 t6 gt
  clear hW hs ht hf hr
  obtain ⟨-, ⟨-, q, gq, -⟩, -, -, -, -⟩ := HSb.out
  simp only [LDV, LZV] at q
  obtain ⟨q0, q1, q2, q3, q4, q5, q6⟩ := q
  go_wp2_with fail
  refine (rfail_any _ (some T) A2 c2 m L (HR2.out.tape HFb.out) HL.out (by omega) k o (fun x hx => Nat.lt_of_lt_of_le (HOV.out x hx) HFb.out.size)).mono ?_
  rintro e wc ⟨B2, d2, rfl, hrc, hbc⟩
  have HSc := hide (HSb.out.fr (Fr.of_below (fun _ => False) hbc) (fun _ _ _ h => h))
  have HTc := hide (HTb.out.below hbc)
  have HFc := hide (HFb.out.below_ hbc)
  have HRc := hide (HRb.out.below hbc)
  have HRd := hide hrc
  clear q0 q1 q2 q3 q4 q5 q6 gq
  clear hbc hrc
  rw [← HXX.out] at HRd ⊢
  obtain ⟨-, -, -, -, -, ⟨-, u, gu, -⟩⟩ := HSc.out
  simp only [LDV, LZV] at u
  obtain ⟨u0, u1, u2, u3, u4, u5, u6⟩ := u
  go_wp2_with fail
  generalize hW : World.setCell (World.setCell (World.setCell (World.setCell (World.setCell (World.setCell (World.setCell wc _ _) _ _) _ _) _ _) _ _) _ _) _ _ = wd
  obtain ⟨hs, hr, hr2, ht, hf⟩ : S6 wd w.heap.size (LDV A1 m c1 L) (LDV A2 m c2 L) LZV LZV (LDV B1 X.1.tks.length d1 X.1) (LDV B2 X.1.tks.length d2 X.1) ∧ Rs wd (some T) 10 Tk.vals B1 X.1.tks ∧ Rs wd (some T) 10 Tk.vals B2 X.1.tks ∧ TapeAt wd T A n c l (a + 2 + 1 + 1) ∧ Fr wc wd (fun i => i = w.heap.size + 5) := by
    rw [← hW]
    have hh := put5_all (LDV B2 X.1.tks.length d2 X.1) HSc.out HRc.out HRd.out HTc.out hTl HOA.out
    simp only [put7, Nat.add_assoc, Nat.reduceAdd] at hh ⊢
    exact hh
  clear hW
  have HE := hide (show X.2 = 0 → StepR L X.1 from by
    intro h
    have hX := HXX.out
    rw [hX] at h ⊢
    exact .inr (.inr (.inr (.inr (.inl ⟨k, o, h, rfl⟩)))))
  have hlen : X.1.tks.length ≤ 129 := by
    have := HXX.out
    have h2 := HL.out
    rw [this]
    have := fail_len L
    exact Nat.le_trans (this _ _) (by omega)
  exact HM.out X.1 (X.2) (0) B1 B2 d1 d2 X.1.tks.length (a + 2 + 1 + 1) wd _ _ _ _ _ _ _ _ _ _ _ _ _ _ _ _ _ _ _ _ _ _ _ _ _ _ _ _ _ _ _ _ _ _ _ _ _ _ _ _ _ _ _ _ _ _ _ _ _ _ _ _ _ _ _ _ _ _ _ _ _ _ _ _ _ _ _ _ _ _ _ _ _ _ _ _ _ _ _ _ _ _ _ _ _ _ _ _ _ _ _ _ _ _ _ _ _ _ _ _ _ _ _ _ _ _ _ _ _ _ _ _ _ _ _ _ _ _ _ _ _ _ _ _ _ _ _ _ _ _ _ _ _ _ _ _ _ _ _ _ _ _ _ _ _ _ _ _ _ _ _ _ _ _ _ _ _ _ _ _ _ _ _ _ _ _ _ _ _ _ _ _ _ _ _ _ _ _ _ _ _ _ _ _ _ _ _ _ _ _ _ _ _ _ _ _ _ _ _ _ _ _ _ _ _ _ _ _ _ _ _ _ _ _ _ _ _ _ _ _ _ _ _ _ _ _ _ _ _ _ _ _ _ _ _ _ HE.out rfl hs hr hr2 ht (HFc.out.step hf (fun i hi h => by omega)) (by omega) hlen

end Go.Proofs.Ytjhkgoengoiljaa
