/- The walk of the law on a ticket that is begun again after each loss. -/
import Derived.Test.YtjhkgoengoiljaaG25
import Derived.Test.YtjhkgoengoiljaaG22
import Derived.Test.YtjhkgoengoiljaaG13
import Derived.Test.YtjhkgoengoiljaaG23
import Derived.Test.YtjhkgoengoiljaaG8
import Derived.Test.YtjhkgoengoiljaaG7
set_option linter.unusedVariables false
set_option linter.unusedSimpArgs false

/- A report that comes again; a ticket that is begun again after each loss: plain data alone. -/
namespace Go.Proofs.Ytjhkgoengoiljaa

theorem reach_sum {j : Nat} {X : Ld} (h : Reach j X) : X.sum ≤ j ∧ X.tks.length ≤ j := by
  induction h with
  | zero => exact ⟨by simp [Ld.nil, Ld.sum], Nat.le_refl _⟩
  | step hr hs ih =>
    rename_i n L X
    have h1 := step_mono hr.ok hs
    refine ⟨by have := h1.2.2.2; omega, ?_⟩
    rcases hs with rfl | ⟨t, rev, _, h, rfl⟩ | ⟨k, r, e, h, rfl⟩ | ⟨p, h, rfl⟩ | ⟨k, o, h, rfl⟩ | ⟨r, e, _, rfl⟩ | ⟨k, h, rfl⟩
    · omega
    · have := plan_len L t rev; omega
    · have := begin_len L k r e; omega
    · have := take_len L p; omega
    · have := fail_len L k o; omega
    · have := lose_len L r e; omega
    · have := cancel_len L k; omega
theorem rep_le_sum {L : Ld} (h : L.ok = true) (k : Int) : L.rep k ≤ L.sum := by
  have := (reps_iff L).1 ((ok_iff L).1 h).2.1
  unfold Ld.rep Ld.sum
  repeat' split
  all_goals omega

/-- The ticket of the law: planned, begun, done. -/
def tt (t : Tk) (st att run ep out : Int) : Tk := { t with rev := 3, st := st, att := att, run := run, ep := ep, out := out }
def tl (X : Ld) (t : Tk) (st att run ep out : Int) : Ld := { X with tks := X.tks ++ [tt t st att run ep out] }
theorem tl_len (X : Ld) (t : Tk) (st att run ep out : Int) : (tl X t st att run ep out).tks.length = X.tks.length + 1 := by simp [tl]
theorem tl_get (X : Ld) (t : Tk) (st att run ep out : Int) : (tl X t st att run ep out).get? (X.tks.length : Nat) = some (tt t st att run ep out) := by
  have : (X.tks.length : Int) < (X.tks.length : Int) + 1 := by omega
  simp [tl, Ld.get?, this]
theorem tl_put (X : Ld) (t u : Tk) (st att run ep out : Int) : (tl X t st att run ep out).put (X.tks.length : Nat) u = { X with tks := X.tks ++ [u] } := by
  simp [tl, Ld.put]

theorem tw_plan {X : Ld} {t : Tk} (hok : X.ok = true) (ht : taskOk t = true) (hl : X.tks.length < 128) : X.plan t 3 = (tl X t 0 0 0 0 0, (X.tks.length : Int), 0) := by
  have h2 : revB 3 = true := by decide
  unfold Ld.plan
  rw [if_neg (by simp [hok, ht]), if_neg (by simp [h2]), if_neg (by omega)]
  rfl
theorem tw_ok1 {X : Ld} {t : Tk} (hok : X.ok = true) (ht : taskOk t = true) (hl : X.tks.length < 128) : (tl X t 0 0 0 0 0).ok = true := by
  have := plan_ok' (L := X) (t := t) (rev := 3) hok (by rw [tw_plan hok ht hl])
  rwa [tw_plan hok ht hl] at this
theorem tw_begin {X : Ld} {t : Tk} (hok : X.ok = true) (ht : taskOk t = true) (hl : X.tks.length < 128) : (tl X t 0 0 0 0 0).begin (X.tks.length : Nat) 4 7 = (tl X t 1 1 4 7 0, 1, 0) := by
  unfold Ld.begin
  rw [if_neg (by simp [tw_ok1 hok ht hl]), tl_get]
  simp only [tl_put]
  rfl
theorem tw_ok2 {X : Ld} {t : Tk} (hok : X.ok = true) (ht : taskOk t = true) (hl : X.tks.length < 128) : (tl X t 1 1 4 7 0).ok = true := by
  have := begin_ok' (k := (X.tks.length : Nat)) (r := 4) (e := 7) (tw_ok1 hok ht hl) (by rw [tw_begin hok ht hl])
  rwa [tw_begin hok ht hl] at this
theorem rp_ok {m : Nat} {e o : Int} (hm : m < 128) (he : 1 ≤ e ∧ e ≤ 7) (ho : 1 ≤ o ∧ o ≤ 3) : reportOk ⟨m, 1, 4, e, o⟩ = true := by
  simp [reportOk, ranB, repB]
  omega
theorem tw_take {X : Ld} {t : Tk} {o : Int} (hok : X.ok = true) (ht : taskOk t = true) (hl : X.tks.length < 128) (hs : X.sum ≤ 1000) (ho : 1 ≤ o ∧ o ≤ 3) :
    (tl X t 1 1 4 7 0).take ⟨(X.tks.length : Nat), 1, 4, 7, o⟩ = ({ tl X t 2 1 4 7 o with r1 := X.r1 + 1 }, 1, 0) := by
  have hk : (tl X t 1 1 4 7 0).kind ⟨(X.tks.length : Nat), 1, 4, 7, o⟩ = 1 := by
    unfold Ld.kind
    rw [tl_get]
    simp [kindOf, tt, sameB]
  have hr : (tl X t 1 1 4 7 0).rep 1 ≤ X.sum := rep_le_sum (tw_ok2 hok ht hl) 1
  unfold Ld.take
  rw [hk, if_neg (by simp [tw_ok2 hok ht hl, rp_ok hl (show 1 ≤ (7 : Int) ∧ (7 : Int) ≤ 7 by omega) ho]), if_neg (by omega), if_pos rfl]
  have : (X.tks.length : Int) < (X.tks.length : Int) + 1 := by omega
  simp [Ld.accept, Ld.count, Ld.get?, Ld.put, tl, tt, this]
theorem tw_ok3 {X : Ld} {t : Tk} {o : Int} (hok : X.ok = true) (ht : taskOk t = true) (hl : X.tks.length < 128) (hs : X.sum ≤ 1000) (ho : 1 ≤ o ∧ o ≤ 3) :
    ({ tl X t 2 1 4 7 o with r1 := X.r1 + 1 } : Ld).ok = true := by
  have := take_ok' (p := ⟨(X.tks.length : Nat), 1, 4, 7, o⟩) (tw_ok2 hok ht hl) (by rw [tw_take hok ht hl hs ho])
  rwa [tw_take hok ht hl hs ho] at this
theorem tw_again {X Y : Ld} {t : Tk} {o e o' : Int} (hok : Y.ok = true) (hY : Y.tks = X.tks ++ [tt t 2 1 4 7 o]) (hl : X.tks.length < 128) (hs : Y.sum ≤ 1000) (ho : 1 ≤ o ∧ o ≤ 3) (he : 1 ≤ e ∧ e ≤ 7) (ho' : 1 ≤ o' ∧ o' ≤ 3) :
    Y.take ⟨(X.tks.length : Nat), 1, 4, e, o'⟩ = (Y.count (if e ≠ 7 then 3 else if o' = o then 2 else 5), (if e ≠ 7 then 3 else if o' = o then 2 else 5), 0) := by
  have hk : Y.kind ⟨(X.tks.length : Nat), 1, 4, e, o'⟩ = (if e ≠ 7 then 3 else if o' = o then 2 else 5) := by
    unfold Ld.kind
    have : Y.get? (X.tks.length : Nat) = some (tt t 2 1 4 7 o) := by
      have : (X.tks.length : Int) < (X.tks.length : Int) + 1 := by omega
      simp [Ld.get?, hY, this]
    rw [this]
    have hrep : repB o = true := by simp [repB]; omega
    by_cases h7 : e = 7
    · subst h7
      by_cases hoo : o' = o
      · subst hoo; simp [kindOf, tt, sameB]
      · have : ¬ o = o' := fun h => hoo h.symm
        simp [kindOf, tt, sameB, hoo, this, hrep]
    · have : ¬ (7 : Int) = e := fun h => h7 h.symm
      simp [kindOf, tt, sameB, h7, this]
  have hk1 : (if e ≠ 7 then 3 else if o' = o then 2 else 5 : Int) ≠ 1 := by repeat' split <;> omega
  have hr := rep_le_sum hok (if e ≠ 7 then 3 else if o' = o then 2 else 5)
  unfold Ld.take
  rw [hk, if_neg (by simp [hok, rp_ok hl he ho']), if_neg (by omega), if_neg hk1]
theorem tw_sum1 {X : Ld} {t : Tk} {o : Int} : ({ tl X t 2 1 4 7 o with r1 := X.r1 + 1 } : Ld).sum = X.sum + 1 := by simp [tl, Ld.sum]; omega

/-- The law's one ticket, begun and lost: c stale reports so far. -/
theorem en_begin {t : Tk} {i run ep c : Int} (hok : (kl t 0 i 0 0 0 0 0 c 0).ok = true) (hr : 0 ≤ run ∧ run < 8) (he : 1 ≤ ep ∧ ep ≤ 9) :
    (kl t 0 i 0 0 0 0 0 c 0).begin 0 run ep = (kl t 1 (i + 1) run ep 0 0 0 c 0, i + 1, 0) := by
  have h1 : ranB 1 run ep = true := by simp [ranB]; omega
  unfold Ld.begin
  rw [if_neg (by simp [hok])]
  simp [Ld.get?, kl, kt, h1, Ld.put]
theorem en_begin_ok {t : Tk} {i run ep c : Int} (hok : (kl t 0 i 0 0 0 0 0 c 0).ok = true) (hr : 0 ≤ run ∧ run < 8) (he : 1 ≤ ep ∧ ep ≤ 9) : (kl t 1 (i + 1) run ep 0 0 0 c 0).ok = true := by
  have := begin_ok' (k := 0) (r := run) (e := ep) hok (by rw [en_begin hok hr he])
  rwa [en_begin hok hr he] at this
theorem en_take {t : Tk} {st i run ep out c : Int} {p : Rp} (hok : (kl t st i run ep out 0 0 c 0).ok = true) (hp : reportOk p = true) (h0 : p.tick = 0) (hk : p.att ≠ i ∨ (st = 2 ∧ out ≠ p.out ∧ repB out = false)) (hc : c ≤ 1000) :
    (kl t st i run ep out 0 0 c 0).take p = (kl t st i run ep out 0 0 (c + 1) 0, 3, 0) := by
  have hkd : (kl t st i run ep out 0 0 c 0).kind p = 3 := by
    unfold Ld.kind
    have : (kl t st i run ep out 0 0 c 0).get? p.tick = some (kt t st i run ep out) := by simp [Ld.get?, kl, h0]
    rw [this]
    rcases hk with hk | ⟨rfl, h2, h3⟩
    · have : ¬ i = p.att := fun h => hk h.symm
      simp [kindOf, kt, sameB, this]
    · simp [kindOf, kt, h2, h3]
  unfold Ld.take
  rw [hkd, if_neg (by simp [hok, hp]), if_neg (by simp [Ld.rep, kl]; omega), if_neg (by omega)]
  simp [Ld.count, kl]
theorem en_take_ok {t : Tk} {st i run ep out c : Int} {p : Rp} (hok : (kl t st i run ep out 0 0 c 0).ok = true) (hp : reportOk p = true) (h0 : p.tick = 0) (hk : p.att ≠ i ∨ (st = 2 ∧ out ≠ p.out ∧ repB out = false)) (hc : c ≤ 1000) :
    (kl t st i run ep out 0 0 (c + 1) 0).ok = true := by
  have := take_ok' (p := p) hok (by rw [en_take hok hp h0 hk hc])
  rwa [en_take hok hp h0 hk hc] at this
theorem en_fail {t : Tk} {i run ep c o : Int} (hok : (kl t 1 i run ep 0 0 0 c 0).ok = true) (ho : o = 4 ∨ o = 5) :
    (kl t 1 i run ep 0 0 0 c 0).fail 0 o = (if i = 4 then kl t 2 i run ep o 0 0 c 0 else kl t 0 i 0 0 0 0 0 c 0, 0) := by
  unfold Ld.fail
  rw [if_neg (by simp [hok])]
  have : ¬ (o ≠ 4 ∧ o ≠ 5) := by omega
  simp only [Ld.get?, kl, List.length_cons, List.length_nil]
  by_cases h4 : i = 4
  · simp [kt, h4, this, Ld.put, Tk.failed]
  · simp [kt, h4, this, Ld.put, Tk.failed]
theorem en_lose {t : Tk} {i run ep c : Int} (hok : (kl t 1 i run ep 0 0 0 c 0).ok = true) :
    (kl t 1 i run ep 0 0 0 c 0).lose run ep = (if i = 4 then kl t 2 i run ep 5 0 0 c 0 else kl t 0 i 0 0 0 0 0 c 0, [0], 0) := by
  unfold Ld.lose
  rw [if_neg (by simp [hok])]
  by_cases h4 : i = 4
  · simp [kl, kt, h4, Tk.failed, loseTk, isOn, idxs]
  · simp [kl, kt, h4, Tk.failed, loseTk, isOn, idxs]
theorem en_fail_ok {t : Tk} {i run ep c o : Int} (hok : (kl t 1 i run ep 0 0 0 c 0).ok = true) (ho : o = 4 ∨ o = 5) :
    (if i = 4 then kl t 2 i run ep o 0 0 c 0 else kl t 0 i 0 0 0 0 0 c 0).ok = true := by
  have := fail_ok' (k := 0) (o := o) hok (by rw [en_fail hok ho])
  rwa [en_fail hok ho] at this
theorem en_last {t : Tk} {i run ep out c : Int} (hok : (kl t 2 i run ep out 0 0 c 0).ok = true) : (kl t 2 i run ep out 0 0 c 0).begin 0 0 1 = (.nil, 0, 45) := by
  have h1 : ranB 1 0 1 = true := by decide
  unfold Ld.begin
  rw [if_neg (by simp [hok])]
  simp [Ld.get?, kl, kt, h1]

end Go.Proofs.Ytjhkgoengoiljaa

/- Contract: Take of a stale report; the tickets come in a row of their own. -/
namespace Go.Proofs.Ytjhkgoengoiljaa
open Go.RowKit

set_option maxRecDepth 100000 in
set_option maxHeartbeats 2000000 in
theorem take_ok3g (w : World) (av : Option Nat) (A : Option Addr) (c n : Nat) (L : Ld) (hR : Rs w av 10 Tk.vals A L.tks) (hn : L.tks.length = n) (hc63 : n ≤ 4294967296) (p : Rp) (hp : reportOk p = true) (hok : L.ok = true) (hk : L.kind p = 3) (hr : L.r3 ≠ 1073741824) (hav : ∀ x, av = some x → x < w.heap.size) :
    Calls Try.prog 18 #[.agg #[.slice A n c, .int .i64 L.r0, .int .i64 L.r1, .int .i64 L.r2, .int .i64 L.r3, .int .i64 L.r4, .int .i64 L.r5], .agg #[.int .i64 p.tick, .int .i64 p.att, .int .i64 p.run, .int .i64 p.ep, .int .i64 p.out]] w fun e w' => ∃ g c', e = .returned (.tuple #[.agg #[.slice (some ⟨g, 0, none⟩) n c', .int .i64 ({ L with r3 := L.r3 + 1 } : Ld).r0, .int .i64 ({ L with r3 := L.r3 + 1 } : Ld).r1, .int .i64 ({ L with r3 := L.r3 + 1 } : Ld).r2, .int .i64 ({ L with r3 := L.r3 + 1 } : Ld).r3, .int .i64 ({ L with r3 := L.r3 + 1 } : Ld).r4, .int .i64 ({ L with r3 := L.r3 + 1 } : Ld).r5], .int .i64 3, .int .i64 0]) ∧ Rs w' av 10 Tk.vals (some ⟨g, 0, none⟩) L.tks ∧ Below w.heap.size w w' := by
  have h128 : n ≤ 128 := hn ▸ ok_len' hok
  obtain ⟨⟨a1, b1⟩, ⟨a2, b2⟩, ⟨a3, b3⟩, ⟨a4, b4⟩, ⟨a5, b5⟩⟩ := ok_reps hok
  have hq : (L.r3 == 1073741824) = false := by simp [hr]
  have hN := hide hn; clear hn
  have HP := hide hp; clear hp
  have HK := hide hok; clear hok
  have HKI := hide hk; clear hk
  have HV := hide hav; clear hav
  clear hr
  go_enter Try.func18, Try.ntmps18
  go_wp2_with (first
    | (go_at_call 45; refine (send_ok _ p HP.out).mono ?_; rintro e w1 ⟨⟨A1, c1, rfl⟩, hb1⟩; obtain ⟨hc1, hf1, hz1⟩ := gcell (grown_of_below hb1 none) (w.heap.size + 3) (by first | (simp; done) | (simp; omega)); have : w.heap.size < w1.heap.size := (by omega); have : w.heap.size + 1 < w1.heap.size := (by omega); have : w.heap.size + 2 < w1.heap.size := (by omega))
    | (go_at_call 11; refine (check_any A c n L _ av (((((hR.alloc _).alloc _).alloc _).below hb1).alloc _) hN.out hc63).mono ?_; rintro e w2 ⟨rfl, hb2⟩; rw [HK.out]; obtain ⟨hc2, hf2, hz2⟩ := gcell (grown_of_below hb2 none) (w1.heap.size + 1) (by simp); have : w.heap.size < w2.heap.size := (by omega); have : w.heap.size + 1 < w2.heap.size := (by omega); have : w.heap.size + 2 < w2.heap.size := (by omega); have : w.heap.size < w1.heap.size + 1 := (by omega); have : w.heap.size + 1 < w1.heap.size + 1 := (by omega); have : w.heap.size + 2 < w1.heap.size + 1 := (by omega))
    | (go_at_call 46; refine (kind_any A n c L p _ av ((((((hR.alloc _).alloc _).alloc _).below hb1).alloc _).below hb2) hN.out hc63).mono ?_; rintro e w3 ⟨rfl, hb3⟩; rw [HKI.out]; obtain ⟨hc3, hf3, hz3⟩ := gcell (grown_of_below hb3 none) w2.heap.size (by simp); have : w.heap.size < w3.heap.size := (by omega); have : w.heap.size + 1 < w3.heap.size := (by omega); have : w.heap.size + 2 < w3.heap.size := (by omega)))
  (go_at_call 41; refine (copied_any A c n L _ av (((((((hR.alloc _).alloc _).alloc _).below hb1).alloc _).below hb2).below hb3) hN.out h128).mono ?_; rintro e w4 ⟨g, rfl, hown4, hb4⟩; obtain ⟨hc4, hf4, hz4⟩ := gcell (grown_of_below hb4 none) w3.heap.size (by simp); have : w.heap.size < w4.heap.size := (by omega); have : w.heap.size + 1 < w4.heap.size := (by omega); have : w.heap.size + 2 < w4.heap.size := (by omega); have : w4.cell? ⟨w.heap.size, 0, none⟩ = some (.slice A n c) := (by go_simp); have : w4.cell? ⟨w.heap.size, 1, none⟩ = some (.int .i64 L.r0) := (by go_simp); have : w4.cell? ⟨w.heap.size, 2, none⟩ = some (.int .i64 L.r1) := (by go_simp); have : w4.cell? ⟨w.heap.size, 3, none⟩ = some (.int .i64 L.r2) := (by go_simp); have : w4.cell? ⟨w.heap.size, 4, none⟩ = some (.int .i64 L.r3) := (by go_simp); have : w4.cell? ⟨w.heap.size, 5, none⟩ = some (.int .i64 L.r4) := (by go_simp); have : w4.cell? ⟨w.heap.size, 6, none⟩ = some (.int .i64 L.r5) := (by go_simp); have : w4.cell? ⟨w.heap.size + 2, 0, none⟩ = some (.slice none 0 0) := (by go_simp); have : w4.cell? ⟨w.heap.size + 2, 1, none⟩ = some (.int .i64 0) := (by go_simp); have : w4.cell? ⟨w.heap.size + 2, 2, none⟩ = some (.int .i64 0) := (by go_simp); have : w4.cell? ⟨w.heap.size + 2, 3, none⟩ = some (.int .i64 0) := (by go_simp); have : w4.cell? ⟨w.heap.size + 2, 4, none⟩ = some (.int .i64 0) := (by go_simp); have : w4.cell? ⟨w.heap.size + 2, 5, none⟩ = some (.int .i64 0) := (by go_simp); have : w4.cell? ⟨w.heap.size + 2, 6, none⟩ = some (.int .i64 0) := (by go_simp); have : w4.cell? ⟨w.heap.size + 1, 0, none⟩ = some (.int .i64 p.tick) := (by go_simp); have : w4.cell? ⟨w.heap.size + 1, 1, none⟩ = some (.int .i64 p.att) := (by go_simp); have : w4.cell? ⟨w.heap.size + 1, 2, none⟩ = some (.int .i64 p.run) := (by go_simp); have : w4.cell? ⟨w.heap.size + 1, 3, none⟩ = some (.int .i64 p.ep) := (by go_simp); have : w4.cell? ⟨w.heap.size + 1, 4, none⟩ = some (.int .i64 p.out) := (by go_simp); have : ∀ j, w4.frozen? ⟨w.heap.size, j, none⟩ = false := (by intro j; go_simp); have : ∀ j, w4.frozen? ⟨w.heap.size + 2, j, none⟩ = false := (by intro j; go_simp); have HO := hide hown4; have HB1 := hide hb1; have HB2 := hide hb2; have HB3 := hide hb3; have HB4 := hide hb4; clear hc1 hf1 hc2 hf2 hc3 hf3 hc4 hf4 hown4 hb1 hb2 hb3 hb4)
  go_upto_region 9 with (fail)
  generalize hW : World.setCell (World.setCell (World.setCell (World.setCell (World.setCell (World.setCell (World.setCell (World.setCell w4 _ _) _ _) _ _) _ _) _ _) _ _) _ _) _ _ = w5
  have p0 : w5.cell? ⟨w.heap.size, 0, none⟩ = some (.slice (some ⟨g, 0, none⟩) n (n + 1)) := (by rw [← hW]; clear hW; go_simp); have p1 : w5.cell? ⟨w.heap.size, 1, none⟩ = some (.int .i64 (L.r0)) := (by rw [← hW]; clear hW; go_simp); have p2 : w5.cell? ⟨w.heap.size, 2, none⟩ = some (.int .i64 (L.r1)) := (by rw [← hW]; clear hW; go_simp); have p3 : w5.cell? ⟨w.heap.size, 3, none⟩ = some (.int .i64 (L.r2)) := (by rw [← hW]; clear hW; go_simp); have p4 : w5.cell? ⟨w.heap.size, 4, none⟩ = some (.int .i64 (L.r3 + 1)) := (by rw [← hW]; clear hW; go_simp); have p5 : w5.cell? ⟨w.heap.size, 5, none⟩ = some (.int .i64 (L.r4)) := (by rw [← hW]; clear hW; go_simp); have p6 : w5.cell? ⟨w.heap.size, 6, none⟩ = some (.int .i64 (L.r5)) := (by rw [← hW]; clear hW; go_simp)
  have q0 : w5.cell? ⟨w.heap.size + 2, 0, none⟩ = some (.slice none 0 0) := (by rw [← hW]; clear hW; go_simp); have q1 : w5.cell? ⟨w.heap.size + 2, 1, none⟩ = some (.int .i64 0) := (by rw [← hW]; clear hW; go_simp); have q2 : w5.cell? ⟨w.heap.size + 2, 2, none⟩ = some (.int .i64 0) := (by rw [← hW]; clear hW; go_simp); have q3 : w5.cell? ⟨w.heap.size + 2, 3, none⟩ = some (.int .i64 0) := (by rw [← hW]; clear hW; go_simp); have q4 : w5.cell? ⟨w.heap.size + 2, 4, none⟩ = some (.int .i64 0) := (by rw [← hW]; clear hW; go_simp); have q5 : w5.cell? ⟨w.heap.size + 2, 5, none⟩ = some (.int .i64 0) := (by rw [← hW]; clear hW; go_simp); have q6 : w5.cell? ⟨w.heap.size + 2, 6, none⟩ = some (.int .i64 0) := (by rw [← hW]; clear hW; go_simp)
  have g5 : ∀ j, w5.frozen? ⟨w.heap.size + 2, j, none⟩ = false := (by intro j; rw [← hW]; clear hW; go_simp)
  have HW := hide hW
  clear hW
  go_wp2_with fail
  refine bodyPost_ret (v := .tuple #[.agg #[.slice (some ⟨g, 0, none⟩) n (n + 1), .int .i64 ({ L with r3 := L.r3 + 1 } : Ld).r0, .int .i64 ({ L with r3 := L.r3 + 1 } : Ld).r1, .int .i64 ({ L with r3 := L.r3 + 1 } : Ld).r2, .int .i64 ({ L with r3 := L.r3 + 1 } : Ld).r3, .int .i64 ({ L with r3 := L.r3 + 1 } : Ld).r4, .int .i64 ({ L with r3 := L.r3 + 1 } : Ld).r5], .int .i64 3, .int .i64 0]) (by simp [results, Try.results18, go_sem, *]) rfl ⟨g, n + 1, rfl, ?_, ?_⟩
  · refine Rs.of_own (base := w.heap.size) (n := n) (c := n + 1) (e := 43) ?_ Tk.vals_len hN.out HV.out
    have hg3 := (HO.out.lt g rfl).1
    have hW := HW.out; clear HW; subst hW
    ((repeat' first | (with_reducible refine own_far ?_ (by simp [Value.ownBlock]; omega) _) | (with_reducible refine own_drew ?_) | (with_reducible refine World.ownsRow.alloc ?_ _)); exact own_base HO.out (by omega))
  · refine Fr.below (S := fun _ => False) ?_ (Nat.le_refl _) (fun _ _ h => h)
    have hW := HW.out; clear HW; subst hW
    (repeat' first | (with_reducible refine Fr.setCell ?_ (Or.inl (by first | (simp; done) | (simp; omega))) _) | (with_reducible refine Fr.alloc ?_ _) | (with_reducible refine Fr.drew ?_))
    refine Fr.below_ ?_ HB4.out
    refine Fr.below_ ?_ HB3.out
    refine Fr.below_ ?_ HB2.out
    (repeat' first | (with_reducible refine Fr.setCell ?_ (Or.inl (by first | (simp; done) | (simp; omega))) _) | (with_reducible refine Fr.alloc ?_ _) | (with_reducible refine Fr.drew ?_))
    exact ((((Fr.refl w _).alloc _).alloc _).alloc _).below_ HB1.out


end Go.Proofs.Ytjhkgoengoiljaa

/- The walk of the law on a ticket that is begun again after each loss. -/
namespace Go.Proofs.Ytjhkgoengoiljaa
open Go.RowKit

theorem info50 : (Try.prog.info? 50).map (fun i => (i.zero, i.size, i.bytes)) = some (some (.agg #[.int .i64 0, .int .i64 0, .int .i64 0, .int .i64 0, .int .i64 0]), 5, 40) := by kernel_rfl
def rpv (p : Rp) : List Value := [.int .i64 p.tick, .int .i64 p.att, .int .i64 p.run, .int .i64 p.ep, .int .i64 p.out]
theorem rpv_len (p : Rp) : (rpv p).length = 5 := rfl
theorem rpv_one (p : Rp) : ∀ u ∈ rpv p, u.oneCell' = true := by
  intro u hu
  simp [rpv] at hu
  rcases hu with rfl | rfl | rfl | rfl | rfl <;> rfl
theorem kl_len (t : Tk) (st att run ep out r1 r2 r3 r5 : Int) : (kl t st att run ep out r1 r2 r3 r5).tks.length = 1 := rfl
/-- What the reports before are. -/
def OldOk (olds : List Rp) : Prop := ∀ j p, olds[j]? = some p → reportOk p = true ∧ p.tick = 0 ∧ p.att = ((j : Nat) : Int) + 1
theorem OldOk.push {olds : List Rp} {p : Rp} (h : OldOk olds) (hp : reportOk p = true) (h0 : p.tick = 0) (ha : p.att = (olds.length : Nat) + 1) : OldOk (olds ++ [p]) := by
  intro j q hq
  rcases Nat.lt_or_ge j olds.length with hj | hj
  · rw [List.getElem?_append_left hj] at hq
    exact h j q hq
  · rw [List.getElem?_append_right hj] at hq
    have : j - olds.length = 0 := by
      have := (List.getElem?_eq_some_iff.1 hq).1
      simp at this
      omega
    rw [this] at hq
    simp at hq
    subst hq
    exact ⟨hp, h0, by rw [ha]; omega⟩
/-- The ledger after i attempts; cc stale reports so far. -/
def EnSt (t : Tk) (i : Nat) (cc : Int) (L : Ld) : Prop := (i < 4 ∧ L = kl t 0 i 0 0 0 0 0 cc 0) ∨ (i = 4 ∧ ∃ run ep o, L = kl t 2 4 run ep o 0 0 cc 0 ∧ (o = 4 ∨ o = 5))

/-- What an attempt's end makes of the ledger. -/
theorem en_fail_any (w : World) (av : Option Nat) (A : Option Addr) (c : Nat) (t : Tk) (i : Nat) (run ep cc o : Int) (hi : i < 4) (ho : o = 4 ∨ o = 5) (hR : Rs w av 10 Tk.vals A (kl t 1 (i + 1) run ep 0 0 0 cc 0).tks) (hok : (kl t 1 (i + 1) run ep 0 0 0 cc 0).ok = true) (hav : ∀ x, av = some x → x < w.heap.size) :
    Calls Try.prog 22 #[.agg #[.slice A 1 c, .int .i64 (kl t 1 (i + 1) run ep 0 0 0 cc 0).r0, .int .i64 (kl t 1 (i + 1) run ep 0 0 0 cc 0).r1, .int .i64 (kl t 1 (i + 1) run ep 0 0 0 cc 0).r2, .int .i64 (kl t 1 (i + 1) run ep 0 0 0 cc 0).r3, .int .i64 (kl t 1 (i + 1) run ep 0 0 0 cc 0).r4, .int .i64 (kl t 1 (i + 1) run ep 0 0 0 cc 0).r5], .int .i64 0, .int .i64 o] w fun e w' => ∃ (L' : Ld) (A' : Option Addr) (c' : Nat), e = .returned (.tuple #[.agg #[.slice A' 1 c', .int .i64 L'.r0, .int .i64 L'.r1, .int .i64 L'.r2, .int .i64 L'.r3, .int .i64 L'.r4, .int .i64 L'.r5], .int .i64 0]) ∧ EnSt t (i + 1) cc L' ∧ L'.ok = true ∧ Rs w' av 10 Tk.vals A' L'.tks ∧ Below w.heap.size w w' := by
  have c1 := fail_any w av A c 1 (kl t 1 (i + 1) run ep 0 0 0 cc 0) hR rfl (by omega) 0 o hav
  have hk := en_fail_ok hok ho
  rw [en_fail hok ho] at c1
  by_cases h3 : i = 3
  · subst h3
    simp only [show ((3 : Nat) : Int) + 1 = 4 from rfl, if_true] at c1 hk
    refine c1.mono ?_
    rintro e w' ⟨A', c', h1, h2, h3⟩
    exact ⟨_, A', c', h1, .inr ⟨rfl, run, ep, o, rfl, ho⟩, hk, h2, h3⟩
  · have hne : ¬ ((i : Int) + 1 = 4) := by omega
    simp only [if_neg hne] at c1 hk
    refine c1.mono ?_
    rintro e w' ⟨A', c', h1, h2, h3⟩
    exact ⟨_, A', c', h1, .inl ⟨by omega, by simp⟩, hk, h2, h3⟩
theorem en_lose_ok {t : Tk} {i run ep c : Int} (hok : (kl t 1 i run ep 0 0 0 c 0).ok = true) :
    (if i = 4 then kl t 2 i run ep 5 0 0 c 0 else kl t 0 i 0 0 0 0 0 c 0).ok = true := by
  have := en_fail_ok (o := 5) hok (.inr rfl)
  exact this
theorem en_lose_any (w : World) (av : Option Nat) (A : Option Addr) (c : Nat) (t : Tk) (i : Nat) (run ep cc : Int) (hi : i < 4) (hR : Rs w av 10 Tk.vals A (kl t 1 (i + 1) run ep 0 0 0 cc 0).tks) (hok : (kl t 1 (i + 1) run ep 0 0 0 cc 0).ok = true) (hav : ∀ x, av = some x → x < w.heap.size) :
    Calls Try.prog 24 #[.agg #[.slice A 1 c, .int .i64 (kl t 1 (i + 1) run ep 0 0 0 cc 0).r0, .int .i64 (kl t 1 (i + 1) run ep 0 0 0 cc 0).r1, .int .i64 (kl t 1 (i + 1) run ep 0 0 0 cc 0).r2, .int .i64 (kl t 1 (i + 1) run ep 0 0 0 cc 0).r3, .int .i64 (kl t 1 (i + 1) run ep 0 0 0 cc 0).r4, .int .i64 (kl t 1 (i + 1) run ep 0 0 0 cc 0).r5], .int .i64 run, .int .i64 ep] w fun e w' => ∃ (L' : Ld) (A' : Option Addr) (c' : Nat) (b o d : Nat), e = .returned (.tuple #[.agg #[.slice A' 1 c', .int .i64 L'.r0, .int .i64 L'.r1, .int .i64 L'.r2, .int .i64 L'.r3, .int .i64 L'.r4, .int .i64 L'.r5], .slice (some ⟨b, o, none⟩) 1 d, .int .i64 0]) ∧ EnSt t (i + 1) cc L' ∧ L'.ok = true ∧ Rs w' av 10 Tk.vals A' L'.tks ∧ (w.heap.size ≤ b ∧ b < w'.heap.size ∧ w'.cell? ⟨b, o, none⟩ = some (.int .i64 0)) ∧ Below w.heap.size w w' := by
  have c1 := lose_any w av A c 1 (kl t 1 (i + 1) run ep 0 0 0 cc 0) hR rfl (by omega) run ep hav
  have hk := en_lose_ok hok
  rw [en_lose hok] at c1
  have hb : ∀ {w' : World} {B : Option Addr}, Rs w' av 1 iv B [(0 : Int)] → ∃ b o, B = some ⟨b, o, none⟩ ∧ b < w'.heap.size ∧ w'.cell? ⟨b, o, none⟩ = some (.int .i64 0) := by
    intro w' B h
    obtain ⟨b, o, h1, -, h2, h3⟩ := h.at (k := 0) rfl
    exact ⟨b, o, h1, h2, by simpa using h3 0 _ rfl⟩
  by_cases h3 : i = 3
  · subst h3
    simp only [show ((3 : Nat) : Int) + 1 = 4 from rfl, if_true] at c1 hk
    refine c1.mono ?_
    rintro e w' ⟨A', c', B, d, h1, h2, h3, hge, h4⟩
    obtain ⟨b, o, rfl, h5, h6⟩ := hb h3
    exact ⟨_, A', c', b, o, d, h1, .inr ⟨rfl, run, ep, 5, rfl, .inr rfl⟩, hk, h2, ⟨hge b o rfl, h5, h6⟩, h4⟩
  · have hne : ¬ ((i : Int) + 1 = 4) := by omega
    simp only [if_neg hne] at c1 hk
    refine c1.mono ?_
    rintro e w' ⟨A', c', B, d, h1, h2, h3, hge, h4⟩
    obtain ⟨b, o, rfl, h5, h6⟩ := hb h3
    exact ⟨_, A', c', b, o, d, h1, .inl ⟨by omega, by simp⟩, hk, h2, ⟨hge b o rfl, h5, h6⟩, h4⟩
/-- The reports' own row is no row of tickets that begins a block. -/
theorem rp_not_tk {w : World} {av : Option Nat} {base c i g : Nat} {e : TypeId} {A : Option Addr} {olds : List Rp} {tks : List Tk} (h : w.ownsRow base e 5 (.slice A i c) i (olds.flatMap rpv)) (hl : olds.length = i) (h0 : i = 0 → A = none) (hR : Rs w av 10 Tk.vals (some ⟨g, 0, none⟩) tks) (ht : tks ≠ []) : ¬ (Value.slice A i c).ownBlock = some g := by
  intro he
  have hR5 : Rs w none 5 rpv A olds := Rs.of_own h rpv_len hl (by intro x hx; cases hx)
  rcases h.2 with ⟨h1, -⟩ | ⟨g', cap, cur, h1, -⟩
  · injection h1 with h1
    subst h1
    simp [Value.ownBlock] at he
  · injection h1 with h1 _ _
    subst h1
    simp [Value.ownBlock] at he
    subst he
    have hi : olds ≠ [] := by
      rintro rfl
      have := h0 (by simpa using hl.symm)
      simp at this
    obtain ⟨p, l', rfl⟩ := List.exists_cons_of_ne_nil hi
    obtain ⟨x, l2, rfl⟩ := List.exists_cons_of_ne_nil ht
    obtain ⟨b, o, h2, -, -, h3⟩ := hR5.at (k := 0) rfl
    injection h2 with h2
    injection h2 with h4 h5
    subst h4 h5
    have q1 := h3 0 _ rfl
    obtain ⟨b, o, h2, -, -, h3⟩ := hR.at (k := 0) rfl
    injection h2 with h2
    injection h2 with h4 h5
    subst h4 h5
    obtain ⟨p', hp'⟩ := tk_str x
    have q2 := h3 0 _ hp'
    simp at q1 q2
    rw [q1] at q2
    simp at q2
/-- The cells of the one ledger. -/
def C7 (W : World) (H : Nat) (B : Option Addr) (d : Nat) (L : Ld) : Prop := H < W.heap.size ∧ (W.cell? ⟨H, 0, none⟩ = some (.slice B 1 d) ∧ W.cell? ⟨H, 1, none⟩ = some (.int .i64 L.r0) ∧ W.cell? ⟨H, 2, none⟩ = some (.int .i64 L.r1) ∧ W.cell? ⟨H, 3, none⟩ = some (.int .i64 L.r2) ∧ W.cell? ⟨H, 4, none⟩ = some (.int .i64 L.r3) ∧ W.cell? ⟨H, 5, none⟩ = some (.int .i64 L.r4) ∧ W.cell? ⟨H, 6, none⟩ = some (.int .i64 L.r5))
theorem C7.of {W : World} {H : Nat} {B : Option Addr} {d : Nat} {L : Ld} (h : B7 W H (LDV B 1 d L)) : C7 W H B d L := ⟨h.1, h.2.1⟩
/-- What the statement on an old report reads. -/
def CE (W : World) (H b o : Nat) (B : Option Addr) (d : Nat) (L : Ld) (p : Rp) : Prop := (H < W.heap.size ∧ b < W.heap.size) ∧ (W.cell? ⟨H, 0, none⟩ = some (.slice B 1 d) ∧ W.cell? ⟨H, 1, none⟩ = some (.int .i64 L.r0) ∧ W.cell? ⟨H, 2, none⟩ = some (.int .i64 L.r1) ∧ W.cell? ⟨H, 3, none⟩ = some (.int .i64 L.r2) ∧ W.cell? ⟨H, 4, none⟩ = some (.int .i64 L.r3) ∧ W.cell? ⟨H, 5, none⟩ = some (.int .i64 L.r4) ∧ W.cell? ⟨H, 6, none⟩ = some (.int .i64 L.r5)) ∧ (W.cell? ⟨b, o, none⟩ = some (.int .i64 p.tick) ∧ W.cell? ⟨b, o + 1, none⟩ = some (.int .i64 p.att) ∧ W.cell? ⟨b, o + 2, none⟩ = some (.int .i64 p.run) ∧ W.cell? ⟨b, o + 3, none⟩ = some (.int .i64 p.ep) ∧ W.cell? ⟨b, o + 4, none⟩ = some (.int .i64 p.out))
theorem CE.below {W W' : World} {H b o : Nat} {B : Option Addr} {d : Nat} {L : Ld} {p : Rp} (h : CE W H b o B d L p) (hb : Below W.heap.size W W') : CE W' H b o B d L p := by
  obtain ⟨⟨a1, a2⟩, ⟨l0, l1, l2, l3, l4, l5, l6⟩, q0, q1, q2, q3, q4⟩ := h
  have tr : ∀ {k : Nat} {u : Value}, W.cell? ⟨H, k, none⟩ = some u → W'.cell? ⟨H, k, none⟩ = some u := fun hu => (World.cell?_of_block (w := W) (hb.block H a1)).trans hu
  have tq : ∀ {k : Nat} {u : Value}, W.cell? ⟨b, k, none⟩ = some u → W'.cell? ⟨b, k, none⟩ = some u := fun hu => (World.cell?_of_block (w := W) (hb.block b a2)).trans hu
  exact ⟨⟨Nat.lt_of_lt_of_le a1 hb.size, Nat.lt_of_lt_of_le a2 hb.size⟩, ⟨tr l0, tr l1, tr l2, tr l3, tr l4, tr l5, tr l6⟩, tq q0, tq q1, tq q2, tq q3, tq q4⟩
theorem en_begin_any (w : World) (av : Option Nat) (A : Option Addr) (c : Nat) (t : Tk) (i : Nat) (run ep cc : Int) (hR : Rs w av 10 Tk.vals A (kl t 0 i 0 0 0 0 0 cc 0).tks) (hok : (kl t 0 i 0 0 0 0 0 cc 0).ok = true) (hr8 : 0 ≤ run ∧ run < 8) (he9 : 1 ≤ ep ∧ ep ≤ 9) (hav : ∀ x, av = some x → x < w.heap.size) :
    Calls Try.prog 17 #[.agg #[.slice A 1 c, .int .i64 (kl t 0 i 0 0 0 0 0 cc 0).r0, .int .i64 (kl t 0 i 0 0 0 0 0 cc 0).r1, .int .i64 (kl t 0 i 0 0 0 0 0 cc 0).r2, .int .i64 (kl t 0 i 0 0 0 0 0 cc 0).r3, .int .i64 (kl t 0 i 0 0 0 0 0 cc 0).r4, .int .i64 (kl t 0 i 0 0 0 0 0 cc 0).r5], .int .i64 0, .int .i64 run, .int .i64 ep] w fun e w' => ∃ g c', e = .returned (.tuple #[.agg #[.slice (some ⟨g, 0, none⟩) 1 c', .int .i64 (kl t 1 (i + 1) run ep 0 0 0 cc 0).r0, .int .i64 (kl t 1 (i + 1) run ep 0 0 0 cc 0).r1, .int .i64 (kl t 1 (i + 1) run ep 0 0 0 cc 0).r2, .int .i64 (kl t 1 (i + 1) run ep 0 0 0 cc 0).r3, .int .i64 (kl t 1 (i + 1) run ep 0 0 0 cc 0).r4, .int .i64 (kl t 1 (i + 1) run ep 0 0 0 cc 0).r5], .int .i64 (i + 1), .int .i64 0]) ∧ Rs w' av 10 Tk.vals (some ⟨g, 0, none⟩) (kl t 1 (i + 1) run ep 0 0 0 cc 0).tks ∧ Below w.heap.size w w' := by
  have hran : ranB 1 run ep = true := by simp [ranB]; omega
  have c1 := begin_ok w av A c 1 _ hR rfl (by omega) 0 run ep (kt t 0 i 0 0 0) hok rfl hran rfl hav
  have hpb : (kl t 0 i 0 0 0 0 0 cc 0).put 0 { (kt t 0 i 0 0 0) with st := 1, att := (kt t 0 i 0 0 0).att + 1, run := run, ep := ep } = kl t 1 (i + 1) run ep 0 0 0 cc 0 := by simp [kl, kt, Ld.put]
  rw [hpb] at c1
  refine c1.mono ?_
  rintro e w' ⟨g, h1, h2, h3⟩
  exact ⟨g, _, h1, h2, h3⟩
/-- The kind of a report on the one ticket. -/
theorem kl_kind {t : Tk} {st i run ep out c : Int} {p : Rp} (h0 : p.tick = 0) (hk : p.att ≠ i ∨ (st = 2 ∧ out ≠ p.out ∧ repB out = false)) : (kl t st i run ep out 0 0 c 0).kind p = 3 := by
  unfold Ld.kind
  have : (kl t st i run ep out 0 0 c 0).get? p.tick = some (kt t st i run ep out) := by simp [Ld.get?, kl, h0]
  rw [this]
  rcases hk with hk | ⟨rfl, h2, h3⟩
  · have : ¬ i = p.att := fun h => hk h.symm
    simp [kindOf, kt, sameB, this]
  · simp [kindOf, kt, h2, h3]
/-- An old report is stale. -/
theorem en_take_any (w : World) (av : Option Nat) (A : Option Addr) (c : Nat) (t : Tk) (st i run ep out cc : Int) (p : Rp) (hR : Rs w av 10 Tk.vals A (kl t st i run ep out 0 0 cc 0).tks) (hok : (kl t st i run ep out 0 0 cc 0).ok = true) (hp : reportOk p = true) (h0 : p.tick = 0) (ha : p.att ≠ i ∨ (st = 2 ∧ out ≠ p.out ∧ repB out = false)) (hc : cc ≤ 1000) (hav : ∀ x, av = some x → x < w.heap.size) :
    Calls Try.prog 18 #[.agg #[.slice A 1 c, .int .i64 (kl t st i run ep out 0 0 cc 0).r0, .int .i64 (kl t st i run ep out 0 0 cc 0).r1, .int .i64 (kl t st i run ep out 0 0 cc 0).r2, .int .i64 (kl t st i run ep out 0 0 cc 0).r3, .int .i64 (kl t st i run ep out 0 0 cc 0).r4, .int .i64 (kl t st i run ep out 0 0 cc 0).r5], .agg #[.int .i64 p.tick, .int .i64 p.att, .int .i64 p.run, .int .i64 p.ep, .int .i64 p.out]] w fun e w' => ∃ g c', e = .returned (.tuple #[.agg #[.slice (some ⟨g, 0, none⟩) 1 c', .int .i64 (kl t st i run ep out 0 0 (cc + 1) 0).r0, .int .i64 (kl t st i run ep out 0 0 (cc + 1) 0).r1, .int .i64 (kl t st i run ep out 0 0 (cc + 1) 0).r2, .int .i64 (kl t st i run ep out 0 0 (cc + 1) 0).r3, .int .i64 (kl t st i run ep out 0 0 (cc + 1) 0).r4, .int .i64 (kl t st i run ep out 0 0 (cc + 1) 0).r5], .int .i64 3, .int .i64 0]) ∧ Rs w' av 10 Tk.vals (some ⟨g, 0, none⟩) (kl t st i run ep out 0 0 (cc + 1) 0).tks ∧ (kl t st i run ep out 0 0 (cc + 1) 0).ok = true ∧ Below w.heap.size w w' := by
  refine (take_ok3g w av A c 1 (kl t st i run ep out 0 0 cc 0) hR rfl (by omega) p hp hok (kl_kind h0 ha) (by simp [kl]; omega) hav).mono ?_
  rintro e w' ⟨g, c', h1, h2, h3⟩
  exact ⟨g, c', h1, h2, en_take_ok hok hp h0 ha hc, h3⟩

set_option maxRecDepth 100000 in
set_option maxHeartbeats 8000000 in
theorem ends_walk (w : World) (A : Option Addr) (n c : Nat) (l : List Int) (nn : Int) (hA : Rs w none 1 iv A l) (hl : l.length = n) :
    Calls Try.prog 6 #[.slice A n c, .int .i64 nn] w fun e w' => e = .returned (.bool true) ∧ Below w.heap.size w w' := by
  have HT0 := hide (tape_new (w := w) (c := c) hA hl 31)
  have HOA := hide (show l ≠ [] → ∀ b o, A = some ⟨b, o, none⟩ → b < w.heap.size from old_of hA (Nat.le_refl _))
  clear hA hl
  go_enter Try.func6, Try.ntmps6
  go_wp2_with fail
  refine (task_any nn _).mono ?_
  rintro e w1 ⟨⟨t, rfl, ht⟩, hb1⟩
  have HT1 := hide (HT0.out.below hb1)
  have HF1 := hide (((Fr.refl w (fun _ => False)).alloc _).below_ hb1)
  have HTK := hide ht
  have gT1 : w.heap.size < w1.heap.size := HT1.out.1
  clear hb1 ht
  go_wp2_with fail
  have c1 := plan_any w1 (some w.heap.size) none 0 0 Ld.nil Rs.nil rfl (by omega) t 1 (by intro x hx; injection hx with hx; omega)
  rw [kl_plan HTK.out] at c1
  simp only [kl_len] at c1
  refine c1.mono ?_
  rintro e w2 ⟨B1, d1, rfl, hr, hb⟩
  have HT2 := hide (HT1.out.below hb)
  have HF2 := hide (HF1.out.below_ hb)
  have HR2 := hide hr
  clear hr hb c1
  go_upto_region 3 with (fail)
  generalize hW : World.alloc w2 _ = v2
  have hs : B7 v2 w2.heap.size (LDV B1 1 d1 (kl t 0 0 0 0 0 0 0 0 0)) := by
    rw [← hW]
    clear hW
    simp only [B7, LDV]
    refine ⟨by simp, ⟨?_, ?_, ?_, ?_, ?_, ?_, ?_⟩, ?_, ?_⟩ <;> first | (intro j; go_simp; done) | (go_simp; done)
  have hf : Fr w2 v2 (fun _ => False) := by rw [← hW]; exact (Fr.refl _ _).alloc _
  clear hW
  have HS2 := hide hs
  have HT3 := hide (HT2.out.fr hf (fun h => h) (fun _ _ _ _ h => h))
  have HF3 := hide (HF2.out.step hf (fun _ _ h => h.elim))
  have HR3 := hide (HR2.out.fr hf (fun _ _ _ _ _ h => h))
  have gT2 : w.heap.size < w2.heap.size := HT2.out.1
  have gv2 : w2.heap.size < v2.heap.size := hs.1
  clear hs hf
  go_wp2_with fail
  go_loopw [9, 10] (fun old x wr => ∃ (i : Nat) (L : Ld) (B Ao : Option Addr) (d co a2 : Nat) (olds : List Rp) (cc : Int), i ≤ 4 ∧ x = .int .i64 (i + 1 : Nat) ∧ old = .slice Ao i co ∧ (i = 0 → Ao = none) ∧ Hid (EnSt t i cc L) ∧ Hid (L.ok = true) ∧ 0 ≤ cc ∧ cc ≤ 10 * i ∧ Hid (olds.length = i) ∧ Hid (OldOk olds) ∧ Hid (B7 wr w2.heap.size (LDV B 1 d L)) ∧ Hid (Rs wr (some w.heap.size) 10 Tk.vals B L.tks) ∧ Hid (wr.ownsRow v2.heap.size 50 5 (.slice Ao i co) i (olds.flatMap rpv)) ∧ Hid (TapeAt wr w.heap.size A n c l a2) ∧ a2 ≤ 6 * i ∧ Hid (Fr w wr (fun _ => False)) ∧ v2.heap.size ≤ wr.heap.size) (fun _ x _ => 5 - (intOf x).toNat)
  case atStart => exact ⟨0, _, B1, none, d1, 0, 0, [], 0, by omega, rfl, rfl, fun _ => rfl, hide (.inl ⟨by omega, rfl⟩), hide (kl1_ok HTK.out), by omega, by omega, hide rfl, hide (by intro j p h; simp at h), HS2, HR3, hide (World.ownsRow_nil _ _ _ _), HT3, by omega, HF3, by omega⟩
  case round =>
    obtain ⟨i, L, B, Ao, d, co, a2, olds, cc, hi, rfl, rfl, hA0, HE, HK, hcc1, hcc2, HOL, HOO, HS, HR, HO, HT, ha2, HF, hgr⟩ := hrel
    obtain ⟨wo, hwo⟩ : ∃ wo, wo = wr := ⟨wr, rfl⟩
    subst hwo
    by_cases hi4 : i < 4
    · rcases HE.out with ⟨-, rfl⟩ | ⟨h4, -⟩
      case inr => omega
      have hle : (i : Int) + 1 ≤ 4 := by omega
      have hle2 : decide ((i : Int) + 1 ≤ 4) = true := by simp; omega
      have hOT : Hid (TapeAt wo w.heap.size A n c l a2) := HT
      have gT : w.heap.size < wo.heap.size := HT.out.1
      have g6 : w2.heap.size < wo.heap.size := HS.out.1
      go_wp2_with fail
      refine (next_any wo w.heap.size A n c l a2 8 HT.out (by omega) (by omega)).mono ?_
      rintro e w3 ⟨rfl, ht3, hf3⟩
      go_wp2_with fail
      refine (next_any w3 w.heap.size A n c l (a2 + 1) 9 ht3 (by omega) (by omega)).mono ?_
      rintro e w4 ⟨rfl, ht4, hf4⟩
      have hf34 := hf3.trans hf4
      have HT4 := hide ht4
      have HS4 := hide (HS.out.fr hf34 (by omega))
      have HR4 := hide (HR.out.tape hf34)
      have HO4 := hide (own_fr HO.out hf34 (own_ne HO.out (by omega)))
      have HF4 := hide (HF.out.step hf34 (fun i hi h => by omega))
      have g4 : wo.heap.size ≤ w4.heap.size := hf34.size
      clear ht3 hf3 ht4 hf4 hf34
      have hv1 := tapeV_lo l a2 8
      have hv2 := tapeV_lo l (a2 + 1) 9
      obtain ⟨run, hrun⟩ : ∃ run, tapeV l a2 8 = run := ⟨_, rfl⟩
      obtain ⟨ep, hep⟩ : ∃ ep, 1 + tapeV l (a2 + 1) 9 = ep := ⟨_, rfl⟩
      have hwe : IntKind.i64.wrap (1 + tapeV l (a2 + 1) 9) = ep := by rw [← hep]; exact IntWalk.i64_in _ (by omega)
      rw [hrun]
      have hr8 : 0 ≤ run ∧ run < 8 := by omega
      have he9 : 1 ≤ ep ∧ ep ≤ 9 := by omega
      clear hv1 hv2 hrun hep
      obtain ⟨gl4, p, gp, -⟩ := HS4.out
      simp only [LDV] at p
      obtain ⟨p0, p1, p2, p3, p4, p5, p6⟩ := p
      go_wp2_with fail
      refine (en_begin_any w4 (some w.heap.size) B d t i run ep cc HR4.out HK.out hr8 he9 (by intro x hx; injection hx with hx; omega)).mono ?_
      rintro e w5 ⟨gB, d5, rfl, hr, hb⟩
      have hok5 := en_begin_ok HK.out hr8 he9
      have HK5 := hide hok5
      have HT5 := hide (HT4.out.below hb)
      have HS5 := hide (HS4.out.fr (Fr.of_below (fun _ => False) hb) (fun h => h))
      have HR5 := hide hr
      have HO5 := hide (own_below HO4.out hb)
      have HF5 := hide (HF4.out.below_ hb)
      have g5 : w4.heap.size ≤ w5.heap.size := hb.size
      clear hr hb hok5 hwe p0 p1 p2 p3 p4 p5 p6 gp gl4
      go_upto_region 11 with (fail)
      generalize hW : World.alloc w5 _ = v5
      have hs : B7 v5 w5.heap.size (LDV (some ⟨gB, 0, none⟩) 1 d5 (kl t 1 (i + 1) run ep 0 0 0 cc 0)) := by
        rw [← hW]
        clear hW
        simp only [B7, LDV]
        refine ⟨by simp, ⟨?_, ?_, ?_, ?_, ?_, ?_, ?_⟩, ?_, ?_⟩ <;> first | (intro j; go_simp; done) | (go_simp; done)
      have hf : Fr w5 v5 (fun _ => False) := by rw [← hW]; exact (Fr.refl _ _).alloc _
      clear hW
      have HB6 := hide hs
      have HT6 := hide (HT5.out.fr hf (fun h => h) (fun _ _ _ _ h => h))
      have HS6 := hide (HS5.out.fr hf (fun h => h))
      have HR6 := hide (HR5.out.fr hf (fun _ _ _ _ _ h => h))
      have HO6 := hide (own_fr HO5.out hf (fun _ _ h => h))
      have HF6 := hide (HF5.out.step hf (fun _ _ h => h.elim))
      clear hs hf
      obtain ⟨gl6, q, gq, -⟩ := HB6.out
      simp only [LDV] at q
      obtain ⟨q0, q1, q2, q3, q4, q5, q6⟩ := q
      obtain ⟨gl5, p, gp, -⟩ := HS6.out
      simp only [LDV] at p
      obtain ⟨p0, p1, p2, p3, p4, p5, p6⟩ := p
      go_upto_region 12 with (fail)
      generalize hW : World.setCell (World.setCell (World.setCell (World.setCell (World.setCell (World.setCell (World.setCell v5 _ _) _ _) _ _) _ _) _ _) _ _) _ _ = v6
      obtain ⟨hs, hf⟩ : B7 v6 w2.heap.size (LDV (some ⟨gB, 0, none⟩) 1 d5 (kl t 1 (i + 1) run ep 0 0 0 cc 0)) ∧ Fr v5 v6 (fun i => i = w2.heap.size) := by
        rw [← hW]
        have hh := And.intro (HS6.out.put (LDV (some ⟨gB, 0, none⟩) 1 d5 (kl t 1 (i + 1) run ep 0 0 0 cc 0))) (fr_put7 (w := v5) (b := w2.heap.size) (v0 := (LDV (some ⟨gB, 0, none⟩) 1 d5 (kl t 1 (i + 1) run ep 0 0 0 cc 0)).v0) (v1 := (LDV (some ⟨gB, 0, none⟩) 1 d5 (kl t 1 (i + 1) run ep 0 0 0 cc 0)).v1) (v2 := (LDV (some ⟨gB, 0, none⟩) 1 d5 (kl t 1 (i + 1) run ep 0 0 0 cc 0)).v2) (v3 := (LDV (some ⟨gB, 0, none⟩) 1 d5 (kl t 1 (i + 1) run ep 0 0 0 cc 0)).v3) (v4 := (LDV (some ⟨gB, 0, none⟩) 1 d5 (kl t 1 (i + 1) run ep 0 0 0 cc 0)).v4) (v5 := (LDV (some ⟨gB, 0, none⟩) 1 d5 (kl t 1 (i + 1) run ep 0 0 0 cc 0)).v5) (v6 := (LDV (some ⟨gB, 0, none⟩) 1 d5 (kl t 1 (i + 1) run ep 0 0 0 cc 0)).v6))
        simp only [put7, LDV] at hh ⊢
        exact hh
      clear hW
      have HS7 := hide hs
      have HB7 := hide (HB6.out.fr hf (by omega))
      have HT7 := hide (HT6.out.fr hf (by omega) (fun b o hA hl h => by have := HOA.out hl b o hA; omega))
      have HR7 := hide (HR6.out.fr hf (fun hl b o hA _ h => rs_not_b7 HR6.out tk_str HS6.out (ldv_no' _ _ _ _) hl b o hA h))
      have HO7 := hide (own_fr HO6.out hf (own_ne HO6.out (by omega)))
      have HF7 := hide (HF6.out.step hf (fun i hi h => by omega))
      have g7 : v2.heap.size ≤ w5.heap.size := by omega
      have g8 : w5.heap.size < v6.heap.size := HB7.out.1
      clear hs hf p0 p1 p2 p3 p4 p5 p6 gp gl5 q0 q1 q2 q3 q4 q5 q6 gq gl6
      go_wp2_with fail
      clear hle2
      have hrd : (if i = 0 then True else True) := by split <;> trivial
      go_loopw [16] (fun x wr => ∃ (j : Nat) (g : Nat) (d : Nat), j ≤ i ∧ x = .int .i64 j ∧ Hid ((kl t 1 (i + 1) run ep 0 0 0 (cc + j) 0).ok = true) ∧ Hid (B7 wr w2.heap.size (LDV (some ⟨g, 0, none⟩) 1 d (kl t 1 (i + 1) run ep 0 0 0 (cc + j) 0))) ∧ Hid (B7 wr w5.heap.size (LDV (some ⟨gB, 0, none⟩) 1 d5 (kl t 1 (i + 1) run ep 0 0 0 cc 0))) ∧ Hid (Rs wr (some w.heap.size) 10 Tk.vals (some ⟨g, 0, none⟩) (kl t 1 (i + 1) run ep 0 0 0 (cc + j) 0).tks) ∧ Hid (wr.ownsRow v2.heap.size 50 5 (.slice Ao i co) i (olds.flatMap rpv)) ∧ Hid (TapeAt wr w.heap.size A n c l (a2 + 2)) ∧ Hid (Fr w wr (fun _ => False)) ∧ v6.heap.size ≤ wr.heap.size) (fun x _ => i - (intOf x).toNat)
      case atStart => exact ⟨0, gB, d5, by omega, rfl, by simpa using HK5, by simpa using HS7, HB7, by simpa using HR7, HO7, HT7, HF7, Nat.le_refl _⟩
      case round =>
        obtain ⟨j, g, d', hj, rfl, HKj, HSj, HBj, HRj, HOj, HTj, HFj, hgj⟩ := hrel
        by_cases hji : j < i
        · obtain ⟨p, hp⟩ : ∃ p, olds[j]? = some p := ⟨_, List.getElem?_eq_getElem (by have := HOL.out; omega)⟩
          obtain ⟨ph1, ph2, ph3⟩ := HOO.out j p hp
          obtain ⟨b, o, rfl, hbn, hbl, hbc⟩ := (Rs.of_own (av := some w.heap.size) HOj.out rpv_len HOL.out (by intro x hx; injection hx with hx; omega)).at hp
          have f0 : wr.cell? ⟨b, o + j * 5, none⟩ = some (.int .i64 p.tick) := hbc 0 _ rfl
          have f1 : wr.cell? ⟨b, o + j * 5 + 1, none⟩ = some (.int .i64 p.att) := hbc 1 _ rfl
          have f2 : wr.cell? ⟨b, o + j * 5 + 2, none⟩ = some (.int .i64 p.run) := hbc 2 _ rfl
          have f3 : wr.cell? ⟨b, o + j * 5 + 3, none⟩ = some (.int .i64 p.ep) := hbc 3 _ rfl
          have f4 : wr.cell? ⟨b, o + j * 5 + 4, none⟩ = some (.int .i64 p.out) := hbc 4 _ rfl
          have gj6 : w2.heap.size < wr.heap.size := HSj.out.1
          have gj5 : w5.heap.size < wr.heap.size := HBj.out.1
          have gjT : w.heap.size < wr.heap.size := HTj.out.1
          have hi1 : (0 : Int) ≤ (j : Int) := by omega
          have hi2 : (j : Int) < (i : Int) := by omega
          have ce0 : CE wr w2.heap.size b (o + j * 5) (some ⟨g, 0, none⟩) d' (kl t 1 (i + 1) run ep 0 0 0 (cc + j) 0) p := ⟨⟨gj6, hbl⟩, HSj.out.2.1, f0, f1, f2, f3, f4⟩
          have ce0d : CE wr.drew w2.heap.size b (o + j * 5) (some ⟨g, 0, none⟩) d' (kl t 1 (i + 1) run ep 0 0 0 (cc + j) 0) p := ce0
          have hav : ∀ x, some w.heap.size = some x → x < wr.heap.size := by intro x hx; injection hx with hx; omega
          have PH := hide (And.intro ph1 (And.intro ph2 ph3))
          clear hbc hbn f0 f1 f2 f3 f4 ph1 ph2 ph3 hp
          have cT : ∀ W : World, Fr wr W (fun _ => False) → Calls Try.prog 18 #[.agg #[.slice (some ⟨g, 0, none⟩) 1 d', .int .i64 (kl t 1 (i + 1) run ep 0 0 0 (cc + j) 0).r0, .int .i64 (kl t 1 (i + 1) run ep 0 0 0 (cc + j) 0).r1, .int .i64 (kl t 1 (i + 1) run ep 0 0 0 (cc + j) 0).r2, .int .i64 (kl t 1 (i + 1) run ep 0 0 0 (cc + j) 0).r3, .int .i64 (kl t 1 (i + 1) run ep 0 0 0 (cc + j) 0).r4, .int .i64 (kl t 1 (i + 1) run ep 0 0 0 (cc + j) 0).r5], .agg #[.int .i64 p.tick, .int .i64 p.att, .int .i64 p.run, .int .i64 p.ep, .int .i64 p.out]] W fun e w' => ∃ g c', e = .returned (.tuple #[.agg #[.slice (some ⟨g, 0, none⟩) 1 c', .int .i64 (kl t 1 (i + 1) run ep 0 0 0 (cc + j + 1) 0).r0, .int .i64 (kl t 1 (i + 1) run ep 0 0 0 (cc + j + 1) 0).r1, .int .i64 (kl t 1 (i + 1) run ep 0 0 0 (cc + j + 1) 0).r2, .int .i64 (kl t 1 (i + 1) run ep 0 0 0 (cc + j + 1) 0).r3, .int .i64 (kl t 1 (i + 1) run ep 0 0 0 (cc + j + 1) 0).r4, .int .i64 (kl t 1 (i + 1) run ep 0 0 0 (cc + j + 1) 0).r5], .int .i64 3, .int .i64 0]) ∧ Rs w' (some w.heap.size) 10 Tk.vals (some ⟨g, 0, none⟩) (kl t 1 (i + 1) run ep 0 0 0 (cc + j + 1) 0).tks ∧ (kl t 1 (i + 1) run ep 0 0 0 (cc + j + 1) 0).ok = true ∧ Below W.heap.size W w' :=
            fun W hW => en_take_any W (some w.heap.size) (some ⟨g, 0, none⟩) d' t 1 (i + 1) run ep 0 (cc + j) p (HRj.out.fr hW (fun _ _ _ _ _ h => h)) HKj.out PH.out.1 PH.out.2.1 (.inl (by have := PH.out.2.2; omega)) (by omega) (fun x hx => Nat.lt_of_lt_of_le (hav x hx) hW.size)
          have HCT := hide cT
          clear cT
          obtain ⟨l0, l1, l2, l3, l4, l5, l6⟩ := ce0.2.1
          obtain ⟨f0, f1, f2, f3, f4⟩ := ce0.2.2
          have gpj := HSj.out.2.2.1
          go_upto_region 17 with (fail)
          go_cut [17, 18, 19] from 63 to 85 (fun q p r wx => ∃ (gx g d8 : Nat), q = .pointer (some ⟨gx, 0, none⟩) ∧ p = .int .i64 3 ∧ r = .int .i64 0 ∧ wr.heap.size ≤ gx ∧ Hid (B7 wx gx (LDV (some ⟨g, 0, none⟩) 1 d8 (kl t 1 (i + 1) run ep 0 0 0 (cc + j + 1) 0))) ∧ Hid (Rs wx (some w.heap.size) 10 Tk.vals (some ⟨g, 0, none⟩) (kl t 1 (i + 1) run ep 0 0 0 (cc + j + 1) 0).tks) ∧ Hid ((kl t 1 (i + 1) run ep 0 0 0 (cc + j + 1) 0).ok = true) ∧ Hid (Fr wr wx (fun _ => False)))
          case first =>
            clear HT0 HOA HT1 HF1 HTK HT2 HF2 HR2 HS2 HT3 HF3 HR3 HOL HOO HT HF HE HK HS HR hOT HT4 HS4 HR4 HF4 HO HO4 HO5 HO6 HO7 HT5 HS5 HR5 HF5 HB6 HT6 HS6 HR6 HF6 HS7 HB7 HT7 HR7 HF7 HK5
            go_region_with
              (first
                | (go_at_call 18; refine Calls.mono (HCT.out _ (by (repeat' first | exact Fr.refl _ _ | refine Fr.drew ?_ | refine Fr.alloc ?_ _))) ?_; rintro e w8 ⟨g8, d8, rfl, hr8', hk8, hb8⟩; obtain ⟨hc8, hf8⟩ := bcell hb8; have z0 := hc8 wr.heap.size 0; have z1 := hc8 wr.heap.size 1; have z2 := hc8 wr.heap.size 2; have z3 := hc8 wr.heap.size 3; have z4 := hc8 wr.heap.size 4; have z5 := hc8 wr.heap.size 5; have z6 := hc8 wr.heap.size 6; have z7 := fun j => hc8 wr.heap.size (j + 7); have zf := fun j => hf8 wr.heap.size j; simp [go_sem] at z0 z1 z2 z3 z4 z5 z6 z7 zf; have HB8 := hide hb8; have HR8 := hide hr8'; have HK8 := hide hk8; clear hr8' hk8 hb8 hc8 hf8))
            all_goals
              go_wp2_with fail
              go_meet
              case rel =>
                first
                | (refine ⟨_, g8, d8, rfl, rfl, rfl, Nat.le_refl _, hide ?_, hide ?_, HK8, hide ?_⟩
                   have hsz : wr.heap.size < w8.heap.size := by have := HB8.out.size; simp at this; omega
                   have hb0 : B7 w8 wr.heap.size ⟨.slice none 0 0, .int .i64 0, .int .i64 0, .int .i64 0, .int .i64 0, .int .i64 0, .int .i64 0⟩ := ⟨hsz, ⟨z0, z1, z2, z3, z4, z5, z6⟩, zf, z7⟩
                   · have hh := hb0.put (LDV (some ⟨g8, 0, none⟩) 1 d8 (kl t 1 (i + 1) run ep 0 0 0 (cc + j + 1) 0))
                     simp only [put7, LDV] at hh ⊢
                     exact hh
                   · have hsz : wr.heap.size < w8.heap.size := by have := HB8.out.size; simp at this; omega
                     have hb0 : B7 w8 wr.heap.size ⟨.slice none 0 0, .int .i64 0, .int .i64 0, .int .i64 0, .int .i64 0, .int .i64 0, .int .i64 0⟩ := ⟨hsz, ⟨z0, z1, z2, z3, z4, z5, z6⟩, zf, z7⟩
                     exact HR8.out.fr (fr_put7 (w := w8) (b := wr.heap.size)) (fun hl b o hA _ h => rs_not_b7 HR8.out tk_str hb0 ⟨trivial, trivial, trivial, trivial, trivial, trivial, trivial⟩ hl b o hA h)
                   · iterate 7 (refine Fr.setCell ?_ (Or.inl (Nat.le_refl _)) _)
                     exact ((Fr.refl wr _).alloc _).drew.below_ HB8.out)
                | (refine ⟨_, g8, d8, rfl, rfl, rfl, HB8.out.size, hide ?_, hide ?_, HK8, hide ?_⟩
                   · simp only [B7, LDV]
                     refine ⟨by simp, ⟨?_, ?_, ?_, ?_, ?_, ?_, ?_⟩, ?_, ?_⟩ <;> first | (intro j; go_simp; done) | (go_simp; done)
                   · exact HR8.out.fr ((Fr.refl w8 (fun _ => False)).alloc _) (fun _ _ _ _ _ h => h)
                   · exact ((Fr.refl wr _).drew.below_ HB8.out).alloc _)
          case rest =>
            obtain ⟨gx, g8, d8, rfl, rfl, rfl, hgx, HB9, HR9, HK9, hF9⟩ := hcut
            obtain ⟨w9, hwc⟩ : ∃ w9, w9 = wc := ⟨wc, rfl⟩
            subst hwc
            have HSk := hide (HSj.out.fr hF9.out (fun h => h))
            have HBk := hide (HBj.out.fr hF9.out (fun h => h))
            have HOk := hide (own_fr HOj.out hF9.out (fun _ _ h => h))
            have HTk := hide (HTj.out.fr hF9.out (fun h => h) (fun _ _ _ _ h => h))
            have HFk := hide (HFj.out.step hF9.out (fun _ _ h => h.elim))
            have gk := hF9.out.size
            clear ce0 ce0d l0 l1 l2 l3 l4 l5 l6 f0 f1 f2 f3 f4 gpj
            obtain ⟨gl6, q, gq, -⟩ := HB9.out
            simp only [LDV] at q
            obtain ⟨q0, q1, q2, q3, q4, q5, q6⟩ := q
            obtain ⟨gl5, pp, gp, -⟩ := HSk.out
            simp only [LDV] at pp
            obtain ⟨p0, p1, p2, p3, p4, p5, p6⟩ := pp
            go_upto_region 19 with (fail)
            generalize hW : World.setCell (World.setCell (World.setCell (World.setCell (World.setCell (World.setCell (World.setCell w9 _ _) _ _) _ _) _ _) _ _) _ _) _ _ = v9
            obtain ⟨hs, hf⟩ : B7 v9 w2.heap.size (LDV (some ⟨g8, 0, none⟩) 1 d8 (kl t 1 (i + 1) run ep 0 0 0 (cc + j + 1) 0)) ∧ Fr w9 v9 (fun i => i = w2.heap.size) := by
              rw [← hW]
              have hh := And.intro (HSk.out.put (LDV (some ⟨g8, 0, none⟩) 1 d8 (kl t 1 (i + 1) run ep 0 0 0 (cc + j + 1) 0))) (fr_put7 (w := w9) (b := w2.heap.size) (v0 := (LDV (some ⟨g8, 0, none⟩) 1 d8 (kl t 1 (i + 1) run ep 0 0 0 (cc + j + 1) 0)).v0) (v1 := (LDV (some ⟨g8, 0, none⟩) 1 d8 (kl t 1 (i + 1) run ep 0 0 0 (cc + j + 1) 0)).v1) (v2 := (LDV (some ⟨g8, 0, none⟩) 1 d8 (kl t 1 (i + 1) run ep 0 0 0 (cc + j + 1) 0)).v2) (v3 := (LDV (some ⟨g8, 0, none⟩) 1 d8 (kl t 1 (i + 1) run ep 0 0 0 (cc + j + 1) 0)).v3) (v4 := (LDV (some ⟨g8, 0, none⟩) 1 d8 (kl t 1 (i + 1) run ep 0 0 0 (cc + j + 1) 0)).v4) (v5 := (LDV (some ⟨g8, 0, none⟩) 1 d8 (kl t 1 (i + 1) run ep 0 0 0 (cc + j + 1) 0)).v5) (v6 := (LDV (some ⟨g8, 0, none⟩) 1 d8 (kl t 1 (i + 1) run ep 0 0 0 (cc + j + 1) 0)).v6))
              simp only [put7, LDV] at hh ⊢
              exact hh
            clear hW
            have HSn := hide hs
            have HBn := hide (HBk.out.fr hf (by omega))
            have HTn := hide (HTk.out.fr hf (by omega) (fun b o hA hl h => by have := HOA.out hl b o hA; omega))
            have HRn := hide (HR9.out.fr hf (fun hl b o hA _ h => rs_not_b7 HR9.out tk_str HSk.out (ldv_no' _ _ _ _) hl b o hA h))
            have HOn := hide (own_fr HOk.out hf (own_ne HOk.out (by omega)))
            have HFn := hide (HFk.out.step hf (fun i hi h => by omega))
            have gn := hf.size
            clear hs hf p0 p1 p2 p3 p4 p5 p6 gp gl5 q0 q1 q2 q3 q4 q5 q6 gq gl6
            go_wp2_with fail
            go_roundw
            case rel =>
              have e9 : (cc + (j + 1 : Nat) : Int) = cc + j + 1 := by omega
              refine ⟨j + 1, g8, d8, by omega, by go_num, ?_, ?_, HBn, ?_, HOn, HTn, HFn, by omega⟩
              · rw [e9]; exact HK9
              · rw [e9]; exact HSn
              · rw [e9]; exact HRn
            case measure => simp [intOf]; omega
        · -- EXIT
          have hji' : i = j := by omega
          subst hji'
          have hij : decide ((i : Int) < (i : Int)) = false := by simp
          have HOlt := hide (fun k (h : (Value.slice Ao i co).ownBlock = some k) => (HO.out.lt k h).2)
          clear HO4 HO5 HO6 HO7 HR4 HR5 HR6 HR7 HS4 HS5 HS6 HS7 HB6 HB7 HT4 HT5 HT6 HT7 HF4 HF5 HF6 HF7 HK5 hOT
          go_wp2_with fail
          refine (next_any wr w.heap.size A n c l (a2 + 2) 3 HTj.out (by omega) (by omega)).mono ?_
          rintro e wa ⟨rfl, hta, hfa⟩
          have HTa := hide hta
          have HSa := hide (HSj.out.fr hfa (by omega))
          have HBa := hide (HBj.out.fr hfa (by omega))
          have HRa := hide (HRj.out.tape hfa)
          have HOa := hide (own_fr HOj.out hfa (own_ne HOj.out (by omega)))
          have HFa := hide (HFj.out.step hfa (fun i hi h => by omega))
          have ga := hfa.size
          have hv := tapeV_lo l (a2 + 2) 3
          obtain ⟨out, hoo⟩ : ∃ out : Int, 1 + tapeV l (a2 + 2) 3 = out := ⟨_, rfl⟩
          have ho : 1 ≤ out ∧ out ≤ 3 := by omega
          have hwr : IntKind.i64.wrap (1 + tapeV l (a2 + 2) 3) = out := by rw [← hoo]; exact IntWalk.i64_in _ (by omega)
          clear hta hfa hv hoo
          clear HTj HSj HBj HRj HOj HFj
          have hgw : v2.heap.size ≤ wa.heap.size + 1 := by omega
          go_wp2_with (at_builtin; refine wl_append _ rfl (.tmp 86) (.tmp 95) 55 (by rfl) v2.heap.size 50 _ 5 40 Try.underlying55 info50 rfl (by decide) (.slice Ao i co) i olds (by rfl) (HOa.out.alloc _) _ 1 1 [(⟨0, (i : Int) + 1, run, ep, out⟩ : Rp)] (by rfl) (rs_one (av := none) (by simp) (by simp) (by intro j u hu; match j with | 0 => simp [rpv] at hu; subst hu; go_simp | 1 => simp [rpv] at hu; subst hu; go_simp | 2 => simp [rpv] at hu; subst hu; go_simp | 3 => simp [rpv] at hu; subst hu; go_simp | 4 => simp [rpv] at hu; subst hu; go_simp | j + 5 => simp [rpv] at hu)) rfl rpv_len rpv_one (by omega) (by decide) (by simp; omega) ?_; intro A2 c2 w7 hown7 hg7 hrow7; have HN7 := hide (fun k (h : (Value.slice A2 (i + 1) c2).ownBlock = some k) => show k ≠ w5.heap.size from by have h2 := hrow7 k h; simp at h2; rcases h2 with h2 | h2; (have := HOlt.out _ h2; omega); omega); have HO7 := hide hown7; have HG7 := hide hg7; clear hown7 hg7 hrow7)
          -- AFTER APPEND
          have hown : ∀ k, (Value.slice Ao i co).ownBlock = some k → v2.heap.size ≤ k := own_ge HOa.out
          have hfr7 : Fr wa w7 (fun k => (Value.slice Ao i co).ownBlock = some k) := ((Fr.refl wa _).alloc _).grown HG7.out (fun g h => Or.inr h)
          have HT7 := hide (HTa.out.fr hfr7 (fun h => by have := hown _ h; omega) (fun b o hA hl h => by have := HOA.out hl b o hA; have := hown _ h; omega))
          have HS7 := hide (HSa.out.fr hfr7 (fun h => by have := hown _ h; omega))
          have HB7 := hide (HBa.out.fr hfr7 (fun h => by have := HOlt.out _ h; omega))
          have HR7 := hide (HRa.out.fr hfr7 (fun _ b o hA _ h => by injection hA with hA; injection hA with hA1 hA2; subst hA1; exact rp_not_tk HOa.out HOL.out hA0 HRa.out (by simp [kl]) h))
          have HF7 := hide (HFa.out.step hfr7 (fun k hk h => by have := hown _ h; omega))
          have g7a := hfr7.size
          clear hown hfr7 HG7 HTa HSa HBa HRa HOa HFa HOlt
          have HKi := hide HKj.out
          have hOO := hide (HOO.out.push (p := (⟨0, (i : Int) + 1, run, ep, out⟩ : Rp)) (by simp [reportOk, ranB, repB]; omega) rfl (by rw [HOL.out]))
          have hOL : Hid ((olds ++ [(⟨0, (i : Int) + 1, run, ep, out⟩ : Rp)]).length = i + 1) := hide (by simp [HOL.out])
          refine (chance_any w7 w.heap.size A n c l (a2 + 2 + 1) 1 2 HT7.out (by omega) (by omega)).mono ?_
          rintro e w8 ⟨rfl, ht8, hf8⟩
          have HT8 := hide ht8
          have HS8 := hide (HS7.out.fr hf8 (by omega))
          have HB8 := hide (HB7.out.fr hf8 (by omega))
          have HR8 := hide (HR7.out.tape hf8)
          have HO8 := hide (own_fr HO7.out hf8 (own_ne HO7.out (by omega)))
          have HF8 := hide (HF7.out.step hf8 (fun i hi h => by omega))
          have g8a := hf8.size
          clear ht8 hf8 HT7 HS7 HB7 HR7 HO7 HF7
          have hav8 : ∀ x, some w.heap.size = some x → x < w8.heap.size := by intro x hx; injection hx with hx; omega
          obtain ⟨gl8, p, gp, -⟩ := HS8.out
          simp only [LDV] at p
          obtain ⟨p0, p1, p2, p3, p4, p5, p6⟩ := p
          cases hch : decide (tapeV l (a2 + 2 + 1) 2 < 1)
          · -- LOSE
            go_wp2_with fail
            refine (en_lose_any w8 (some w.heap.size) (some ⟨g, 0, none⟩) d' t i run ep (cc + i) hi4 HR8.out HKi.out hav8).mono ?_
            rintro e w9 ⟨L9, B9, d9, b9, o9, dd9, rfl, he9', hk9, hr9, ⟨hb9g, hb9l, hb9c⟩, hb9⟩
            have HE9 := hide he9'
            have HK9 := hide hk9
            have HR9 := hide hr9
            have HT9 := hide (HT8.out.below hb9)
            have HS9 := hide (HS8.out.fr (Fr.of_below (fun _ => False) hb9) (fun h => h))
            have HB9 := hide (HB8.out.fr (Fr.of_below (fun _ => False) hb9) (fun h => h))
            have HO9 := hide (own_below HO8.out hb9)
            have HF9 := hide (HF8.out.below_ hb9)
            have g9a := hb9.size
            clear he9' hk9 hr9 hb9 p0 p1 p2 p3 p4 p5 p6 gp gl8
            obtain ⟨gl9, q, gq, -⟩ := HB9.out
            simp only [LDV] at q
            obtain ⟨q0, q1, q2, q3, q4, q5, q6⟩ := q
            go_upto_region 26 with (fail)
            generalize hW : World.setCell (World.setCell (World.setCell (World.setCell (World.setCell (World.setCell (World.setCell w9 _ _) _ _) _ _) _ _) _ _) _ _) _ _ = va
            obtain ⟨hs, hf⟩ : B7 va w5.heap.size (LDV B9 1 d9 L9) ∧ Fr w9 va (fun i => i = w5.heap.size) := by
              rw [← hW]
              have hh := And.intro (HB9.out.put (LDV B9 1 d9 L9)) (fr_put7 (w := w9) (b := w5.heap.size) (v0 := (LDV B9 1 d9 L9).v0) (v1 := (LDV B9 1 d9 L9).v1) (v2 := (LDV B9 1 d9 L9).v2) (v3 := (LDV B9 1 d9 L9).v3) (v4 := (LDV B9 1 d9 L9).v4) (v5 := (LDV B9 1 d9 L9).v5) (v6 := (LDV B9 1 d9 L9).v6))
              simp only [put7, LDV] at hh ⊢
              exact hh
            clear hW
            have HBa := hide hs
            have HTa := hide (HT9.out.fr hf (by omega) (fun b o hA hl h => by have := HOA.out hl b o hA; omega))
            have HSa := hide (HS9.out.fr hf (by omega))
            have HRa := hide (HR9.out.fr hf (fun hl b o hA _ h => rs_not_b7 HR9.out tk_str HB9.out (ldv_no' _ _ _ _) hl b o hA h))
            have HOa := hide (own_fr HO9.out hf (fun k hk h => HN7.out k hk h))
            have HFa := hide (HF9.out.step hf (fun i hi h => by omega))
            have gaa := hf.size
            have hb9v : va.cell? ⟨b9, o9, none⟩ = some (.int .i64 0) := (World.cell?_of_block (w := w9) (hf.block b9 hb9l (by omega))).trans hb9c
            clear hs hf q0 q1 q2 q3 q4 q5 q6 gq gl9
            obtain ⟨gla, q, gq, -⟩ := HBa.out
            simp only [LDV] at q
            obtain ⟨q0, q1, q2, q3, q4, q5, q6⟩ := q
            obtain ⟨gls, p, gp, -⟩ := HSa.out
            simp only [LDV] at p
            obtain ⟨p0, p1, p2, p3, p4, p5, p6⟩ := p
            go_upto_region 29 with (fail)
            generalize hW : World.setCell (World.setCell (World.setCell (World.setCell (World.setCell (World.setCell (World.setCell va _ _) _ _) _ _) _ _) _ _) _ _) _ _ = vb
            obtain ⟨hs, hf⟩ : B7 vb w2.heap.size (LDV B9 1 d9 L9) ∧ Fr va vb (fun i => i = w2.heap.size) := by
              rw [← hW]
              have hh := And.intro (HSa.out.put (LDV B9 1 d9 L9)) (fr_put7 (w := va) (b := w2.heap.size) (v0 := (LDV B9 1 d9 L9).v0) (v1 := (LDV B9 1 d9 L9).v1) (v2 := (LDV B9 1 d9 L9).v2) (v3 := (LDV B9 1 d9 L9).v3) (v4 := (LDV B9 1 d9 L9).v4) (v5 := (LDV B9 1 d9 L9).v5) (v6 := (LDV B9 1 d9 L9).v6))
              simp only [put7, LDV] at hh ⊢
              exact hh
            clear hW
            have HBb := hide (HBa.out.fr hf (by omega))
            have HTb := hide (HTa.out.fr hf (by omega) (fun b o hA hl h => by have := HOA.out hl b o hA; omega))
            have HSb := hide hs
            have HRb := hide (HRa.out.fr hf (fun hl b o hA _ h => rs_not_b7 HRa.out tk_str HSa.out (ldv_no' _ _ _ _) hl b o hA h))
            have HOb := hide (own_fr HOa.out hf (own_ne HOa.out (by omega)))
            have HFb := hide (HFa.out.step hf (fun i hi h => by omega))
            have gbb := hf.size
            clear hs hf q0 q1 q2 q3 q4 q5 q6 gq gla p0 p1 p2 p3 p4 p5 p6 gp gls HTa HSa HBa HRa HOa HFa
            go_wp2_with fail
            go_roundw
            case rel =>
              refine ⟨i + 1, L9, B9, A2, d9, c2, a2 + 2 + 1 + 1, _, cc + i, by omega, by go_num, rfl, by omega, HE9, HK9, by omega, by omega, hOL, hOO, HSb, HRb, HOb, HTb, by omega, HFb, by omega⟩
            case measure => simp [intOf]; omega
          · -- FAIL
            have cP : ∀ W0 : World, Fr w8 W0 (fun _ => False) → Calls Try.prog 23 #[.pointer (some ⟨w.heap.size, 0, none⟩), .slice (some ⟨W0.heap.size, 0, none⟩) 2 2] (W0.alloc (.cells #[.int .i64 4, .int .i64 5] 3)) fun e w' => (∃ v : Int, (v = 4 ∨ v = 5) ∧ e = .returned (.int .i64 v)) ∧ TapeAt w' w.heap.size A n c l (a2 + 2 + 1 + 1 + 1) ∧ Fr w8 w' (fun b => b = w.heap.size) := by
              intro W0 hW0
              have hT0 := HT8.out.fr hW0 (fun h => h) (fun _ _ _ _ h => h)
              refine (pick_any _ w.heap.size A n c l (a2 + 2 + 1 + 1) _ 2 2 [4, 5] (hT0.alloc _) (by omega) (rs_new hT0.1 [4, 5] 3) rfl (by decide) (by decide)).mono ?_
              rintro e w' ⟨⟨v, hv, rfl⟩, ht, hf⟩
              exact ⟨⟨v, by simpa using hv, rfl⟩, ht, ((hW0.alloc _).mono (fun _ _ h => h.elim)).trans hf⟩
            have HCP := hide cP
            have cP2 : ∀ W0 : World, Fr w8 W0 (fun _ => False) → Calls Try.prog 23 #[.pointer (some ⟨w.heap.size, 0, none⟩), .slice (some ⟨W0.heap.size, 0, none⟩) 2 2] (W0.alloc (.cells #[.int .i64 4, .int .i64 5] 3)).drew fun e w' => (∃ v : Int, (v = 4 ∨ v = 5) ∧ e = .returned (.int .i64 v)) ∧ TapeAt w' w.heap.size A n c l (a2 + 2 + 1 + 1 + 1) ∧ Fr w8 w' (fun b => b = w.heap.size) := by
              intro W0 hW0
              have hT0 := HT8.out.fr hW0 (fun h => h) (fun _ _ _ _ h => h)
              refine (pick_any _ w.heap.size A n c l (a2 + 2 + 1 + 1) _ 2 2 [4, 5] (hT0.alloc _).drew (by omega) (rs_new hT0.1 [4, 5] 3).drew rfl (by decide) (by decide)).mono ?_
              rintro e w' ⟨⟨v, hv, rfl⟩, ht, hf⟩
              exact ⟨⟨v, by simpa using hv, rfl⟩, ht, ((hW0.alloc _).drew.mono (fun _ _ h => h.elim)).trans hf⟩
            have HCP2 := hide cP2
            have cF : ∀ W : World, Fr w8 W (fun b => b = w.heap.size) → ∀ v : Int, (v = 4 ∨ v = 5) → Calls Try.prog 22 #[.agg #[.slice (some ⟨g, 0, none⟩) 1 d', .int .i64 (kl t 1 (i + 1) run ep 0 0 0 (cc + i) 0).r0, .int .i64 (kl t 1 (i + 1) run ep 0 0 0 (cc + i) 0).r1, .int .i64 (kl t 1 (i + 1) run ep 0 0 0 (cc + i) 0).r2, .int .i64 (kl t 1 (i + 1) run ep 0 0 0 (cc + i) 0).r3, .int .i64 (kl t 1 (i + 1) run ep 0 0 0 (cc + i) 0).r4, .int .i64 (kl t 1 (i + 1) run ep 0 0 0 (cc + i) 0).r5], .int .i64 0, .int .i64 v] W fun e w' => ∃ (L' : Ld) (A' : Option Addr) (c' : Nat), e = .returned (.tuple #[.agg #[.slice A' 1 c', .int .i64 L'.r0, .int .i64 L'.r1, .int .i64 L'.r2, .int .i64 L'.r3, .int .i64 L'.r4, .int .i64 L'.r5], .int .i64 0]) ∧ EnSt t (i + 1) (cc + i) L' ∧ L'.ok = true ∧ Rs w' (some w.heap.size) 10 Tk.vals A' L'.tks ∧ Fr w8 w' (fun b => b = w.heap.size) ∧ Below W.heap.size W w' := by
              intro W hW v hv
              refine (en_fail_any W (some w.heap.size) (some ⟨g, 0, none⟩) d' t i run ep (cc + i) v hi4 hv (HR8.out.tape hW) HKi.out (fun x hx => Nat.lt_of_lt_of_le (hav8 x hx) hW.size)).mono ?_
              rintro e w' ⟨L', A', c', h1, h2, h3, h4, h5⟩
              exact ⟨L', A', c', h1, h2, h3, h4, hW.below_ h5, h5⟩
            have HCF := hide cF
            clear cP cF cP2
            have hneT : ¬ w5.heap.size = w.heap.size := by omega
            have hneT2 : ¬ w2.heap.size = w.heap.size := by omega
            have hne25 : ¬ w2.heap.size = w5.heap.size := by omega
            have k8 := (C7.of HS8.out).2
            have k8d := (C7.of (HS8.out.fr (Fr.refl w8 (fun _ => False)).drew (fun h => h))).2
            have k8a := (C7.of (HS8.out.fr ((Fr.refl w8 (fun _ => False)).alloc (.cells #[.int .i64 4, .int .i64 5] 3)) (fun h => h))).2
            have k8da := (C7.of (HS8.out.fr ((Fr.refl w8 (fun _ => False)).alloc (.cells #[.int .i64 4, .int .i64 5] 3)).drew (fun h => h))).2
            have k8b := (C7.of (HS8.out.fr ((Fr.refl w8 (fun _ => False)).drew.alloc (.cells #[.int .i64 4, .int .i64 5] 3)) (fun h => h))).2
            clear HT0 HT1 HF1 HT2 HF2 HR2 HS2 HT3 HF3 HR3 HT HF HE HK HS HR HO HOO HOL HKj
            go_upto_region 23 with (fail)
            go_region_held3 (fun W => (W.cell? ⟨w2.heap.size, 0, none⟩ = some (.slice (some ⟨g, 0, none⟩) 1 d') ∧ W.cell? ⟨w2.heap.size, 1, none⟩ = some (.int .i64 (kl t 1 (i + 1) run ep 0 0 0 (cc + i) 0).r0) ∧ W.cell? ⟨w2.heap.size, 2, none⟩ = some (.int .i64 (kl t 1 (i + 1) run ep 0 0 0 (cc + i) 0).r1) ∧ W.cell? ⟨w2.heap.size, 3, none⟩ = some (.int .i64 (kl t 1 (i + 1) run ep 0 0 0 (cc + i) 0).r2) ∧ W.cell? ⟨w2.heap.size, 4, none⟩ = some (.int .i64 (kl t 1 (i + 1) run ep 0 0 0 (cc + i) 0).r3) ∧ W.cell? ⟨w2.heap.size, 5, none⟩ = some (.int .i64 (kl t 1 (i + 1) run ep 0 0 0 (cc + i) 0).r4) ∧ W.cell? ⟨w2.heap.size, 6, none⟩ = some (.int .i64 (kl t 1 (i + 1) run ep 0 0 0 (cc + i) 0).r5))) (first | with_reducible exact kS | with_reducible exact kFd | with_reducible exact kF | with_reducible exact kPd | with_reducible exact kP | with_reducible exact k8d | with_reducible exact k8a | with_reducible exact k8da | with_reducible exact k8b | with_reducible exact k8) (first | ((go_at_call 23; (first | (refine Calls.mono (HCP.out _ (by (repeat' first | exact Fr.refl _ _ | refine Fr.drew ?_ | refine Fr.alloc ?_ _))) ?_) | (refine Calls.mono (HCP2.out _ (by (repeat' first | exact Fr.refl _ _ | refine Fr.drew ?_ | refine Fr.alloc ?_ _))) ?_)); rintro e wp ⟨⟨v, hv, rfl⟩, htP, hfP⟩; have kP := (C7.of (HS8.out.fr hfP hneT2)).2; have kPd := (C7.of (HS8.out.fr hfP.drew hneT2)).2)) | ((go_at_call 22; (first | (refine Calls.mono (HCF.out _ hfP v hv) ?_) | (refine Calls.mono (HCF.out _ hfP.drew v hv) ?_)); rintro e w9 ⟨L9, B9, d9, rfl, he9', hk9, hr9, hfF, hb9⟩; obtain ⟨gl9, tt, gt, -⟩ := HB8.out.fr hfF hneT; simp only [LDV] at tt; obtain ⟨t0, t1, t2, t3, t4, t5, t6⟩ := tt; have kF := (C7.of (HS8.out.fr hfF hneT2)).2; have kFd := (C7.of (HS8.out.fr hfF.drew hneT2)).2; have kS := (show C7 (World.setCell (World.setCell (World.setCell (World.setCell (World.setCell (World.setCell (World.setCell w9 ⟨w5.heap.size, 0, none⟩ (.slice B9 1 d9)) ⟨w5.heap.size, 1, none⟩ (.int .i64 L9.r0)) ⟨w5.heap.size, 2, none⟩ (.int .i64 L9.r1)) ⟨w5.heap.size, 3, none⟩ (.int .i64 L9.r2)) ⟨w5.heap.size, 4, none⟩ (.int .i64 L9.r3)) ⟨w5.heap.size, 5, none⟩ (.int .i64 L9.r4)) ⟨w5.heap.size, 6, none⟩ (.int .i64 L9.r5)) w2.heap.size (some ⟨g, 0, none⟩) d' (kl t 1 (i + 1) run ep 0 0 0 (cc + i) 0) from C7.of ((HS8.out.fr hfF hneT2).fr fr_put7 hne25)).2)))
            have HB9 := hide (HB8.out.fr hfF hneT)
            have HS9 := hide (HS8.out.fr hfF hneT2)
            have HT9 := hide (show TapeAt w9 w.heap.size A n c l (a2 + 2 + 1 + 1 + 1) from by first | exact htP.below hb9 | exact htP.drew.below hb9)
            have HR9 := hide hr9
            have HE9 := hide he9'
            have HK9 := hide hk9
            have HO9 := hide (own_fr HO8.out hfF (own_ne HO8.out (by omega)))
            have HF9 := hide (HF8.out.step hfF (fun i hi h => by omega))
            have g9a := hfF.size
            clear he9' hk9 hr9 hb9 hfF kF kFd kS kP kPd k8 k8d k8a k8da k8b hfP htP t0 t1 t2 t3 t4 t5 t6 gt gl9 HCP HCP2 HCF HS8 HB8 HT8 HR8 HO8 HF8
            clear p0 p1 p2 p3 p4 p5 p6 gp gl8
            generalize hW : World.setCell (World.setCell (World.setCell (World.setCell (World.setCell (World.setCell (World.setCell w9 _ _) _ _) _ _) _ _) _ _) _ _) _ _ = va
            obtain ⟨hs, hf⟩ : B7 va w5.heap.size (LDV B9 1 d9 L9) ∧ Fr w9 va (fun i => i = w5.heap.size) := by
              rw [← hW]
              have hh := And.intro (HB9.out.put (LDV B9 1 d9 L9)) (fr_put7 (w := w9) (b := w5.heap.size) (v0 := (LDV B9 1 d9 L9).v0) (v1 := (LDV B9 1 d9 L9).v1) (v2 := (LDV B9 1 d9 L9).v2) (v3 := (LDV B9 1 d9 L9).v3) (v4 := (LDV B9 1 d9 L9).v4) (v5 := (LDV B9 1 d9 L9).v5) (v6 := (LDV B9 1 d9 L9).v6))
              simp only [put7, LDV] at hh ⊢
              exact hh
            clear hW
            have HBa := hide hs
            have HTa := hide (HT9.out.fr hf (by omega) (fun b o hA hl h => by have := HOA.out hl b o hA; omega))
            have HSa := hide (HS9.out.fr hf (by omega))
            have HRa := hide (HR9.out.fr hf (fun hl b o hA _ h => rs_not_b7 HR9.out tk_str HB9.out (ldv_no' _ _ _ _) hl b o hA h))
            have HOa := hide (own_fr HO9.out hf (fun k hk h => HN7.out k hk h))
            have HFa := hide (HF9.out.step hf (fun i hi h => by omega))
            have gaa := hf.size
            clear hs hf HT9 HS9 HR9 HB9 HO9 HF9
            obtain ⟨gla, q, gq, -⟩ := HBa.out
            simp only [LDV] at q
            obtain ⟨q0, q1, q2, q3, q4, q5, q6⟩ := q
            obtain ⟨gls, p, gp, -⟩ := HSa.out
            simp only [LDV] at p
            obtain ⟨p0, p1, p2, p3, p4, p5, p6⟩ := p
            go_upto_region 29 with (fail)
            generalize hW : World.setCell (World.setCell (World.setCell (World.setCell (World.setCell (World.setCell (World.setCell va _ _) _ _) _ _) _ _) _ _) _ _) _ _ = vb
            obtain ⟨hs, hf⟩ : B7 vb w2.heap.size (LDV B9 1 d9 L9) ∧ Fr va vb (fun i => i = w2.heap.size) := by
              rw [← hW]
              have hh := And.intro (HSa.out.put (LDV B9 1 d9 L9)) (fr_put7 (w := va) (b := w2.heap.size) (v0 := (LDV B9 1 d9 L9).v0) (v1 := (LDV B9 1 d9 L9).v1) (v2 := (LDV B9 1 d9 L9).v2) (v3 := (LDV B9 1 d9 L9).v3) (v4 := (LDV B9 1 d9 L9).v4) (v5 := (LDV B9 1 d9 L9).v5) (v6 := (LDV B9 1 d9 L9).v6))
              simp only [put7, LDV] at hh ⊢
              exact hh
            clear hW
            have HBb := hide (HBa.out.fr hf (by omega))
            have HTb := hide (HTa.out.fr hf (by omega) (fun b o hA hl h => by have := HOA.out hl b o hA; omega))
            have HSb := hide hs
            have HRb := hide (HRa.out.fr hf (fun hl b o hA _ h => rs_not_b7 HRa.out tk_str HSa.out (ldv_no' _ _ _ _) hl b o hA h))
            have HOb := hide (own_fr HOa.out hf (own_ne HOa.out (by omega)))
            have HFb := hide (HFa.out.step hf (fun i hi h => by omega))
            have gbb := hf.size
            clear hs hf q0 q1 q2 q3 q4 q5 q6 gq gla p0 p1 p2 p3 p4 p5 p6 gp gls HTa HSa HBa HRa HOa HFa
            go_wp2_with fail
            go_roundw
            case rel =>
              refine ⟨i + 1, L9, B9, A2, d9, c2, a2 + 2 + 1 + 1 + 1, _, cc + i, by omega, by go_num, rfl, by omega, HE9, HK9, by omega, by omega, hOL, hOO, HSb, HRb, HOb, HTb, by omega, HFb, by omega⟩
            case measure => simp [intOf]; omega

    · -- DONE
      have hi4' : i = 4 := by omega
      have hle2 : decide ((i : Int) + 1 ≤ 4) = false := by simp; omega
      rcases HE.out with ⟨h4, -⟩ | ⟨-, run, ep, o, rfl, ho⟩
      case inl => omega
      have gT : w.heap.size < wo.heap.size := HT.out.1
      have g6 : w2.heap.size < wo.heap.size := HS.out.1
      have hav : ∀ x, some w.heap.size = some x → x < wo.heap.size := by intro x hx; injection hx with hx; omega
      obtain ⟨p, hp⟩ : ∃ p, olds[3]? = some p := ⟨_, List.getElem?_eq_getElem (by have := HOL.out; omega)⟩
      obtain ⟨ph1, ph2, ph3⟩ := HOO.out 3 p hp
      have hpo : repB p.out = true := by simp [reportOk] at ph1; exact ph1.2
      have hq : o ≠ p.out ∧ repB o = false := by simp [repB] at hpo ⊢; omega
      have PH := hide (And.intro ph1 (And.intro ph2 hq))
      clear ph1 ph2 ph3 hpo hq
      obtain ⟨gl, q, gp, -⟩ := HS.out
      simp only [LDV] at q
      obtain ⟨l0, l1, l2, l3, l4, l5, l6⟩ := q
      clear HT1 HF1 HT2 HF2 HR2 HS2 HT3 HF3 HR3 HE HOO
      have c1 := begin_any wo (some w.heap.size) B d 1 _ HR.out rfl (by omega) 0 0 1 hav
      rw [en_last HK.out] at c1
      go_wp2_with fail
      refine c1.mono ?_
      rintro e w3 ⟨B3, d3, rfl, hr3, hb3⟩
      have HS3 := hide (HS.out.fr (Fr.of_below (fun _ => False) hb3) (fun h => h))
      have HR3 := hide (HR.out.below hb3)
      have HO3 := hide (own_below HO.out hb3)
      have HF3 := hide (HF.out.below_ hb3)
      have g3 := hb3.size
      have hav3 : ∀ x, some w.heap.size = some x → x < w3.heap.size := by intro x hx; injection hx with hx; omega
      clear hr3 hb3 c1 l0 l1 l2 l3 l4 l5 l6 gl gp HT
      obtain ⟨b, o', rfl, hbn, hbl, hbc⟩ := (Rs.of_own (av := some w.heap.size) HO3.out rpv_len HOL.out (by intro x hx; injection hx with hx; omega)).at hp
      have f0 : w3.cell? ⟨b, o' + 15, none⟩ = some (.int .i64 p.tick) := hbc 0 _ rfl
      have f1 : w3.cell? ⟨b, o' + 15 + 1, none⟩ = some (.int .i64 p.att) := hbc 1 _ rfl
      have f2 : w3.cell? ⟨b, o' + 15 + 2, none⟩ = some (.int .i64 p.run) := hbc 2 _ rfl
      have f3 : w3.cell? ⟨b, o' + 15 + 3, none⟩ = some (.int .i64 p.ep) := hbc 3 _ rfl
      have f4 : w3.cell? ⟨b, o' + 15 + 4, none⟩ = some (.int .i64 p.out) := hbc 4 _ rfl
      obtain ⟨gl, q, gp, -⟩ := HS3.out
      simp only [LDV] at q
      obtain ⟨l0, l1, l2, l3, l4, l5, l6⟩ := q
      have cT : ∀ W : World, Fr w3 W (fun _ => False) → Calls Try.prog 18 #[.agg #[.slice B 1 d, .int .i64 (kl t 2 4 run ep o 0 0 cc 0).r0, .int .i64 (kl t 2 4 run ep o 0 0 cc 0).r1, .int .i64 (kl t 2 4 run ep o 0 0 cc 0).r2, .int .i64 (kl t 2 4 run ep o 0 0 cc 0).r3, .int .i64 (kl t 2 4 run ep o 0 0 cc 0).r4, .int .i64 (kl t 2 4 run ep o 0 0 cc 0).r5], .agg #[.int .i64 p.tick, .int .i64 p.att, .int .i64 p.run, .int .i64 p.ep, .int .i64 p.out]] W fun e w' => ∃ g c', e = .returned (.tuple #[.agg #[.slice (some ⟨g, 0, none⟩) 1 c', .int .i64 (kl t 2 4 run ep o 0 0 (cc + 1) 0).r0, .int .i64 (kl t 2 4 run ep o 0 0 (cc + 1) 0).r1, .int .i64 (kl t 2 4 run ep o 0 0 (cc + 1) 0).r2, .int .i64 (kl t 2 4 run ep o 0 0 (cc + 1) 0).r3, .int .i64 (kl t 2 4 run ep o 0 0 (cc + 1) 0).r4, .int .i64 (kl t 2 4 run ep o 0 0 (cc + 1) 0).r5], .int .i64 3, .int .i64 0]) ∧ Below W.heap.size W w' := by
        intro W hW
        refine (en_take_any W (some w.heap.size) B d t 2 4 run ep o cc p (HR3.out.fr hW (fun _ _ _ _ _ h => h)) HK.out PH.out.1 PH.out.2.1 (.inr ⟨rfl, PH.out.2.2.1, PH.out.2.2.2⟩) (by omega) (fun x hx => Nat.lt_of_lt_of_le (hav3 x hx) hW.size)).mono ?_
        rintro e w' ⟨g, c', h1, -, -, h2⟩
        exact ⟨g, c', h1, h2⟩
      have HCT := hide cT
      clear cT hbc hbn
      have hwi : IntKind.i64.wrap ((i : Int) - 1) = 3 := by rw [hi4']; exact IntWalk.i64_in _ (by omega)
      have hi3 : (3 : Int) < (i : Int) := by omega
      go_upto_region 32 with (fail)
      go_cut [22, 23] from 136 to 166 (fun p q wx => p = .int .i64 3 ∧ q = .int .i64 0 ∧ Hid (Fr w3 wx (fun _ => False)))
      case first =>
        clear HT0 HOA HTK HOL HF HK HR HO HS HO3 HF3 HS3
        go_region_with
          (first
            | (go_at_call 18; refine Calls.mono (HCT.out _ (by (repeat' first | exact Fr.refl _ _ | refine Fr.drew ?_ | refine Fr.alloc ?_ _))) ?_; rintro e w8 ⟨g8, d8, rfl, hb8⟩; obtain ⟨hc8, hf8⟩ := bcell hb8; have z0 := hc8 w3.heap.size 0; have z1 := hc8 w3.heap.size 1; have z2 := hc8 w3.heap.size 2; have z3 := hc8 w3.heap.size 3; have z4 := hc8 w3.heap.size 4; have z5 := hc8 w3.heap.size 5; have z6 := hc8 w3.heap.size 6; have zf := fun j => hf8 w3.heap.size j; simp [go_sem] at z0 z1 z2 z3 z4 z5 z6 zf; have HB8 := hide hb8; clear hb8 hc8 hf8))
        all_goals
          go_wp2_with fail
          go_meet
          case rel =>
            first
            | (refine ⟨rfl, rfl, hide ?_⟩
               iterate 7 (refine Fr.setCell ?_ (Or.inl (Nat.le_refl _)) _)
               exact ((Fr.refl w3 _).alloc _).drew.below_ HB8.out)
            | exact ⟨rfl, rfl, hide (((Fr.refl w3 _).drew.below_ HB8.out).alloc _)⟩
      case rest =>
        obtain ⟨rfl, rfl, hF4⟩ := hcut
        obtain ⟨w4, hwc⟩ : ∃ w4, w4 = wc := ⟨wc, rfl⟩
        subst hwc
        have HS4 := hide (HS3.out.fr hF4.out (fun h => h))
        have HR4 := hide (HR3.out.fr hF4.out (fun _ _ _ _ _ h => h))
        have HF4 := hide (HF3.out.step hF4.out (fun _ _ h => h.elim))
        have g4 := hF4.out.size
        have hav4 : ∀ x, some w.heap.size = some x → x < w4.heap.size := by intro x hx; injection hx with hx; omega
        clear l0 l1 l2 l3 l4 l5 l6 gl gp f0 f1 f2 f3 f4
        obtain ⟨gl, q, gp, -⟩ := HS4.out
        simp only [LDV] at q
        obtain ⟨l0, l1, l2, l3, l4, l5, l6⟩ := q
        have c1 := open_ok w4 (some w.heap.size) B d 1 _ HR4.out rfl (by omega) HK.out hav4
        rw [show (idxs notDone (kl t 2 4 run ep o 0 0 cc 0).tks 0).length = 0 from rfl] at c1
        go_wp2_with (first
          | (go_at_call 25; refine c1.mono ?_; rintro e w5 ⟨⟨A5, c5, rfl, -⟩, hb5⟩)
          | (go_at_call 12; refine (known_any _).mono ?_; rintro e w6 ⟨rfl, hb6⟩))
        refine bodyPost_ret (v := .bool true) (by simp [results, Try.results6, go_sem, *]) rfl ⟨rfl, ?_⟩
        exact Fr.below (S := fun _ => False) ((HF4.out.below_ hb5).below_ hb6) (Nat.le_refl _) (fun _ _ h => h)

end Go.Proofs.Ytjhkgoengoiljaa
