/- The walk of the law on a report that comes again. -/
import Derived.Test.YtjhkgoengoiljaaG25
import Derived.Test.YtjhkgoengoiljaaG22
import Derived.Test.YtjhkgoengoiljaaG23
set_option linter.unusedVariables false
set_option linter.unusedSimpArgs false

/- A report that comes again; a ticket that is begun again after each loss: plain data alone. -/
namespace Go.Proofs.Ytjhkgoengoiljaa

theorem reach_sum {j : Nat} {X : Ld} (h : Reach j X) : X.sum ≤ j ∧ X.tks.length ≤ j := by
  induction h with
  | zero => exact ⟨by simp [Ld.nil, Ld.sum], Nat.le_refl _⟩
  | step hr hs ih =>
    rename_i n L X
    have h1 := step_mono hr.ok hs
    refine ⟨by have := h1.2.2.2; omega, ?_⟩
    rcases hs with rfl | ⟨t, rev, _, h, rfl⟩ | ⟨k, r, e, h, rfl⟩ | ⟨p, h, rfl⟩ | ⟨k, o, h, rfl⟩ | ⟨r, e, _, rfl⟩ | ⟨k, h, rfl⟩
    · omega
    · have := plan_len L t rev; omega
    · have := begin_len L k r e; omega
    · have := take_len L p; omega
    · have := fail_len L k o; omega
    · have := lose_len L r e; omega
    · have := cancel_len L k; omega
theorem rep_le_sum {L : Ld} (h : L.ok = true) (k : Int) : L.rep k ≤ L.sum := by
  have := (reps_iff L).1 ((ok_iff L).1 h).2.1
  unfold Ld.rep Ld.sum
  repeat' split
  all_goals omega

/-- The ticket of the law: planned, begun, done. -/
def tt (t : Tk) (st att run ep out : Int) : Tk := { t with rev := 3, st := st, att := att, run := run, ep := ep, out := out }
def tl (X : Ld) (t : Tk) (st att run ep out : Int) : Ld := { X with tks := X.tks ++ [tt t st att run ep out] }
theorem tl_len (X : Ld) (t : Tk) (st att run ep out : Int) : (tl X t st att run ep out).tks.length = X.tks.length + 1 := by simp [tl]
theorem tl_get (X : Ld) (t : Tk) (st att run ep out : Int) : (tl X t st att run ep out).get? (X.tks.length : Nat) = some (tt t st att run ep out) := by
  have : (X.tks.length : Int) < (X.tks.length : Int) + 1 := by omega
  simp [tl, Ld.get?, this]
theorem tl_put (X : Ld) (t u : Tk) (st att run ep out : Int) : (tl X t st att run ep out).put (X.tks.length : Nat) u = { X with tks := X.tks ++ [u] } := by
  simp [tl, Ld.put]

theorem tw_plan {X : Ld} {t : Tk} (hok : X.ok = true) (ht : taskOk t = true) (hl : X.tks.length < 128) : X.plan t 3 = (tl X t 0 0 0 0 0, (X.tks.length : Int), 0) := by
  have h2 : revB 3 = true := by decide
  unfold Ld.plan
  rw [if_neg (by simp [hok, ht]), if_neg (by simp [h2]), if_neg (by omega)]
  rfl
theorem tw_ok1 {X : Ld} {t : Tk} (hok : X.ok = true) (ht : taskOk t = true) (hl : X.tks.length < 128) : (tl X t 0 0 0 0 0).ok = true := by
  have := plan_ok' (L := X) (t := t) (rev := 3) hok (by rw [tw_plan hok ht hl])
  rwa [tw_plan hok ht hl] at this
theorem tw_begin {X : Ld} {t : Tk} (hok : X.ok = true) (ht : taskOk t = true) (hl : X.tks.length < 128) : (tl X t 0 0 0 0 0).begin (X.tks.length : Nat) 4 7 = (tl X t 1 1 4 7 0, 1, 0) := by
  unfold Ld.begin
  rw [if_neg (by simp [tw_ok1 hok ht hl]), tl_get]
  simp only [tl_put]
  rfl
theorem tw_ok2 {X : Ld} {t : Tk} (hok : X.ok = true) (ht : taskOk t = true) (hl : X.tks.length < 128) : (tl X t 1 1 4 7 0).ok = true := by
  have := begin_ok' (k := (X.tks.length : Nat)) (r := 4) (e := 7) (tw_ok1 hok ht hl) (by rw [tw_begin hok ht hl])
  rwa [tw_begin hok ht hl] at this
theorem rp_ok {m : Nat} {e o : Int} (hm : m < 128) (he : 1 ≤ e ∧ e ≤ 7) (ho : 1 ≤ o ∧ o ≤ 3) : reportOk ⟨m, 1, 4, e, o⟩ = true := by
  simp [reportOk, ranB, repB]
  omega
theorem tw_take {X : Ld} {t : Tk} {o : Int} (hok : X.ok = true) (ht : taskOk t = true) (hl : X.tks.length < 128) (hs : X.sum ≤ 1000) (ho : 1 ≤ o ∧ o ≤ 3) :
    (tl X t 1 1 4 7 0).take ⟨(X.tks.length : Nat), 1, 4, 7, o⟩ = ({ tl X t 2 1 4 7 o with r1 := X.r1 + 1 }, 1, 0) := by
  have hk : (tl X t 1 1 4 7 0).kind ⟨(X.tks.length : Nat), 1, 4, 7, o⟩ = 1 := by
    unfold Ld.kind
    rw [tl_get]
    simp [kindOf, tt, sameB]
  have hr : (tl X t 1 1 4 7 0).rep 1 ≤ X.sum := rep_le_sum (tw_ok2 hok ht hl) 1
  unfold Ld.take
  rw [hk, if_neg (by simp [tw_ok2 hok ht hl, rp_ok hl (show 1 ≤ (7 : Int) ∧ (7 : Int) ≤ 7 by omega) ho]), if_neg (by omega), if_pos rfl]
  have : (X.tks.length : Int) < (X.tks.length : Int) + 1 := by omega
  simp [Ld.accept, Ld.count, Ld.get?, Ld.put, tl, tt, this]
theorem tw_ok3 {X : Ld} {t : Tk} {o : Int} (hok : X.ok = true) (ht : taskOk t = true) (hl : X.tks.length < 128) (hs : X.sum ≤ 1000) (ho : 1 ≤ o ∧ o ≤ 3) :
    ({ tl X t 2 1 4 7 o with r1 := X.r1 + 1 } : Ld).ok = true := by
  have := take_ok' (p := ⟨(X.tks.length : Nat), 1, 4, 7, o⟩) (tw_ok2 hok ht hl) (by rw [tw_take hok ht hl hs ho])
  rwa [tw_take hok ht hl hs ho] at this
theorem tw_again {X Y : Ld} {t : Tk} {o e o' : Int} (hok : Y.ok = true) (hY : Y.tks = X.tks ++ [tt t 2 1 4 7 o]) (hl : X.tks.length < 128) (hs : Y.sum ≤ 1000) (ho : 1 ≤ o ∧ o ≤ 3) (he : 1 ≤ e ∧ e ≤ 7) (ho' : 1 ≤ o' ∧ o' ≤ 3) :
    Y.take ⟨(X.tks.length : Nat), 1, 4, e, o'⟩ = (Y.count (if e ≠ 7 then 3 else if o' = o then 2 else 5), (if e ≠ 7 then 3 else if o' = o then 2 else 5), 0) := by
  have hk : Y.kind ⟨(X.tks.length : Nat), 1, 4, e, o'⟩ = (if e ≠ 7 then 3 else if o' = o then 2 else 5) := by
    unfold Ld.kind
    have : Y.get? (X.tks.length : Nat) = some (tt t 2 1 4 7 o) := by
      have : (X.tks.length : Int) < (X.tks.length : Int) + 1 := by omega
      simp [Ld.get?, hY, this]
    rw [this]
    have hrep : repB o = true := by simp [repB]; omega
    by_cases h7 : e = 7
    · subst h7
      by_cases hoo : o' = o
      · subst hoo; simp [kindOf, tt, sameB]
      · have : ¬ o = o' := fun h => hoo h.symm
        simp [kindOf, tt, sameB, hoo, this, hrep]
    · have : ¬ (7 : Int) = e := fun h => h7 h.symm
      simp [kindOf, tt, sameB, h7, this]
  have hk1 : (if e ≠ 7 then 3 else if o' = o then 2 else 5 : Int) ≠ 1 := by repeat' split <;> omega
  have hr := rep_le_sum hok (if e ≠ 7 then 3 else if o' = o then 2 else 5)
  unfold Ld.take
  rw [hk, if_neg (by simp [hok, rp_ok hl he ho']), if_neg (by omega), if_neg hk1]
theorem tw_sum1 {X : Ld} {t : Tk} {o : Int} : ({ tl X t 2 1 4 7 o with r1 := X.r1 + 1 } : Ld).sum = X.sum + 1 := by simp [tl, Ld.sum]; omega

/-- The law's one ticket, begun and lost: c stale reports so far. -/
theorem en_begin {t : Tk} {i run ep c : Int} (hok : (kl t 0 i 0 0 0 0 0 c 0).ok = true) (hr : 0 ≤ run ∧ run < 8) (he : 1 ≤ ep ∧ ep ≤ 9) :
    (kl t 0 i 0 0 0 0 0 c 0).begin 0 run ep = (kl t 1 (i + 1) run ep 0 0 0 c 0, i + 1, 0) := by
  have h1 : ranB 1 run ep = true := by simp [ranB]; omega
  unfold Ld.begin
  rw [if_neg (by simp [hok])]
  simp [Ld.get?, kl, kt, h1, Ld.put]
theorem en_begin_ok {t : Tk} {i run ep c : Int} (hok : (kl t 0 i 0 0 0 0 0 c 0).ok = true) (hr : 0 ≤ run ∧ run < 8) (he : 1 ≤ ep ∧ ep ≤ 9) : (kl t 1 (i + 1) run ep 0 0 0 c 0).ok = true := by
  have := begin_ok' (k := 0) (r := run) (e := ep) hok (by rw [en_begin hok hr he])
  rwa [en_begin hok hr he] at this
theorem en_take {t : Tk} {st i run ep out c : Int} {p : Rp} (hok : (kl t st i run ep out 0 0 c 0).ok = true) (hp : reportOk p = true) (h0 : p.tick = 0) (hk : p.att ≠ i ∨ (st = 2 ∧ out ≠ p.out ∧ repB out = false)) (hc : c ≤ 1000) :
    (kl t st i run ep out 0 0 c 0).take p = (kl t st i run ep out 0 0 (c + 1) 0, 3, 0) := by
  have hkd : (kl t st i run ep out 0 0 c 0).kind p = 3 := by
    unfold Ld.kind
    have : (kl t st i run ep out 0 0 c 0).get? p.tick = some (kt t st i run ep out) := by simp [Ld.get?, kl, h0]
    rw [this]
    rcases hk with hk | ⟨rfl, h2, h3⟩
    · have : ¬ i = p.att := fun h => hk h.symm
      simp [kindOf, kt, sameB, this]
    · simp [kindOf, kt, h2, h3]
  unfold Ld.take
  rw [hkd, if_neg (by simp [hok, hp]), if_neg (by simp [Ld.rep, kl]; omega), if_neg (by omega)]
  simp [Ld.count, kl]
theorem en_take_ok {t : Tk} {st i run ep out c : Int} {p : Rp} (hok : (kl t st i run ep out 0 0 c 0).ok = true) (hp : reportOk p = true) (h0 : p.tick = 0) (hk : p.att ≠ i ∨ (st = 2 ∧ out ≠ p.out ∧ repB out = false)) (hc : c ≤ 1000) :
    (kl t st i run ep out 0 0 (c + 1) 0).ok = true := by
  have := take_ok' (p := p) hok (by rw [en_take hok hp h0 hk hc])
  rwa [en_take hok hp h0 hk hc] at this
theorem en_fail {t : Tk} {i run ep c o : Int} (hok : (kl t 1 i run ep 0 0 0 c 0).ok = true) (ho : o = 4 ∨ o = 5) :
    (kl t 1 i run ep 0 0 0 c 0).fail 0 o = (if i = 4 then kl t 2 i run ep o 0 0 c 0 else kl t 0 i 0 0 0 0 0 c 0, 0) := by
  unfold Ld.fail
  rw [if_neg (by simp [hok])]
  have : ¬ (o ≠ 4 ∧ o ≠ 5) := by omega
  simp only [Ld.get?, kl, List.length_cons, List.length_nil]
  by_cases h4 : i = 4
  · simp [kt, h4, this, Ld.put, Tk.failed]
  · simp [kt, h4, this, Ld.put, Tk.failed]
theorem en_lose {t : Tk} {i run ep c : Int} (hok : (kl t 1 i run ep 0 0 0 c 0).ok = true) :
    (kl t 1 i run ep 0 0 0 c 0).lose run ep = (if i = 4 then kl t 2 i run ep 5 0 0 c 0 else kl t 0 i 0 0 0 0 0 c 0, [0], 0) := by
  unfold Ld.lose
  rw [if_neg (by simp [hok])]
  by_cases h4 : i = 4
  · simp [kl, kt, h4, Tk.failed, loseTk, isOn, idxs]
  · simp [kl, kt, h4, Tk.failed, loseTk, isOn, idxs]
theorem en_fail_ok {t : Tk} {i run ep c o : Int} (hok : (kl t 1 i run ep 0 0 0 c 0).ok = true) (ho : o = 4 ∨ o = 5) :
    (if i = 4 then kl t 2 i run ep o 0 0 c 0 else kl t 0 i 0 0 0 0 0 c 0).ok = true := by
  have := fail_ok' (k := 0) (o := o) hok (by rw [en_fail hok ho])
  rwa [en_fail hok ho] at this
theorem en_last {t : Tk} {i run ep out c : Int} (hok : (kl t 2 i run ep out 0 0 c 0).ok = true) : (kl t 2 i run ep out 0 0 c 0).begin 0 0 1 = (.nil, 0, 45) := by
  have h1 : ranB 1 0 1 = true := by decide
  unfold Ld.begin
  rw [if_neg (by simp [hok])]
  simp [Ld.get?, kl, kt, h1]

end Go.Proofs.Ytjhkgoengoiljaa

/- The walk of the law on a report that comes again. -/
namespace Go.Proofs.Ytjhkgoengoiljaa
open Go.RowKit

/-- The law's plan. -/
theorem tw_plan_any (w : World) (av : Option Nat) (A : Option Addr) (c n : Nat) (X : Ld) (hR : Rs w av 10 Tk.vals A X.tks) (hn : X.tks.length = n) (h70 : n ≤ 70) (t : Tk) (ht : taskOk t = true) (hok : X.ok = true) (hav : ∀ x, av = some x → x < w.heap.size) :
    Calls Try.prog 15 #[.agg #[.slice A n c, .int .i64 X.r0, .int .i64 X.r1, .int .i64 X.r2, .int .i64 X.r3, .int .i64 X.r4, .int .i64 X.r5], .agg #[.string t.pk, .string t.ts, .int .i64 t.env, .int .i64 t.cost], .int .i64 3] w fun e w' => ∃ A' c', e = .returned (.tuple #[.agg #[.slice A' (n + 1) c', .int .i64 (tl X t 0 0 0 0 0).r0, .int .i64 (tl X t 0 0 0 0 0).r1, .int .i64 (tl X t 0 0 0 0 0).r2, .int .i64 (tl X t 0 0 0 0 0).r3, .int .i64 (tl X t 0 0 0 0 0).r4, .int .i64 (tl X t 0 0 0 0 0).r5], .int .i64 n, .int .i64 0]) ∧ Rs w' av 10 Tk.vals A' (tl X t 0 0 0 0 0).tks ∧ Below w.heap.size w w' := by
  have c1 := plan_any w av A c n X hR hn (by omega) t 3 hav
  rw [tw_plan hok ht (by omega)] at c1
  simp only [tl_len, hn] at c1
  exact c1

/-- The law's begin. -/
theorem tw_begin_any (w : World) (av : Option Nat) (A : Option Addr) (c n : Nat) (X : Ld) {t : Tk} (hR : Rs w av 10 Tk.vals A (tl X t 0 0 0 0 0).tks) (hn : X.tks.length = n) (h70 : n ≤ 70) (t' : Tk) (ht : taskOk t = true) (hok : X.ok = true) (hav : ∀ x, av = some x → x < w.heap.size) :
    Calls Try.prog 17 #[.agg #[.slice A (n + 1) c, .int .i64 (tl X t 0 0 0 0 0).r0, .int .i64 (tl X t 0 0 0 0 0).r1, .int .i64 (tl X t 0 0 0 0 0).r2, .int .i64 (tl X t 0 0 0 0 0).r3, .int .i64 (tl X t 0 0 0 0 0).r4, .int .i64 (tl X t 0 0 0 0 0).r5], .int .i64 n, .int .i64 4, .int .i64 7] w fun e w' => ∃ A' c', e = .returned (.tuple #[.agg #[.slice A' (n + 1) c', .int .i64 (tl X t 1 1 4 7 0).r0, .int .i64 (tl X t 1 1 4 7 0).r1, .int .i64 (tl X t 1 1 4 7 0).r2, .int .i64 (tl X t 1 1 4 7 0).r3, .int .i64 (tl X t 1 1 4 7 0).r4, .int .i64 (tl X t 1 1 4 7 0).r5], .int .i64 1, .int .i64 0]) ∧ Rs w' av 10 Tk.vals A' (tl X t 1 1 4 7 0).tks ∧ Below w.heap.size w w' := by
  have c1 := begin_any w av A c (n + 1) (tl X t 0 0 0 0 0) hR (by rw [tl_len, hn]) (by omega) n 4 7 hav
  have e := tw_begin hok ht (by omega : X.tks.length < 128)
  rw [hn] at e
  rw [e] at c1
  simp only [tl_len, hn] at c1
  exact c1

/-- The ledger after the law's first report. -/
def t3 (X : Ld) (t : Tk) (o : Int) : Ld := { tl X t 2 1 4 7 o with r1 := X.r1 + 1 }
theorem t3_sum (X : Ld) (t : Tk) (o : Int) : (t3 X t o).sum = X.sum + 1 := tw_sum1
theorem t3_len (X : Ld) (t : Tk) (o : Int) : (t3 X t o).tks.length = X.tks.length + 1 := tl_len _ _ _ _ _ _ _
/-- The law's first report. -/
theorem tw_take_any (w : World) (av : Option Nat) (A : Option Addr) (c n : Nat) (X : Ld) {t : Tk} (hR : Rs w av 10 Tk.vals A (tl X t 1 1 4 7 0).tks) (hn : X.tks.length = n) (h70 : n ≤ 70) (t' : Tk) (o : Int) (ht : taskOk t = true) (hok : X.ok = true) (hs : X.sum ≤ 900) (ho : 1 ≤ o ∧ o ≤ 3) (hav : ∀ x, av = some x → x < w.heap.size) :
    Calls Try.prog 18 #[.agg #[.slice A (n + 1) c, .int .i64 (tl X t 1 1 4 7 0).r0, .int .i64 (tl X t 1 1 4 7 0).r1, .int .i64 (tl X t 1 1 4 7 0).r2, .int .i64 (tl X t 1 1 4 7 0).r3, .int .i64 (tl X t 1 1 4 7 0).r4, .int .i64 (tl X t 1 1 4 7 0).r5], .agg #[.int .i64 n, .int .i64 1, .int .i64 4, .int .i64 7, .int .i64 o]] w fun e w' => ∃ A' c', e = .returned (.tuple #[.agg #[.slice A' (n + 1) c', .int .i64 (t3 X t o).r0, .int .i64 (t3 X t o).r1, .int .i64 (t3 X t o).r2, .int .i64 (t3 X t o).r3, .int .i64 (t3 X t o).r4, .int .i64 (t3 X t o).r5], .int .i64 1, .int .i64 0]) ∧ Rs w' av 10 Tk.vals A' (t3 X t o).tks ∧ Below w.heap.size w w' := by
  have c1 := take_any w av A c (n + 1) (tl X t 1 1 4 7 0) hR (by rw [tl_len, hn]) (by omega) ⟨n, 1, 4, 7, o⟩ hav
  have e := tw_take hok ht (by omega : X.tks.length < 128) (by omega : X.sum ≤ 1000) ho
  rw [hn] at e
  rw [e] at c1
  have e2 := t3_len X t o
  simp only [t3, hn] at e2
  simp only [e2] at c1
  exact c1

theorem rep_put4 {w : World} {g : Nat} {p : Rp} (x : Int) (h : RepAt w g p) : RepAt (w.setCell ⟨g, 4, none⟩ (.int .i64 x)) g { p with out := x } ∧ Fr w (w.setCell ⟨g, 4, none⟩ (.int .i64 x)) (fun i => i = g) := by
  obtain ⟨h0, ⟨h1, h2, h3, h4, h5⟩, h8⟩ := h
  refine ⟨⟨by simpa [World.setCell] using h0, ⟨?_, ?_, ?_, ?_, ?_⟩, fun j => by simp only [World.frozen?_setCell]; exact h8 j⟩, ?_⟩
  · go_simp
  · go_simp
  · go_simp
  · go_simp
  · go_simp
  · refine Fr.setCell ?_ (Or.inr (by rfl)) _
    exact Fr.refl _ _
theorem rep_put3 {w : World} {g : Nat} {p : Rp} (x : Int) (h : RepAt w g p) : RepAt (w.setCell ⟨g, 3, none⟩ (.int .i64 x)) g { p with ep := x } ∧ Fr w (w.setCell ⟨g, 3, none⟩ (.int .i64 x)) (fun i => i = g) := by
  obtain ⟨h0, ⟨h1, h2, h3, h4, h5⟩, h8⟩ := h
  refine ⟨⟨by simpa [World.setCell] using h0, ⟨?_, ?_, ?_, ?_, ?_⟩, fun j => by simp only [World.frozen?_setCell]; exact h8 j⟩, ?_⟩
  · go_simp
  · go_simp
  · go_simp
  · go_simp
  · go_simp
  · refine Fr.setCell ?_ (Or.inr (by rfl)) _
    exact Fr.refl _ _
/-- The reports' counters are set back. -/
theorem put_reps {w : World} {b : Nat} {A : Option Addr} {n d : Nat} {Y X : Ld} (h : B7 w b (LDV A n d Y)) :
    B7 ((((((w.setCell ⟨b, 1, none⟩ (.int .i64 X.r0)).setCell ⟨b, 2, none⟩ (.int .i64 X.r1)).setCell ⟨b, 3, none⟩ (.int .i64 X.r2)).setCell ⟨b, 4, none⟩ (.int .i64 X.r3)).setCell ⟨b, 5, none⟩ (.int .i64 X.r4)).setCell ⟨b, 6, none⟩ (.int .i64 X.r5)) b (LDV A n d X) ∧
    Fr w ((((((w.setCell ⟨b, 1, none⟩ (.int .i64 X.r0)).setCell ⟨b, 2, none⟩ (.int .i64 X.r1)).setCell ⟨b, 3, none⟩ (.int .i64 X.r2)).setCell ⟨b, 4, none⟩ (.int .i64 X.r3)).setCell ⟨b, 5, none⟩ (.int .i64 X.r4)).setCell ⟨b, 6, none⟩ (.int .i64 X.r5)) (fun i => i = b) := by
  refine ⟨?_, ?_⟩
  · obtain ⟨h0, ⟨h1, h2, h3, h4, h5, h6, h7⟩, h8, h9⟩ := h
    simp only [LDV] at h1 h2 h3 h4 h5 h6 h7
    simp only [B7, LDV]
    refine ⟨by simpa [World.setCell] using h0, ⟨?_, ?_, ?_, ?_, ?_, ?_, ?_⟩, fun j => by simp only [World.frozen?_setCell]; exact h8 j, fun j => ?_⟩
    all_goals (go_simp; done)
  · iterate 6 (refine Fr.setCell ?_ (Or.inr (by rfl)) _)
    exact Fr.refl _ _
/-- The law's later reports. -/
theorem tw_again_any (w : World) (av : Option Nat) (A : Option Addr) (c n : Nat) (X Y : Ld) {t : Tk} {o : Int} (hR : Rs w av 10 Tk.vals A Y.tks) (hn : X.tks.length = n) (h70 : n ≤ 70) (e o' k : Int) (hok : Y.ok = true) (hY : Y.tks = (t3 X t o).tks) (hs : Y.sum ≤ 1000) (ho : 1 ≤ o ∧ o ≤ 3) (he : 1 ≤ e ∧ e ≤ 7) (ho' : 1 ≤ o' ∧ o' ≤ 3)
    (hk : (if e ≠ 7 then 3 else if o' = o then 2 else 5) = k) (hav : ∀ x, av = some x → x < w.heap.size) :
    Calls Try.prog 18 #[.agg #[.slice A (n + 1) c, .int .i64 Y.r0, .int .i64 Y.r1, .int .i64 Y.r2, .int .i64 Y.r3, .int .i64 Y.r4, .int .i64 Y.r5], .agg #[.int .i64 n, .int .i64 1, .int .i64 4, .int .i64 e, .int .i64 o']] w fun e w' => ∃ A' c', e = .returned (.tuple #[.agg #[.slice A' (n + 1) c', .int .i64 (Y.count k).r0, .int .i64 (Y.count k).r1, .int .i64 (Y.count k).r2, .int .i64 (Y.count k).r3, .int .i64 (Y.count k).r4, .int .i64 (Y.count k).r5], .int .i64 k, .int .i64 0]) ∧ Rs w' av 10 Tk.vals A' (Y.count k).tks ∧ Below w.heap.size w w' ∧ (Y.count k).tks = (t3 X t o).tks ∧ (Y.count k).ok = true ∧ (Y.count k).sum = Y.sum + 1 := by
  have hYl : Y.tks.length = n + 1 := by rw [hY, t3_len, hn]
  have c1 := take_any w av A c (n + 1) Y hR hYl (by omega) ⟨n, 1, 4, e, o'⟩ hav
  have e1 := tw_again (X := X) (t := t) hok hY (by omega) hs ho he ho'
  rw [hn, hk] at e1
  have hok2 : (Y.count k).ok = true := by
    have := take_ok' (p := ⟨(n : Nat), 1, 4, e, o'⟩) hok (by rw [e1])
    rwa [e1] at this
  rw [e1] at c1
  have e2 : (Y.count k).tks.length = n + 1 := by rw [count_len, hYl]
  simp only [e2] at c1
  refine c1.mono ?_
  rintro e' w' ⟨A', c', h1, h2, h3⟩
  exact ⟨A', c', h1, h2, h3, by rw [count_len, hY], hok2, count_sum _ _⟩

set_option maxRecDepth 100000 in
set_option maxHeartbeats 8000000 in
theorem twice_walk (w : World) (A : Option Addr) (n c : Nat) (l : List Int) (tm : Int) (hA : Rs w none 1 iv A l) (hl : l.length = n) :
    Calls Try.prog 5 #[.slice A n c, .int .i64 tm] w fun e w' => e = .returned (.bool true) ∧ Below w.heap.size w w' := by
  have HT0 := hide (tape_new (w := w) (c := c) hA hl 31)
  have HOA := hide (show l ≠ [] → ∀ b o, A = some ⟨b, o, none⟩ → b < w.heap.size from old_of hA (Nat.le_refl _))
  clear hA hl
  go_enter Try.func5, Try.ntmps5
  go_wp2_with fail
  refine (lived_any _ w.heap.size A n c l 0 40 HT0.out (by omega) (by omega)).mono ?_
  rintro e w1 ⟨j, X, B, d, a', rfl, hr, hj, hR, ht, ha', hf⟩
  have HF1 := hide (((Fr.refl w (fun _ => False)).alloc _).step hf (fun i hi h => by omega))
  have HR := hide hR
  have HT := hide ht
  have HOK := hide hr.ok
  have hsum : X.sum ≤ 900 := by have := (reach_sum hr).1; omega
  have hlen : X.tks.length ≤ 70 := by have := (reach_sum hr).2; omega
  have gT : w.heap.size < w1.heap.size := ht.1
  clear hr hR ht hf
  obtain ⟨m, HM⟩ : ∃ m, Hid (X.tks.length = m) := ⟨_, hide rfl⟩
  rw [HM.out] at hlen ⊢
  go_upto_region 3 with (fail)
  generalize hW : World.alloc w1 _ = v1
  have hs : B7 v1 w1.heap.size (LDV B m d X) := by
    rw [← hW]
    clear hW
    simp only [B7, LDV]
    refine ⟨by simp, ⟨?_, ?_, ?_, ?_, ?_, ?_, ?_⟩, ?_, ?_⟩ <;> first | (intro j; go_simp; done) | (go_simp; done)
  have hf : Fr w1 v1 (fun _ => False) := by rw [← hW]; exact (Fr.refl _ _).alloc _
  clear hW
  have HS1 := hide hs
  have HR1 := hide (HR.out.fr hf (fun _ _ _ _ _ h => h))
  have HT1 := hide (HT.out.fr hf (fun h => h) (fun _ _ _ _ h => h))
  have HFv1 := hide (HF1.out.step hf (fun _ _ h => h.elim))
  clear hs hf
  have gv1 : w.heap.size < v1.heap.size := HT1.out.1
  have hav : ∀ x, some w.heap.size = some x → x < v1.heap.size := by intro x hx; injection hx with hx; omega
  obtain ⟨gl, p, gp, -⟩ := HS1.out
  simp only [LDV] at p
  obtain ⟨p0, p1, p2, p3, p4, p5, p6⟩ := p
  go_upto_region 5 with (fail)
  go_cut [8, 9] (fun p q wx => ∃ (t : Tk) (B2 : Option Addr) (d2 : Nat), taskOk t = true ∧ p = .int .i64 m ∧ q = .int .i64 0 ∧ Hid (B7 wx w1.heap.size (LDV B2 (m + 1) d2 (tl X t 0 0 0 0 0))) ∧ Hid (Rs wx (some w.heap.size) 10 Tk.vals B2 (tl X t 0 0 0 0 0).tks) ∧ Hid (Fr v1 wx (fun i => i = w1.heap.size)))
  case first =>
    go_region_with
      (first
        | (go_at_call 16; refine (task_any 5 _).mono ?_; rintro e w2 ⟨⟨t, rfl, ht⟩, hb2⟩; obtain ⟨hc2, hf2⟩ := bcell hb2; have gl2 : w1.heap.size < w2.heap.size := Nat.lt_of_lt_of_le gl hb2.size; have HTK := hide ht; clear ht; have r0 : w2.cell? ⟨w1.heap.size, 0, none⟩ = some (.slice B m d) := (hc2 _ _ gl).trans p0; have r1 : w2.cell? ⟨w1.heap.size, 1, none⟩ = some (.int .i64 X.r0) := (hc2 _ _ gl).trans p1; have r2 : w2.cell? ⟨w1.heap.size, 2, none⟩ = some (.int .i64 X.r1) := (hc2 _ _ gl).trans p2; have r3 : w2.cell? ⟨w1.heap.size, 3, none⟩ = some (.int .i64 X.r2) := (hc2 _ _ gl).trans p3; have r4 : w2.cell? ⟨w1.heap.size, 4, none⟩ = some (.int .i64 X.r3) := (hc2 _ _ gl).trans p4; have r5 : w2.cell? ⟨w1.heap.size, 5, none⟩ = some (.int .i64 X.r4) := (hc2 _ _ gl).trans p5; have r6 : w2.cell? ⟨w1.heap.size, 6, none⟩ = some (.int .i64 X.r5) := (hc2 _ _ gl).trans p6; have rf : ∀ j, w2.frozen? ⟨w1.heap.size, j, none⟩ = false := fun j => (hf2 _ _ gl).trans (gp j); clear hc2 hf2)
        | (go_at_call 15; refine (tw_plan_any _ (some w.heap.size) B d m X (by first | exact HR1.out.below hb2 | exact HR1.out.drew.below hb2) HM.out (by omega) t HTK.out HOK.out (by first | exact fun x hx => Nat.lt_of_lt_of_le (hav x hx) hb2.size)).mono ?_; rintro e w3 ⟨B2, d2, rfl, hr3, hb3⟩; obtain ⟨hc3, hf3⟩ := bcell hb3; have gl3 : w1.heap.size < w3.heap.size := Nat.lt_of_lt_of_le gl2 hb3.size; have HR3 := hide hr3; clear hr3; have s0 : w3.cell? ⟨w1.heap.size, 0, none⟩ = some (.slice B m d) := (hc3 _ _ gl2).trans r0; have s1 : w3.cell? ⟨w1.heap.size, 1, none⟩ = some (.int .i64 X.r0) := (hc3 _ _ gl2).trans r1; have s2 : w3.cell? ⟨w1.heap.size, 2, none⟩ = some (.int .i64 X.r1) := (hc3 _ _ gl2).trans r2; have s3 : w3.cell? ⟨w1.heap.size, 3, none⟩ = some (.int .i64 X.r2) := (hc3 _ _ gl2).trans r3; have s4 : w3.cell? ⟨w1.heap.size, 4, none⟩ = some (.int .i64 X.r3) := (hc3 _ _ gl2).trans r4; have s5 : w3.cell? ⟨w1.heap.size, 5, none⟩ = some (.int .i64 X.r4) := (hc3 _ _ gl2).trans r5; have s6 : w3.cell? ⟨w1.heap.size, 6, none⟩ = some (.int .i64 X.r5) := (hc3 _ _ gl2).trans r6; have sf : ∀ j, w3.frozen? ⟨w1.heap.size, j, none⟩ = false := fun j => (hf3 _ _ gl2).trans (rf j); clear hc3 hf3))
    all_goals
      clear r0 r1 r2 r3 r4 r5 r6 rf p0 p1 p2 p3 p4 p5 p6 gp
      go_wp2_with fail
      go_meet
      case rel =>
        have hs3 : B7 w3 w1.heap.size (LDV B m d X) := (HS1.out.fr (((Fr.refl v1 (fun _ => False)).drew.below_ hb2).below_ hb3) (fun h => h))
        have hw : Fr v1 w3 (fun i => i = w1.heap.size) := ((Fr.refl v1 _).drew.below_ hb2).below_ hb3
        refine ⟨t, B2, d2, HTK.out, rfl, rfl, hide ?_, hide ?_, hide ?_⟩
        · have hh := hs3.put (LDV B2 (m + 1) d2 (tl X t 0 0 0 0 0))
          simp only [put7, LDV] at hh ⊢
          exact hh
        · exact HR3.out.fr (S := fun i => i = w1.heap.size) (fr_put7 (w := w3) (b := w1.heap.size)) (fun hl b o hA _ h => rs_not_b7 HR3.out tk_str hs3 (ldv_no _ _ _ _) hl b o hA h)
        · exact hw.trans (fr_put7 (w := w3) (b := w1.heap.size))
  case rest =>
  obtain ⟨t, B2, d2, ht, rfl, rfl, HS2, HR2, HF2⟩ := hcut
  obtain ⟨v2, hwc⟩ : ∃ v2, v2 = wc := ⟨wc, rfl⟩
  subst hwc
  have HTK := hide ht
  have HT2 := hide (HT1.out.fr HF2.out (by omega) (fun b o hA hl h => by have := HOA.out hl b o hA; omega))
  have HFw2 := hide (HFv1.out.step HF2.out (fun i hi h => by omega))
  have gv2 : w.heap.size < v2.heap.size := HT2.out.1
  have hav2 : ∀ x, some w.heap.size = some x → x < v2.heap.size := by intro x hx; injection hx with hx; omega
  clear p0 p1 p2 p3 p4 p5 p6 gp ht
  obtain ⟨gl2, p, gp, -⟩ := HS2.out
  simp only [LDV] at p
  obtain ⟨p0, p1, p2, p3, p4, p5, p6⟩ := p
  go_wp2_with fail
  refine (tw_begin_any v2 (some w.heap.size) B2 d2 m X HR2.out HM.out (by omega) t HTK.out HOK.out hav2).mono ?_
  rintro e w3 ⟨B3, d3, rfl, hr, hb⟩
  have HS3 := hide (HS2.out.fr (Fr.of_below (fun _ => False) hb) (fun h => h))
  have HR3 := hide hr
  have HT3 := hide (HT2.out.below hb)
  have HF3 := hide (HFw2.out.below_ hb)
  clear p0 p1 p2 p3 p4 p5 p6 gp gl2 hr hb
  obtain ⟨gl3, p, gp, -⟩ := HS3.out
  simp only [LDV] at p
  obtain ⟨p0, p1, p2, p3, p4, p5, p6⟩ := p
  go_upto_region 9 with (fail)
  generalize hW : World.setCell (World.setCell (World.setCell (World.setCell (World.setCell (World.setCell (World.setCell w3 _ _) _ _) _ _) _ _) _ _) _ _) _ _ = v3
  obtain ⟨hs, hf⟩ : B7 v3 w1.heap.size (LDV B3 (m + 1) d3 (tl X t 1 1 4 7 0)) ∧ Fr w3 v3 (fun i => i = w1.heap.size) := by
    rw [← hW]
    have hh := And.intro (HS3.out.put (LDV B3 (m + 1) d3 (tl X t 1 1 4 7 0))) (fr_put7 (w := w3) (b := w1.heap.size) (v0 := (LDV B3 (m + 1) d3 (tl X t 1 1 4 7 0)).v0) (v1 := (LDV B3 (m + 1) d3 (tl X t 1 1 4 7 0)).v1) (v2 := (LDV B3 (m + 1) d3 (tl X t 1 1 4 7 0)).v2) (v3 := (LDV B3 (m + 1) d3 (tl X t 1 1 4 7 0)).v3) (v4 := (LDV B3 (m + 1) d3 (tl X t 1 1 4 7 0)).v4) (v5 := (LDV B3 (m + 1) d3 (tl X t 1 1 4 7 0)).v5) (v6 := (LDV B3 (m + 1) d3 (tl X t 1 1 4 7 0)).v6))
    simp only [put7, LDV] at hh ⊢
    exact hh
  clear hW
  have HS4 := hide hs
  have HR4 := hide (HR3.out.fr hf (fun hl b o hA _ h => rs_not_b7 HR3.out tk_str HS3.out (ldv_no _ _ _ _) hl b o hA h))
  have HT4 := hide (HT3.out.fr hf (by omega) (fun b o hA hl h => by have := HOA.out hl b o hA; omega))
  have HF4 := hide (HF3.out.step hf (fun i hi h => by omega))
  clear hs hf p0 p1 p2 p3 p4 p5 p6 gp gl3
  go_wp2_with fail
  refine (next_any v3 w.heap.size A n c l a' 3 HT4.out (by omega) (by omega)).mono ?_
  rintro e w4 ⟨rfl, ht4, hf4⟩
  have HT5 := hide ht4
  have HS5 := hide (HS4.out.fr hf4 (by omega))
  have HR5 := hide (HR4.out.tape hf4)
  have HF5 := hide (HF4.out.step hf4 (fun i hi h => by omega))
  have hv := tapeV_lo l a' 3
  obtain ⟨o, hoo⟩ : ∃ o : Int, 1 + tapeV l a' 3 = o := ⟨_, rfl⟩
  have ho : 1 ≤ o ∧ o ≤ 3 := by omega
  have hwr : IntKind.i64.wrap (1 + tapeV l a' 3) = o := by rw [← hoo]; exact IntWalk.i64_in _ (by omega)
  clear ht4 hf4 hv hoo
  obtain ⟨gl5, p, gp, -⟩ := HS5.out
  simp only [LDV] at p
  obtain ⟨p0, p1, p2, p3, p4, p5, p6⟩ := p
  go_upto_region 12 with (fail)
  generalize hW : World.alloc w4 _ = v5
  have HP5 := hide (show RepAt v5 w4.heap.size ⟨m, 1, 4, 7, o⟩ from by
    rw [← hW]
    clear hW
    refine ⟨by simp, ⟨?_, ?_, ?_, ?_, ?_⟩, ?_⟩ <;> first | (intro j; go_simp; done) | (go_simp; done))
  have hf : Fr w4 v5 (fun _ => False) := by rw [← hW]; exact (Fr.refl _ _).alloc _
  clear hW p0 p1 p2 p3 p4 p5 p6 gp gl5 hwr
  have HS6 := hide (HS5.out.fr hf (fun h => h))
  have HR6 := hide (HR5.out.fr hf (fun _ _ _ _ _ h => h))
  have HT6 := hide (HT5.out.fr hf (fun h => h) (fun _ _ _ _ h => h))
  have HF6 := hide (HF5.out.step hf (fun _ _ h => h.elim))
  clear hf
  have gv5 : w.heap.size < v5.heap.size := HT6.out.1
  have hav5 : ∀ x, some w.heap.size = some x → x < v5.heap.size := by intro x hx; injection hx with hx; omega
  obtain ⟨gq, ⟨q0, q1, q2, q3, q4⟩, gqf⟩ := HP5.out
  dsimp only at q0 q1 q2 q3 q4
  obtain ⟨gl6, p, gp, -⟩ := HS6.out
  simp only [LDV] at p
  obtain ⟨p0, p1, p2, p3, p4, p5, p6⟩ := p
  go_wp2_with fail
  refine (tw_take_any v5 (some w.heap.size) B3 d3 m X HR6.out HM.out (by omega) t o HTK.out HOK.out hsum ho hav5).mono ?_
  rintro e w5 ⟨B4, d4, rfl, hr, hb⟩
  have HP7 := hide (HP5.out.fr (Fr.of_below (fun _ => False) hb) (fun h => h))
  have HR7 := hide hr
  have HT7 := hide (HT6.out.below hb)
  have HF7 := hide (HF6.out.below_ hb)
  have g75 := hb.size
  clear p0 p1 p2 p3 p4 p5 p6 gp gl6 hr hb q0 q1 q2 q3 q4 gq gqf
  go_upto_region 13 with (fail)
  generalize hW : World.alloc w5 _ = v6
  have hs : B7 v6 w5.heap.size (LDV B4 (m + 1) d4 (t3 X t o)) := by
    rw [← hW]
    clear hW
    simp only [B7, LDV]
    refine ⟨by simp, ⟨?_, ?_, ?_, ?_, ?_, ?_, ?_⟩, ?_, ?_⟩ <;> first | (intro j; go_simp; done) | (go_simp; done)
  have hf : Fr w5 v6 (fun _ => False) := by rw [← hW]; exact (Fr.refl _ _).alloc _
  clear hW
  have HB8 := hide hs
  have HP8 := hide (HP7.out.fr hf (fun h => h))
  have HR8 := hide (HR7.out.fr hf (fun _ _ _ _ _ h => h))
  have HT8 := hide (HT7.out.fr hf (fun h => h) (fun _ _ _ _ h => h))
  have HF8 := hide (HF7.out.step hf (fun _ _ h => h.elim))
  have gv6 := hf.size
  clear hs hf
  obtain ⟨gl8, p, gp, -⟩ := HB8.out
  simp only [LDV] at p
  obtain ⟨p0, p1, p2, p3, p4, p5, p6⟩ := p
  go_upto_region 16 with (fail)
  generalize hW : World.alloc v6 _ = v7
  have hs : B7 v7 v6.heap.size (LDV B4 (m + 1) d4 (t3 X t o)) := by
    rw [← hW]
    clear hW
    simp only [B7, LDV]
    refine ⟨by simp, ⟨?_, ?_, ?_, ?_, ?_, ?_, ?_⟩, ?_, ?_⟩ <;> first | (intro j; go_simp; done) | (go_simp; done)
  have hf : Fr v6 v7 (fun _ => False) := by rw [← hW]; exact (Fr.refl _ _).alloc _
  clear hW
  have HC9 := hide hs
  have HB9 := hide (HB8.out.fr hf (fun h => h))
  have HP9 := hide (HP8.out.fr hf (fun h => h))
  have HR9 := hide (HR8.out.fr hf (fun _ _ _ _ _ h => h))
  have HT9 := hide (HT8.out.fr hf (fun h => h) (fun _ _ _ _ h => h))
  have HF9 := hide (HF8.out.step hf (fun _ _ h => h.elim))
  have gv7 := HC9.out.1
  have gw45 : w4.heap.size < w5.heap.size := HP7.out.1
  have gwT4 : w.heap.size < w4.heap.size := HT5.out.1
  have gwT6 : w5.heap.size < v6.heap.size := HB8.out.1
  clear hs hf p0 p1 p2 p3 p4 p5 p6 gp gl8
  have hfv := foldV_lo tm 6
  go_wp2_with (go_at_call 19; refine (fold_any tm 6 _ (by omega)).mono ?_; rintro e w6 ⟨rfl, rfl⟩)
  obtain ⟨v, hvv⟩ : ∃ v : Nat, foldV tm 6 = v := ⟨(foldV tm 6).toNat, by omega⟩
  rw [hvv] at hfv ⊢
  have hv6 : v ≤ 6 := by omega
  clear hfv hvv
  have HSt := hide (t3_sum X t o)
  go_loopw [15] (fun x wr => ∃ (i j2 : Nat) (Y : Ld) (By : Option Addr) (dy a2 : Nat), i + j2 = v ∧ x = .int .i64 i ∧ Hid (Y.tks = (t3 X t o).tks) ∧ Hid (Y.ok = true) ∧ Y.sum ≤ X.sum + 1 + j2 ∧ Hid (B7 wr v6.heap.size (LDV By (m + 1) dy Y)) ∧ Hid (Rs wr (some w.heap.size) 10 Tk.vals By Y.tks) ∧ Hid (B7 wr w5.heap.size (LDV B4 (m + 1) d4 (t3 X t o))) ∧ Hid (Rs wr (some w.heap.size) 10 Tk.vals B4 (t3 X t o).tks) ∧ Hid (RepAt wr w4.heap.size ⟨m, 1, 4, 7, o⟩) ∧ Hid (TapeAt wr w.heap.size A n c l a2) ∧ a2 ≤ a' + 1 + 3 * j2 ∧ Hid (Fr w wr (fun _ => False))) (fun x _ => (intOf x).toNat)
  case atStart => exact ⟨v, 0, t3 X t o, B4, d4, a' + 1, by omega, rfl, hide rfl, hide (tw_ok3 HOK.out HTK.out (by have := HM.out; omega) (by omega) ho), by rw [HSt.out]; omega, HC9, HR9, HB9, HR9, HP9, HT9, by omega, HF9⟩
  case round =>
    obtain ⟨i, j2, Y, By, dy, a2, hij, rfl, HY, HYK, hys, HYB, HYR, HFB, HFR, HP, HT, ha2, HF⟩ := hrel
    by_cases hi : i = 0
    · subst hi
      obtain ⟨gl1, p, gp, -⟩ := HYB.out
      simp only [LDV] at p
      obtain ⟨p0, p1, p2, p3, p4, p5, p6⟩ := p
      obtain ⟨gl2, q, gq, -⟩ := HFB.out
      simp only [LDV] at q
      obtain ⟨q0, q1, q2, q3, q4, q5, q6⟩ := q
      have HYT := hide (show Rs wr (some w.heap.size) 10 Tk.vals By (t3 X t o).tks from by rw [← HY.out]; exact HYR.out)
      have y1 : ¬ v6.heap.size = w5.heap.size := by omega
      have y2 : ¬ w5.heap.size = v6.heap.size := by omega
      have y3 : (t3 X t o).tks.length = m + 1 := by rw [t3_len, HM.out]
      have Y3 := hide y3
      clear y3
      go_upto_region 33 with (fail)
      generalize hW : World.setCell (World.setCell (World.setCell (World.setCell (World.setCell (World.setCell wr _ _) _ _) _ _) _ _) _ _) _ _ = v9
      obtain ⟨hs, hf⟩ : B7 v9 v6.heap.size (LDV By (m + 1) dy (t3 X t o)) ∧ Fr wr v9 (fun i => i = v6.heap.size) := by
        rw [← hW]
        exact put_reps HYB.out
      clear hW p0 p1 p2 p3 p4 p5 p6 gp gl1 q0 q1 q2 q3 q4 q5 q6 gq gl2
      have HB9' := hide hs
      have HB10 := hide (HFB.out.fr hf (by omega))
      have HR10 := hide (HYT.out.fr hf (fun hl b o hA _ h => rs_not_b7 HYT.out tk_str HYB.out (ldv_no _ _ _ _) hl b o hA h))
      have HR11 := hide (HFR.out.fr hf (fun hl b o hA _ h => rs_not_b7 HFR.out tk_str HYB.out (ldv_no _ _ _ _) hl b o hA h))
      have HF10 := hide (HF.out.step hf (fun i hi h => by omega))
      clear hs hf
      obtain ⟨gl1, p, gp, -⟩ := HB9'.out
      simp only [LDV] at p
      obtain ⟨p0, p1, p2, p3, p4, p5, p6⟩ := p
      obtain ⟨gl2, q, gq, -⟩ := HB10.out
      simp only [LDV] at q
      obtain ⟨q0, q1, q2, q3, q4, q5, q6⟩ := q
      go_wp2_with fail
      refine (same_eq v9 (some w.heap.size) By B4 (m + 1) dy d4 (t3 X t o) HR10.out HR11.out Y3.out (by omega)).mono ?_
      rintro e w9 ⟨rfl, hb9⟩
      go_wp2_with fail
      refine (known_any _).mono ?_
      rintro e w10 ⟨rfl, hb10⟩
      go_wp2_with fail
      refine bodyPost_ret (v := .bool true) (by simp [results, Try.results5, go_sem, *]) rfl ⟨rfl, ?_⟩
      exact ((HF10.out.below_ hb9).below_ hb10).below (Nat.le_refl _) (fun _ _ h => h)
    · have hgt : decide ((0 : Int) < (i : Int)) = true := by simp; omega
      obtain ⟨gq, ⟨q0, q1, q2, q3, q4⟩, gqf⟩ := HP.out
      dsimp only at q0 q1 q2 q3 q4
      have gwr : v6.heap.size < wr.heap.size := HYB.out.1
      go_upto_region 21 with (fail)
      generalize hW : World.alloc wr _ = v10
      have HQ := hide (show RepAt v10 wr.heap.size ⟨m, 1, 4, 7, o⟩ from by
        rw [← hW]
        clear hW
        refine ⟨by simp, ⟨?_, ?_, ?_, ?_, ?_⟩, ?_⟩ <;> first | (intro j; go_simp; done) | (go_simp; done))
      have hf : Fr wr v10 (fun _ => False) := by rw [← hW]; exact (Fr.refl _ _).alloc _
      clear hW q0 q1 q2 q3 q4 gq gqf
      have HYB1 := hide (HYB.out.fr hf (fun h => h))
      have HYR1 := hide (HYR.out.fr hf (fun _ _ _ _ _ h => h))
      have HFB1 := hide (HFB.out.fr hf (fun h => h))
      have HFR1 := hide (HFR.out.fr hf (fun _ _ _ _ _ h => h))
      have HP1 := hide (HP.out.fr hf (fun h => h))
      have HT1' := hide (HT.out.fr hf (fun h => h) (fun _ _ _ _ h => h))
      have HFa := hide (HF.out.step hf (fun _ _ h => h.elim))
      clear hf
      go_wp2_with fail
      refine (next_any v10 w.heap.size A n c l a2 3 HT1'.out (by omega) (by omega)).mono ?_
      rintro e w11 ⟨rfl, ht, hf⟩
      have HQ2 := hide (HQ.out.fr hf (by omega))
      have HYB2 := hide (HYB1.out.fr hf (by omega))
      have HYR2 := hide (HYR1.out.tape hf)
      have HFB2 := hide (HFB1.out.fr hf (by omega))
      have HFR2 := hide (HFR1.out.tape hf)
      have HP2 := hide (HP1.out.fr hf (by omega))
      have HT2' := hide ht
      have HFb := hide (HFa.out.step hf (fun i hi h => by omega))
      have g11 := hf.size
      have gq11 : wr.heap.size < w11.heap.size := HQ2.out.1
      clear ht hf
      have hv := tapeV_lo l a2 3
      obtain ⟨y, hy⟩ : ∃ y, tapeV l a2 3 = y := ⟨_, rfl⟩
      rw [hy] at hv ⊢
      obtain ⟨gq, ⟨q0, q1, q2, q3, q4⟩, gqf⟩ := HQ2.out
      dsimp only at q0 q1 q2 q3 q4
      rcases (show y = 0 ∨ y = 1 ∨ y = 2 from by omega) with rfl | rfl | rfl
      · go_upto_region 28 with (fail)
        generalize hW : World.setCell w11 _ _ = v12
        obtain ⟨hq, hf⟩ : RepAt v12 wr.heap.size ⟨m, 1, 4, 7, 1 + o % 3⟩ ∧ Fr w11 v12 (fun i => i = wr.heap.size) := by
          rw [← hW]
          exact rep_put4 (1 + o % 3) HQ2.out
        clear hW q0 q1 q2 q3 q4 gq gqf
        have HQ3 := hide hq
        have HYB3 := hide (HYB2.out.fr hf (by omega))
        have HYR3 := hide (HYR2.out.fr hf (fun hl b o hA _ h => by have := old_of HYR.out (Nat.le_refl _) hl b o hA; omega))
        have HFB3 := hide (HFB2.out.fr hf (by omega))
        have HFR3 := hide (HFR2.out.fr hf (fun hl b o hA _ h => by have := old_of HFR.out (Nat.le_refl _) hl b o hA; omega))
        have HP3 := hide (HP2.out.fr hf (by omega))
        have HT3' := hide (HT2'.out.fr hf (by omega) (fun b o hA hl h => by have := HOA.out hl b o hA; omega))
        have HFc := hide (HFb.out.step hf (fun i hi h => by omega))
        clear hq hf
        obtain ⟨gq, ⟨q0, q1, q2, q3, q4⟩, gqf⟩ := HQ3.out
        dsimp only at q0 q1 q2 q3 q4
        obtain ⟨gl1, p, gp, -⟩ := HYB3.out
        simp only [LDV] at p
        obtain ⟨p0, p1, p2, p3, p4, p5, p6⟩ := p
        have hav3 : ∀ x, some w.heap.size = some x → x < v12.heap.size := by intro x hx; injection hx with hx; have := HT3'.out.1; omega
        go_wp2_with fail
        refine (tw_again_any v12 (some w.heap.size) By dy m X Y (t := t) (o := o) HYR3.out HM.out (by omega) 7 (1 + o % 3) 5 HYK.out HY.out (by omega) ho (by omega) (by omega) (by rw [if_neg (by omega), if_neg (by omega)]) hav3).mono ?_
        rintro e' w12 ⟨By2, dy2, rfl, hr, hb, HY12, HYK12, hs12⟩
        have hf := Fr.of_below (fun _ => False) hb
        have HYB4 := hide (HYB3.out.fr hf (fun h => h))
        have HYR4 := hide hr
        have HFB4 := hide (HFB3.out.fr hf (fun h => h))
        have HFR4 := hide (HFR3.out.fr hf (fun _ _ _ _ _ h => h))
        have HP4 := hide (HP3.out.fr hf (fun h => h))
        have HT4' := hide (HT3'.out.fr hf (fun h => h) (fun _ _ _ _ h => h))
        have HFd := hide (HFc.out.step hf (fun _ _ h => h.elim))
        have g12 := hf.size
        clear hr hb hf p0 p1 p2 p3 p4 p5 p6 gp gl1 q0 q1 q2 q3 q4 gq gqf
        go_upto_region 29 with (fail)
        generalize hW : World.alloc w12 _ = v13
        have hs : B7 v13 w12.heap.size (LDV By2 (m + 1) dy2 (Y.count 5)) := by
          rw [← hW]
          clear hW
          simp only [B7, LDV]
          refine ⟨by simp, ⟨?_, ?_, ?_, ?_, ?_, ?_, ?_⟩, ?_, ?_⟩ <;> first | (intro j; go_simp; done) | (go_simp; done)
        have hf : Fr w12 v13 (fun _ => False) := by rw [← hW]; exact (Fr.refl _ _).alloc _
        clear hW
        have HB13 := hide hs
        have HYB5 := hide (HYB4.out.fr hf (fun h => h))
        have HYR5 := hide (HYR4.out.fr hf (fun _ _ _ _ _ h => h))
        have HFB5 := hide (HFB4.out.fr hf (fun h => h))
        have HFR5 := hide (HFR4.out.fr hf (fun _ _ _ _ _ h => h))
        have HP5' := hide (HP4.out.fr hf (fun h => h))
        have HT5' := hide (HT4'.out.fr hf (fun h => h) (fun _ _ _ _ h => h))
        have HFe := hide (HFd.out.step hf (fun _ _ h => h.elim))
        clear hs hf
        obtain ⟨gl2, q, gq, -⟩ := HB13.out
        simp only [LDV] at q
        obtain ⟨q0, q1, q2, q3, q4, q5, q6⟩ := q
        obtain ⟨gl1, p, gp, -⟩ := HYB5.out
        simp only [LDV] at p
        obtain ⟨p0, p1, p2, p3, p4, p5, p6⟩ := p
        go_upto_region 30 with (fail)
        generalize hW : World.setCell (World.setCell (World.setCell (World.setCell (World.setCell (World.setCell (World.setCell v13 _ _) _ _) _ _) _ _) _ _) _ _) _ _ = v14
        obtain ⟨hs, hf⟩ : B7 v14 v6.heap.size (LDV By2 (m + 1) dy2 (Y.count 5)) ∧ Fr v13 v14 (fun i => i = v6.heap.size) := by
          rw [← hW]
          have hh := And.intro (HYB5.out.put (LDV By2 (m + 1) dy2 (Y.count 5))) (fr_put7 (w := v13) (b := v6.heap.size) (v0 := (LDV By2 (m + 1) dy2 (Y.count 5)).v0) (v1 := (LDV By2 (m + 1) dy2 (Y.count 5)).v1) (v2 := (LDV By2 (m + 1) dy2 (Y.count 5)).v2) (v3 := (LDV By2 (m + 1) dy2 (Y.count 5)).v3) (v4 := (LDV By2 (m + 1) dy2 (Y.count 5)).v4) (v5 := (LDV By2 (m + 1) dy2 (Y.count 5)).v5) (v6 := (LDV By2 (m + 1) dy2 (Y.count 5)).v6))
          simp only [put7, LDV] at hh ⊢
          exact hh
        clear hW
        have HYB6 := hide hs
        have HYR6 := hide (HYR5.out.fr hf (fun hl b o hA _ h => rs_not_b7 HYR5.out tk_str HYB5.out (ldv_no _ _ _ _) hl b o hA h))
        have HFB6 := hide (HFB5.out.fr hf (by omega))
        have HFR6 := hide (HFR5.out.fr hf (fun hl b o hA _ h => rs_not_b7 HFR5.out tk_str HYB5.out (ldv_no _ _ _ _) hl b o hA h))
        have HP6 := hide (HP5'.out.fr hf (by omega))
        have HT6' := hide (HT5'.out.fr hf (by omega) (fun b o hA hl h => by have := HOA.out hl b o hA; omega))
        have HFf := hide (HFe.out.step hf (fun i hi h => by omega))
        clear hs hf p0 p1 p2 p3 p4 p5 p6 gp gl1 q0 q1 q2 q3 q4 q5 q6 gq gl2
        go_wp2_with fail
        go_roundw
        case rel => exact ⟨i - 1, j2 + 1, Y.count 5, By2, dy2, (a2 + 1), by omega, by congr 1; omega, hide HY12, hide HYK12, by omega, HYB6, HYR6, HFB6, HFR6, HP6, HT6', by omega, HFf⟩
        case measure => simp [intOf]; omega
      · go_wp2_with fail
        refine (next_any w11 w.heap.size A n c l (a2 + 1) 6 HT2'.out (by omega) (by omega)).mono ?_
        rintro e w11b ⟨rfl, ht, hf⟩
        have HQ9 := hide (HQ2.out.fr hf (by omega))
        have HYB9 := hide (HYB2.out.fr hf (by omega))
        have HYR9 := hide (HYR2.out.tape hf)
        have HFB9 := hide (HFB2.out.fr hf (by omega))
        have HFR9 := hide (HFR2.out.tape hf)
        have HP9 := hide (HP2.out.fr hf (by omega))
        have HT9' := hide ht
        have HFg := hide (HFb.out.step hf (fun i hi h => by omega))
        have g11b := hf.size
        have gq11b : wr.heap.size < w11b.heap.size := HQ9.out.1
        clear ht hf q0 q1 q2 q3 q4 gq gqf
        have hv2 := tapeV_lo l (a2 + 1) 6
        obtain ⟨e5, he5⟩ : ∃ e5, 1 + tapeV l (a2 + 1) 6 = e5 := ⟨_, rfl⟩
        have hw5 : IntKind.i64.wrap (1 + tapeV l (a2 + 1) 6) = e5 := by rw [← he5]; exact IntWalk.i64_in _ (by omega)
        have hr5 : 1 ≤ e5 ∧ e5 ≤ 6 := by omega
        clear hv2 he5
        obtain ⟨gq, ⟨q0, q1, q2, q3, q4⟩, gqf⟩ := HQ9.out
        dsimp only at q0 q1 q2 q3 q4
        go_upto_region 28 with (fail)
        generalize hW : World.setCell w11b _ _ = v12
        obtain ⟨hq, hf⟩ : RepAt v12 wr.heap.size ⟨m, 1, 4, e5, o⟩ ∧ Fr w11b v12 (fun i => i = wr.heap.size) := by
          rw [← hW]
          exact rep_put3 e5 HQ9.out
        clear hW hw5 q0 q1 q2 q3 q4 gq gqf
        have HQ3 := hide hq
        have HYB3 := hide (HYB9.out.fr hf (by omega))
        have HYR3 := hide (HYR9.out.fr hf (fun hl b o hA _ h => by have := old_of HYR.out (Nat.le_refl _) hl b o hA; omega))
        have HFB3 := hide (HFB9.out.fr hf (by omega))
        have HFR3 := hide (HFR9.out.fr hf (fun hl b o hA _ h => by have := old_of HFR.out (Nat.le_refl _) hl b o hA; omega))
        have HP3 := hide (HP9.out.fr hf (by omega))
        have HT3' := hide (HT9'.out.fr hf (by omega) (fun b o hA hl h => by have := HOA.out hl b o hA; omega))
        have HFc := hide (HFg.out.step hf (fun i hi h => by omega))
        clear hq hf
        obtain ⟨gq, ⟨q0, q1, q2, q3, q4⟩, gqf⟩ := HQ3.out
        dsimp only at q0 q1 q2 q3 q4
        obtain ⟨gl1, p, gp, -⟩ := HYB3.out
        simp only [LDV] at p
        obtain ⟨p0, p1, p2, p3, p4, p5, p6⟩ := p
        have hav3 : ∀ x, some w.heap.size = some x → x < v12.heap.size := by intro x hx; injection hx with hx; have := HT3'.out.1; omega
        go_wp2_with fail
        refine (tw_again_any v12 (some w.heap.size) By dy m X Y (t := t) (o := o) HYR3.out HM.out (by omega) e5 o 3 HYK.out HY.out (by omega) ho (by omega) (by omega) (by rw [if_pos (by omega)]) hav3).mono ?_
        rintro e' w12 ⟨By2, dy2, rfl, hr, hb, HY12, HYK12, hs12⟩
        have hf := Fr.of_below (fun _ => False) hb
        have HYB4 := hide (HYB3.out.fr hf (fun h => h))
        have HYR4 := hide hr
        have HFB4 := hide (HFB3.out.fr hf (fun h => h))
        have HFR4 := hide (HFR3.out.fr hf (fun _ _ _ _ _ h => h))
        have HP4 := hide (HP3.out.fr hf (fun h => h))
        have HT4' := hide (HT3'.out.fr hf (fun h => h) (fun _ _ _ _ h => h))
        have HFd := hide (HFc.out.step hf (fun _ _ h => h.elim))
        have g12 := hf.size
        clear hr hb hf p0 p1 p2 p3 p4 p5 p6 gp gl1 q0 q1 q2 q3 q4 gq gqf
        go_upto_region 29 with (fail)
        generalize hW : World.alloc w12 _ = v13
        have hs : B7 v13 w12.heap.size (LDV By2 (m + 1) dy2 (Y.count 3)) := by
          rw [← hW]
          clear hW
          simp only [B7, LDV]
          refine ⟨by simp, ⟨?_, ?_, ?_, ?_, ?_, ?_, ?_⟩, ?_, ?_⟩ <;> first | (intro j; go_simp; done) | (go_simp; done)
        have hf : Fr w12 v13 (fun _ => False) := by rw [← hW]; exact (Fr.refl _ _).alloc _
        clear hW
        have HB13 := hide hs
        have HYB5 := hide (HYB4.out.fr hf (fun h => h))
        have HYR5 := hide (HYR4.out.fr hf (fun _ _ _ _ _ h => h))
        have HFB5 := hide (HFB4.out.fr hf (fun h => h))
        have HFR5 := hide (HFR4.out.fr hf (fun _ _ _ _ _ h => h))
        have HP5' := hide (HP4.out.fr hf (fun h => h))
        have HT5' := hide (HT4'.out.fr hf (fun h => h) (fun _ _ _ _ h => h))
        have HFe := hide (HFd.out.step hf (fun _ _ h => h.elim))
        clear hs hf
        obtain ⟨gl2, q, gq, -⟩ := HB13.out
        simp only [LDV] at q
        obtain ⟨q0, q1, q2, q3, q4, q5, q6⟩ := q
        obtain ⟨gl1, p, gp, -⟩ := HYB5.out
        simp only [LDV] at p
        obtain ⟨p0, p1, p2, p3, p4, p5, p6⟩ := p
        go_upto_region 30 with (fail)
        generalize hW : World.setCell (World.setCell (World.setCell (World.setCell (World.setCell (World.setCell (World.setCell v13 _ _) _ _) _ _) _ _) _ _) _ _) _ _ = v14
        obtain ⟨hs, hf⟩ : B7 v14 v6.heap.size (LDV By2 (m + 1) dy2 (Y.count 3)) ∧ Fr v13 v14 (fun i => i = v6.heap.size) := by
          rw [← hW]
          have hh := And.intro (HYB5.out.put (LDV By2 (m + 1) dy2 (Y.count 3))) (fr_put7 (w := v13) (b := v6.heap.size) (v0 := (LDV By2 (m + 1) dy2 (Y.count 3)).v0) (v1 := (LDV By2 (m + 1) dy2 (Y.count 3)).v1) (v2 := (LDV By2 (m + 1) dy2 (Y.count 3)).v2) (v3 := (LDV By2 (m + 1) dy2 (Y.count 3)).v3) (v4 := (LDV By2 (m + 1) dy2 (Y.count 3)).v4) (v5 := (LDV By2 (m + 1) dy2 (Y.count 3)).v5) (v6 := (LDV By2 (m + 1) dy2 (Y.count 3)).v6))
          simp only [put7, LDV] at hh ⊢
          exact hh
        clear hW
        have HYB6 := hide hs
        have HYR6 := hide (HYR5.out.fr hf (fun hl b o hA _ h => rs_not_b7 HYR5.out tk_str HYB5.out (ldv_no _ _ _ _) hl b o hA h))
        have HFB6 := hide (HFB5.out.fr hf (by omega))
        have HFR6 := hide (HFR5.out.fr hf (fun hl b o hA _ h => rs_not_b7 HFR5.out tk_str HYB5.out (ldv_no _ _ _ _) hl b o hA h))
        have HP6 := hide (HP5'.out.fr hf (by omega))
        have HT6' := hide (HT5'.out.fr hf (by omega) (fun b o hA hl h => by have := HOA.out hl b o hA; omega))
        have HFf := hide (HFe.out.step hf (fun i hi h => by omega))
        clear hs hf p0 p1 p2 p3 p4 p5 p6 gp gl1 q0 q1 q2 q3 q4 q5 q6 gq gl2
        go_wp2_with fail
        go_roundw
        case rel => exact ⟨i - 1, j2 + 1, Y.count 3, By2, dy2, (a2 + 2), by omega, by congr 1; omega, hide HY12, hide HYK12, by omega, HYB6, HYR6, HFB6, HFR6, HP6, HT6', by omega, HFf⟩
        case measure => simp [intOf]; omega
      · go_upto_region 28 with (fail)
        clear q0 q1 q2 q3 q4 gq gqf
        have HQ3 := HQ2
        have HYB3 := HYB2
        have HYR3 := HYR2
        have HFB3 := HFB2
        have HFR3 := HFR2
        have HP3 := HP2
        have HT3' := HT2'
        have HFc := HFb
        obtain ⟨gq, ⟨q0, q1, q2, q3, q4⟩, gqf⟩ := HQ3.out
        dsimp only at q0 q1 q2 q3 q4
        obtain ⟨gl1, p, gp, -⟩ := HYB3.out
        simp only [LDV] at p
        obtain ⟨p0, p1, p2, p3, p4, p5, p6⟩ := p
        have hav3 : ∀ x, some w.heap.size = some x → x < w11.heap.size := by intro x hx; injection hx with hx; have := HT3'.out.1; omega
        go_wp2_with fail
        refine (tw_again_any w11 (some w.heap.size) By dy m X Y (t := t) (o := o) HYR3.out HM.out (by omega) 7 o 2 HYK.out HY.out (by omega) ho (by omega) (by omega) (by rw [if_neg (by omega), if_pos rfl]) hav3).mono ?_
        rintro e' w12 ⟨By2, dy2, rfl, hr, hb, HY12, HYK12, hs12⟩
        have hf := Fr.of_below (fun _ => False) hb
        have HYB4 := hide (HYB3.out.fr hf (fun h => h))
        have HYR4 := hide hr
        have HFB4 := hide (HFB3.out.fr hf (fun h => h))
        have HFR4 := hide (HFR3.out.fr hf (fun _ _ _ _ _ h => h))
        have HP4 := hide (HP3.out.fr hf (fun h => h))
        have HT4' := hide (HT3'.out.fr hf (fun h => h) (fun _ _ _ _ h => h))
        have HFd := hide (HFc.out.step hf (fun _ _ h => h.elim))
        have g12 := hf.size
        clear hr hb hf p0 p1 p2 p3 p4 p5 p6 gp gl1 q0 q1 q2 q3 q4 gq gqf
        go_upto_region 29 with (fail)
        generalize hW : World.alloc w12 _ = v13
        have hs : B7 v13 w12.heap.size (LDV By2 (m + 1) dy2 (Y.count 2)) := by
          rw [← hW]
          clear hW
          simp only [B7, LDV]
          refine ⟨by simp, ⟨?_, ?_, ?_, ?_, ?_, ?_, ?_⟩, ?_, ?_⟩ <;> first | (intro j; go_simp; done) | (go_simp; done)
        have hf : Fr w12 v13 (fun _ => False) := by rw [← hW]; exact (Fr.refl _ _).alloc _
        clear hW
        have HB13 := hide hs
        have HYB5 := hide (HYB4.out.fr hf (fun h => h))
        have HYR5 := hide (HYR4.out.fr hf (fun _ _ _ _ _ h => h))
        have HFB5 := hide (HFB4.out.fr hf (fun h => h))
        have HFR5 := hide (HFR4.out.fr hf (fun _ _ _ _ _ h => h))
        have HP5' := hide (HP4.out.fr hf (fun h => h))
        have HT5' := hide (HT4'.out.fr hf (fun h => h) (fun _ _ _ _ h => h))
        have HFe := hide (HFd.out.step hf (fun _ _ h => h.elim))
        clear hs hf
        obtain ⟨gl2, q, gq, -⟩ := HB13.out
        simp only [LDV] at q
        obtain ⟨q0, q1, q2, q3, q4, q5, q6⟩ := q
        obtain ⟨gl1, p, gp, -⟩ := HYB5.out
        simp only [LDV] at p
        obtain ⟨p0, p1, p2, p3, p4, p5, p6⟩ := p
        go_upto_region 30 with (fail)
        generalize hW : World.setCell (World.setCell (World.setCell (World.setCell (World.setCell (World.setCell (World.setCell v13 _ _) _ _) _ _) _ _) _ _) _ _) _ _ = v14
        obtain ⟨hs, hf⟩ : B7 v14 v6.heap.size (LDV By2 (m + 1) dy2 (Y.count 2)) ∧ Fr v13 v14 (fun i => i = v6.heap.size) := by
          rw [← hW]
          have hh := And.intro (HYB5.out.put (LDV By2 (m + 1) dy2 (Y.count 2))) (fr_put7 (w := v13) (b := v6.heap.size) (v0 := (LDV By2 (m + 1) dy2 (Y.count 2)).v0) (v1 := (LDV By2 (m + 1) dy2 (Y.count 2)).v1) (v2 := (LDV By2 (m + 1) dy2 (Y.count 2)).v2) (v3 := (LDV By2 (m + 1) dy2 (Y.count 2)).v3) (v4 := (LDV By2 (m + 1) dy2 (Y.count 2)).v4) (v5 := (LDV By2 (m + 1) dy2 (Y.count 2)).v5) (v6 := (LDV By2 (m + 1) dy2 (Y.count 2)).v6))
          simp only [put7, LDV] at hh ⊢
          exact hh
        clear hW
        have HYB6 := hide hs
        have HYR6 := hide (HYR5.out.fr hf (fun hl b o hA _ h => rs_not_b7 HYR5.out tk_str HYB5.out (ldv_no _ _ _ _) hl b o hA h))
        have HFB6 := hide (HFB5.out.fr hf (by omega))
        have HFR6 := hide (HFR5.out.fr hf (fun hl b o hA _ h => rs_not_b7 HFR5.out tk_str HYB5.out (ldv_no _ _ _ _) hl b o hA h))
        have HP6 := hide (HP5'.out.fr hf (by omega))
        have HT6' := hide (HT5'.out.fr hf (by omega) (fun b o hA hl h => by have := HOA.out hl b o hA; omega))
        have HFf := hide (HFe.out.step hf (fun i hi h => by omega))
        clear hs hf p0 p1 p2 p3 p4 p5 p6 gp gl1 q0 q1 q2 q3 q4 q5 q6 gq gl2
        go_wp2_with fail
        go_roundw
        case rel => exact ⟨i - 1, j2 + 1, Y.count 2, By2, dy2, (a2 + 1), by omega, by congr 1; omega, hide HY12, hide HYK12, by omega, HYB6, HYR6, HFB6, HFR6, HP6, HT6', by omega, HFf⟩
        case measure => simp [intOf]; omega

end Go.Proofs.Ytjhkgoengoiljaa
