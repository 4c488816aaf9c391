/- The walk of the law SequentialChecks. -/
import Derived.Test.YtnokfhkcfebimaaG26
import Derived.Test.YtnokfhkcfebimaaG24
import Derived.Deep.CutBlock
set_option linter.unusedVariables false
set_option linter.unusedSimpArgs false

/- The walk of the law SequentialChecks. -/
namespace Go.Proofs.Ytnokfhkcfebimaa
open Go.RowKit

set_option maxRecDepth 100000 in
set_option maxHeartbeats 8000000 in
theorem ysmall_any (s : Sv) : ∃ b : Bool, ∀ w, SQ w s → Calls Try.prog 31 #[.agg #[.slice s.l.A s.l.n s.l.c, .slice s.l.B s.l.m s.l.d, .slice s.h.A s.h.n s.h.c, .slice s.h.B s.h.m s.h.d, .slice s.a.A s.a.n s.a.c, .slice s.a.B s.a.m s.a.d, .slice s.b.A s.b.n s.b.c, .slice s.b.B s.b.m s.b.d, .int .i64 s.m]] w fun e w' => e = .returned (.bool b) ∧ Below w.heap.size w w' := by
  refine ⟨decide (wrap64 (wrap64 (wrap64 (wrap64 (wrap64 (wrap64 (wrap64 ((s.l.n : Int) + (s.l.m : Int)) + (s.h.n : Int)) + (s.h.m : Int)) + (s.a.n : Int)) + (s.a.m : Int)) + (s.b.n : Int)) + (s.b.m : Int)) ≤ 100), fun w hq => ?_⟩
  go_enter Try.func31, Try.ntmps31
  go_upto_region 1 with (fail)
  generalize hW : World.alloc w _ = v
  have HF := hide (show FS w v w.heap.size s by rw [← hW]; exact FS.mk0 hq _)
  obtain ⟨a0, a1, a2, a3, a4, a5, a6, a7, a8, a9⟩ := HF.out.ca
  clear hW hq
  go_wp2_with fail
  go_ret
  exact ⟨rfl, HF.out.bw⟩
/-- What the functions say at no outcomes. -/
structure ChkS (s : Sv) (E : Int) : Prop where
  r : ∀ W, SQ W s → Calls Try.prog 25 #[.agg #[.slice s.l.A s.l.n s.l.c, .slice s.l.B s.l.m s.l.d, .slice s.h.A s.h.n s.h.c, .slice s.h.B s.h.m s.h.d, .slice s.a.A s.a.n s.a.c, .slice s.a.B s.a.m s.a.d, .slice s.b.A s.b.n s.b.c, .slice s.b.B s.b.m s.b.d, .int .i64 s.m], .int .i64 0, .int .i64 0] W fun e w' => ∃ c : Fa, e = .returned (.tuple #[.agg #[.slice c.A c.n c.c, .slice c.B c.m c.d], .int .i64 E]) ∧ Below W.heap.size W w'
  u : ∀ W, SQ W s → Calls Try.prog 29 #[.agg #[.slice s.l.A s.l.n s.l.c, .slice s.l.B s.l.m s.l.d, .slice s.h.A s.h.n s.h.c, .slice s.h.B s.h.m s.h.d, .slice s.a.A s.a.n s.a.c, .slice s.a.B s.a.m s.a.d, .slice s.b.A s.b.n s.b.c, .slice s.b.B s.b.m s.b.d, .int .i64 s.m], .slice none 0 0] W fun e w' => ∃ D N : Int, e = .returned (.tuple #[.int .i64 D, .int .i64 N, .int .i64 E]) ∧ Below W.heap.size W w'
  l : ∀ W, SQ W s → Calls Try.prog 21 #[.agg #[.slice s.l.A s.l.n s.l.c, .slice s.l.B s.l.m s.l.d, .slice s.h.A s.h.n s.h.c, .slice s.h.B s.h.m s.h.d, .slice s.a.A s.a.n s.a.c, .slice s.a.B s.a.m s.a.d, .slice s.b.A s.b.n s.b.c, .slice s.b.B s.b.m s.b.d, .int .i64 s.m], .int .i64 0] W fun e w' => ∃ D N : Int, e = .returned (.tuple #[.int .i64 D, .int .i64 N, .int .i64 E]) ∧ Below W.heap.size W w'
theorem chk_ok {s : Sv} (h : s.ok = true) : ChkS s 0 := by
  obtain ⟨l, h', a, b, M, hk⟩ := Sv.ok_some h
  have hm := hk.m
  have hc : cntE s 0 0 = 0 := by
    unfold cntE
    rw [if_neg (by rw [h]; simp), if_neg (by omega)]
  refine ⟨fun W hW => ?_, fun W hW => ?_, fun W hW => ?_⟩
  · obtain ⟨r, -, hC⟩ := sratiox_any W s 0 0 hW
    refine hC.mono ?_
    rintro e w' ⟨c, rfl, -, hb⟩
    exact ⟨c, by rw [show (ratR s 0 0 r).2 = 0 by unfold ratR; rw [if_pos hc]], hb⟩
  · refine (srun_ok W s l h' a b M none 0 0 [] hW hk Rs.nil rfl (by omega) (by omega)).mono ?_
    rintro e w' ⟨D, p, f, rfl, -, hb⟩
    exact ⟨D, _, rfl, hb⟩
  · refine (slimits_ok W s l h' a b M 0 hW hk (by omega)).mono ?_
    rintro e w' ⟨x, y, rfl, -, -, hb⟩
    exact ⟨x, y, rfl, hb⟩
theorem chk_bad {s : Sv} (h : s.ok = false) : ChkS s 1 := by
  have hc : cntE s 0 0 = 1 := by unfold cntE; rw [if_pos h]
  refine ⟨fun W hW => ?_, fun W hW => ?_, fun W hW => ?_⟩
  · obtain ⟨r, -, hC⟩ := sratiox_any W s 0 0 hW
    refine hC.mono ?_
    rintro e w' ⟨c, rfl, -, hb⟩
    exact ⟨c, by rw [show (ratR s 0 0 r).2 = 1 by unfold ratR; rw [if_neg (by rw [hc]; decide)]; exact hc], hb⟩
  · refine (srun_bad W s none 0 0 hW h).mono ?_
    rintro e w' ⟨rfl, hb⟩
    exact ⟨_, _, rfl, hb⟩
  · refine (slimits_bad W s 0 hW (.inl h)).mono ?_
    rintro e w' ⟨rfl, hb⟩
    exact ⟨_, _, by rw [if_pos h], hb⟩
/-- The raw box, the tape, the box of the specification in the making. -/
structure CkS (w0 v : World) (T : Nat) (A : Option Addr) (n c : Nat) (l : List Int) (a g0 g : Nat) (raw s : Sv) : Prop where
  tp : Tp v T A n c l a
  r : Cb v g0 raw.cs
  rq : SQ v raw
  b : Cb v g s.cs
  q : SQ v s
  bw : Below w0.heap.size w0 v
section
variable {w0 v v' : World} {T n c a g0 g : Nat} {A : Option Addr} {l : List Int} {raw s s' : Sv}
theorem CkS.below (h : CkS w0 v T A n c l a g0 g raw s) (hb : Below v.heap.size v v') : CkS w0 v' T A n c l a g0 g raw s := ⟨h.tp.below hb, h.r.below hb, h.rq.below hb, h.b.below hb, h.q.below hb, h.bw.trans (hb.mono h.bw.size)⟩
theorem CkS.tape (h : CkS w0 v T A n c l a g0 g raw s) {a' : Nat} (hp : Tp v' T A n c l a') (hf : Fr v v' (fun b => b = T)) (h0 : g0 ≠ T) (h1 : g ≠ T) (hT : w0.heap.size ≤ T) : CkS w0 v' T A n c l a' g0 g raw s :=
  ⟨hp, h.r.one hf h0, h.rq.one hf h.tp.nb, h.b.one hf h1, h.q.one hf h.tp.nb, ((Fr.of_below (fun b => b = T) h.bw).trans hf).below (Nat.le_refl _) (fun k hk e => by omega)⟩
theorem CkS.put (h : CkS w0 v T A n c l a g0 g raw s) {t0 : World} {a0 : Nat} (hp0 : Tp t0 T A n c l a0) (hg1 : t0.heap.size ≤ g) (h0 : g0 ≠ g) (hf : Fr v v' (fun b => b = g)) (hb : Cb v' g s'.cs) (hq : SQ v' s') (hg : w0.heap.size ≤ g) : CkS w0 v' T A n c l a g0 g raw s' :=
  ⟨hp0.one h.tp hg1 hf, h.r.one hf h0, h.rq.one hf h.b.nb, hb, hq, ((Fr.of_below (fun b => b = g) h.bw).trans hf).below (Nat.le_refl _) (fun k hk e => by omega)⟩
end
/-- Specifications in a row. -/
def SRow (v : World) (b : Nat) (xs : List Sv) : Prop :=
  b < v.heap.size ∧ ∀ i x, xs[i]? = some x → (v.cell? ⟨b, i * 9, none⟩ = some (.slice x.l.A x.l.n x.l.c) ∧ v.cell? ⟨b, i * 9 + 1, none⟩ = some (.slice x.l.B x.l.m x.l.d) ∧ v.cell? ⟨b, i * 9 + 2, none⟩ = some (.slice x.h.A x.h.n x.h.c) ∧ v.cell? ⟨b, i * 9 + 3, none⟩ = some (.slice x.h.B x.h.m x.h.d) ∧ v.cell? ⟨b, i * 9 + 4, none⟩ = some (.slice x.a.A x.a.n x.a.c) ∧ v.cell? ⟨b, i * 9 + 5, none⟩ = some (.slice x.a.B x.a.m x.a.d) ∧ v.cell? ⟨b, i * 9 + 6, none⟩ = some (.slice x.b.A x.b.n x.b.c) ∧ v.cell? ⟨b, i * 9 + 7, none⟩ = some (.slice x.b.B x.b.m x.b.d) ∧ v.cell? ⟨b, i * 9 + 8, none⟩ = some (.int .i64 x.m)) ∧ SQ v x
theorem SRow.below {v v' : World} {b : Nat} {xs : List Sv} (h : SRow v b xs) (hb : Below v.heap.size v v') : SRow v' b xs := by
  have h1 := h.1
  refine ⟨Nat.lt_of_lt_of_le h1 hb.size, fun i x hx => ?_⟩
  obtain ⟨⟨k0, k1, k2, k3, k4, k5, k6, k7, k8⟩, hq⟩ := h.2 i x hx
  refine ⟨⟨?_, ?_, ?_, ?_, ?_, ?_, ?_, ?_, ?_⟩, hq.below hb⟩ <;> rw [hb.cell (by simp; omega)] <;> assumption
theorem srow_two {w : World} {x y : Sv} (hx : SQ w x) (hy : SQ w y) (t : TypeId) :
    SRow (w.alloc (.cells #[.slice x.l.A x.l.n x.l.c, .slice x.l.B x.l.m x.l.d, .slice x.h.A x.h.n x.h.c, .slice x.h.B x.h.m x.h.d, .slice x.a.A x.a.n x.a.c, .slice x.a.B x.a.m x.a.d, .slice x.b.A x.b.n x.b.c, .slice x.b.B x.b.m x.b.d, .int .i64 x.m, .slice y.l.A y.l.n y.l.c, .slice y.l.B y.l.m y.l.d, .slice y.h.A y.h.n y.h.c, .slice y.h.B y.h.m y.h.d, .slice y.a.A y.a.n y.a.c, .slice y.a.B y.a.m y.a.d, .slice y.b.A y.b.n y.b.c, .slice y.b.B y.b.m y.b.d, .int .i64 y.m] t)) w.heap.size [x, y] := by
  refine ⟨by simp, fun i z hz => ?_⟩
  match i with
  | 0 => simp at hz; subst hz; exact ⟨⟨by simp [go_sem], by simp [go_sem], by simp [go_sem], by simp [go_sem], by simp [go_sem], by simp [go_sem], by simp [go_sem], by simp [go_sem], by simp [go_sem]⟩, hx.alloc _⟩
  | 1 => simp at hz; subst hz; exact ⟨⟨by simp [go_sem], by simp [go_sem], by simp [go_sem], by simp [go_sem], by simp [go_sem], by simp [go_sem], by simp [go_sem], by simp [go_sem], by simp [go_sem]⟩, hy.alloc _⟩
  | i + 2 => simp at hz
theorem fr2c {w : World} {g : Nat} (i j : Nat) (a b : Value) : Fr w ((w.setCell ⟨g, i, none⟩ a).setCell ⟨g, j, none⟩ b) (fun x => x = g) := by
  refine Fr.setCell (Fr.setCell (Fr.refl _ _) ?_ _) ?_ _ <;> exact Or.inr (by rfl)
set_option maxRecDepth 100000 in
set_option maxHeartbeats 16000000 in
theorem schecks_walk (w : World) (A : Option Addr) (n c : Nat) (l : List Int) (s0 : Sv) (how : Int) (hA : Rs w none 1 iv A l) (hl : l.length = n) (hq : SQ w s0) :
    Calls Try.prog 7 #[.slice A n c, .agg #[.slice s0.l.A s0.l.n s0.l.c, .slice s0.l.B s0.l.m s0.l.d, .slice s0.h.A s0.h.n s0.h.c, .slice s0.h.B s0.h.m s0.h.d, .slice s0.a.A s0.a.n s0.a.c, .slice s0.a.B s0.a.m s0.a.d, .slice s0.b.A s0.b.n s0.b.c, .slice s0.b.B s0.b.m s0.b.d, .int .i64 s0.m], .int .i64 how] w fun e w' => e = .returned (.bool true) ∧ Below w.heap.size w w' := by
  obtain ⟨b, hS⟩ := ysmall_any s0
  cases b
  · have HS := hide hS
    have HQ := hide hq
    clear hA hl hS hq
    go_enter Try.func7, Try.ntmps7
    go_upto_region 1 with (fail)
    generalize hW : World.alloc w _ = v
    have HF := hide (show FS w v w.heap.size s0 by rw [← hW]; exact FS.mk0 HQ.out _)
    obtain ⟨a0, a1, a2, a3, a4, a5, a6, a7, a8, a9⟩ := HF.out.ca
    clear hW
    go_wp2_with (first
      | (go_at_call 31; (with_reducible refine (HS.out _ HF.out.q).mono ?_); rintro e w1 ⟨rfl, hb⟩; have HF1 := hide (HF.out.below hb); clear hb)
      | (go_at_call 24; (with_reducible refine (yknown_any _).mono ?_); rintro e w9 ⟨rfl, hb⟩; have HB9 := hide (HF1.out.bw.trans (hb.mono HF1.out.bw.size)); clear hb))
    go_ret
    exact ⟨rfl, HB9.out⟩
  · have HS := hide hS
    have HQ := hide hq
    have HA := hide hA
    have HL := hide hl
    obtain ⟨q, hq6, hFo⟩ := fold_nat how 6 (by omega) (by omega)
    have HFO := hide hFo
    clear hA hl hS hq hFo
    go_enter Try.func7, Try.ntmps7
    go_upto_region 1 with (fail)
    generalize hW : World.alloc w _ = v
    have HF := hide (show FS w v w.heap.size s0 by rw [← hW]; exact FS.mk0 HQ.out _)
    obtain ⟨a0, a1, a2, a3, a4, a5, a6, a7, a8, a9⟩ := HF.out.ca
    clear hW
    go_upto_region 3 with (go_at_call 31; (with_reducible refine (HS.out _ HF.out.q).mono ?_); rintro e w1 ⟨rfl, hb⟩; have HF1 := hide (HF.out.below hb); clear hb)
    clear a0 a1 a2 a3 a4 a5 a6 a7 a8 a9
    go_upto_region 4 with (fail)
    generalize hW : World.alloc w1 _ = v1
    have HT1 := hide (show Tp v1 w1.heap.size A n c l 0 by rw [← hW]; exact tp_new (w := w1) (c := c) (HA.out.below HF1.out.bw) HL.out 32)
    have HF2 := hide (show FS w v1 w.heap.size s0 by rw [← hW]; exact HF1.out.alloc _)
    have hT0 : w.heap.size < w1.heap.size := HF1.out.cb.sz
    obtain ⟨T, hT⟩ : ∃ T, T = w1.heap.size := ⟨_, rfl⟩
    rw [← hT] at HT1 hT0 ⊢
    clear hW hT
    go_upto_region 5 with (go_at_call 19; refine (yspec_any _ T A n c l 0 8 HT1.out (by omega) (by omega) (by omega)).mono ?_; rintro e w2 ⟨s, lo, hi, al, be, M, bb, rfl, hq, hk, hM, hp, hbb, hf⟩; have HFr := hide hf; have HQ2 := hide hq; have HP2 := hide hp; clear hq hk hM hp hf)
    generalize hW : World.alloc w2 _ = v2
    have HC := hide (show CkS w v2 T A n c l bb w.heap.size w2.heap.size s0 s by
      rw [← hW]
      have hb1 : Below w.heap.size w w2 := ((Fr.of_below (fun b => b = T) HF2.out.bw).trans HFr.out).below (Nat.le_refl _) (fun k hk e => by omega)
      exact ⟨HP2.out.alloc _, (HF2.out.cb.one HFr.out (by omega)).below ((Below.refl _ _).alloc (Nat.le_refl _) _), (HF2.out.q.one HFr.out HT1.out.nb).alloc _, (FS.mk0 HQ2.out _).cb, HQ2.out.alloc _, hb1.alloc hb1.size _⟩)
    have hg0 : T < w2.heap.size := HP2.out.t.1
    obtain ⟨g, hg⟩ : ∃ g, g = w2.heap.size := ⟨_, rfl⟩
    have HP3 := hide (show Tp w2 T A n c l bb ∧ w2.heap.size ≤ g from ⟨HP2.out, by omega⟩)
    rw [← hg] at HC hg0 ⊢
    clear hW hg
    have hgz := HC.out.b.sz
    go_upto_block 0 with (go_at_call 20; (with_reducible refine (HFO.out _).mono ?_); rintro e w' ⟨rfl, rfl⟩)
    go_cut [] from 31 to 59 (fun wx => ∃ (s2 : Sv) (b2 : Nat), Hid (CkS w wx T A n c l b2 w.heap.size g s0 s2))
    case first =>
      have hTz := HC.out.tp.t.1
      obtain ⟨p0, p1, p2, p3, p4, p5, p6, p7, p8⟩ : _ ∧ _ ∧ _ ∧ _ ∧ _ ∧ _ ∧ _ ∧ _ ∧ _ := ⟨HC.out.b.cell 0 _ rfl, HC.out.b.cell 1 _ rfl, HC.out.b.cell 2 _ rfl, HC.out.b.cell 3 _ rfl, HC.out.b.cell 4 _ rfl, HC.out.b.cell 5 _ rfl, HC.out.b.cell 6 _ rfl, HC.out.b.cell 7 _ rfl, HC.out.b.cell 8 _ rfl⟩; have pf := HC.out.b.fz; have pz := HC.out.b.sz
      match q, hq6 with
      | 0, _ =>
        go_wp2_with fail
        go_meet
        case rel => exact ⟨⟨s.h, s.l, s.a, s.b, s.m, s.hl, s.hk, s.ll, s.lk, s.al, s.ak, s.bl, s.bk⟩, bb, hide (HC.out.put HP3.out.1 HP3.out.2 (by omega) (fr4 0 1 2 3 _ _ _ _) ((((HC.out.b.put 0 (.slice s.h.A s.h.n s.h.c) (by simp [Sv.cs]) (by simp)).put 1 (.slice s.h.B s.h.m s.h.d) (by simp [Sv.cs]) (by simp)).put 2 (.slice s.l.A s.l.n s.l.c) (by simp [Sv.cs]) (by simp)).put 3 (.slice s.l.B s.l.m s.l.d) (by simp [Sv.cs]) (by simp)) ⟨HC.out.q.h.one (fr4 0 1 2 3 _ _ _ _) HC.out.b.nb, HC.out.q.l.one (fr4 0 1 2 3 _ _ _ _) HC.out.b.nb, HC.out.q.a.one (fr4 0 1 2 3 _ _ _ _) HC.out.b.nb, HC.out.q.b.one (fr4 0 1 2 3 _ _ _ _) HC.out.b.nb⟩ (by omega))⟩
      | 1, _ =>
        clear p0 p1 p2 p3 p4 p5 p6 p7 p8 pf pz
        go_wp2_with (go_at_call 32; refine (chancem_any _ T A n c l bb HC.out.tp (by omega)).mono ?_; rintro e w3 ⟨f1, r1, rfl, ho, -, hp, hf⟩; have HO3 := hide ho; have HC3 := hide (HC.out.tape hp hf (by omega) (by omega) (by omega)); obtain ⟨p0, p1, p2, p3, p4, p5, p6, p7, p8⟩ : _ ∧ _ ∧ _ ∧ _ ∧ _ ∧ _ ∧ _ ∧ _ ∧ _ := ⟨HC3.out.b.cell 0 _ rfl, HC3.out.b.cell 1 _ rfl, HC3.out.b.cell 2 _ rfl, HC3.out.b.cell 3 _ rfl, HC3.out.b.cell 4 _ rfl, HC3.out.b.cell 5 _ rfl, HC3.out.b.cell 6 _ rfl, HC3.out.b.cell 7 _ rfl, HC3.out.b.cell 8 _ rfl⟩; have pf := HC3.out.b.fz; have pz := HC3.out.b.sz; clear ho hp hf)
        go_meet
        case rel => exact ⟨⟨s.l, s.h, f1, s.b, s.m, s.ll, s.lk, s.hl, s.hk, lm (rn r1), lm r1.den, s.bl, s.bk⟩, bb + 2, hide (HC3.out.put HP3.out.1 HP3.out.2 (by omega) (fr2c 4 5 _ _) ((HC3.out.b.put 4 (.slice f1.A f1.n f1.c) (by simp [Sv.cs]) (by simp)).put 5 (.slice f1.B f1.m f1.d) (by simp [Sv.cs]) (by simp)) ⟨HC3.out.q.l.one (fr2c 4 5 _ _) HC3.out.b.nb, HC3.out.q.h.one (fr2c 4 5 _ _) HC3.out.b.nb, HO3.out.1.one (fr2c 4 5 _ _) HC3.out.b.nb, HC3.out.q.b.one (fr2c 4 5 _ _) HC3.out.b.nb⟩ (by omega))⟩
      | 2, _ =>
        clear p0 p1 p2 p3 p4 p5 p6 p7 p8 pf pz
        go_wp2_with (go_at_call 32; refine (chancem_any _ T A n c l bb HC.out.tp (by omega)).mono ?_; rintro e w3 ⟨f1, r1, rfl, ho, -, hp, hf⟩; have HO3 := hide ho; have HC3 := hide (HC.out.tape hp hf (by omega) (by omega) (by omega)); obtain ⟨p0, p1, p2, p3, p4, p5, p6, p7, p8⟩ : _ ∧ _ ∧ _ ∧ _ ∧ _ ∧ _ ∧ _ ∧ _ ∧ _ := ⟨HC3.out.b.cell 0 _ rfl, HC3.out.b.cell 1 _ rfl, HC3.out.b.cell 2 _ rfl, HC3.out.b.cell 3 _ rfl, HC3.out.b.cell 4 _ rfl, HC3.out.b.cell 5 _ rfl, HC3.out.b.cell 6 _ rfl, HC3.out.b.cell 7 _ rfl, HC3.out.b.cell 8 _ rfl⟩; have pf := HC3.out.b.fz; have pz := HC3.out.b.sz; clear ho hp hf)
        go_meet
        case rel => exact ⟨⟨s.l, s.h, s.a, f1, s.m, s.ll, s.lk, s.hl, s.hk, s.al, s.ak, lm (rn r1), lm r1.den⟩, bb + 2, hide (HC3.out.put HP3.out.1 HP3.out.2 (by omega) (fr2c 6 7 _ _) ((HC3.out.b.put 6 (.slice f1.A f1.n f1.c) (by simp [Sv.cs]) (by simp)).put 7 (.slice f1.B f1.m f1.d) (by simp [Sv.cs]) (by simp)) ⟨HC3.out.q.l.one (fr2c 6 7 _ _) HC3.out.b.nb, HC3.out.q.h.one (fr2c 6 7 _ _) HC3.out.b.nb, HC3.out.q.a.one (fr2c 6 7 _ _) HC3.out.b.nb, HO3.out.1.one (fr2c 6 7 _ _) HC3.out.b.nb⟩ (by omega))⟩
      | 3, _ =>
        clear p0 p1 p2 p3 p4 p5 p6 p7 p8 pf pz
        go_wp2_with (go_at_call 33; have hx10 : Rs (v2.alloc (.cells #[.int .i64 0, .int .i64 (-1), .int .i64 32, .int .i64 33] 3)) (some T) 1 iv (some ⟨v2.heap.size, 0, none⟩) [0, -1, 32, 33] := rs_new (by omega) [0, -1, 32, 33] 3; refine (pickp_any _ T A n c l bb _ 4 4 [0, -1, 32, 33] (HC.out.tp.alloc _) (by omega) hx10 rfl (by decide) (by decide)).mono ?_; rintro e w3 ⟨⟨v9, hv, rfl⟩, hp, hf⟩; have HC3 := hide ((HC.out.below ((Below.refl _ _).alloc (Nat.le_refl _) _)).tape hp hf (by omega) (by omega) (by omega)); obtain ⟨p0, p1, p2, p3, p4, p5, p6, p7, p8⟩ : _ ∧ _ ∧ _ ∧ _ ∧ _ ∧ _ ∧ _ ∧ _ ∧ _ := ⟨HC3.out.b.cell 0 _ rfl, HC3.out.b.cell 1 _ rfl, HC3.out.b.cell 2 _ rfl, HC3.out.b.cell 3 _ rfl, HC3.out.b.cell 4 _ rfl, HC3.out.b.cell 5 _ rfl, HC3.out.b.cell 6 _ rfl, HC3.out.b.cell 7 _ rfl, HC3.out.b.cell 8 _ rfl⟩; have pf := HC3.out.b.fz; have pz := HC3.out.b.sz; clear hp hf hv)
        go_meet
        case rel => exact ⟨⟨s.l, s.h, s.a, s.b, v9, s.ll, s.lk, s.hl, s.hk, s.al, s.ak, s.bl, s.bk⟩, bb + 1, hide (HC3.out.put HP3.out.1 HP3.out.2 (by omega) (fr1 8 _) (HC3.out.b.put 8 (.int .i64 v9) (by simp [Sv.cs]) (by simp)) ⟨HC3.out.q.l.one (fr1 8 _) HC3.out.b.nb, HC3.out.q.h.one (fr1 8 _) HC3.out.b.nb, HC3.out.q.a.one (fr1 8 _) HC3.out.b.nb, HC3.out.q.b.one (fr1 8 _) HC3.out.b.nb⟩ (by omega))⟩
      | 4, _ =>
        go_wp2_with fail
        go_meet
        case rel => exact ⟨⟨s.l, s.l, s.a, s.b, s.m, s.ll, s.lk, s.ll, s.lk, s.al, s.ak, s.bl, s.bk⟩, bb, hide (HC.out.put HP3.out.1 HP3.out.2 (by omega) (fr2c 2 3 _ _) ((HC.out.b.put 2 (.slice s.l.A s.l.n s.l.c) (by simp [Sv.cs]) (by simp)).put 3 (.slice s.l.B s.l.m s.l.d) (by simp [Sv.cs]) (by simp)) ⟨HC.out.q.l.one (fr2c 2 3 _ _) HC.out.b.nb, HC.out.q.l.one (fr2c 2 3 _ _) HC.out.b.nb, HC.out.q.a.one (fr2c 2 3 _ _) HC.out.b.nb, HC.out.q.b.one (fr2c 2 3 _ _) HC.out.b.nb⟩ (by omega))⟩
      | 5, _ =>
        go_wp2_with fail
        go_meet
        case rel => exact ⟨s, bb, HC⟩
      | q + 6, h => exact absurd h (by omega)
    case rest =>
      obtain ⟨s2, b2, HC2⟩ := hcut
      have r0 := HC2.out.r.cell 0 _ rfl
      have r1 := HC2.out.r.cell 1 _ rfl
      have r2 := HC2.out.r.cell 2 _ rfl
      have r3 := HC2.out.r.cell 3 _ rfl
      have r4 := HC2.out.r.cell 4 _ rfl
      have r5 := HC2.out.r.cell 5 _ rfl
      have r6 := HC2.out.r.cell 6 _ rfl
      have r7 := HC2.out.r.cell 7 _ rfl
      have r8 := HC2.out.r.cell 8 _ rfl
      have rz := HC2.out.r.sz
      obtain ⟨p0, p1, p2, p3, p4, p5, p6, p7, p8⟩ : _ ∧ _ ∧ _ ∧ _ ∧ _ ∧ _ ∧ _ ∧ _ ∧ _ := ⟨HC2.out.b.cell 0 _ rfl, HC2.out.b.cell 1 _ rfl, HC2.out.b.cell 2 _ rfl, HC2.out.b.cell 3 _ rfl, HC2.out.b.cell 4 _ rfl, HC2.out.b.cell 5 _ rfl, HC2.out.b.cell 6 _ rfl, HC2.out.b.cell 7 _ rfl, HC2.out.b.cell 8 _ rfl⟩; have pf := HC2.out.b.fz; have pz := HC2.out.b.sz
      go_upto_region 17 with (fail)
      generalize hW : World.alloc wc _ = v3
      have HR := hide (show SRow v3 wc.heap.size [s0, s2] by rw [← hW]; exact srow_two HC2.out.rq HC2.out.q _)
      have HB3 := hide (show Below w.heap.size w v3 by rw [← hW]; exact HC2.out.bw.alloc HC2.out.bw.size _)
      obtain ⟨h, hh⟩ : ∃ h, h = wc.heap.size := ⟨_, rfl⟩
      rw [← hh] at HR ⊢
      clear hW hh p0 p1 p2 p3 p4 p5 p6 p7 p8 pf pz r0 r1 r2 r3 r4 r5 r6 r7 r8 rz
      go_loopw [64] (fun i wr => ∃ j : Nat, i = .int .i64 (j : Int) ∧ j ≤ 2 ∧ Hid (Below v3.heap.size v3 wr)) (fun i _ => 2 - (intOf i).toNat)
      case atStart => exact ⟨0, rfl, by omega, hide (Below.refl _ _)⟩
      case round =>
        obtain ⟨j, rfl, hj, HBr⟩ := hrel
        have HBw := hide (HB3.out.trans (HBr.out.mono HB3.out.size))
        by_cases hj2 : j = 2
        · subst hj2
          go_wp2_with (go_at_call 24; (with_reducible refine (yknown_any _).mono ?_); rintro e w9 ⟨rfl, hb⟩; have HB9 := hide (HBw.out.trans (hb.mono HBw.out.size)); clear hb)
          go_ret
          exact ⟨rfl, HB9.out⟩
        · have hj0 : (0 : Int) ≤ (j : Int) := by omega
          have hjlt : (j : Int) < 2 := by omega
          have HRr := HR.out.below HBr.out
          obtain ⟨x, hx⟩ : ∃ x, [s0, s2][j]? = some x := ⟨_, List.getElem?_eq_getElem (by simp; omega)⟩
          obtain ⟨⟨k0, k1, k2, k3, k4, k5, k6, k7, k8⟩, hqx⟩ := HRr.2 j _ hx
          have HQX := hide hqx
          have hhz := HRr.1
          clear hx hqx HRr
          go_upto_region 19 with (fail)
          generalize hW : World.alloc wr _ = v4
          have HF := hide (show FS wr v4 wr.heap.size x by rw [← hW]; exact FS.mk0 HQX.out _)
          obtain ⟨gg, hgg⟩ : ∃ h, h = wr.heap.size := ⟨_, rfl⟩
          rw [← hgg] at HF ⊢
          obtain ⟨a0, a1, a2, a3, a4, a5, a6, a7, a8, a9⟩ := HF.out.ca
          clear hW hgg k0 k1 k2 k3 k4 k5 k6 k7 k8
          rcases hok : x.ok
          · have HOK := hide hok
            have HK := hide (chk_bad hok)
            clear hok
            go_upto_region 21 with (first
              | (go_at_call 34; (with_reducible refine (qcheckv_any _ x HF.out.q).mono ?_); rintro e w4 ⟨rfl, hb⟩; rw [HOK.out]; have HF4 := hide (HF.out.below hb); obtain ⟨b0, b1, b2, b3, b4, b5, b6, b7, b8, b9⟩ := HF4.out.ca; clear hb)
              | (go_at_call 25; (with_reducible refine (HK.out.r _ HF4.out.q).mono ?_); rintro e w5 ⟨cc, rfl, hb⟩; have HF5 := hide (HF4.out.below hb); obtain ⟨c0, c1, c2, c3, c4, c5, c6, c7, c8, c9⟩ := HF5.out.ca; clear hb))
            generalize hW : World.alloc w5 _ = w6
            have HF6 := hide (show FS wr w6 gg x by rw [← hW]; exact HF5.out.alloc _)
            obtain ⟨d0, d1, d2, d3, d4, d5, d6, d7, d8, d9⟩ := HF6.out.ca
            clear hW a0 a1 a2 a3 a4 a5 a6 a7 a8 a9 b0 b1 b2 b3 b4 b5 b6 b7 b8 b9 c0 c1 c2 c3 c4 c5 c6 c7 c8 c9
            go_wp2_with (first
              | (go_at_call 35; (with_reducible refine (scheckv_any _ x HF8.out.q).mono ?_); rintro e w9 ⟨rfl, hb⟩; rw [HOK.out]; have HF9 := hide (HF8.out.below hb); clear hb)
              | (go_at_call 21; (with_reducible refine (HK.out.l _ HF7.out.q).mono ?_); rintro e w8 ⟨y1, y2, rfl, hb⟩; have HF8 := hide (HF7.out.below hb); obtain ⟨f0, f1, f2, f3, f4, f5, f6, f7, f8, f9⟩ := HF8.out.ca; clear hb)
              | (go_at_call 29; (with_reducible refine (HK.out.u _ HF6.out.q).mono ?_); rintro e w7 ⟨z1, z2, rfl, hb⟩; have HF7 := hide (HF6.out.below hb); obtain ⟨e0, e1, e2, e3, e4, e5, e6, e7, e8, e9⟩ := HF7.out.ca; clear hb))
            go_roundw
            case rel => exact ⟨j + 1, by go_num, by omega, hide (HBr.out.trans (HF9.out.bw.mono HBr.out.size))⟩
            case measure => simp [intOf]; omega
          · have HOK := hide hok
            have HK := hide (chk_ok hok)
            clear hok
            go_upto_region 21 with (first
              | (go_at_call 34; (with_reducible refine (qcheckv_any _ x HF.out.q).mono ?_); rintro e w4 ⟨rfl, hb⟩; rw [HOK.out]; have HF4 := hide (HF.out.below hb); obtain ⟨b0, b1, b2, b3, b4, b5, b6, b7, b8, b9⟩ := HF4.out.ca; clear hb)
              | (go_at_call 25; (with_reducible refine (HK.out.r _ HF4.out.q).mono ?_); rintro e w5 ⟨cc, rfl, hb⟩; have HF5 := hide (HF4.out.below hb); obtain ⟨c0, c1, c2, c3, c4, c5, c6, c7, c8, c9⟩ := HF5.out.ca; clear hb))
            generalize hW : World.alloc w5 _ = w6
            have HF6 := hide (show FS wr w6 gg x by rw [← hW]; exact HF5.out.alloc _)
            obtain ⟨d0, d1, d2, d3, d4, d5, d6, d7, d8, d9⟩ := HF6.out.ca
            clear hW a0 a1 a2 a3 a4 a5 a6 a7 a8 a9 b0 b1 b2 b3 b4 b5 b6 b7 b8 b9 c0 c1 c2 c3 c4 c5 c6 c7 c8 c9
            go_wp2_with (first
              | (go_at_call 35; (with_reducible refine (scheckv_any _ x HF8.out.q).mono ?_); rintro e w9 ⟨rfl, hb⟩; rw [HOK.out]; have HF9 := hide (HF8.out.below hb); clear hb)
              | (go_at_call 21; (with_reducible refine (HK.out.l _ HF7.out.q).mono ?_); rintro e w8 ⟨y1, y2, rfl, hb⟩; have HF8 := hide (HF7.out.below hb); obtain ⟨f0, f1, f2, f3, f4, f5, f6, f7, f8, f9⟩ := HF8.out.ca; clear hb)
              | (go_at_call 29; (with_reducible refine (HK.out.u _ HF6.out.q).mono ?_); rintro e w7 ⟨z1, z2, rfl, hb⟩; have HF7 := hide (HF6.out.below hb); obtain ⟨e0, e1, e2, e3, e4, e5, e6, e7, e8, e9⟩ := HF7.out.ca; clear hb))
            go_roundw
            case rel => exact ⟨j + 1, by go_num, by omega, hide (HBr.out.trans (HF9.out.bw.mono HBr.out.size))⟩
            case measure => simp [intOf]; omega
end Go.Proofs.Ytnokfhkcfebimaa
