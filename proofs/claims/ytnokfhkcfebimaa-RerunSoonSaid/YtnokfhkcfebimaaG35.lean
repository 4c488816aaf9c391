/- Contracts of the functions that these laws reach: part 35: Contracts: rerun.Judge, the rerun laws' example; Rows of attempts of a call's own; contract: the maker of attempts; Contract: the rerun laws' known; Plain laws of verdicts; boxes and the tape. -/
import Derived.Test.YtnokfhkcfebimaaG24
import Derived.Test.YtnokfhkcfebimaaG34
import Derived.Test.YtnokfhkcfebimaaG26
import Derived.Test.YtnokfhkcfebimaaG23
import Derived.Test.YtnokfhkcfebimaaG33
set_option linter.unusedVariables false
set_option linter.unusedSimpArgs false

/- Contracts: rerun.Judge, the rerun laws' example. -/
namespace Go.Proofs.Ytnokfhkcfebimaa
open Go.RowKit

set_option maxRecDepth 100000 in
set_option maxHeartbeats 8000000 in
theorem vjudgex_ok (w : World) (s : Sv) (l h a b : Rat) (M : Nat) (A : Option Addr) (n c : Nat) (xs : List (Bool × Bool)) (hq : SQ w s) (hk : OKs s l h a b M) (hR : Rs w none 2 atv A xs) (hl : xs.length = n) (hn : n ≤ 33) :
    Calls Try.prog 43 #[.agg #[.slice s.l.A s.l.n s.l.c, .slice s.l.B s.l.m s.l.d, .slice s.h.A s.h.n s.h.c, .slice s.h.B s.h.m s.h.d, .slice s.a.A s.a.n s.a.c, .slice s.a.B s.a.m s.a.d, .slice s.b.A s.b.n s.b.c, .slice s.b.B s.b.m s.b.d, .int .i64 s.m], .slice A n c] w fun e w' => e = .returned (.tuple #[.int .i64 (jud (aftQ (decQ l h a b) M) xs).1, .int .i64 ((jud (aftQ (decQ l h a b) M) xs).2 : Int), .int .i64 0]) ∧ Below w.heap.size w w' := by
  have HC := hide (show vckE s n = 0 by unfold vckE; rw [if_neg (by rw [hk.ok]; simp), if_neg (by omega)])
  have HK := hide hk
  have HR := hide hR
  have HL := hide hl
  obtain ⟨T, hT⟩ : ∃ T, T = jud (aftQ (decQ l h a b) M) xs := ⟨_, rfl⟩
  rw [← hT]
  have HT := hide hT
  clear hk hR hl hT
  go_enter Try.func43, Try.ntmps43
  go_upto_region 1 with (fail)
  generalize hW : World.alloc w _ = v
  have HF := hide (show FS w v w.heap.size s by rw [← hW]; exact FS.mk0 hq _)
  obtain ⟨a0, a1, a2, a3, a4, a5, a6, a7, a8, a9⟩ := HF.out.ca
  clear hW hq
  go_wp2_with (first
    | (go_at_call 81; (with_reducible refine (vcheck_any _ s A n c HF.out.q).mono ?_); rintro e w1 ⟨rfl, hb⟩; rw [HC.out]; have HF1 := hide (HF.out.below hb); obtain ⟨b0, b1, b2, b3, b4, b5, b6, b7, b8, b9⟩ := HF1.out.ca; clear hb)
    | (go_at_call 82; (with_reducible refine (vjudge_ok _ s l h a b M A n c xs HF1.out.q HK.out (HR.out.below HF1.out.bw) HL.out hn).mono ?_); rintro e w2 ⟨rfl, hb⟩; rw [← HT.out]; have HF2 := hide (HF1.out.below hb); clear hb))
  refine bodyPost_ret (v := .tuple #[.int .i64 T.1, .int .i64 (T.2 : Int), .int .i64 0]) (by simp [results, Try.results43, go_sem, *]) rfl ⟨rfl, HF2.out.bw⟩
set_option maxRecDepth 100000 in
set_option maxHeartbeats 8000000 in
theorem vjudgex_bad (w : World) (s : Sv) (A : Option Addr) (n c : Nat) (hq : SQ w s) (hc : vckE s n ≠ 0) :
    Calls Try.prog 43 #[.agg #[.slice s.l.A s.l.n s.l.c, .slice s.l.B s.l.m s.l.d, .slice s.h.A s.h.n s.h.c, .slice s.h.B s.h.m s.h.d, .slice s.a.A s.a.n s.a.c, .slice s.a.B s.a.m s.a.d, .slice s.b.A s.b.n s.b.c, .slice s.b.B s.b.m s.b.d, .int .i64 s.m], .slice A n c] w fun e w' => e = .returned (.tuple #[.int .i64 0, .int .i64 0, .int .i64 (vckE s n)]) ∧ Below w.heap.size w w' := by
  obtain ⟨E, hE⟩ : ∃ E, E = vckE s n := ⟨_, rfl⟩
  rw [← hE] at hc ⊢
  have HE := hide hE
  have g1 : (E == 0) = false := by simp [hc]
  have g2 : decide (E = 0) = false := decide_eq_false hc
  clear hE
  go_enter Try.func43, Try.ntmps43
  go_upto_region 1 with (fail)
  generalize hW : World.alloc w _ = v
  have HF := hide (show FS w v w.heap.size s by rw [← hW]; exact FS.mk0 hq _)
  obtain ⟨a0, a1, a2, a3, a4, a5, a6, a7, a8, a9⟩ := HF.out.ca
  clear hW hq
  go_wp2_with (go_at_call 81; (with_reducible refine (vcheck_any _ s A n c HF.out.q).mono ?_); rintro e w1 ⟨rfl, hb⟩; rw [← HE.out]; have HF1 := hide (HF.out.below hb); obtain ⟨b0, b1, b2, b3, b4, b5, b6, b7, b8, b9⟩ := HF1.out.ca; clear hb)
  refine bodyPost_ret (v := .tuple #[.int .i64 0, .int .i64 0, .int .i64 E]) (by simp [results, Try.results43, go_sem, *]) rfl ⟨rfl, HF1.out.bw⟩
set_option maxRecDepth 100000 in
set_option maxHeartbeats 8000000 in
theorem vexample_any (w : World) : Calls Try.prog 83 #[] w fun e w' => ∃ s : Sv, e = .returned (.agg #[.slice s.l.A s.l.n s.l.c, .slice s.l.B s.l.m s.l.d, .slice s.h.A s.h.n s.h.c, .slice s.h.B s.h.m s.h.d, .slice s.a.A s.a.n s.a.c, .slice s.a.B s.a.m s.a.d, .slice s.b.A s.b.n s.b.c, .slice s.b.B s.b.m s.b.d, .int .i64 s.m]) ∧ SQ w' s ∧ OKex s ∧ Below w.heap.size w w' := by
  go_enter Try.func83, Try.ntmps83
  go_upto_region 1 with (fail)
  generalize hW : World.alloc w _ = v
  have HR := hide (show Cb v w.heap.size z9 by rw [← hW]; exact Cb.mk0 z9 (by simp [z9]) _ rfl)
  have HB := hide (show Below w.heap.size w v by rw [← hW]; exact (Below.refl _ _).alloc (Nat.le_refl _) _)
  clear hW
  go_wp2_with (first
    | (go_at_call 40; (with_reducible refine (sm10 _).mono ?_); rintro e w4 ⟨f4, rfl, ho, hb⟩; have HO4 := hide ho; have HO34 := hide (HO3.out.below hb); have HO24 := hide (HO23.out.below hb); have HO14 := hide (HO13.out.below hb); have HR4 := hide (HR3.out.below hb); have HB4 := hide (HB3.out.trans (hb.mono HB3.out.size)); have t0 := HR4.out.cell 0 _ rfl; have t1 := HR4.out.cell 1 _ rfl; have t2 := HR4.out.cell 2 _ rfl; have t3 := HR4.out.cell 3 _ rfl; have t4 := HR4.out.cell 4 _ rfl; have t5 := HR4.out.cell 5 _ rfl; have t6 := HR4.out.cell 6 _ rfl; have t7 := HR4.out.cell 7 _ rfl; have t8 := HR4.out.cell 8 _ rfl; have tf := HR4.out.fz; have tz := HR4.out.sz; clear ho hb)
    | (go_at_call 40; (with_reducible refine (sm20 _).mono ?_); rintro e w3 ⟨f3, rfl, ho, hb⟩; have HO3 := hide ho; have HO23 := hide (HO2.out.below hb); have HO13 := hide (HO12.out.below hb); have HR3 := hide (HR2.out.below hb); have HB3 := hide (HB2.out.trans (hb.mono HB2.out.size)); clear ho hb)
    | (go_at_call 40; (with_reducible refine (sm2 _).mono ?_); rintro e w2 ⟨f2, rfl, ho, hb⟩; have HO2 := hide ho; have HO12 := hide (HO1.out.below hb); have HR2 := hide (HR1.out.below hb); have HB2 := hide (HB1.out.trans (hb.mono HB1.out.size)); clear ho hb)
    | (go_at_call 40; (with_reducible refine (sm10 _).mono ?_); rintro e w1 ⟨f1, rfl, ho, hb⟩; have HO1 := hide ho; have HR1 := hide (HR.out.below hb); have HB1 := hide (HB.out.trans (hb.mono HB.out.size)); clear ho hb))
  have hq9 := hide (fr9 (w := w4) (g := w.heap.size) (.slice f1.A f1.n f1.c) (.slice f1.B f1.m f1.d) (.slice f2.A f2.n f2.c) (.slice f2.B f2.m f2.d) (.slice f3.A f3.n f3.c) (.slice f3.B f3.m f3.d) (.slice f4.A f4.n f4.c) (.slice f4.B f4.m f4.d) (.int .i64 10))
  generalize hW : World.setCell (World.setCell (World.setCell (World.setCell (World.setCell (World.setCell (World.setCell (World.setCell (World.setCell w4 _ _) _ _) _ _) _ _) _ _) _ _) _ _) _ _) _ _ = v10
  have HR10 := hide (show Cb v10 w.heap.size [.slice f1.A f1.n f1.c, .slice f1.B f1.m f1.d, .slice f2.A f2.n f2.c, .slice f2.B f2.m f2.d, .slice f3.A f3.n f3.c, .slice f3.B f3.m f3.d, .slice f4.A f4.n f4.c, .slice f4.B f4.m f4.d, .int .i64 10] by rw [← hW]; exact (((((((((HR4.out.put 0 (.slice f1.A f1.n f1.c) (by simp [z9]) (by simp)).put 1 (.slice f1.B f1.m f1.d) (by simp [z9]) (by simp)).put 2 (.slice f2.A f2.n f2.c) (by simp [z9]) (by simp)).put 3 (.slice f2.B f2.m f2.d) (by simp [z9]) (by simp)).put 4 (.slice f3.A f3.n f3.c) (by simp [z9]) (by simp)).put 5 (.slice f3.B f3.m f3.d) (by simp [z9]) (by simp)).put 6 (.slice f4.A f4.n f4.c) (by simp [z9]) (by simp)).put 7 (.slice f4.B f4.m f4.d) (by simp [z9]) (by simp)).put 8 (.int .i64 10) (by simp [z9]) (by simp)))
  have HQ9 := hide (show Fr w4 v10 (fun b => b = w.heap.size) by rw [← hW]; exact hq9.out)
  clear hW hq9 t0 t1 t2 t3 t4 t5 t6 t7 t8 tf tz
  have k0 := HR10.out.cell 0 _ rfl; have k1 := HR10.out.cell 1 _ rfl; have k2 := HR10.out.cell 2 _ rfl; have k3 := HR10.out.cell 3 _ rfl; have k4 := HR10.out.cell 4 _ rfl; have k5 := HR10.out.cell 5 _ rfl; have k6 := HR10.out.cell 6 _ rfl; have k7 := HR10.out.cell 7 _ rfl; have k8 := HR10.out.cell 8 _ rfl
  refine bodyPost_ret (v := .agg #[.slice f1.A f1.n f1.c, .slice f1.B f1.m f1.d, .slice f2.A f2.n f2.c, .slice f2.B f2.m f2.d, .slice f3.A f3.n f3.c, .slice f3.B f3.m f3.d, .slice f4.A f4.n f4.c, .slice f4.B f4.m f4.d, .int .i64 10]) (by simp [results, Try.results83, go_sem, *]) rfl ⟨⟨f1, f2, f3, f4, 10, lm (rn (mkRat 1 10)), lm (mkRat 1 10).den, lm (rn (mkRat 1 2)), lm (mkRat 1 2).den, lm (rn (mkRat 1 20)), lm (mkRat 1 20).den, lm (rn (mkRat 1 10)), lm (mkRat 1 10).den⟩, rfl, ⟨HO14.out.1.one HQ9.out HR4.out.nb, HO24.out.1.one HQ9.out HR4.out.nb, HO34.out.1.one HQ9.out HR4.out.nb, HO4.out.1.one HQ9.out HR4.out.nb⟩, ⟨fracOf_self (o := some _) HO14.out.2, fracOf_self (o := some _) HO24.out.2, fracOf_self (o := some _) HO34.out.2, fracOf_self (o := some _) HO4.out.2, inn10, inn2, inn20, inn10, by decide +kernel, rfl, by omega, by omega⟩, ((Fr.of_below (fun b => b = w.heap.size) HB4.out).trans HQ9.out).below (Nat.le_refl _) (fun k hk e => by omega)⟩
end Go.Proofs.Ytnokfhkcfebimaa

/- Rows of attempts of a call's own; contract: the maker of attempts. -/
namespace Go.Proofs.Ytnokfhkcfebimaa
open Go.RowKit

theorem info70 : (Try.prog.info? 70).map (fun i => (i.zero, i.size, i.bytes)) = some (some (.agg #[.bool false, .bool false]), 2, 2) := by kernel_rfl
theorem atv_one (x : Bool × Bool) : ∀ u ∈ atv x, u.oneCell' = true := by
  intro u hu
  simp [atv] at hu
  rcases hu with rfl | rfl <;> rfl
/-- A slice of attempts of a call's own; the tape may have moved. -/
structure OA (w0 w : World) (T : Nat) (A : Option Addr) (m c : Nat) (l : List (Bool × Bool)) : Prop where
  own : w.ownsRow w0.heap.size 70 2 (.slice A m c) m (l.flatMap atv)
  len : l.length = m
  fr : Fr w0 w (fun b => b = T)
section
variable {w0 w w' : World} {T : Nat} {A : Option Addr} {m c : Nat} {l : List (Bool × Bool)}
theorem OA.rs (h : OA w0 w T A m c l) : Rs w none 2 atv A l := Rs.of_own h.own atv_len h.len (by simp)
theorem OA.cap (h : OA w0 w T A m c l) : m ≤ c := own_slice_cap h.own (by omega)
theorem OA.nil (hf : Fr w0 w (fun b => b = T)) : OA w0 w T none 0 0 [] := ⟨World.ownsRow_nil _ _ _ _, rfl, hf⟩
theorem OA.lo (h : OA w0 w T A m c l) {g : Nat} (hg : (Value.slice A m c).ownBlock = some g) : w0.heap.size ≤ g ∧ g < w.heap.size := by
  rcases h.own.2 with ⟨h1, _⟩ | ⟨g', cap, cur, hv, hb, hh, _⟩
  · rw [h1] at hg; simp [Value.ownBlock] at hg
  · rw [hv] at hg
    simp [Value.ownBlock] at hg
    subst hg
    exact ⟨hb, (Array.getElem?_eq_some_iff.1 hh).1⟩
theorem OA.below (h : OA w0 w T A m c l) (hb : Below w.heap.size w w') : OA w0 w' T A m c l := ⟨h.own.kept (grown_of_below hb none) (Classical.em _), h.len, h.fr.below_ hb⟩
theorem OA.alloc (h : OA w0 w T A m c l) (o : Obj) : OA w0 (w.alloc o) T A m c l := h.below ((Below.refl _ _).alloc (Nat.le_refl _) _)
theorem OA.tape (h : OA w0 w T A m c l) (hf : Fr w w' (fun b => b = T)) (hT : T < w0.heap.size) : OA w0 w' T A m c l :=
  ⟨h.own.kept (row := some T) ⟨hf.os, hf.tape, hf.output, hf.size, fun k hk hne => hf.block k hk (fun e => hne (by rw [e]))⟩ (by
      cases hob : (Value.slice A m c).ownBlock with
      | none => exact .inl rfl
      | some b => right; intro e; injection e with e; have := (h.lo hob).1; omega),
    h.len, h.fr.trans hf⟩
theorem OA.tp (h : OA w0 w T A m c l) {TA : Option Addr} {tn tc : Nat} {tl : List Int} {a0 a : Nat} (h0 : Tp w0 T TA tn tc tl a0) (hp : Tp w T TA tn tc tl a) (hf : Fr w w' (fun b => (Value.slice A m c).ownBlock = some b)) : Tp w' T TA tn tc tl a := by
  cases hob : (Value.slice A m c).ownBlock with
  | none =>
    refine hp.below ((hf.mono (T := fun _ => False) (fun k hk e => ?_)).below (Nat.le_refl _) (fun _ _ h => h))
    rw [hob] at e; simp at e
  | some b => exact h0.one hp (h.lo hob).1 (hf.mono (fun k hk e => by rw [hob] at e; injection e with e; exact e.symm))
end
theorem wl_app_att {w0 w : World} {ops : Array Oper} {rest : List Oper} {o : Oper} {a : Act} {Q : Exit → Act → World → Prop} (hgd : o.guard = none) (s x : Operand) (t : TypeId) (ht : Try.prog.underlying t = some (.slice 70))
    (ho : o.op = .call { callee := .builtin .append, args := #[s, x], argTypes := #[t, t] })
    (T : Nat) (A : Option Addr) (m c : Nat) (l : List (Bool × Bool)) (X Y : Bool) (hs : a.eval s = .slice A m c) (hx : a.eval x = .slice (some ⟨w.heap.size, 0, none⟩) 1 1) (hO : OA w0 w T A m c l) (h63 : m + 1 ≤ 4294967296)
    (h : ∀ A' c' w', OA w0 w' T A' (m + 1) c' (l ++ [(X, Y)]) → Fr (w.alloc (.cells #[.bool X, .bool Y] 70)) w' (fun b => (Value.slice A m c).ownBlock = some b) → wpList Try.prog ops Q rest (a.put o.dst (.slice A' (m + 1) c')) w') :
    wpList Try.prog ops Q (o :: rest) a (w.alloc (.cells #[.bool X, .bool Y] 70)) := by
  have hO1 : OA w0 (w.alloc (.cells #[.bool X, .bool Y] 70)) T A m c l := hO.alloc _
  refine wl_append _ hgd s x t ho w0.heap.size 70 _ 2 2 ht info70 rfl (by omega) (.slice A m c) m l hs hO1.own _ 1 1 [(X, Y)] hx
    (rs_one (av := none) (by simp) (by simp) (by intro j u hu; match j with | 0 => simp [atv] at hu; subst hu; simp [go_sem] | 1 => simp [atv] at hu; subst hu; simp [go_sem] | j + 2 => simp [atv] at hu)) rfl atv_len atv_one h63 (by omega) hO1.fr.size ?_
  intro A' c' w' hown hgr _
  refine h A' c' w' ⟨hown, by simp [hO.len], hO1.fr.grown hgr ?_⟩ ⟨hgr.os, hgr.tape, hgr.output, hgr.size, fun k hk hS => hgr.block k hk (fun e => hS e.symm)⟩
  intro g hg
  exact .inl (hO1.lo hg).1
/-- What the maker of attempts returns. -/
def MkA (w : World) (T : Nat) (TA : Option Addr) (tn tc : Nat) (tl : List Int) (a most : Nat) (e : Ending) (w' : World) : Prop :=
  ∃ (A : Option Addr) (m c : Nat) (xs : List (Bool × Bool)) (b : Nat), e = .returned (.slice A m c) ∧ OA w w' T A m c xs ∧ m ≤ most ∧ Tp w' T TA tn tc tl b ∧ b ≤ a + 3 + 3 * most
set_option maxRecDepth 100000 in
set_option maxHeartbeats 8000000 in
theorem vattempts_any (w : World) (T : Nat) (TA : Option Addr) (tn tc : Nat) (tl : List Int) (a most : Nat) (hP : Tp w T TA tn tc tl a) (ha : a ≤ 4294960000) (hm : most ≤ 100) :
    Calls Try.prog 42 #[.pointer (some ⟨T, 0, none⟩), .int .i64 (most : Int)] w fun e w' => MkA w T TA tn tc tl a most e w' := by
  have hT0 := hP.t.1
  have HP0 := hide hP
  clear hP
  have hw1 : wrap64 ((most : Int) + 1) = (most : Int) + 1 := IntWalk.wrap64_in _ ⟨by omega, by omega⟩
  obtain ⟨c5, hc5⟩ : ∃ x, x = tapeV tl (a + 1) 4 := ⟨_, rfl⟩
  have HC5 := hide hc5
  have hc51 : 0 ≤ c5 ∧ c5 ≤ 4 := by have := tapeV_lo tl (a + 1) 4; omega
  have hw2 : wrap64 (1 + c5) = 1 + c5 := IntWalk.wrap64_in _ ⟨by omega, by omega⟩
  clear hc5
  obtain ⟨N, hN, hN2⟩ := tapeV_nat tl (a + 1 + 1) ((most : Int) + 1)
  have HN := hide hN
  have hNm : N ≤ most := by omega
  clear hN hN2
  obtain ⟨rb, hrb⟩ : ∃ x, x = decide (tapeV tl a 4 < 3) := ⟨_, rfl⟩
  have HRB := hide hrb
  clear hrb
  go_enter Try.func42, Try.ntmps42
  go_wp2_with (first
    | (go_at_call 45; (with_reducible refine (chancetp_any _ T TA tn tc tl a 3 4 HP0.out (by omega) (by omega)).mono ?_); rintro e w1 ⟨rfl, hp, hf⟩; rw [← HRB.out]; have HP1 := hide hp; have HF1 := hide hf; clear hp hf)
    | (go_at_call 59; (with_reducible refine (nextp_any _ T TA tn tc tl (a + 1) 4 HP1.out (by omega) (by omega)).mono ?_); rintro e w2 ⟨rfl, hp, hf⟩; rw [← HC5.out]; have HP2 := hide hp; have HF2 := hide (HF1.out.trans hf); clear hp hf)
    | (go_at_call 59; (with_reducible refine (nextp_any _ T TA tn tc tl (a + 1 + 1) ((most : Int) + 1) HP2.out (by omega) (by omega)).mono ?_); rintro e w3 ⟨rfl, hp, hf⟩; rw [HN.out]; have HP3 := hide hp; have HF3 := hide (HF2.out.trans hf); clear hp hf))
  go_loopw [5, 8] (fun sv nv wr => ∃ (k r p c : Nat) (A : Option Addr) (xs : List (Bool × Bool)), sv = .slice A k c ∧ nv = .int .i64 (r : Int) ∧ k + r = N ∧ p + 3 * r ≤ a + 3 + 3 * N ∧ Hid (OA w wr T A k c xs) ∧ Hid (Tp wr T TA tn tc tl p)) (fun _ nv _ => (intOf nv).toNat)
  case atStart => exact ⟨0, N, a + 1 + 1 + 1, 0, none, [], rfl, rfl, by omega, by omega, hide (OA.nil HF3.out), HP3⟩
  case round =>
    obtain ⟨k, r, p, c, A, xs, rfl, rfl, hkr, hpr, HO, HP⟩ := hrel
    by_cases hr : r = 0
    · subst hr
      have hle : decide ((0 : Int) < ((0 : Nat) : Int)) = false := rfl
      go_wp2_with fail
      go_ret
      exact ⟨A, k, c, xs, p, rfl, HO.out, by omega, HP.out, by omega⟩
    · obtain ⟨r', rfl⟩ : ∃ r', r = r' + 1 := ⟨r - 1, by omega⟩
      have hgt : decide ((0 : Int) < ((r' + 1 : Nat) : Int)) = true := decide_eq_true (by omega)
      have hgt2 : (0 : Int) < ((r' + 1 : Nat) : Int) := by omega
      have hpb : p ≤ 4294964000 := by omega
      have hk100 : k ≤ 100 := by omega
      by_cases hk : k = 0
      · subst hk
        obtain ⟨b1, hb1⟩ : ∃ x, x = decide (tapeV tl p 8 < 7) := ⟨_, rfl⟩
        have HB1 := hide hb1
        clear hb1
        cases b1
        · go_wp2_with (first
            | (go_at_call 45; (with_reducible refine (chancetp_any _ T TA tn tc tl p 7 8 HP.out (by omega) (by omega)).mono ?_); rintro e w4 ⟨rfl, hp, hf⟩; rw [← HB1.out]; have HP4 := hide hp; have HO4 := hide (HO.out.tape hf hT0); clear hp hf)
            | (go_at_call 45; (with_reducible refine (chancetp_any _ T TA tn tc tl (p + 1) (1 + c5) 5 HP4.out (by omega) (by omega)).mono ?_); rintro e w5 ⟨rfl, hp, hf⟩; have HP5 := hide hp; have HO5 := hide (HO4.out.tape hf hT0); clear hp hf)
            | (go_at_call 45; (with_reducible refine (chancetp_any _ T TA tn tc tl (p + 1 + 1) 1 30 HP5.out (by omega) (by omega)).mono ?_); rintro e w6 ⟨rfl, hp, hf⟩; have HP6 := hide hp; have HO6 := hide (HO5.out.tape hf hT0); clear hp hf)
            | (at_builtin; refine wl_app_att (w0 := w) rfl _ _ _ Try.underlying66 rfl T A 0 c xs _ _ rfl rfl HO6.out (by omega) ?_; intro A2 c2 w7 ho2 hf2; have HO7 := hide ho2; have HP7 := hide ((HO6.out.alloc _).tp HP0.out (HP6.out.alloc _) hf2); clear ho2 hf2))
          go_roundw
          case rel => exact ⟨0 + 1, r', p + 1 + 1 + 1, c2, A2, _, rfl, by go_num, by omega, by omega, HO7, HP7⟩
          case measure => simp [intOf] <;> omega
        · go_wp2_with (first
            | (go_at_call 45; (with_reducible refine (chancetp_any _ T TA tn tc tl p 7 8 HP.out (by omega) (by omega)).mono ?_); rintro e w4 ⟨rfl, hp, hf⟩; rw [← HB1.out]; have HP4 := hide hp; have HO4 := hide (HO.out.tape hf hT0); clear hp hf)
            | (go_at_call 45; (with_reducible refine (chancetp_any _ T TA tn tc tl (p + 1) 1 30 HP4.out (by omega) (by omega)).mono ?_); rintro e w6 ⟨rfl, hp, hf⟩; have HP6 := hide hp; have HO6 := hide (HO4.out.tape hf hT0); clear hp hf)
            | (at_builtin; refine wl_app_att (w0 := w) rfl _ _ _ Try.underlying66 rfl T A 0 c xs _ _ rfl rfl HO6.out (by omega) ?_; intro A2 c2 w7 ho2 hf2; have HO7 := hide ho2; have HP7 := hide ((HO6.out.alloc _).tp HP0.out (HP6.out.alloc _) hf2); clear ho2 hf2))
          go_roundw
          case rel => exact ⟨0 + 1, r', p + 1 + 1, c2, A2, _, rfl, by go_num, by omega, by omega, HO7, HP7⟩
          case measure => simp [intOf] <;> omega
      · have g1 : decide ((k : Int) = 0) = false := decide_eq_false (by omega)
        have g2 : ((k : Int) == 0) = false := by simp [hk]
        have g3 : ¬ (k : Int) = 0 := by omega
        go_wp2_with (first
          | (go_at_call 45; (with_reducible refine (chancetp_any _ T TA tn tc tl p (1 + c5) 5 HP.out (by omega) (by omega)).mono ?_); rintro e w5 ⟨rfl, hp, hf⟩; have HP5 := hide hp; have HO5 := hide (HO.out.tape hf hT0); clear hp hf)
          | (go_at_call 45; (with_reducible refine (chancetp_any _ T TA tn tc tl (p + 1) 1 30 HP5.out (by omega) (by omega)).mono ?_); rintro e w6 ⟨rfl, hp, hf⟩; have HP6 := hide hp; have HO6 := hide (HO5.out.tape hf hT0); clear hp hf)
          | (at_builtin; refine wl_app_att (w0 := w) rfl _ _ _ Try.underlying66 rfl T A k c xs _ _ rfl rfl HO6.out (by omega) ?_; intro A2 c2 w7 ho2 hf2; have HO7 := hide ho2; have HP7 := hide ((HO6.out.alloc _).tp HP0.out (HP6.out.alloc _) hf2); clear ho2 hf2))
        go_roundw
        case rel => exact ⟨k + 1, r', p + 1 + 1, c2, A2, _, rfl, by go_num, by omega, by omega, HO7, HP7⟩
        case measure => simp [intOf] <;> omega
end Go.Proofs.Ytnokfhkcfebimaa

/- Contract: the rerun laws' known. -/
namespace Go.Proofs.Ytnokfhkcfebimaa
open Go.RowKit

theorem rs_newf {α : Type} {f : α → List Value} {s : Nat} (hs : ∀ a, (f a).length = s) {w : World} (l : List α) (t : TypeId) (cs : Array Value) (hcs : cs = (l.flatMap f).toArray) : Rs (w.alloc (.cells cs t)) none s f (some ⟨w.heap.size, 0, none⟩) l := by
  intro _
  refine ⟨w.heap.size, 0, rfl, by simp, by simp, fun k a hk j u hu => ?_⟩
  have h1 := flat_get hs l k a j u hk hu
  rw [World.cell?_alloc_new, hcs]
  simpa using h1
theorem kj1 (w : World) (s : Sv) (g : Nat) (hq : SQ w s) (hk : OKex s) (hR : Rs w none 2 atv (some ⟨g, 0, none⟩) [(true, true), (true, true), (true, true)]) :
    Calls Try.prog 43 #[.agg #[.slice s.l.A s.l.n s.l.c, .slice s.l.B s.l.m s.l.d, .slice s.h.A s.h.n s.h.c, .slice s.h.B s.h.m s.h.d, .slice s.a.A s.a.n s.a.c, .slice s.a.B s.a.m s.a.d, .slice s.b.A s.b.n s.b.c, .slice s.b.B s.b.m s.b.d, .int .i64 s.m], .slice (some ⟨g, 0, none⟩) 3 3] w fun e w' => e = .returned (.tuple #[.int .i64 1, .int .i64 3, .int .i64 0]) ∧ Below w.heap.size w w' := by
  have h := vjudgex_ok w s _ _ _ _ 10 _ 3 3 _ hq hk hR rfl (by omega)
  rwa [show jud (aftQ (decQ (mkRat 1 10) (mkRat 1 2) (mkRat 1 20) (mkRat 1 10)) 10) [(true, true), (true, true), (true, true)] = (1, 3) by decide +kernel] at h
theorem kj2 (w : World) (s : Sv) (g : Nat) (hq : SQ w s) (hk : OKex s) (hR : Rs w none 2 atv (some ⟨g, 0, none⟩) [(true, true), (false, true), (false, true), (false, true), (false, true), (true, true)]) :
    Calls Try.prog 43 #[.agg #[.slice s.l.A s.l.n s.l.c, .slice s.l.B s.l.m s.l.d, .slice s.h.A s.h.n s.h.c, .slice s.h.B s.h.m s.h.d, .slice s.a.A s.a.n s.a.c, .slice s.a.B s.a.m s.a.d, .slice s.b.A s.b.n s.b.c, .slice s.b.B s.b.m s.b.d, .int .i64 s.m], .slice (some ⟨g, 0, none⟩) 6 6] w fun e w' => e = .returned (.tuple #[.int .i64 2, .int .i64 5, .int .i64 0]) ∧ Below w.heap.size w w' := by
  have h := vjudgex_ok w s _ _ _ _ 10 _ 6 6 _ hq hk hR rfl (by omega)
  rwa [show jud (aftQ (decQ (mkRat 1 10) (mkRat 1 2) (mkRat 1 20) (mkRat 1 10)) 10) [(true, true), (false, true), (false, true), (false, true), (false, true), (true, true)] = (2, 5) by decide +kernel] at h
theorem kj3 (w : World) (s : Sv) (g : Nat) (hq : SQ w s) (hk : OKex s) (hR : Rs w none 2 atv (some ⟨g, 0, none⟩) [(true, false), (false, false)]) :
    Calls Try.prog 43 #[.agg #[.slice s.l.A s.l.n s.l.c, .slice s.l.B s.l.m s.l.d, .slice s.h.A s.h.n s.h.c, .slice s.h.B s.h.m s.h.d, .slice s.a.A s.a.n s.a.c, .slice s.a.B s.a.m s.a.d, .slice s.b.A s.b.n s.b.c, .slice s.b.B s.b.m s.b.d, .int .i64 s.m], .slice (some ⟨g, 0, none⟩) 2 2] w fun e w' => e = .returned (.tuple #[.int .i64 4, .int .i64 2, .int .i64 0]) ∧ Below w.heap.size w w' := by
  have h := vjudgex_ok w s _ _ _ _ 10 _ 2 2 _ hq hk hR rfl (by omega)
  rwa [show jud (aftQ (decQ (mkRat 1 10) (mkRat 1 2) (mkRat 1 20) (mkRat 1 10)) 10) [(true, false), (false, false)] = (4, 2) by decide +kernel] at h
set_option maxRecDepth 100000 in
set_option maxHeartbeats 8000000 in
theorem vknown_any (w : World) : Calls Try.prog 44 #[] w fun e w' => e = .returned (.bool true) ∧ Below w.heap.size w w' := by
  go_enter Try.func44, Try.ntmps44
  go_upto_region 2 with (fail)
  generalize hW : World.alloc (World.alloc w _) _ = v
  have HB := hide (show Below w.heap.size w v by rw [← hW]; exact ((Below.refl _ _).alloc (Nat.le_refl _) _).alloc (by simp) _)
  have HG := hide (show Cb v w.heap.size [.bool true, .bool true] by rw [← hW]; exact (Cb.mk0 [.bool true, .bool true] (by simp) _ rfl).alloc _)
  have HH := hide (show Cb v (w.heap.size + 1) [.bool false, .bool true] by rw [← hW]; exact Cb.mk0 [.bool false, .bool true] (by simp) _ (by simp))
  clear hW
  have x0 := HG.out.cell 0 _ rfl
  have x1 := HG.out.cell 1 _ rfl
  have x2 := HG.out.sz
  have y0 := HH.out.cell 0 _ rfl
  have y1 := HH.out.cell 1 _ rfl
  have y2 := HH.out.sz
  go_region_held3 (fun W => W.cell? ⟨w.heap.size, 0, none⟩ = some (.bool true) ∧ W.cell? ⟨w.heap.size, 1, none⟩ = some (.bool true)) (first | (go_keep; done) | ((try dsimp only); (repeat' apply And.intro) <;> first | (go_keep; done) | ((repeat rw [World.cell?_setCell_other _ _ _ _ (by intro h; injection h; omega)]); go_keep; done))) (first
    | (go_at_call 83; (with_reducible refine (vexample_any _).mono ?_); rintro e u1 ⟨s1, rfl, hq, hk, hb⟩; have HQ1 := hide hq; have HK1 := hide hk; (first | have HRS1 := hide (show Rs u1 none 2 atv (some ⟨v.heap.size, 0, none⟩) [(true, true), (true, true), (true, true)] from ((rs_newf (w := v) atv_len [(true, true), (true, true), (true, true)] _ _ rfl).below (Dr.below ⟨1, rfl⟩)).below hb) | skip); have HB1 := hide (show Below w.heap.size w u1 from (by first | exact HB.out.drew.trans (hb.mono HB.out.drew.size) | exact HB.out.trans (hb.mono HB.out.size) | exact (HB.out.alloc HB.out.size _).drew.trans (hb.mono (HB.out.alloc HB.out.size _).drew.size))); have HG1 := hide (show Cb u1 w.heap.size [.bool true, .bool true] from (by first | exact HG.out.drew.below hb | exact HG.out.below hb | exact (HG.out.alloc _).drew.below hb)); have HH1 := hide (show Cb u1 (w.heap.size + 1) [.bool false, .bool true] from (by first | exact HH.out.drew.below hb | exact HH.out.below hb | exact (HH.out.alloc _).drew.below hb)); have x0 := HG1.out.cell 0 _ rfl; have x1 := HG1.out.cell 1 _ rfl; have x2 := HG1.out.sz; have y0 := HH1.out.cell 0 _ rfl; have y1 := HH1.out.cell 1 _ rfl; have y2 := HH1.out.sz; clear hq hk hb)
    | (go_at_call 43; (with_reducible refine (kj1 _ s1 _ ?hq HK1.out ?hr).mono ?_); (case hq => first | exact HQ1.out.alloc _ | exact HQ1.out); (case hr => first | exact rs_newf atv_len _ _ _ rfl | exact HRS1.out); rintro e v1 ⟨rfl, hb⟩; have HC1 := hide (show Below w.heap.size w v1 from (by first | exact (HB1.out.alloc HB1.out.size _).trans (hb.mono (HB1.out.alloc HB1.out.size _).size) | exact HB1.out.trans (hb.mono HB1.out.size))); have HGJ1 := hide (show Cb v1 w.heap.size [.bool true, .bool true] from (by first | exact (HG1.out.alloc _).below hb | exact HG1.out.below hb)); have HHJ1 := hide (show Cb v1 (w.heap.size + 1) [.bool false, .bool true] from (by first | exact (HH1.out.alloc _).below hb | exact HH1.out.below hb)); have x0 := HGJ1.out.cell 0 _ rfl; have x1 := HGJ1.out.cell 1 _ rfl; have x2 := HGJ1.out.sz; have y0 := HHJ1.out.cell 0 _ rfl; have y1 := HHJ1.out.cell 1 _ rfl; have y2 := HHJ1.out.sz; clear hb))
  all_goals go_upto_region 3 with (fail)
  all_goals go_region_held3 (fun W => W.cell? ⟨w.heap.size, 0, none⟩ = some (.bool true) ∧ W.cell? ⟨w.heap.size, 1, none⟩ = some (.bool true) ∧ W.cell? ⟨w.heap.size + 1, 0, none⟩ = some (.bool false) ∧ W.cell? ⟨w.heap.size + 1, 1, none⟩ = some (.bool true)) (first | (go_keep; done) | ((try dsimp only); (repeat' apply And.intro) <;> first | (go_keep; done) | ((repeat rw [World.cell?_setCell_other _ _ _ _ (by intro h; injection h; omega)]); go_keep; done))) (first
    | (go_at_call 83; (with_reducible refine (vexample_any _).mono ?_); rintro e u2 ⟨s2, rfl, hq, hk, hb⟩; have HQ2 := hide hq; have HK2 := hide hk; (first | have HRS2 := hide (show Rs u2 none 2 atv (some ⟨v1.heap.size, 0, none⟩) [(true, true), (false, true), (false, true), (false, true), (false, true), (true, true)] from ((rs_newf (w := v1) atv_len [(true, true), (false, true), (false, true), (false, true), (false, true), (true, true)] _ _ rfl).below (Dr.below ⟨1, rfl⟩)).below hb) | skip); have HB2 := hide (show Below w.heap.size w u2 from (by first | exact HC1.out.drew.trans (hb.mono HC1.out.drew.size) | exact HC1.out.trans (hb.mono HC1.out.size) | exact (HC1.out.alloc HC1.out.size _).drew.trans (hb.mono (HC1.out.alloc HC1.out.size _).drew.size))); have HG2 := hide (show Cb u2 w.heap.size [.bool true, .bool true] from (by first | exact HGJ1.out.drew.below hb | exact HGJ1.out.below hb | exact (HGJ1.out.alloc _).drew.below hb)); have HH2 := hide (show Cb u2 (w.heap.size + 1) [.bool false, .bool true] from (by first | exact HHJ1.out.drew.below hb | exact HHJ1.out.below hb | exact (HHJ1.out.alloc _).drew.below hb)); have x0 := HG2.out.cell 0 _ rfl; have x1 := HG2.out.cell 1 _ rfl; have x2 := HG2.out.sz; have y0 := HH2.out.cell 0 _ rfl; have y1 := HH2.out.cell 1 _ rfl; have y2 := HH2.out.sz; clear hq hk hb)
    | (go_at_call 43; (with_reducible refine (kj2 _ s2 _ ?hq HK2.out ?hr).mono ?_); (case hq => first | exact HQ2.out.alloc _ | exact HQ2.out); (case hr => first | exact rs_newf atv_len _ _ _ rfl | exact HRS2.out); rintro e v2 ⟨rfl, hb⟩; have HC2 := hide (show Below w.heap.size w v2 from (by first | exact (HB2.out.alloc HB2.out.size _).trans (hb.mono (HB2.out.alloc HB2.out.size _).size) | exact HB2.out.trans (hb.mono HB2.out.size))); have HGJ2 := hide (show Cb v2 w.heap.size [.bool true, .bool true] from (by first | exact (HG2.out.alloc _).below hb | exact HG2.out.below hb)); have HHJ2 := hide (show Cb v2 (w.heap.size + 1) [.bool false, .bool true] from (by first | exact (HH2.out.alloc _).below hb | exact HH2.out.below hb)); have x0 := HGJ2.out.cell 0 _ rfl; have x1 := HGJ2.out.cell 1 _ rfl; have x2 := HGJ2.out.sz; have y0 := HHJ2.out.cell 0 _ rfl; have y1 := HHJ2.out.cell 1 _ rfl; have y2 := HHJ2.out.sz; clear hb))
  all_goals go_wp2_with (first
    | (go_at_call 83; (with_reducible refine (vexample_any _).mono ?_); rintro e u3 ⟨s3, rfl, hq, hk, hb⟩; have HQ3 := hide hq; have HK3 := hide hk; (first | have HRS3 := hide (show Rs u3 none 2 atv (some ⟨v2.heap.size, 0, none⟩) [(true, false), (false, false)] from ((rs_newf (w := v2) atv_len [(true, false), (false, false)] _ _ rfl).below (Dr.below ⟨1, rfl⟩)).below hb) | skip); have HB3 := hide (show Below w.heap.size w u3 from (by first | exact HC2.out.drew.trans (hb.mono HC2.out.drew.size) | exact HC2.out.trans (hb.mono HC2.out.size) | exact (HC2.out.alloc HC2.out.size _).drew.trans (hb.mono (HC2.out.alloc HC2.out.size _).drew.size))); have HG3 := hide (show Cb u3 w.heap.size [.bool true, .bool true] from (by first | exact HGJ2.out.drew.below hb | exact HGJ2.out.below hb | exact (HGJ2.out.alloc _).drew.below hb)); have HH3 := hide (show Cb u3 (w.heap.size + 1) [.bool false, .bool true] from (by first | exact HHJ2.out.drew.below hb | exact HHJ2.out.below hb | exact (HHJ2.out.alloc _).drew.below hb)); have x0 := HG3.out.cell 0 _ rfl; have x1 := HG3.out.cell 1 _ rfl; have x2 := HG3.out.sz; have y0 := HH3.out.cell 0 _ rfl; have y1 := HH3.out.cell 1 _ rfl; have y2 := HH3.out.sz; clear hq hk hb)
    | (go_at_call 43; (with_reducible refine (kj3 _ s3 _ ?hq HK3.out ?hr).mono ?_); (case hq => first | exact HQ3.out.alloc _ | exact HQ3.out); (case hr => first | exact rs_newf atv_len _ _ _ rfl | exact HRS3.out); rintro e v3 ⟨rfl, hb⟩; have HC3 := hide (show Below w.heap.size w v3 from (by first | exact (HB3.out.alloc HB3.out.size _).trans (hb.mono (HB3.out.alloc HB3.out.size _).size) | exact HB3.out.trans (hb.mono HB3.out.size))); have HGJ3 := hide (show Cb v3 w.heap.size [.bool true, .bool true] from (by first | exact (HG3.out.alloc _).below hb | exact HG3.out.below hb)); have HHJ3 := hide (show Cb v3 (w.heap.size + 1) [.bool false, .bool true] from (by first | exact (HH3.out.alloc _).below hb | exact HH3.out.below hb)); have x0 := HGJ3.out.cell 0 _ rfl; have x1 := HGJ3.out.cell 1 _ rfl; have x2 := HGJ3.out.sz; have y0 := HHJ3.out.cell 0 _ rfl; have y1 := HHJ3.out.cell 1 _ rfl; have y2 := HHJ3.out.sz; clear hb))
  all_goals go_ret
  all_goals exact ⟨rfl, HC3.out⟩
end Go.Proofs.Ytnokfhkcfebimaa

/- Plain laws of verdicts; boxes and the tape. -/
namespace Go.Proofs.Ytnokfhkcfebimaa
open Go.RowKit

theorem FS.tape {w0 v v' : World} {g T : Nat} {s : Sv} (h : FS w0 v g s) (hf : Fr v v' (fun b => b = T)) (hT : w0.heap.size ≤ T) (hg : g ≠ T) (hn : NB v T) : FS w0 v' g s := ⟨bw_one h.bw hf hT, h.cb.one hf hg, h.q.one hf hn⟩
/-- All random: at the last run there is a verdict. -/
theorem judL_ends {d : Nat → Nat → Int} {M : Nat} : ∀ (t : List (Bool × Bool)) (k p f : Nat), (∀ x ∈ t, x.2 = true) → p + f + t.length = M → 0 < t.length →
    (judL (aftQ d M) true t k p f).1 ≠ 0 ∧ (judL (aftQ d M) true t k p f).1 ≠ 5
  | [], _, _, _, _, _, h0 => absurd h0 (by simp)
  | (fl, rd) :: t, k, p, f, hr, hl, _ => by
    obtain rfl : rd = true := hr (fl, rd) (by simp)
    rw [judL, if_neg (by simp), if_neg (by simp)]
    have e : (if fl then p else p + 1) + (if fl then f + 1 else f) = p + f + 1 := by cases fl <;> simp <;> omega
    rw [List.length_cons] at hl
    generalize (if fl = true then p else p + 1) = p' at e ⊢
    generalize (if fl = true then f + 1 else f) = f' at e ⊢
    by_cases h : aftQ d M p' f' = 0
    · rw [if_pos h]
      have := aft_go (by omega) h
      exact judL_ends t _ _ _ (fun x hx => hr x (by simp [hx])) (by omega) (by omega)
    · rw [if_neg h]
      refine ⟨h, ?_⟩
      rcases aft_range d M p' f' with h1 | h1 | h1 | h1 <;> rw [h1] <;> simp
theorem jud_ends {d : Nat → Nat → Int} {M : Nat} {r : Bool} {xs : List (Bool × Bool)} (hr : ∀ x ∈ xs, x.2 = r) (h0 : xs.head? = some (true, r)) (hl : xs.length = M + 1) (hM : 1 ≤ M) :
    (jud (aftQ d M) xs).1 ≠ 0 ∧ (jud (aftQ d M) xs).1 ≠ 5 ∧ (r = false → (jud (aftQ d M) xs).2 = 2) := by
  cases xs with
  | nil => simp at h0
  | cons y t =>
    obtain rfl : y = (true, r) := by simpa using h0
    rw [List.length_cons] at hl
    cases r
    · cases t with
      | nil => simp at hl; omega
      | cons z t =>
        obtain ⟨fl, rd⟩ := z
        obtain rfl : rd = false := hr (fl, rd) (by simp)
        cases fl <;> simp [jud, judL]
    · have h := judL_ends (d := d) (M := M) t 1 0 0 (fun x hx => hr x (by simp [hx])) (by omega) (by omega)
      exact ⟨h.1, h.2, fun h => by simp at h⟩
end Go.Proofs.Ytnokfhkcfebimaa
