/- The walk of the law RerunJudges. -/
import Derived.Test.YtnokfhkcfebimaaGreatG30
import Derived.Test.YtnokfhkcfebimaaGreatG20
import Derived.Test.YtnokfhkcfebimaaGreatG23
import Derived.Test.YtnokfhkcfebimaaGreatG22
import Derived.RangeFuncNested
import Derived.RangeFuncBound
import Derived.RangeFuncCalls
import Derived.RangeFuncLeaves
import Derived.Shelf.Abstract
import Derived.Shelf.RegionOpen
import Derived.OwnWalkIn
import Derived.TacticsInMore
import Derived.LoopNIn
import Derived.LoopIn
import Derived.Test.YtnokfhkcfebimaaGreatG27
import Derived.Test.YtnokfhkcfebimaaGreatG24
set_option linter.unusedVariables false
set_option linter.unusedSimpArgs false

/- A specification that came in. -/
namespace Go.Proofs.YtnokfhkcfebimaaGreat
open Go.RowKit Go.WideShapes Go.Deep

theorem jcells32 : Tryz.prog.cellsOf 32 = 9 := by kernel_rfl
theorem CameF.fq {w : World} {p : Fa} {l k : List Nat} (h : CameF w p l k) : Fq w p l k := ⟨h.u, h.v, h.c, h.d, h.n, h.m⟩
section
variable {H : Type} {enc : TypeId × Value → H} {w : World} {base : Nat} {spare : Nat → Bool} {held : Bool}
set_option maxRecDepth 20000 in
theorem came_spec {fuel : Nat} {cs : List Value} {x : DataW H × List MemPlace} (h : DataW.trod enc Tryz.prog w base spare held fuel 32 cs = some x) :
    ∃ (s : Sv), cs = [.slice s.l.A s.l.n s.l.c, .slice s.l.B s.l.m s.l.d, .slice s.h.A s.h.n s.h.c, .slice s.h.B s.h.m s.h.d, .slice s.a.A s.a.n s.a.c, .slice s.a.B s.a.m s.a.d, .slice s.b.A s.b.n s.b.c, .slice s.b.B s.b.m s.b.d, .int .i64 s.m] ∧ SQ w s := by
  obtain ⟨xs, n, _, -, hc, hl, hf⟩ := DataW.trod_struct Tryz.underlying32 h
  rw [jcells32] at hc
  have hl' : xs.length = 5 := hl
  match cs, hc with
  | [a0, a1, a2, a3, a4, a5, a6, a7, a8], _ =>
    obtain ⟨y0, h0⟩ := jfld hf 0 26 0 2 rfl jcells26 (by omega)
    obtain ⟨y1, h1⟩ := jfld hf 1 26 2 2 rfl jcells26 (by omega)
    obtain ⟨y2, h2⟩ := jfld hf 2 26 4 2 rfl jcells26 (by omega)
    obtain ⟨y3, h3⟩ := jfld hf 3 26 6 2 rfl jcells26 (by omega)
    obtain ⟨y4, h4⟩ := jfld hf 4 3 8 1 rfl jcells3 (by omega)
    simp only [List.drop_zero, List.take, List.drop] at h0 h1 h2 h3 h4
    obtain ⟨p0, l0, k0, e0, g0⟩ := came_frac h0
    obtain ⟨p1, l1, k1, e1, g1⟩ := came_frac h1
    obtain ⟨p2, l2, k2, e2, g2⟩ := came_frac h2
    obtain ⟨p3, l3, k3, e3, g3⟩ := came_frac h3
    obtain ⟨i, e4, -⟩ := DataW.trod_int Tryz.underlying3 h4
    simp at e0 e1 e2 e3 e4
    obtain ⟨rfl, rfl⟩ := e0
    obtain ⟨rfl, rfl⟩ := e1
    obtain ⟨rfl, rfl⟩ := e2
    obtain ⟨rfl, rfl⟩ := e3
    subst e4
    exact ⟨⟨p0, p1, p2, p3, i, l0, k0, l1, k1, l2, k2, l3, k3⟩, rfl, ⟨g0.fq, g1.fq, g2.fq, g3.fq⟩⟩
end
end Go.Proofs.YtnokfhkcfebimaaGreat

/- Plain laws of the verdicts of attempts. -/
namespace Go.Proofs.YtnokfhkcfebimaaGreat
open Go.RowKit

/-- What a number of runs that passed and one of runs that failed mean. -/
def aftQ (d : Nat → Nat → Int) (M p f : Nat) : Int := if d p f = 2 then 1 else if d p f = 1 then 2 else if p + f = M then 3 else 0
theorem aft_go {d : Nat → Nat → Int} {M p f : Nat} (hpf : p + f ≤ M) (h : aftQ d M p f = 0) : p + f < M := by
  unfold aftQ at h
  split at h
  · simp at h
  · split at h
    · simp at h
    · split at h
      · simp at h
      · omega
theorem aft_range (d : Nat → Nat → Int) (M p f : Nat) : aftQ d M p f = 0 ∨ aftQ d M p f = 1 ∨ aftQ d M p f = 2 ∨ aftQ d M p f = 3 := by
  unfold aftQ
  split
  · exact .inr (.inl rfl)
  · split
    · exact .inr (.inr (.inl rfl))
    · split
      · exact .inr (.inr (.inr rfl))
      · exact .inl rfl
/-- The attempts behind the first one: (failed, random). -/
def judL (g : Nat → Nat → Int) (r0 : Bool) : List (Bool × Bool) → Nat → Nat → Nat → Int × Nat
  | [], k, _, _ => (0, k)
  | (fl, rd) :: t, k, p, f =>
    if rd ≠ r0 then (4, k + 1)
    else if rd = false then (if fl then (1, k + 1) else (4, k + 1))
    else if g (if fl then p else p + 1) (if fl then f + 1 else f) = 0 then judL g r0 t (k + 1) (if fl then p else p + 1) (if fl then f + 1 else f)
    else (g (if fl then p else p + 1) (if fl then f + 1 else f), k + 1)
def jud (g : Nat → Nat → Int) : List (Bool × Bool) → Int × Nat
  | [] => (0, 0)
  | (fl, rd) :: t => if fl = false then (5, 1) else judL g rd t 1 0 0
/-- Two cells of an attempt. -/
def atv (x : Bool × Bool) : List Value := [.bool x.1, .bool x.2]
theorem atv_len : ∀ x, (atv x).length = 2 := fun _ => rfl
end Go.Proofs.YtnokfhkcfebimaaGreat

/- Attempts that came in. -/
namespace Go.Proofs.YtnokfhkcfebimaaGreat
open Go.RowKit Go.WideShapes Go.Deep

theorem jcells80 : Tryz.prog.cellsOf 80 = 2 := by kernel_rfl
theorem jcellsBool : Tryz.prog.cellsOf 4 = 1 := by kernel_rfl
section
variable {H : Type} {enc : TypeId × Value → H} {w : World} {base : Nat} {spare : Nat → Bool} {held : Bool}
set_option maxRecDepth 20000 in
theorem came_att {fuel : Nat} {cs : List Value} {x : DataW H × List MemPlace} (h : DataW.trod enc Tryz.prog w base spare held fuel 80 cs = some x) : ∃ a : Bool × Bool, cs = atv a := by
  obtain ⟨xs, n, _, -, hc, hl, hf⟩ := DataW.trod_struct Tryz.underlying80 h
  rw [jcells80] at hc
  have hl' : xs.length = 2 := hl
  match cs, hc with
  | [a0, a1], _ =>
    obtain ⟨y0, h0⟩ := jfld hf 0 4 0 1 rfl jcellsBool (by omega)
    obtain ⟨y1, h1⟩ := jfld hf 1 4 1 1 rfl jcellsBool (by omega)
    obtain ⟨i0, e0, -⟩ := DataW.trod_bool Tryz.underlying4 h0
    obtain ⟨i1, e1, -⟩ := DataW.trod_bool Tryz.underlying4 h1
    simp at e0 e1
    subst e0 e1
    exact ⟨(i0, i1), rfl⟩
theorem came_attempts {fuel : Nat} {cs : List Value} {x : DataW H × List MemPlace} (h : DataW.trod enc Tryz.prog w base spare held fuel 46 cs = some x) :
    ∃ (A : Option Addr) (n c : Nat) (l : List (Bool × Bool)), cs = [.slice A n c] ∧ l.length = n ∧ n ≤ c ∧ c ≤ maxLen ∧ Rs w none 2 atv A l := by
  obtain ⟨A, n, c, l, h1, h2, h3, h4, -, h5⟩ := came_row atv 2 (fun _ => True) (false, false) Tryz.underlying46 jcells80 (by omega) (fun _ => rfl) (fun n cs x h => by
    obtain ⟨a, ha⟩ := came_att h
    exact ⟨a, ha, trivial⟩) h
  exact ⟨A, n, c, l, h1, h2, h3, h4, h5⟩
end
end Go.Proofs.YtnokfhkcfebimaaGreat

/- Contract: the maker of specifications of the rerun laws. -/
namespace Go.Proofs.YtnokfhkcfebimaaGreat
open Go.RowKit

set_option maxRecDepth 100000 in
set_option maxHeartbeats 16000000 in
theorem vspec_any (w : World) (T : Nat) (A : Option Addr) (n c : Nat) (l : List Int) (a most : Nat) (hP : Tp w T A n c l a) (ha : a ≤ 4294960000) (hm : 1 ≤ most) (hm2 : most ≤ 32) :
    Calls Tryz.prog 18 #[.pointer (some ⟨T, 0, none⟩), .int .i64 (most : Int)] w fun e w' => MkS w T A n c l a most e w' := by
  have hTl := hP.t.1
  have HPW := hide hP
  go_enter Tryz.func18, Tryz.ntmps18
  go_upto_region 2 with (fail)
  generalize hW : World.alloc (World.alloc w _) _ = v
  have HS0 := hide (show SpS w v T A n c l a w.heap.size (w.heap.size + 1) sv0 by
    rw [← hW]
    exact ⟨(hP.alloc _).alloc _, (Cb.mk0 z9 (by simp [z9]) _ rfl).alloc _, Cb.mk0 z9 (by simp [z9]) _ (by simp), ⟨fq0 _, fq0 _, fq0 _, fq0 _⟩, ((Fr.refl _ _).alloc _).alloc _⟩)
  clear hW hP
  go_upto_region 3 with (go_at_call 39; refine (twom_any _ T A n c l a HS0.out.tp (by omega)).mono ?_; rintro e w1 ⟨f, g, r, s, rfl, hof, hog, hcr, hcs, hrs, hp, hf⟩; have HOF := hide hof; have HOG := hide hog; have HCR := hide hcr; have HCS := hide hcs; have HRS := hide hrs; have HS1 := hide (HS0.out.tape hp hf (by omega) (by omega)); have y0 := HS1.out.b.cell 0 _ rfl; have y1 := HS1.out.b.cell 1 _ rfl; have y2 := HS1.out.b.cell 2 _ rfl; have y3 := HS1.out.b.cell 3 _ rfl; have y4 := HS1.out.b.cell 4 _ rfl; have y5 := HS1.out.b.cell 5 _ rfl; have y6 := HS1.out.b.cell 6 _ rfl; have y7 := HS1.out.b.cell 7 _ rfl; have y8 := HS1.out.b.cell 8 _ rfl; have yf := HS1.out.b.fz; have yz := HS1.out.b.sz; clear hof hog hcr hcs hrs hp hf)
  generalize hW : World.setCell (World.setCell (World.setCell (World.setCell w1 _ _) _ _) _ _) _ _ = v2
  have HS2 := hide (show SpS w v2 T A n c l (a + 3) w.heap.size (w.heap.size + 1) ⟨f, g, fa0, fa0, 0, lm (rn r), lm r.den, lm (rn s), lm s.den, [], [], [], []⟩ by
    rw [← hW]
    exact HS1.out.put HPW.out (by omega) (by omega) (fr4 0 1 2 3 _ _ _ _) ((((HS1.out.b.put 0 (.slice f.A f.n f.c) (by simp [Sv.cs, sv0]) (by simp)).put 1 (.slice f.B f.m f.d) (by simp [Sv.cs, sv0]) (by simp)).put 2 (.slice g.A g.n g.c) (by simp [Sv.cs, sv0]) (by simp)).put 3 (.slice g.B g.m g.d) (by simp [Sv.cs, sv0]) (by simp)) ⟨HOF.out.1.one (fr4 0 1 2 3 _ _ _ _) HS1.out.b.nb, HOG.out.1.one (fr4 0 1 2 3 _ _ _ _) HS1.out.b.nb, fq0 _, fq0 _⟩ (by omega))
  clear hW
  clear y0 y1 y2 y3 y4 y5 y6 y7 y8 yf yz
  have HOK := hide (show okR (some r) ∧ okR (some s) from ⟨HOF.out.2, HOG.out.2⟩)
  have z0 := HS2.out.b.cell 0 _ rfl; have z1 := HS2.out.b.cell 1 _ rfl; have z2 := HS2.out.b.cell 2 _ rfl; have z3 := HS2.out.b.cell 3 _ rfl; have z4 := HS2.out.b.cell 4 _ rfl; have z5 := HS2.out.b.cell 5 _ rfl; have z6 := HS2.out.b.cell 6 _ rfl; have z7 := HS2.out.b.cell 7 _ rfl; have z8 := HS2.out.b.cell 8 _ rfl; have zf := HS2.out.b.fz; have zz := HS2.out.b.sz
  have hT2 := HS2.out.tp.t.1
  go_upto_region 4 with (first
    | (go_at_call 26; have hx10 : Rs (w10.alloc (.cells #[.int .i64 2, .int .i64 5, .int .i64 10, .int .i64 50] 3)) (some T) 1 iv (some ⟨w10.heap.size, 0, none⟩) [2, 5, 10, 50] := rs_new (by omega) [2, 5, 10, 50] 3; refine (pickp_any _ T A n c l (a + 3 + 1) _ 4 4 [2, 5, 10, 50] (HS10.out.tp.alloc _) (by omega) hx10 rfl (by decide) (by decide)).mono ?_; rintro e w11 ⟨⟨v2, hv, rfl⟩, hp, hf⟩; have HV := hide (mem_nat2 2 hv (by decide)); have HO5b := hide ((HO5.out.alloc _).one hf (HS10.out.tp.alloc _).nb); have HS11 := hide ((HS10.out.below ((Below.refl _ _).alloc (Nat.le_refl _) _)).tape hp hf (by omega) (by omega)); clear hv hp hf; obtain ⟨d2, rfl, hd3, hd4⟩ := HV.out; clear HV)
    | (go_at_call 26; have hx6 : Rs (v2.alloc (.cells #[.int .i64 2, .int .i64 3, .int .i64 10, .int .i64 20, .int .i64 100] 3)) (some T) 1 iv (some ⟨v2.heap.size, 0, none⟩) [2, 3, 10, 20, 100] := rs_new (by omega) [2, 3, 10, 20, 100] 3; refine (pickp_any _ T A n c l (a + 3) _ 5 5 [2, 3, 10, 20, 100] (HS2.out.tp.alloc _) (by omega) hx6 rfl (by decide) (by decide)).mono ?_; rintro e w9 ⟨⟨v1, hv, rfl⟩, hp, hf⟩; have HV := hide (mem_nat2 2 hv (by decide)); have HS9 := hide ((HS2.out.below ((Below.refl _ _).alloc (Nat.le_refl _) _)).tape hp hf (by omega) (by omega)); clear hv hp hf; obtain ⟨d1, rfl, hd1, hd2⟩ := HV.out; clear HV)
    | (go_at_call 25; (with_reducible refine (small1_any _ d1 (by omega) (by omega)).mono ?_); rintro e w10 ⟨f5, rfl, ho, hb⟩; have HO5 := hide ho; have HS10 := hide (HS9.out.below hb); have hT10 := HS10.out.tp.t.1; clear ho hb)
    | (go_at_call 25; (with_reducible refine (small1_any _ d2 (by omega) (by omega)).mono ?_); rintro e w12 ⟨f6, rfl, ho, hb⟩; have HO6 := hide ho; have HO5c := hide (HO5b.out.below hb); have HS12 := hide (HS11.out.below hb); have u0 := HS12.out.b.cell 0 _ rfl; have u1 := HS12.out.b.cell 1 _ rfl; have u2 := HS12.out.b.cell 2 _ rfl; have u3 := HS12.out.b.cell 3 _ rfl; have u4 := HS12.out.b.cell 4 _ rfl; have u5 := HS12.out.b.cell 5 _ rfl; have u6 := HS12.out.b.cell 6 _ rfl; have u7 := HS12.out.b.cell 7 _ rfl; have u8 := HS12.out.b.cell 8 _ rfl; have uf := HS12.out.b.fz; have uz := HS12.out.b.sz; clear ho hb))
  clear z0 z1 z2 z3 z4 z5 z6 z7 z8 zf zz
  have HI5 := hide (And.intro (inn_mk hd1 hd2) HO5c.out.2)
  have HI6 := hide (And.intro (inn_mk hd3 hd4) HO6.out.2)
  obtain ⟨r5, hr5⟩ : ∃ r, r = mkRat ((1 : Nat) : Int) d1 := ⟨_, rfl⟩
  obtain ⟨r6, hr6⟩ : ∃ r, r = mkRat ((1 : Nat) : Int) d2 := ⟨_, rfl⟩
  rw [← hr5] at HI5 HO5c
  rw [← hr6] at HI6 HO6
  clear hr5 hr6
  generalize hW : World.setCell (World.setCell (World.setCell (World.setCell w12 _ _) _ _) _ _) _ _ = v13
  have HS13 := hide (show SpS w v13 T A n c l (a + 3 + 1 + 1) w.heap.size (w.heap.size + 1) ⟨f, g, f5, f6, 0, lm (rn r), lm r.den, lm (rn s), lm s.den, lm (rn r5), lm r5.den, lm (rn r6), lm r6.den⟩ by
    rw [← hW]
    exact HS12.out.put HPW.out (by omega) (by omega) (fr4 4 5 6 7 _ _ _ _) (((((HS12.out.b.put 4 (.slice f5.A f5.n f5.c) (by simp [Sv.cs, sv0]) (by simp)).put 5 (.slice f5.B f5.m f5.d) (by simp [Sv.cs, sv0]) (by simp)).put 6 (.slice f6.A f6.n f6.c) (by simp [Sv.cs, sv0]) (by simp)).put 7 (.slice f6.B f6.m f6.d) (by simp [Sv.cs, sv0]) (by simp))) ⟨HS12.out.q.l.one (fr4 4 5 6 7 _ _ _ _) HS12.out.b.nb, HS12.out.q.h.one (fr4 4 5 6 7 _ _ _ _) HS12.out.b.nb, HO5c.out.1.one (fr4 4 5 6 7 _ _ _ _) HS12.out.b.nb, HO6.out.1.one (fr4 4 5 6 7 _ _ _ _) HS12.out.b.nb⟩ (by omega))
  clear hW
  clear u0 u1 u2 u3 u4 u5 u6 u7 u8 uf uz
  go_upto_region 5 with ((go_at_call 24; refine (nextp_any _ T A n c l (a + 3 + 1 + 1) (most : Int) HS13.out.tp (by omega) (by omega)).mono ?_; rintro e w8 ⟨rfl, hp, hf⟩; have HX := hide (tapeV_nat l (a + 3 + 1 + 1) (most : Int)); have HS8 := hide (HS13.out.tape hp hf (by omega) (by omega)); have q0 := HS8.out.b.cell 0 _ rfl; have q1 := HS8.out.b.cell 1 _ rfl; have q2 := HS8.out.b.cell 2 _ rfl; have q3 := HS8.out.b.cell 3 _ rfl; have q4 := HS8.out.b.cell 4 _ rfl; have q5 := HS8.out.b.cell 5 _ rfl; have q6 := HS8.out.b.cell 6 _ rfl; have q7 := HS8.out.b.cell 7 _ rfl; have q8 := HS8.out.b.cell 8 _ rfl; have qf := HS8.out.b.fz; have qz := HS8.out.b.sz; obtain ⟨x, hx, hxm⟩ := HX.out; rw [hx]; clear hp hf hx HX))
  obtain ⟨m, hmx⟩ : ∃ m : Nat, m = 1 + x := ⟨_, rfl⟩
  have hx1 : (1 : Int) + (x : Int) = (m : Int) := by omega
  have HMX := hide (show 1 ≤ m ∧ m ≤ most by omega)
  clear hmx
  generalize hW : World.setCell w8 _ _ = v8
  have HS9 := hide (show SpS w v8 T A n c l (a + 3 + 1 + 1 + 1) w.heap.size (w.heap.size + 1) ⟨f, g, f5, f6, (m : Int), lm (rn r), lm r.den, lm (rn s), lm s.den, lm (rn r5), lm r5.den, lm (rn r6), lm r6.den⟩ by
    rw [← hW]
    refine HS8.out.put HPW.out (by omega) (by omega) (fr1 8 _) ?_ (s' := ⟨f, g, f5, f6, (m : Int), lm (rn r), lm r.den, lm (rn s), lm s.den, lm (rn r5), lm r5.den, lm (rn r6), lm r6.den⟩) ⟨HS8.out.q.l.one (fr1 8 _) HS8.out.b.nb, HS8.out.q.h.one (fr1 8 _) HS8.out.b.nb, HS8.out.q.a.one (fr1 8 _) HS8.out.b.nb, HS8.out.q.b.one (fr1 8 _) HS8.out.b.nb⟩ (by omega)
    have h9 := HS8.out.b.put 8 (.int .i64 (m : Int)) (by simp [Sv.cs]) (by simp)
    rw [hx1]
    exact h9)
  clear q0 q1 q2 q3 q4 q5 q6 q7 q8 qf qz
  clear hW
  have p0 := HS9.out.b.cell 0 _ rfl; have p1 := HS9.out.b.cell 1 _ rfl; have p2 := HS9.out.b.cell 2 _ rfl; have p3 := HS9.out.b.cell 3 _ rfl; have p4 := HS9.out.b.cell 4 _ rfl; have p5 := HS9.out.b.cell 5 _ rfl; have p6 := HS9.out.b.cell 6 _ rfl; have p7 := HS9.out.b.cell 7 _ rfl; have p8 := HS9.out.b.cell 8 _ rfl; have pf := HS9.out.b.fz; have pz := HS9.out.b.sz
  have t0 := HS9.out.r.cell 0 _ rfl; have t1 := HS9.out.r.cell 1 _ rfl; have t2 := HS9.out.r.cell 2 _ rfl; have t3 := HS9.out.r.cell 3 _ rfl; have t4 := HS9.out.r.cell 4 _ rfl; have t5 := HS9.out.r.cell 5 _ rfl; have t6 := HS9.out.r.cell 6 _ rfl; have t7 := HS9.out.r.cell 7 _ rfl; have t8 := HS9.out.r.cell 8 _ rfl
  have tf := HS9.out.r.fz
  have tz := HS9.out.r.sz
  dsimp only at p0 p1 p2 p3 p4 p5 p6 p7 p8
  go_wp2_with fail
  have hq9 := hide (fr9 (w := v8) (g := w.heap.size) (.slice f.A f.n f.c) (.slice f.B f.m f.d) (.slice g.A g.n g.c) (.slice g.B g.m g.d) (.slice f5.A f5.n f5.c) (.slice f5.B f5.m f5.d) (.slice f6.A f6.n f6.c) (.slice f6.B f6.m f6.d) (.int .i64 (m : Int)))
  generalize hW : World.setCell (World.setCell (World.setCell (World.setCell (World.setCell (World.setCell (World.setCell (World.setCell (World.setCell v8 _ _) _ _) _ _) _ _) _ _) _ _) _ _) _ _) _ _ = v10
  have HR10 := hide (show Cb v10 w.heap.size [.slice f.A f.n f.c, .slice f.B f.m f.d, .slice g.A g.n g.c, .slice g.B g.m g.d, .slice f5.A f5.n f5.c, .slice f5.B f5.m f5.d, .slice f6.A f6.n f6.c, .slice f6.B f6.m f6.d, .int .i64 (m : Int)] by rw [← hW]; exact (((((((((HS9.out.r.put 0 (.slice f.A f.n f.c) (by simp [z9]) (by simp)).put 1 (.slice f.B f.m f.d) (by simp [z9]) (by simp)).put 2 (.slice g.A g.n g.c) (by simp [z9]) (by simp)).put 3 (.slice g.B g.m g.d) (by simp [z9]) (by simp)).put 4 (.slice f5.A f5.n f5.c) (by simp [z9]) (by simp)).put 5 (.slice f5.B f5.m f5.d) (by simp [z9]) (by simp)).put 6 (.slice f6.A f6.n f6.c) (by simp [z9]) (by simp)).put 7 (.slice f6.B f6.m f6.d) (by simp [z9]) (by simp)).put 8 (.int .i64 (m : Int)) (by simp [z9]) (by simp)))
  have HQ9 := hide (show Fr v8 v10 (fun b => b = w.heap.size) by rw [← hW]; exact hq9.out)
  clear hW hq9 p0 t0 p1 t1 p2 t2 p3 t3 p4 t4 p5 t5 p6 t6 p7 t7 p8 t8 pf tf pz tz
  have k0 := HR10.out.cell 0 _ rfl; have k1 := HR10.out.cell 1 _ rfl; have k2 := HR10.out.cell 2 _ rfl; have k3 := HR10.out.cell 3 _ rfl; have k4 := HR10.out.cell 4 _ rfl; have k5 := HR10.out.cell 5 _ rfl; have k6 := HR10.out.cell 6 _ rfl; have k7 := HR10.out.cell 7 _ rfl; have k8 := HR10.out.cell 8 _ rfl
  refine bodyPost_ret (v := .agg #[.slice f.A f.n f.c, .slice f.B f.m f.d, .slice g.A g.n g.c, .slice g.B g.m g.d, .slice f5.A f5.n f5.c, .slice f5.B f5.m f5.d, .slice f6.A f6.n f6.c, .slice f6.B f6.m f6.d, .int .i64 (m : Int)]) (by simp [results, Tryz.results18, go_sem, *]) rfl ⟨⟨f, g, f5, f6, (m : Int), lm (rn r), lm r.den, lm (rn s), lm s.den, lm (rn r5), lm r5.den, lm (rn r6), lm r6.den⟩, r, s, r5, r6, m, a + 3 + 1 + 1 + 1, rfl, HS9.out.q.one HQ9.out HS9.out.r.nb, ⟨fracOf_self (o := some r) HOK.out.1, fracOf_self (o := some s) HOK.out.2, fracOf_self (o := some r5) HI5.out.2, fracOf_self (o := some r6) HI6.out.2, ⟨HCR.out, HRS.out.1, lt_tr HRS.out.2.1 HRS.out.2.2⟩, ⟨HCS.out, lt_tr HRS.out.1 HRS.out.2.1, HRS.out.2.2⟩, HI5.out.1, HI6.out.1, HRS.out.2.1, rfl, HMX.out.1, Nat.le_trans HMX.out.2 hm2⟩, HMX.out.2, HPW.out.one HS9.out.tp (Nat.le_refl _) HQ9.out, by omega, HS9.out.fr.step HQ9.out (fun i hi e => by omega)⟩
end Go.Proofs.YtnokfhkcfebimaaGreat

/- Contracts: rerun.after, rerun.check. -/
namespace Go.Proofs.YtnokfhkcfebimaaGreat
open Go.RowKit

set_option maxRecDepth 100000 in
set_option maxHeartbeats 8000000 in
theorem vafter_ok (w : World) (s : Sv) (l h a b : Rat) (M p f : Nat) (hq : SQ w s) (hk : OKs s l h a b M) (hpf : p + f ≤ M) :
    Calls Tryz.prog 55 #[.agg #[.slice s.l.A s.l.n s.l.c, .slice s.l.B s.l.m s.l.d, .slice s.h.A s.h.n s.h.c, .slice s.h.B s.h.m s.h.d, .slice s.a.A s.a.n s.a.c, .slice s.a.B s.a.m s.a.d, .slice s.b.A s.b.n s.b.c, .slice s.b.B s.b.m s.b.d, .int .i64 s.m], .int .i64 (p : Int), .int .i64 (f : Int)] w fun e w' => e = .returned (.int .i64 (aftQ (decQ l h a b) M p f)) ∧ Below w.heap.size w w' := by
  have HK := hide hk
  have hm := hk.m
  have hm2 := hk.m2
  have hw : wrap64 ((p : Int) + (f : Int)) = (p : Int) + (f : Int) := IntWalk.wrap64_in _ ⟨by omega, by omega⟩
  have hw2 : wrap64 s.m = s.m := IntWalk.wrap64_in _ ⟨by omega, by omega⟩
  have HPF := hide hpf
  have hcase : (decQ l h a b p f = 2 ∧ aftQ (decQ l h a b) M p f = 1) ∨ (decQ l h a b p f = 1 ∧ aftQ (decQ l h a b) M p f = 2) ∨ (decQ l h a b p f = 0 ∧ aftQ (decQ l h a b) M p f = if p + f = M then 3 else 0) := by
    unfold aftQ
    rcases decQ_range l h a b p f with h0 | h0 | h0 <;> rw [h0] <;> simp
  clear hk hm2 hpf
  rcases hcase with ⟨hd, ha⟩ | ⟨hd, ha⟩ | ⟨hd, ha⟩
  · have HD := hide hd
    rw [ha]
    clear hd ha hm
    go_enter Tryz.func55, Tryz.ntmps55
    go_upto_region 1 with (fail)
    generalize hW : World.alloc w _ = v
    have HF := hide (show FS w v w.heap.size s by rw [← hW]; exact FS.mk0 hq _)
    obtain ⟨a0, a1, a2, a3, a4, a5, a6, a7, a8, a9⟩ := HF.out.ca
    clear hW hq
    go_wp2_with (go_at_call 36; (with_reducible refine (sdecide_ok _ s l h a b M p f HF.out.q HK.out HPF.out).mono ?_); rintro e w1 ⟨rfl, hb⟩; rw [HD.out]; have HF1 := hide (HF.out.below hb); obtain ⟨b0, b1, b2, b3, b4, b5, b6, b7, b8, b9⟩ := HF1.out.ca; clear hb)
    refine bodyPost_ret (v := .int .i64 1) (by simp [results, Tryz.results55, go_sem, *]) rfl ⟨rfl, HF1.out.bw⟩
  · have HD := hide hd
    rw [ha]
    clear hd ha hm
    go_enter Tryz.func55, Tryz.ntmps55
    go_upto_region 1 with (fail)
    generalize hW : World.alloc w _ = v
    have HF := hide (show FS w v w.heap.size s by rw [← hW]; exact FS.mk0 hq _)
    obtain ⟨a0, a1, a2, a3, a4, a5, a6, a7, a8, a9⟩ := HF.out.ca
    clear hW hq
    go_wp2_with (go_at_call 36; (with_reducible refine (sdecide_ok _ s l h a b M p f HF.out.q HK.out HPF.out).mono ?_); rintro e w1 ⟨rfl, hb⟩; rw [HD.out]; have HF1 := hide (HF.out.below hb); obtain ⟨b0, b1, b2, b3, b4, b5, b6, b7, b8, b9⟩ := HF1.out.ca; clear hb)
    refine bodyPost_ret (v := .int .i64 2) (by simp [results, Tryz.results55, go_sem, *]) rfl ⟨rfl, HF1.out.bw⟩
  · have HD := hide hd
    by_cases hpm : p + f = M
    · rw [ha, if_pos hpm]
      have e1 : (p : Int) + (f : Int) = s.m := by omega
      have e2 : ((p : Int) + (f : Int) == s.m) = true := by rw [e1]; simp
      have e3 : decide ((p : Int) + (f : Int) = s.m) = true := decide_eq_true e1
      clear hd ha hm hpm
      go_enter Tryz.func55, Tryz.ntmps55
      go_upto_region 1 with (fail)
      generalize hW : World.alloc w _ = v
      have HF := hide (show FS w v w.heap.size s by rw [← hW]; exact FS.mk0 hq _)
      obtain ⟨a0, a1, a2, a3, a4, a5, a6, a7, a8, a9⟩ := HF.out.ca
      clear hW hq
      go_wp2_with (go_at_call 36; (with_reducible refine (sdecide_ok _ s l h a b M p f HF.out.q HK.out HPF.out).mono ?_); rintro e w1 ⟨rfl, hb⟩; rw [HD.out]; have HF1 := hide (HF.out.below hb); obtain ⟨b0, b1, b2, b3, b4, b5, b6, b7, b8, b9⟩ := HF1.out.ca; clear hb)
      refine bodyPost_ret (v := .int .i64 3) (by simp [results, Tryz.results55, go_sem, *]) rfl ⟨rfl, HF1.out.bw⟩
    · rw [ha, if_neg hpm]
      have e1 : ¬ ((p : Int) + (f : Int) = s.m) := by omega
      have e2 : ((p : Int) + (f : Int) == s.m) = false := by simp [e1]
      have e3 : decide ((p : Int) + (f : Int) = s.m) = false := decide_eq_false e1
      clear hd ha hm hpm
      go_enter Tryz.func55, Tryz.ntmps55
      go_upto_region 1 with (fail)
      generalize hW : World.alloc w _ = v
      have HF := hide (show FS w v w.heap.size s by rw [← hW]; exact FS.mk0 hq _)
      obtain ⟨a0, a1, a2, a3, a4, a5, a6, a7, a8, a9⟩ := HF.out.ca
      clear hW hq
      go_wp2_with (go_at_call 36; (with_reducible refine (sdecide_ok _ s l h a b M p f HF.out.q HK.out HPF.out).mono ?_); rintro e w1 ⟨rfl, hb⟩; rw [HD.out]; have HF1 := hide (HF.out.below hb); obtain ⟨b0, b1, b2, b3, b4, b5, b6, b7, b8, b9⟩ := HF1.out.ca; clear hb)
      refine bodyPost_ret (v := .int .i64 0) (by simp [results, Tryz.results55, go_sem, *]) rfl ⟨rfl, HF1.out.bw⟩
/-- The first error of a specification and attempts. -/
def vckE (s : Sv) (n : Nat) : Int := if s.ok = false then 1 else if 33 < n then 2 else 0
set_option maxRecDepth 100000 in
set_option maxHeartbeats 8000000 in
theorem vcheck_any (w : World) (s : Sv) (A : Option Addr) (n c : Nat) (hq : SQ w s) :
    Calls Tryz.prog 51 #[.agg #[.slice s.l.A s.l.n s.l.c, .slice s.l.B s.l.m s.l.d, .slice s.h.A s.h.n s.h.c, .slice s.h.B s.h.m s.h.d, .slice s.a.A s.a.n s.a.c, .slice s.a.B s.a.m s.a.d, .slice s.b.A s.b.n s.b.c, .slice s.b.B s.b.m s.b.d, .int .i64 s.m], .slice A n c] w fun e w' => e = .returned (.int .i64 (vckE s n)) ∧ Below w.heap.size w w' := by
  have hcase : (s.ok = false ∧ vckE s n = 1) ∨ (s.ok = true ∧ 33 < n ∧ vckE s n = 2) ∨ (s.ok = true ∧ ¬ 33 < n ∧ vckE s n = 0) := by
    unfold vckE
    cases s.ok
    · simp
    · by_cases h : 33 < n <;> simp [h]
  rcases hcase with ⟨h1, h2⟩ | ⟨h1, h3, h2⟩ | ⟨h1, h3, h2⟩
  · have HOK := hide h1
    rw [h2]
    clear h1 h2
    go_enter Tryz.func51, Tryz.ntmps51
    go_upto_region 1 with (fail)
    generalize hW : World.alloc w _ = v
    have HF := hide (show FS w v w.heap.size s by rw [← hW]; exact FS.mk0 hq _)
    obtain ⟨a0, a1, a2, a3, a4, a5, a6, a7, a8, a9⟩ := HF.out.ca
    clear hW hq
    go_wp2_with (go_at_call 42; (with_reducible refine (scheckv_any _ s HF.out.q).mono ?_); rintro e w1 ⟨rfl, hb⟩; rw [HOK.out]; have HF1 := hide (HF.out.below hb); obtain ⟨b0, b1, b2, b3, b4, b5, b6, b7, b8, b9⟩ := HF1.out.ca; clear hb)
    refine bodyPost_ret (v := .int .i64 1) (by simp [results, Tryz.results51, go_sem, *]) rfl ⟨rfl, HF1.out.bw⟩
  · have HOK := hide h1
    have g1 : decide ((33 : Int) < (n : Int)) = true := decide_eq_true (by omega)
    have g2 : decide (33 < n) = true := decide_eq_true (by omega)
    rw [h2]
    clear h1 h2
    go_enter Tryz.func51, Tryz.ntmps51
    go_upto_region 1 with (fail)
    generalize hW : World.alloc w _ = v
    have HF := hide (show FS w v w.heap.size s by rw [← hW]; exact FS.mk0 hq _)
    obtain ⟨a0, a1, a2, a3, a4, a5, a6, a7, a8, a9⟩ := HF.out.ca
    clear hW hq
    go_wp2_with (go_at_call 42; (with_reducible refine (scheckv_any _ s HF.out.q).mono ?_); rintro e w1 ⟨rfl, hb⟩; rw [HOK.out]; have HF1 := hide (HF.out.below hb); obtain ⟨b0, b1, b2, b3, b4, b5, b6, b7, b8, b9⟩ := HF1.out.ca; clear hb)
    refine bodyPost_ret (v := .int .i64 2) (by simp [results, Tryz.results51, go_sem, *]) rfl ⟨rfl, HF1.out.bw⟩
  · have HOK := hide h1
    have g1 : decide ((33 : Int) < (n : Int)) = false := decide_eq_false (by omega)
    have g2 : decide (33 < n) = false := decide_eq_false (by omega)
    rw [h2]
    clear h1 h2
    go_enter Tryz.func51, Tryz.ntmps51
    go_upto_region 1 with (fail)
    generalize hW : World.alloc w _ = v
    have HF := hide (show FS w v w.heap.size s by rw [← hW]; exact FS.mk0 hq _)
    obtain ⟨a0, a1, a2, a3, a4, a5, a6, a7, a8, a9⟩ := HF.out.ca
    clear hW hq
    go_wp2_with (go_at_call 42; (with_reducible refine (scheckv_any _ s HF.out.q).mono ?_); rintro e w1 ⟨rfl, hb⟩; rw [HOK.out]; have HF1 := hide (HF.out.below hb); obtain ⟨b0, b1, b2, b3, b4, b5, b6, b7, b8, b9⟩ := HF1.out.ca; clear hb)
    refine bodyPost_ret (v := .int .i64 0) (by simp [results, Tryz.results51, go_sem, *]) rfl ⟨rfl, HF1.out.bw⟩
end Go.Proofs.YtnokfhkcfebimaaGreat

/- Contracts: rerun.taken; the iterator. -/
namespace Go.Proofs.YtnokfhkcfebimaaGreat
open Go.RowKit Go.Shelf
attribute [local go_sem] Oper.semAt_some

set_option maxRecDepth 100000 in
set_option maxHeartbeats 2000000 in
theorem vtaken_any (w : World) (A : Option Addr) (n c : Nat) (p : Addr) :
    Calls Tryz.prog 92 #[.slice A n c, .pointer (some p)] w fun e w' => e = .returned (.func (.func 125) #[] #[.pointer (some ⟨w.heap.size, 0, none⟩), .pointer (some ⟨w.heap.size + 1, 0, none⟩)]) ∧ Cb w' w.heap.size [.slice A n c] ∧ Cb w' (w.heap.size + 1) [.pointer (some p)] ∧ w'.heap.size = w.heap.size + 2 ∧ Below w.heap.size w w' := by
  go_enter Tryz.func92, Tryz.ntmps92
  go_wp2
  refine bodyPost_ret (v := .func (.func 125) #[] #[.pointer (some ⟨w.heap.size, 0, none⟩), .pointer (some ⟨w.heap.size + 1, 0, none⟩)]) (by simp [results, Tryz.results92, go_sem, *]) rfl ⟨rfl, ?_, ?_, ?_, ?_⟩
  · exact (Cb.mk0 (w := w) [.slice A n c] (by simp) _ rfl).below ((Below.refl _ _).alloc (Nat.le_refl _) _)
  · exact Cb.mk0 [.pointer (some p)] (by simp) _ (by simp)
  · simp
  · exact ((Below.refl _ _).alloc (Nat.le_refl _) _).alloc (by simp) _
end Go.Proofs.YtnokfhkcfebimaaGreat

/- The state of rerun.judge between two rounds; contract: the iterator. -/
namespace Go.Proofs.YtnokfhkcfebimaaGreat
open Go.RowKit Go.Shelf
attribute [local go_sem] Oper.semAt_some

/-- Nothing of the old has turned, and the verdict, the attempts used, the runs that failed lie in their boxes; so do the loop's record and the block of its deferred calls. -/
structure JW (w0 : World) (s : Sv) (A : Option Addr) (n c : Nat) (u f : Int) (D : Nat) (rc : Loop) (W : World) : Prop where
  bw : Below w0.heap.size w0 W
  sp : Cb W w0.heap.size s.cs
  li : Cb W (w0.heap.size + 1) [.slice A n c]
  vd : Cb W (w0.heap.size + 1 + 1) [.int .i64 0]
  us : Cb W (w0.heap.size + 1 + 1 + 1) [.int .i64 u]
  fa : Cb W (w0.heap.size + 1 + 1 + 1 + 1) [.int .i64 f]
  i0 : Cb W (w0.heap.size + 1 + 1 + 1 + 1 + 1) [.slice A n c]
  i1 : Cb W (w0.heap.size + 1 + 1 + 1 + 1 + 1 + 1) [.pointer (some ⟨w0.heap.size + 1 + 1 + 1, 0, none⟩)]
  df : W.heap[D]? = some (.deferred (some []))
  lo : W.heap[D + 1]? = some (.loop rc)
  dl : w0.heap.size + 7 ≤ D
theorem bw_one {w0 W W' : World} {g : Nat} (hb : Below w0.heap.size w0 W) (hf : Fr W W' (fun b => b = g)) (hg : w0.heap.size ≤ g) : Below w0.heap.size w0 W' :=
  ((Fr.of_below (fun _ => False) hb).step hf (fun i hi e => by omega)).below (Nat.le_refl _) (fun _ _ h => h)
theorem fr_set (W : World) (g i : Nat) (v : Value) : Fr W (W.setCell ⟨g, i, none⟩ v) (fun b => b = g) := (Fr.refl _ _).setCell (Or.inr (by rfl)) _
theorem fr_putObj (W : World) (g : Nat) (o : Obj) : Fr W (W.putObj g o) (fun b => b = g) := ⟨rfl, rfl, rfl, by simp, fun k _ hk => World.putObj_heap_other hk⟩
section
variable {w0 : World} {s : Sv} {A : Option Addr} {n c : Nat} {u f : Int} {D : Nat} {rc : Loop} {W W' : World}
theorem JW.below (h : JW w0 s A n c u f D rc W) (hb : Below W.heap.size W W') : JW w0 s A n c u f D rc W' :=
  ⟨h.bw.trans (hb.mono h.bw.size), h.sp.below hb, h.li.below hb, h.vd.below hb, h.us.below hb, h.fa.below hb, h.i0.below hb, h.i1.below hb,
    (hb.block _ (Array.getElem?_eq_some_iff.1 h.df).1).trans h.df, (hb.block _ (Array.getElem?_eq_some_iff.1 h.lo).1).trans h.lo, h.dl⟩
theorem JW.used (h : JW w0 s A n c u f D rc W) (u' : Int) : JW w0 s A n c u' f D rc (W.setCell ⟨w0.heap.size + 1 + 1 + 1, 0, none⟩ (.int .i64 u')) := by
  have hd := h.dl
  have hf := fr_set W (w0.heap.size + 1 + 1 + 1) 0 (.int .i64 u')
  exact ⟨bw_one h.bw hf (by omega), h.sp.one hf (by omega), h.li.one hf (by omega), h.vd.one hf (by omega), h.us.put 0 _ (by simp) (by simp), h.fa.one hf (by omega), h.i0.one hf (by omega), h.i1.one hf (by omega),
    (hf.block _ (Array.getElem?_eq_some_iff.1 h.df).1 (by omega)).trans h.df, (hf.block _ (Array.getElem?_eq_some_iff.1 h.lo).1 (by omega)).trans h.lo, h.dl⟩
theorem JW.failed (h : JW w0 s A n c u f D rc W) (f' : Int) : JW w0 s A n c u f' D rc (W.setCell ⟨w0.heap.size + 1 + 1 + 1 + 1, 0, none⟩ (.int .i64 f')) := by
  have hd := h.dl
  have hf := fr_set W (w0.heap.size + 1 + 1 + 1 + 1) 0 (.int .i64 f')
  exact ⟨bw_one h.bw hf (by omega), h.sp.one hf (by omega), h.li.one hf (by omega), h.vd.one hf (by omega), h.us.one hf (by omega), h.fa.put 0 _ (by simp) (by simp), h.i0.one hf (by omega), h.i1.one hf (by omega),
    (hf.block _ (Array.getElem?_eq_some_iff.1 h.df).1 (by omega)).trans h.df, (hf.block _ (Array.getElem?_eq_some_iff.1 h.lo).1 (by omega)).trans h.lo, h.dl⟩
theorem JW.again (h : JW w0 s A n c u f D rc W) : JW w0 s A n c u f D rc (W.setCell ⟨w0.heap.size + 1 + 1, 0, none⟩ (.int .i64 0)) := by
  have hd := h.dl
  have hf := fr_set W (w0.heap.size + 1 + 1) 0 (.int .i64 0)
  exact ⟨bw_one h.bw hf (by omega), h.sp.one hf (by omega), h.li.one hf (by omega), h.vd.put 0 _ (by simp) (by simp), h.us.one hf (by omega), h.fa.one hf (by omega), h.i0.one hf (by omega), h.i1.one hf (by omega),
    (hf.block _ (Array.getElem?_eq_some_iff.1 h.df).1 (by omega)).trans h.df, (hf.block _ (Array.getElem?_eq_some_iff.1 h.lo).1 (by omega)).trans h.lo, h.dl⟩
theorem JW.put (h : JW w0 s A n c u f D rc W) (rc' : Loop) : JW w0 s A n c u f D rc' (W.putObj (D + 1) (.loop rc')) := by
  have hd := h.dl
  have hf := fr_putObj W (D + 1) (.loop rc')
  exact ⟨bw_one h.bw hf (by omega), h.sp.one hf (by omega), h.li.one hf (by omega), h.vd.one hf (by omega), h.us.one hf (by omega), h.fa.one hf (by omega), h.i0.one hf (by omega), h.i1.one hf (by omega),
    (hf.block _ (Array.getElem?_eq_some_iff.1 h.df).1 (by omega)).trans h.df, World.putObj_heap_same (Array.getElem?_eq_some_iff.1 h.lo).1, h.dl⟩
theorem atts_at {xs : List (Bool × Bool)} (h : Rs w0 none 2 atv A xs) {k : Nat} {x : Bool × Bool} (hk : xs[k]? = some x) :
    ∃ b o, A = some ⟨b, o, none⟩ ∧ b < w0.heap.size ∧ w0.cell? ⟨b, o + k * 2, none⟩ = some (.bool x.1) ∧ w0.cell? ⟨b, o + k * 2 + 1, none⟩ = some (.bool x.2) := by
  obtain ⟨b, o, g1, -, g3, g4⟩ := h.at hk
  exact ⟨b, o, g1, g3, g4 0 _ rfl, g4 1 _ rfl⟩
end

set_option maxRecDepth 100000 in
set_option maxHeartbeats 4000000 in
theorem vtaken1_any (w0 : World) (s : Sv) (A : Option Addr) (n c D : Nat) (rc : Loop) (xs : List (Bool × Bool)) (hR : Rs w0 none 2 atv A xs) (hl : xs.length = n) (hn : n ≤ 33)
    (J : Nat → Int → Prop) (X : World → Prop) (W : World) (hJ0 : J 0 0) (hW : JW w0 s A n c 0 0 D rc W)
    (hY : ∀ (k : Nat) (f : Int) (x : Bool × Bool) (W : World), xs[k]? = some x → J k f → JW w0 s A n c ((k : Int) + 1) f D rc W →
      YieldAt Fence.wide 3 Tryz.prog (D + 1) #[.agg #[.bool x.1, .bool x.2]] W (fun e W' => (e = .returned (.bool true) ∧ ∃ f', J (k + 1) f' ∧ JW w0 s A n c ((k : Int) + 1) f' D rc W') ∨ (e = .returned (.bool false) ∧ X W'))) :
    CallsIn Fence.wide 4 Tryz.prog 125 #[.func (.yield (D + 1)) #[] #[], .pointer (some ⟨w0.heap.size + 1 + 1 + 1 + 1 + 1, 0, none⟩), .pointer (some ⟨w0.heap.size + 1 + 1 + 1 + 1 + 1 + 1, 0, none⟩)] W
      fun e W' => (∃ v, e = .returned v) ∧ ((∃ f, J n f ∧ JW w0 s A n c (n : Int) f D rc W') ∨ X W') := by
  refine callsIn_of_wp Tryz.func125 rfl trivial ?_ rfl
  simp only [Tryz.ntmps125, List.size_toArray, List.length_cons, List.length_nil, Nat.reduceAdd, Nat.reduceSub, Array.replicate_succ, Array.replicate_zero, List.push_toArray, List.append_toArray, List.nil_append, List.cons_append]
  have HW := hide hW
  have HR := hide hR
  have HL := hide hl
  have HJ0 := hide hJ0
  have HY := hide hY
  have k0 := hW.i0.cell 0 _ rfl
  have k1 := hW.i0.sz
  clear hW hR hl hJ0 hY
  gi_wp2
  gi_loopw [8] (fun kv wr => ∃ (k : Nat) (f : Int), kv = .int .i64 (k : Int) ∧ k ≤ n ∧ Hid (J k f) ∧ Hid (JW w0 s A n c (k : Int) f D rc wr)) (fun kv _ => n - (intOf kv).toNat)
  case atStart => exact ⟨0, 0, rfl, by omega, HJ0, HW⟩
  case round =>
    obtain ⟨k, f, rfl, hkn, HJ, HWr⟩ := hrel
    by_cases hk : k = n
    · have hle : decide ((k : Int) < (n : Int)) = false := decide_eq_false (by omega)
      have hle2 : decide (k < n) = false := decide_eq_false (by omega)
      have hle3 : (n : Int) ≤ (k : Int) := by omega
      have HE := hide hk
      clear hk
      gi_wp2
      go_end0
      exact ⟨⟨_, rfl⟩, .inl ⟨f, HE.out ▸ HJ.out, by have := HWr.out; rwa [HE.out] at this⟩⟩
    · have hkl : k < xs.length := by have := HL.out; omega
      have hx := List.getElem?_eq_getElem hkl
      obtain ⟨x1, x2, hxx⟩ : ∃ x1 x2, xs[k] = (x1, x2) := ⟨_, _, rfl⟩
      rw [hxx] at hx
      clear hxx
      have HX := hide hx
      obtain ⟨b, o, rfl, hb0, e0, e1⟩ := atts_at HR.out hx
      have hbw := HWr.out.bw
      have j0 : wr.cell? ⟨b, o + k * 2, none⟩ = some (.bool x1) := (hbw.cell (by simpa using hb0)).trans e0
      have j1 : wr.cell? ⟨b, o + k * 2 + 1, none⟩ = some (.bool x2) := (hbw.cell (by simpa using hb0)).trans e1
      have j2 : b < wr.heap.size := Nat.lt_of_lt_of_le hb0 hbw.size
      have j3 := HWr.out.i1.cell 0 _ rfl
      have j4 := HWr.out.i1.sz
      have j5 := HWr.out.us.cell 0 _ rfl
      have j6 := HWr.out.us.sz
      have j7 := HWr.out.us.fz 0
      have hlt : decide ((k : Int) < (n : Int)) = true := decide_eq_true (by omega)
      have hlt2 : (k : Int) < (n : Int) := by omega
      have hk0 : (0 : Int) ≤ (k : Int) := by omega
      have hk33 : k ≤ 33 := by omega
      obtain ⟨fn, tmps, assign, body, hy, hRD⟩ := HY.out k f (x1, x2) ((wr.setCell ⟨w0.heap.size + 1 + 1 + 1, 0, none⟩ (.int .i64 ((k : Int) + 1))).alloc (.cells #[.bool x1, .bool x2] 80)) hx HJ.out ((HWr.out.used _).below ((Below.refl _ _).alloc (Nat.le_refl _) _))
      clear hx hbw e0 e1 hb0
      dsimp only at hy
      gi_wp2
      refine hRD.mono ?_
      rintro e W3 (⟨rfl, f', hj3, hw3⟩ | ⟨rfl, hx3⟩)
      · have HJ3 := hide hj3
        have HW3 := hide hw3
        clear hj3 hw3
        gi_wp2
        go_roundw
        case rel => exact ⟨k + 1, f', by go_num, by omega, HJ3, by have := HW3.out; rw [show (((k + 1 : Nat) : Int)) = (k : Int) + 1 by omega]; exact hide this⟩
        case measure => simp [intOf]; omega
      · have HX3 := hide hx3
        clear hx3
        gi_wp2
        refine bodyPost_ret (results_none rfl _ _ _) rfl ?_
        exact ⟨⟨_, rfl⟩, .inr HX3.out⟩
end Go.Proofs.YtnokfhkcfebimaaGreat

/- A range over a function at the wide fence, for an iterator that keeps a count in a cell; plain facts of rerun.judge. -/
namespace Go.Proofs.YtnokfhkcfebimaaGreat
open Go.RowKit Go.Shelf
attribute [local go_sem] Oper.semAt_some

theorem rf_law {P : Program} {n : Nat} {g : Operand} {ps : Array Tmp} {assign body : Code} {Q : Exit → Act → World → Prop} {a : Act} {w : World} {gf : Nat} {lb ar : Array Value}
    (har : #[.func (.yield (w.heap.size + 1)) #[] #[]] ++ lb = ar) (hg : a.eval g = .func (.func gf) #[] lb) (eg : ∀ args w, (callFunc gf args).run P w = .ok (.enter gf args) w)
    (h : ∀ (fn : FuncId) (rc : Loop), rc.state = .ready → rc.pending = none →
      (∀ W args, W.heap[w.heap.size + 1]? = some (.loop rc) → args.size = ps.size → (Instr.yield (w.heap.size + 1) args).run P W = .ok (.round (w.heap.size + 1) fn ((ps.zip args).foldl (fun t (p, v) => t.setIfInBounds p v) a.tmps) assign body) W) →
      CallsIn Fence.wide (n - 1) P gf ar ((w.alloc (.deferred (some []))).alloc (.loop rc))
        (rangePost Fence.wide n P (w.heap.size + 1) Q { a with defers := { target := .collected w.heap.size, args := #[] } :: a.defers })) :
    (Code.rangeFunc g ps assign body).wpIn Fence.wide n P Q a w := by
  refine wpIn_rangeFunc ?_
  intro fn hfn
  obtain ⟨rc, hrc⟩ : ∃ rc : Loop, rc = { state := .ready, pending := none, fn, tmps := a.tmps, params := ps, assign, body, defers := w.heap.size } := ⟨_, rfl⟩
  obtain ⟨W1, hW1⟩ : ∃ W1, (w.alloc (.deferred (some []))).alloc (.loop rc) = W1 := ⟨_, rfl⟩
  refine ⟨w.heap.size + 1, [{ target := .collected w.heap.size, args := #[] }], W1, { target := .fn (.func gf) lb, args := #[.func (.yield (w.heap.size + 1)) #[] #[]] }, W1, gf, #[.func (.yield (w.heap.size + 1)) #[] #[]] ++ lb, W1, ?_, ?_, fun f' _ => trivial, ?_, fun hd => by simp [Fence.wide] at hd, ?_⟩
  · rw [← hW1, hrc]; exact run_enterLoop_outer fn a.tmps ps assign body
  · simp only [resolve, hg]
    simp [go_sem]
  · simp [invoke, go_sem, eg]
  · rw [← hW1, har]
    refine h fn rc (by rw [hrc]) (by rw [hrc]) ?_
    intro W args hl hs
    have := run_yield (P := P) hl (by rw [hrc]; exact hs)
    rw [this, hrc]

/-- What a run of rounds has come to: k attempts are used, f of the random ones failed. -/
def JI (g : Nat → Nat → Int) (M : Nat) (xs : List (Bool × Bool)) (k : Nat) (f : Int) : Prop :=
  ∃ m : Nat, f = (m : Int) ∧ ((k = 0 ∧ m = 0) ∨ ∃ r0, xs[0]? = some (true, r0) ∧ 1 ≤ k ∧ m + 1 ≤ k ∧ k ≤ M ∧ (2 ≤ k → r0 = true) ∧ jud g xs = judL g r0 (xs.drop k) k (k - 1 - m) m)
theorem JI.zero (g : Nat → Nat → Int) (M : Nat) (xs : List (Bool × Bool)) : JI g M xs 0 0 := ⟨0, rfl, .inl ⟨rfl, rfl⟩⟩
theorem JI.done {g : Nat → Nat → Int} {M : Nat} {xs : List (Bool × Bool)} {f : Int} (h : JI g M xs xs.length f) : jud g xs = (0, xs.length) := by
  obtain ⟨m, -, h | ⟨r0, h0, h1, h2, h3, h4, h5⟩⟩ := h
  · rw [List.length_eq_zero_iff.1 h.1]; rfl
  · rw [h5, List.drop_of_length_le (Nat.le_refl _)]; rfl
/-- The first attempt. -/
theorem jud_fine {g : Nat → Nat → Int} {xs : List (Bool × Bool)} {rd : Bool} (h : xs[0]? = some (false, rd)) : jud g xs = (5, 1) := by
  cases xs with
  | nil => simp at h
  | cons y t => obtain rfl : y = (false, rd) := by simpa using h
                rfl
theorem JI.first {g : Nat → Nat → Int} {M : Nat} {xs : List (Bool × Bool)} {rd : Bool} (hM : 1 ≤ M) (h : xs[0]? = some (true, rd)) : JI g M xs 1 0 := by
  cases xs with
  | nil => simp at h
  | cons y t =>
    obtain rfl : y = (true, rd) := by simpa using h
    exact ⟨0, rfl, .inr ⟨rd, rfl, by omega, by omega, hM, fun h => by omega, rfl⟩⟩
/-- An attempt behind the first one. -/
theorem drop_at {xs : List (Bool × Bool)} {k : Nat} {x : Bool × Bool} (h : xs[k]? = some x) : xs.drop k = x :: xs.drop (k + 1) := by
  obtain ⟨h1, h2⟩ := List.getElem?_eq_some_iff.1 h
  rw [List.drop_eq_getElem_cons h1, h2]
theorem JI.next {g : Nat → Nat → Int} {M : Nat} {xs : List (Bool × Bool)} {k : Nat} {f : Int} {fl rd : Bool} (hJ : JI g M xs k f) (hk : k ≠ 0) (hx : xs[k]? = some (fl, rd)) :
    ∃ (m : Nat) (r0 : Bool), f = (m : Int) ∧ xs[0]? = some (true, r0) ∧ m + 1 ≤ k ∧ k ≤ M ∧ (2 ≤ k → r0 = true) ∧
      (rd ≠ r0 → jud g xs = (4, k + 1)) ∧ (rd = r0 → rd = false → jud g xs = (if fl then 1 else 4, k + 1)) ∧
      (rd = r0 → rd = true → g (if fl then k - 1 - m else k - m) (if fl then m + 1 else m) ≠ 0 → jud g xs = (g (if fl then k - 1 - m else k - m) (if fl then m + 1 else m), k + 1)) ∧
      (rd = r0 → rd = true → g (if fl then k - 1 - m else k - m) (if fl then m + 1 else m) = 0 → k < M → JI g M xs (k + 1) (((if fl then m + 1 else m : Nat)) : Int)) := by
  obtain ⟨m, rfl, h | ⟨r0, h0, h1, h2, h3, h4, h5⟩⟩ := hJ
  · exact absurd h.1 hk
  · have ep : k - 1 - m + 1 = k - m := by omega
    rw [drop_at hx, judL, ep] at h5
    refine ⟨m, r0, rfl, h0, h2, h3, h4, fun h => ?_, fun h h' => ?_, fun h h' hg => ?_, fun h h' hg hM => ?_⟩
    · rw [h5, if_pos h]
    · rw [h5, if_neg (by simp [h]), if_pos h']
      cases fl <;> rfl
    · rw [h5, if_neg (by simp [h]), if_neg (by simp [h']), if_neg hg]
    · rw [if_neg (by simp [h]), if_neg (by simp [h']), if_pos hg] at h5
      refine ⟨_, rfl, .inr ⟨r0, h0, by omega, ?_, by omega, fun _ => by rw [← h]; exact h', ?_⟩⟩
      · cases fl <;> simp <;> omega
      · rw [h5]
        cases fl
        · simp only [Bool.false_eq_true, if_false]
          rw [show k + 1 - 1 - m = k - m by omega]
        · simp only [if_true]
          rw [show k + 1 - 1 - (m + 1) = k - 1 - m by omega]
/-- A round has left: the verdict and the attempts used lie in their boxes. -/
structure JX (w0 : World) (v u : Int) (D : Nat) (rc : Loop) (W : World) : Prop where
  bw : Below w0.heap.size w0 W
  vd : Cb W (w0.heap.size + 1 + 1) [.int .i64 v]
  us : Cb W (w0.heap.size + 1 + 1 + 1) [.int .i64 u]
  df : W.heap[D]? = some (.deferred (some []))
  lo : W.heap[D + 1]? = some (.loop rc)
  dl : w0.heap.size + 7 ≤ D
section
variable {w0 : World} {s : Sv} {A : Option Addr} {n c : Nat} {u f v : Int} {D : Nat} {rc : Loop} {W W' : World}
theorem JW.x (h : JW w0 s A n c u f D rc W) : JX w0 0 u D rc W := ⟨h.bw, h.vd, h.us, h.df, h.lo, h.dl⟩
theorem JX.drew (h : JX w0 v u D rc W) : JX w0 v u D rc W.drew := ⟨h.bw.drew, h.vd.drew, h.us.drew, h.df, h.lo, h.dl⟩
theorem JX.verdict (h : JX w0 v u D rc W) (v' : Int) : JX w0 v' u D rc (W.setCell ⟨w0.heap.size + 1 + 1, 0, none⟩ (.int .i64 v')) := by
  have hd := h.dl
  have hf := fr_set W (w0.heap.size + 1 + 1) 0 (.int .i64 v')
  exact ⟨bw_one h.bw hf (by omega), h.vd.put 0 _ (by simp) (by simp), h.us.one hf (by omega),
    (hf.block _ (Array.getElem?_eq_some_iff.1 h.df).1 (by omega)).trans h.df, (hf.block _ (Array.getElem?_eq_some_iff.1 h.lo).1 (by omega)).trans h.lo, h.dl⟩
theorem JX.used (h : JX w0 v u D rc W) (u' : Int) : JX w0 v u' D rc (W.setCell ⟨w0.heap.size + 1 + 1 + 1, 0, none⟩ (.int .i64 u')) := by
  have hd := h.dl
  have hf := fr_set W (w0.heap.size + 1 + 1 + 1) 0 (.int .i64 u')
  exact ⟨bw_one h.bw hf (by omega), h.vd.one hf (by omega), h.us.put 0 _ (by simp) (by simp),
    (hf.block _ (Array.getElem?_eq_some_iff.1 h.df).1 (by omega)).trans h.df, (hf.block _ (Array.getElem?_eq_some_iff.1 h.lo).1 (by omega)).trans h.lo, h.dl⟩
theorem JX.put (h : JX w0 v u D rc W) (rc' : Loop) : JX w0 v u D rc' (W.putObj (D + 1) (.loop rc')) := by
  have hd := h.dl
  have hf := fr_putObj W (D + 1) (.loop rc')
  exact ⟨bw_one h.bw hf (by omega), h.vd.one hf (by omega), h.us.one hf (by omega),
    (hf.block _ (Array.getElem?_eq_some_iff.1 h.df).1 (by omega)).trans h.df, World.putObj_heap_same (Array.getElem?_eq_some_iff.1 h.lo).1, h.dl⟩
end
theorem JX.fin {w0 : World} {v u : Int} {D : Nat} {rc : Loop} {W : World} (h : JX w0 v u D rc W) (o : Obj) :
    Below w0.heap.size w0 (W.putObj D o) ∧ (W.putObj D o).cell? ⟨w0.heap.size + 1 + 1, 0, none⟩ = some (.int .i64 v) ∧ (W.putObj D o).cell? ⟨w0.heap.size + 1 + 1 + 1, 0, none⟩ = some (.int .i64 u) := by
  have hd := h.dl
  have hf := fr_putObj W D o
  exact ⟨bw_one h.bw hf (by omega), (h.vd.one hf (by omega)).cell 0 _ rfl, (h.us.one hf (by omega)).cell 0 _ rfl⟩
theorem JW.round {P : Program} {w0 : World} {s : Sv} {A : Option Addr} {n c : Nat} {u f : Int} {D : Nat} {rc : Loop} {W : World} (h : JW w0 s A n c u f D { rc with state := .busy } W) (hr1 : rc.state = .ready) (hr2 : rc.pending = none) :
    ∃ v w', (Instr.endRound (D + 1) none).run P W = .ok v w' ∧ v = .bool true ∧ JW w0 s A n c u f D rc w' := by
  have e : ({ { rc with state := .busy } with state := .ready, pending := none } : Loop) = rc := by
    cases rc
    simp only at hr1 hr2
    subst hr1
    subst hr2
    rfl
  have h2 := h.put rc
  refine ⟨_, _, run_endRound none h.lo, rfl, ?_⟩
  have e2 : ({ { rc with state := .busy } with state := if (none : Option Code).isNone then .ready else .done, pending := none } : Loop) = rc := e
  rw [e2]
  exact h2
theorem JX.round {P : Program} {w0 : World} {v u : Int} {D : Nat} {rc : Loop} {W : World} (h : JX w0 v u D rc W) :
    ∃ v' w' rc', (Instr.endRound (D + 1) (some .ret)).run P W = .ok v' w' ∧ v' = .bool false ∧ rc'.state = .done ∧ rc'.pending = some .ret ∧ JX w0 v u D rc' w' :=
  ⟨_, _, _, run_endRound (some .ret) h.lo, rfl, rfl, rfl, h.put _⟩
theorem JW.post {P : Program} {w0 : World} {s : Sv} {A : Option Addr} {n c : Nat} {u f : Int} {D : Nat} {rc : Loop} {W : World} {R : Ending → World → Prop} {a : Act} (h : JW w0 s A n c u f D { rc with state := .busy } W) (hr1 : rc.state = .ready) (hr2 : rc.pending = none)
    (hR : ∀ w', JW w0 s A n c u f D rc w' → R (.returned (.bool true)) w') : roundPost P (D + 1) R .normal a W := by
  obtain ⟨v, w', hr, rfl, hw⟩ := h.round (P := P) hr1 hr2
  exact ⟨_, w', hr, hR w' hw⟩
theorem JX.post {P : Program} {w0 : World} {v u : Int} {D : Nat} {rc : Loop} {W : World} {R : Ending → World → Prop} {a : Act} (h : JX w0 v u D rc W)
    (hR : ∀ w' rc', rc'.state = .done → rc'.pending = some .ret → JX w0 v u D rc' w' → R (.returned (.bool false)) w') : roundPost P (D + 1) R .ret a W := by
  obtain ⟨v', w', rc', hr, rfl, hs, hp, hx⟩ := h.round (P := P)
  exact ⟨_, w', hr, hR w' rc' hs hp hx⟩
theorem JX.below {w0 : World} {v u : Int} {D : Nat} {rc : Loop} {W W' : World} (h : JX w0 v u D rc W) (hb : Below W.heap.size W W') : JX w0 v u D rc W' :=
  ⟨h.bw.trans (hb.mono h.bw.size), h.vd.below hb, h.us.below hb, (hb.block _ (Array.getElem?_eq_some_iff.1 h.df).1).trans h.df, (hb.block _ (Array.getElem?_eq_some_iff.1 h.lo).1).trans h.lo, h.dl⟩
theorem JX.alloc {w0 : World} {v u : Int} {D : Nat} {rc : Loop} {W : World} (h : JX w0 v u D rc W) (o : Obj) : JX w0 v u D rc (W.alloc o) := h.below ((Below.refl _ _).alloc (Nat.le_refl _) _)
/-- Behind the call of the iterator's maker. -/
structure JP (w0 : World) (s : Sv) (A : Option Addr) (n c : Nat) (W : World) : Prop where
  bw : Below w0.heap.size w0 W
  sp : Cb W w0.heap.size s.cs
  li : Cb W (w0.heap.size + 1) [.slice A n c]
  vd : Cb W (w0.heap.size + 1 + 1) [.int .i64 0]
  us : Cb W (w0.heap.size + 1 + 1 + 1) [.int .i64 0]
  fa : Cb W (w0.heap.size + 1 + 1 + 1 + 1) [.int .i64 0]
  i0 : Cb W (w0.heap.size + 1 + 1 + 1 + 1 + 1) [.slice A n c]
  i1 : Cb W (w0.heap.size + 1 + 1 + 1 + 1 + 1 + 1) [.pointer (some ⟨w0.heap.size + 1 + 1 + 1, 0, none⟩)]
  sz : W.heap.size = w0.heap.size + 7
theorem JP.mk0 {w v W : World} {s : Sv} {A : Option Addr} {n c : Nat} (t1 t2 t3 t4 t5 : TypeId) (hv : v = (((((w.alloc (.cells s.cs.toArray t1)).alloc (.cells #[.slice A n c] t2)).alloc (.cells #[.int .i64 0] t3)).alloc (.cells #[.int .i64 0] t4)).alloc (.cells #[.int .i64 0] t5)))
    (h0 : Cb W (w.heap.size + 1 + 1 + 1 + 1 + 1) [.slice A n c]) (h1 : Cb W (w.heap.size + 1 + 1 + 1 + 1 + 1 + 1) [.pointer (some ⟨w.heap.size + 1 + 1 + 1, 0, none⟩)]) (hz : W.heap.size = v.heap.size + 2) (hb : Below v.heap.size v W) : JP w s A n c W := by
  have hv1 : Below w.heap.size w v := by
    rw [hv]
    exact (((((Below.refl _ _).alloc (Nat.le_refl _) _).alloc (by simp) _).alloc (by simp; omega) _).alloc (by simp; omega) _).alloc (by simp; omega) _
  have b0 : Cb v w.heap.size s.cs := by
    rw [hv]; exact ((((Cb.mk0 s.cs (by simp [Sv.cs]) t1 rfl).alloc _).alloc _).alloc _).alloc _
  have b1 : Cb v (w.heap.size + 1) [.slice A n c] := by
    rw [hv]; exact (((Cb.mk0 [.slice A n c] (by simp) t2 (by simp)).alloc _).alloc _).alloc _
  have b2 : Cb v (w.heap.size + 1 + 1) [.int .i64 0] := by
    rw [hv]; exact ((Cb.mk0 [.int .i64 0] (by simp) t3 (by simp)).alloc _).alloc _
  have b3 : Cb v (w.heap.size + 1 + 1 + 1) [.int .i64 0] := by
    rw [hv]; exact (Cb.mk0 [.int .i64 0] (by simp) t4 (by simp)).alloc _
  have b4 : Cb v (w.heap.size + 1 + 1 + 1 + 1) [.int .i64 0] := by
    rw [hv]; exact Cb.mk0 [.int .i64 0] (by simp) t5 (by simp)
  have hs : v.heap.size = w.heap.size + 5 := by rw [hv]; simp
  exact ⟨hv1.trans (hb.mono hv1.size), b0.below hb, b1.below hb, b2.below hb, b3.below hb, b4.below hb, h0, h1, by omega⟩
theorem JP.start {w0 W : World} {s : Sv} {A : Option Addr} {n c : Nat} (h : JP w0 s A n c W) (rc : Loop) : JW w0 s A n c 0 0 W.heap.size rc ((W.alloc (.deferred (some []))).alloc (.loop rc)) := by
  have hb : Below W.heap.size W ((W.alloc (.deferred (some []))).alloc (.loop rc)) := ((Below.refl _ _).alloc (Nat.le_refl _) _).alloc (by simp) _
  refine ⟨h.bw.trans (hb.mono h.bw.size), h.sp.below hb, h.li.below hb, h.vd.below hb, h.us.below hb, h.fa.below hb, h.i0.below hb, h.i1.below hb, ?_, ?_, by have := h.sz; omega⟩
  · exact (Below.heap_alloc _ _ _ (by simp)).trans (World.alloc_heap_new W _)
  · have := World.alloc_heap_new (W.alloc (.deferred (some []))) (.loop rc)
    rwa [World.size_alloc] at this
theorem vtaken_at (w : World) (B : Nat) (hB : w.heap.size = B) (A : Option Addr) (n c : Nat) (p : Addr) :
    Calls Tryz.prog 92 #[.slice A n c, .pointer (some p)] w fun e w' => e = .returned (.func (.func 125) #[] #[.pointer (some ⟨B, 0, none⟩), .pointer (some ⟨B + 1, 0, none⟩)]) ∧ Cb w' B [.slice A n c] ∧ Cb w' (B + 1) [.pointer (some p)] ∧ w'.heap.size = w.heap.size + 2 ∧ Below w.heap.size w w' := by
  subst hB
  exact vtaken_any w A n c p
end Go.Proofs.YtnokfhkcfebimaaGreat

/- Contract: rerun.judge. -/
namespace Go.Proofs.YtnokfhkcfebimaaGreat
open Go.RowKit Go.Shelf
attribute [local go_sem] Oper.semAt_some

set_option maxRecDepth 100000 in
set_option maxHeartbeats 4000000 in
theorem vjudge_ok (w : World) (s : Sv) (l h a b : Rat) (M : Nat) (A : Option Addr) (n c : Nat) (xs : List (Bool × Bool)) (hq : SQ w s) (hk : OKs s l h a b M) (hR : Rs w none 2 atv A xs) (hl : xs.length = n) (hn : n ≤ 33) :
    Calls Tryz.prog 52 #[.agg #[.slice s.l.A s.l.n s.l.c, .slice s.l.B s.l.m s.l.d, .slice s.h.A s.h.n s.h.c, .slice s.h.B s.h.m s.h.d, .slice s.a.A s.a.n s.a.c, .slice s.a.B s.a.m s.a.d, .slice s.b.A s.b.n s.b.c, .slice s.b.B s.b.m s.b.d, .int .i64 s.m], .slice A n c] w fun e w' => e = .returned (.tuple #[.int .i64 (jud (aftQ (decQ l h a b) M) xs).1, .int .i64 ((jud (aftQ (decQ l h a b) M) xs).2 : Int)]) ∧ Below w.heap.size w w' := by
  refine (callsIn_wide (n := 5)).1 ?_
  refine callsIn_of_wp_marks Tryz.func52 rfl trivial ?_ rfl
  simp only [Tryz.ntmps52, List.size_toArray, List.length_cons, List.length_nil, Nat.reduceAdd, Nat.reduceSub, Array.replicate_succ, Array.replicate_zero, List.push_toArray, List.append_toArray, List.nil_append, List.cons_append]
  have HQ := hide hq
  have HK := hide hk
  have HR := hide hR
  have HL := hide hl
  obtain ⟨g, hg⟩ : ∃ g, g = aftQ (decQ l h a b) M := ⟨_, rfl⟩
  rw [← hg]
  have HG := hide hg
  clear hq hk hR hl hg
  gi_wp2_with (refine ⟨trivial, ?_⟩; gi_at_call 92; refine (callsIn_wide.2 (vtaken_at _ (w.heap.size + 1 + 1 + 1 + 1 + 1) (by simp) _ _ _ _)).mono ?_; rintro e w1 ⟨rfl, hc0, hc1, hz, hb⟩; have HP := hide (JP.mk0 (s := s) _ _ _ _ _ rfl hc0 hc1 hz hb); clear hc0 hc1 hz hb)
  refine rf_law (gf := 125) (lb := #[.pointer (some ⟨w.heap.size + 1 + 1 + 1 + 1 + 1, 0, none⟩), .pointer (some ⟨w.heap.size + 1 + 1 + 1 + 1 + 1 + 1, 0, none⟩)]) rfl rfl (enters_of Tryz.func125 (by kernel_rfl) rfl) ?_
  intro fn rc hr1 hr2 hy
  refine (vtaken1_any w s A n c w1.heap.size rc xs HR.out HL.out hn (JI g M xs) (fun W => ∃ (v : Int) (u : Nat) (rc' : Loop), jud g xs = (v, u) ∧ rc'.state = .done ∧ rc'.pending = some .ret ∧ JX w v (u : Int) w1.heap.size rc' W) _ (JI.zero _ _ _) (HP.out.start rc) ?hY).mono ?behind
  case behind =>
    rintro e W2 ⟨⟨v, rfl⟩, (⟨f, hj, hw⟩ | ⟨v, u, rc', hju, hs, hp, hx⟩)⟩
    · have HE : (Instr.endLoop (w1.heap.size + 1)).run Tryz.prog W2 = .ok none (W2.putObj (w1.heap.size + 1) (.loop { rc with state := .exhausted })) := by rw [run_endLoop hw.lo (by rw [hr1]; simp), hr2]
      refine ⟨none, _, HE, ?_⟩
      have HX := hide (hw.x.put { rc with state := .exhausted })
      have HJD := hide (show jud g xs = (0, n) by rw [← HL.out]; exact JI.done (by rw [HL.out]; exact hj))
      clear HE
      revert HX
      generalize World.putObj W2 _ _ = W4
      intro HX
      have k0 := HX.out.vd.cell 0 _ rfl
      have k1 := HX.out.us.cell 0 _ rfl
      have k2 := HX.out.vd.sz
      have k3 := HX.out.us.sz
      have k4 := HX.out.vd.fz 0
      have k5 := HX.out.us.fz 0
      clear hw hj hy HP HR HQ
      dsimp only
      gi_wp2
      gi_region
      all_goals gi_wp2
      have HX2 := hide ((HX.out.verdict 0).used (n : Int)).drew
      clear k0 k1 k2 k3 k4 k5 HX
      obtain ⟨q1, q2, q3⟩ := HX2.out.fin (.deferred none)
      refine ⟨by simp, .inl ⟨_, _, rfl, run_takeDeferred HX2.out.df, ?_⟩⟩
      refine ⟨.tuple #[.int .i64 0, .int .i64 (n : Int)], by simp [results, Tryz.results52, go_sem, q2, q3], ?_, q1⟩
      rw [HJD.out]
    · have HE : (Instr.endLoop (w1.heap.size + 1)).run Tryz.prog W2 = .ok (some .ret) (W2.putObj (w1.heap.size + 1) (.loop { rc' with state := .exhausted })) := by rw [run_endLoop hx.lo (by rw [hs]; simp), hp]
      refine ⟨some .ret, _, HE, ?_⟩
      have HX := hide (hx.put { rc' with state := .exhausted })
      have HJD := hide hju
      clear HE
      revert HX
      generalize World.putObj W2 _ _ = W4
      intro HX
      have k0 := HX.out.vd.cell 0 _ rfl
      have k1 := HX.out.us.cell 0 _ rfl
      clear hx hju hy HP HR HQ
      dsimp only
      gi_wp2
      obtain ⟨q1, q2, q3⟩ := HX.out.fin (.deferred none)
      refine ⟨by simp, .inl ⟨_, _, rfl, run_takeDeferred HX.out.df, ?_⟩⟩
      refine ⟨.tuple #[.int .i64 v, .int .i64 (u : Int)], by simp [results, Tryz.results52, go_sem, q2, q3], ?_, q1⟩
      rw [HJD.out]
  case hY =>
    intro k f x W hx hJ hW
    refine ⟨fn, _, _, _, hy W _ hW.lo rfl, roundIn_of_wpIn trivial ?_⟩
    clear hy
    obtain ⟨fl, rd⟩ := x
    obtain ⟨⟨f0, r0⟩, hx0⟩ : ∃ y, xs[0]? = some y := ⟨_, List.getElem?_eq_getElem (by have := (List.getElem?_eq_some_iff.1 hx).1; omega)⟩
    obtain ⟨bb, o, rfl, hb0, e0, e1⟩ := atts_at HR.out hx0
    have HX := hide hx
    have HX0 := hide hx0
    have HJ := hide hJ
    have HW := hide hW
    have E0 := hide e0
    have E1 := hide e1
    clear hx hx0 hJ hW e0 e1
    dsimp only
    gi_wp2
    have HWa := hide (HW.out.below ((Below.refl _ _).alloc (Nat.le_refl _) _ : Below W.heap.size W (W.alloc (.cells #[.bool fl, .bool rd] 80))))
    have hD1 : w1.heap.size + 1 < W.heap.size := (Array.getElem?_eq_some_iff.1 HW.out.lo).1
    refine ⟨_, run_beginRound HWa.out.lo hr1, ?_⟩
    have HV := hide (HWa.out.put { rc with state := .busy })
    have HB := hide (Cb.one (Cb.mk0 (w := W) [.bool fl, .bool rd] (by simp) 80 rfl) (fr_putObj _ (w1.heap.size + 1) (.loop { rc with state := .busy })) (by omega))
    obtain ⟨X, hX⟩ : ∃ X, X = W.heap.size := ⟨_, rfl⟩
    rw [← hX] at HB ⊢
    revert HV HB
    generalize World.putObj (W.alloc _) _ _ = V
    intro HV HB
    clear hX hD1 HWa HW
    obtain ⟨u, hu⟩ : ∃ u : Int, u = (k : Int) + 1 := ⟨_, rfl⟩
    rw [← hu] at HV
    have HU := hide hu
    have hbw := HV.out.bw
    have j0 : V.cell? ⟨bb, o, none⟩ = some (.bool f0) := (hbw.cell (by simpa using hb0)).trans (by simpa using E0.out)
    have j1 : V.cell? ⟨bb, o + 1, none⟩ = some (.bool r0) := (hbw.cell (by simpa using hb0)).trans (by simpa using E1.out)
    have j2 : bb < V.heap.size := Nat.lt_of_lt_of_le hb0 hbw.size
    have x0 := HB.out.cell 0 _ rfl
    have x1 := HB.out.cell 1 _ rfl
    have x2 := HB.out.sz
    have y0 := HV.out.li.cell 0 _ rfl
    have y1 := HV.out.li.sz
    have y2 := HV.out.us.cell 0 _ rfl
    have y3 := HV.out.us.sz
    have y4 := HV.out.us.fz 0
    have y5 := HV.out.vd.cell 0 _ rfl
    have y6 := HV.out.vd.sz
    have y7 := HV.out.vd.fz 0
    have y8 := HV.out.fa.cell 0 _ rfl
    have y9 := HV.out.fa.sz
    have ya := HV.out.fa.fz 0
    have HXV := hide HV.out.x
    clear hbw E0 E1 HB
    have hn0 : (0 : Int) < (n : Int) := by have := HL.out; have := (List.getElem?_eq_some_iff.1 HX0.out).1; omega
    have hkn : k < 33 := by have := HL.out; have := (List.getElem?_eq_some_iff.1 HX.out).1; omega
    by_cases hk : k = 0
    · subst hk
      obtain rfl : u = 1 := by rw [hu]; rfl
      obtain ⟨rfl, rfl⟩ : fl = f0 ∧ rd = r0 := by have := HX.out.symm.trans HX0.out; simpa using this
      have HJF := hide (show f = 0 by
        obtain ⟨m, hm, h | ⟨_, _, h, _⟩⟩ := HJ.out
        · rw [hm, h.2]; rfl
        · omega)
      clear hu hkn HX HP HJ
      cases fl
      · have HE := hide (jud_fine (g := g) HX0.out)
        gi_wp2
        gi_region
        all_goals gi_wp2
        all_goals
          refine JX.post (v := 5) (u := 1) (rc := { rc with state := .busy }) ?_ (fun w' rc' hs hp hx => .inr ⟨rfl, 5, 1, HE.out, rc', hs, hp, hx⟩)
          (repeat' first | with_reducible exact HXV.out | (with_reducible refine JX.drew ?_) | (with_reducible refine JX.alloc ?_ _) | (with_reducible apply JX.used) | (with_reducible apply JX.verdict))
      · have HE := hide (JI.first (g := g) HK.out.m1 HX0.out)
        gi_wp2
        refine JW.post (HV.out.below ((Below.refl _ _).alloc (Nat.le_refl _) _)) hr1 hr2 (fun w' hw => .inl ⟨rfl, 0, HE.out, ?_⟩)
        have h9 := HJF.out
        rw [h9] at hw
        simpa using hw
    · obtain ⟨m, r1, rfl, h01, hm1, hkM, h2r, hA, hB, hC, hE⟩ := JI.next HJ.out hk HX.out
      obtain ⟨rfl, rfl⟩ : f0 = true ∧ r0 = r1 := by have := HX0.out.symm.trans h01; simpa using this
      have g1 : (u == 1) = false := by have : ¬ u = 1 := (by omega)
                                       simp [this]
      have g2 : decide (u = 1) = false := decide_eq_false (by omega)
      have g3 : ¬ u = 1 := by omega
      have HKM := hide hkM
      clear h01 HJ HX0 HX
      by_cases hrd : rd = r0
      · subst hrd
        cases rd
        · have HE := hide (hB rfl rfl)
          clear hA hB hC hE h2r hu hkM hm1 hk hkn
          cases fl
          · have HE2 := hide (show jud g xs = (4, k + 1) from HE.out)
            gi_wp2
            gi_region
            all_goals gi_wp2
            all_goals
              refine JX.post (v := 4) (u := u) (rc := { rc with state := .busy }) ?_ (fun w' rc' hs hp hx => .inr ⟨rfl, 4, k + 1, HE2.out, rc', hs, hp, by rw [HU.out] at hx; simpa using hx⟩)
              (repeat' first | with_reducible exact HXV.out | (with_reducible refine JX.drew ?_) | (with_reducible refine JX.alloc ?_ _) | (with_reducible apply JX.used) | (with_reducible apply JX.verdict))
          · have HE2 := hide (show jud g xs = (1, k + 1) from HE.out)
            gi_wp2
            gi_region
            all_goals gi_wp2
            all_goals
              refine JX.post (v := 1) (u := u) (rc := { rc with state := .busy }) ?_ (fun w' rc' hs hp hx => .inr ⟨rfl, 1, k + 1, HE2.out, rc', hs, hp, by rw [HU.out] at hx; simpa using hx⟩)
              (repeat' first | with_reducible exact HXV.out | (with_reducible refine JX.drew ?_) | (with_reducible refine JX.alloc ?_ _) | (with_reducible apply JX.used) | (with_reducible apply JX.verdict))
        · obtain ⟨p0, p1, p2, p3, p4, p5, p6, p7, p8, p9⟩ := (show FS w V w.heap.size s from ⟨HV.out.bw, HV.out.sp, HQ.out.below HV.out.bw⟩).ca
          cases fl
          · have HC := hide (show ∀ W, SQ W s → Calls Tryz.prog 55 #[.agg #[.slice s.l.A s.l.n s.l.c, .slice s.l.B s.l.m s.l.d, .slice s.h.A s.h.n s.h.c, .slice s.h.B s.h.m s.h.d, .slice s.a.A s.a.n s.a.c, .slice s.a.B s.a.m s.a.d, .slice s.b.A s.b.n s.b.c, .slice s.b.B s.b.m s.b.d, .int .i64 s.m], .int .i64 (u - 1 - ((m : Int))), .int .i64 ((m : Int))] W fun e w' => e = .returned (.int .i64 (g (k - m) (m))) ∧ Below W.heap.size W w' from fun W hW => by
              have := vafter_ok W s l h a b M (k - m) (m) hW HK.out (by omega)
              rw [← HG.out, show (((k - m : Nat)) : Int) = u - 1 - ((m : Int)) by omega, show (((m : Nat)) : Int) = (m : Int) by omega] at this
              exact this)
            have HC2 := hide (show g (k - m) (m) ≠ 0 → jud g xs = (g (k - m) (m), k + 1) from hC rfl rfl)
            have HE2 := hide (show g (k - m) (m) = 0 → JI g M xs (k + 1) ((m : Int)) from fun h0 => hE rfl rfl h0 (by have := aft_go (d := decQ l h a b) (M := M) (p := k - m) (f := m) (by omega) (by rw [← HG.out]; exact h0); omega))
            have hw1 : wrap64 (u - 1) = u - 1 := IntWalk.wrap64_in _ ⟨by omega, by omega⟩
            have hw2 : wrap64 (u - 1 - ((m : Int))) = u - 1 - ((m : Int)) := IntWalk.wrap64_in _ ⟨by omega, by omega⟩
            have hw3 : wrap64 ((m : Int) + 1) = (m : Int) + 1 := IntWalk.wrap64_in _ ⟨by omega, by omega⟩
            clear hA hB hC hE h2r hu hkM hm1 hk hkn
            by_cases hg0 : g (k - m) (m) = 0
            · have HJ2 := hide (HE2.out hg0)
              rw [hg0] at HC
              clear HC2 HE2 hg0
              gi_wp2_with (refine ⟨trivial, ?_⟩; gi_at_call 55; refine (CallsIn.inRound (w1.heap.size + 1) (callsIn_wide.2 (HC.out _ ?hq))).mono ?_; (case hq => exact HQ.out.below (HV.out.below ((Below.refl _ _).alloc (Nat.le_refl _) _)).bw); rintro e w5 ⟨rfl, hb⟩; have H5 := hide ((HV.out.below ((Below.refl _ _).alloc (Nat.le_refl _) _)).below hb); have z2 := H5.out.us.cell 0 _ rfl; have z3 := H5.out.us.sz; have z4 := H5.out.us.fz 0; have z5 := H5.out.vd.cell 0 _ rfl; have z6 := H5.out.vd.sz; have z7 := H5.out.vd.fz 0; clear hb)
              refine JW.post H5.out.again hr1 hr2 (fun w' hw => .inl ⟨rfl, _, HJ2.out, by rw [HU.out] at hw; exact hw⟩)
            · have HJ2 := hide (HC2.out hg0)
              obtain ⟨r, hr⟩ : ∃ r, r = g (k - m) (m) := ⟨_, rfl⟩
              rw [← hr] at HC HJ2 hg0
              have z0 : (r == 0) = false := by simp [hg0]
              have z1 : decide (r = 0) = false := decide_eq_false hg0
              clear HC2 HE2 hr
              gi_wp2_with (refine ⟨trivial, ?_⟩; gi_at_call 55; refine (CallsIn.inRound (w1.heap.size + 1) (callsIn_wide.2 (HC.out _ ?hq))).mono ?_; (case hq => exact HQ.out.below (HV.out.below ((Below.refl _ _).alloc (Nat.le_refl _) _)).bw); rintro e w5 ⟨rfl, hb⟩; have H5 := hide ((HV.out.below ((Below.refl _ _).alloc (Nat.le_refl _) _)).below hb); have z2 := H5.out.us.cell 0 _ rfl; have z3 := H5.out.us.sz; have z4 := H5.out.us.fz 0; have z5 := H5.out.vd.cell 0 _ rfl; have z6 := H5.out.vd.sz; have z7 := H5.out.vd.fz 0; clear hb)
              gi_region
              all_goals gi_wp2
              all_goals
                have HXV := hide H5.out.x
                refine JX.post (v := r) (u := u) (rc := { rc with state := .busy }) ?_ (fun w' rc' hs hp hx => .inr ⟨rfl, r, k + 1, HJ2.out, rc', hs, hp, by rw [HU.out] at hx; simpa using hx⟩)
                (repeat' first | with_reducible exact HXV.out | (with_reducible refine JX.drew ?_) | (with_reducible refine JX.alloc ?_ _) | (with_reducible apply JX.used) | (with_reducible apply JX.verdict))
          · have HC := hide (show ∀ W, SQ W s → Calls Tryz.prog 55 #[.agg #[.slice s.l.A s.l.n s.l.c, .slice s.l.B s.l.m s.l.d, .slice s.h.A s.h.n s.h.c, .slice s.h.B s.h.m s.h.d, .slice s.a.A s.a.n s.a.c, .slice s.a.B s.a.m s.a.d, .slice s.b.A s.b.n s.b.c, .slice s.b.B s.b.m s.b.d, .int .i64 s.m], .int .i64 (u - 1 - ((m : Int) + 1)), .int .i64 ((m : Int) + 1)] W fun e w' => e = .returned (.int .i64 (g (k - 1 - m) (m + 1))) ∧ Below W.heap.size W w' from fun W hW => by
              have := vafter_ok W s l h a b M (k - 1 - m) (m + 1) hW HK.out (by omega)
              rw [← HG.out, show (((k - 1 - m : Nat)) : Int) = u - 1 - ((m : Int) + 1) by omega, show (((m + 1 : Nat)) : Int) = (m : Int) + 1 by omega] at this
              exact this)
            have HC2 := hide (show g (k - 1 - m) (m + 1) ≠ 0 → jud g xs = (g (k - 1 - m) (m + 1), k + 1) from hC rfl rfl)
            have HE2 := hide (show g (k - 1 - m) (m + 1) = 0 → JI g M xs (k + 1) ((m : Int) + 1) from fun h0 => hE rfl rfl h0 (by have := aft_go (d := decQ l h a b) (M := M) (p := k - 1 - m) (f := m + 1) (by omega) (by rw [← HG.out]; exact h0); omega))
            have hw1 : wrap64 (u - 1) = u - 1 := IntWalk.wrap64_in _ ⟨by omega, by omega⟩
            have hw2 : wrap64 (u - 1 - ((m : Int) + 1)) = u - 1 - ((m : Int) + 1) := IntWalk.wrap64_in _ ⟨by omega, by omega⟩
            have hw3 : wrap64 ((m : Int) + 1) = (m : Int) + 1 := IntWalk.wrap64_in _ ⟨by omega, by omega⟩
            clear hA hB hC hE h2r hu hkM hm1 hk hkn
            by_cases hg0 : g (k - 1 - m) (m + 1) = 0
            · have HJ2 := hide (HE2.out hg0)
              rw [hg0] at HC
              clear HC2 HE2 hg0
              gi_wp2_with (refine ⟨trivial, ?_⟩; gi_at_call 55; refine (CallsIn.inRound (w1.heap.size + 1) (callsIn_wide.2 (HC.out _ ?hq))).mono ?_; (case hq => exact HQ.out.below ((HV.out.failed ((m : Int) + 1)).below ((Below.refl _ _).alloc (Nat.le_refl _) _)).bw); rintro e w5 ⟨rfl, hb⟩; have H5 := hide (((HV.out.failed ((m : Int) + 1)).below ((Below.refl _ _).alloc (Nat.le_refl _) _)).below hb); have z2 := H5.out.us.cell 0 _ rfl; have z3 := H5.out.us.sz; have z4 := H5.out.us.fz 0; have z5 := H5.out.vd.cell 0 _ rfl; have z6 := H5.out.vd.sz; have z7 := H5.out.vd.fz 0; clear hb)
              refine JW.post H5.out.again hr1 hr2 (fun w' hw => .inl ⟨rfl, _, HJ2.out, by rw [HU.out] at hw; exact hw⟩)
            · have HJ2 := hide (HC2.out hg0)
              obtain ⟨r, hr⟩ : ∃ r, r = g (k - 1 - m) (m + 1) := ⟨_, rfl⟩
              rw [← hr] at HC HJ2 hg0
              have z0 : (r == 0) = false := by simp [hg0]
              have z1 : decide (r = 0) = false := decide_eq_false hg0
              clear HC2 HE2 hr
              gi_wp2_with (refine ⟨trivial, ?_⟩; gi_at_call 55; refine (CallsIn.inRound (w1.heap.size + 1) (callsIn_wide.2 (HC.out _ ?hq))).mono ?_; (case hq => exact HQ.out.below ((HV.out.failed ((m : Int) + 1)).below ((Below.refl _ _).alloc (Nat.le_refl _) _)).bw); rintro e w5 ⟨rfl, hb⟩; have H5 := hide (((HV.out.failed ((m : Int) + 1)).below ((Below.refl _ _).alloc (Nat.le_refl _) _)).below hb); have z2 := H5.out.us.cell 0 _ rfl; have z3 := H5.out.us.sz; have z4 := H5.out.us.fz 0; have z5 := H5.out.vd.cell 0 _ rfl; have z6 := H5.out.vd.sz; have z7 := H5.out.vd.fz 0; clear hb)
              gi_region
              all_goals gi_wp2
              all_goals
                have HXV := hide H5.out.x
                refine JX.post (v := r) (u := u) (rc := { rc with state := .busy }) ?_ (fun w' rc' hs hp hx => .inr ⟨rfl, r, k + 1, HJ2.out, rc', hs, hp, by rw [HU.out] at hx; simpa using hx⟩)
                (repeat' first | with_reducible exact HXV.out | (with_reducible refine JX.drew ?_) | (with_reducible refine JX.alloc ?_ _) | (with_reducible apply JX.used) | (with_reducible apply JX.verdict))
      · have HE := hide (hA hrd)
        clear hA hB hC hE h2r hu hkM hm1 hk hkn
        have e3 : (rd == r0) = false := by simp [hrd]
        have e4 : (!(rd == r0)) = true := by simp [hrd]
        gi_wp2
        gi_region
        all_goals gi_wp2
        all_goals
          refine JX.post (v := 4) (u := u) (rc := { rc with state := .busy }) ?_ (fun w' rc' hs hp hx => .inr ⟨rfl, 4, k + 1, HE.out, rc', hs, hp, by rw [HU.out] at hx; simpa using hx⟩)
          (repeat' first | with_reducible exact HXV.out | (with_reducible refine JX.drew ?_) | (with_reducible refine JX.alloc ?_ _) | (with_reducible apply JX.used) | (with_reducible apply JX.verdict))
end Go.Proofs.YtnokfhkcfebimaaGreat

/- Contracts: rerun.Judge, the rerun laws' example. -/
namespace Go.Proofs.YtnokfhkcfebimaaGreat
open Go.RowKit

set_option maxRecDepth 100000 in
set_option maxHeartbeats 8000000 in
theorem vjudgex_ok (w : World) (s : Sv) (l h a b : Rat) (M : Nat) (A : Option Addr) (n c : Nat) (xs : List (Bool × Bool)) (hq : SQ w s) (hk : OKs s l h a b M) (hR : Rs w none 2 atv A xs) (hl : xs.length = n) (hn : n ≤ 33) :
    Calls Tryz.prog 20 #[.agg #[.slice s.l.A s.l.n s.l.c, .slice s.l.B s.l.m s.l.d, .slice s.h.A s.h.n s.h.c, .slice s.h.B s.h.m s.h.d, .slice s.a.A s.a.n s.a.c, .slice s.a.B s.a.m s.a.d, .slice s.b.A s.b.n s.b.c, .slice s.b.B s.b.m s.b.d, .int .i64 s.m], .slice A n c] w fun e w' => e = .returned (.tuple #[.int .i64 (jud (aftQ (decQ l h a b) M) xs).1, .int .i64 ((jud (aftQ (decQ l h a b) M) xs).2 : Int), .int .i64 0]) ∧ Below w.heap.size w w' := by
  have HC := hide (show vckE s n = 0 by unfold vckE; rw [if_neg (by rw [hk.ok]; simp), if_neg (by omega)])
  have HK := hide hk
  have HR := hide hR
  have HL := hide hl
  obtain ⟨T, hT⟩ : ∃ T, T = jud (aftQ (decQ l h a b) M) xs := ⟨_, rfl⟩
  rw [← hT]
  have HT := hide hT
  clear hk hR hl hT
  go_enter Tryz.func20, Tryz.ntmps20
  go_upto_region 1 with (fail)
  generalize hW : World.alloc w _ = v
  have HF := hide (show FS w v w.heap.size s by rw [← hW]; exact FS.mk0 hq _)
  obtain ⟨a0, a1, a2, a3, a4, a5, a6, a7, a8, a9⟩ := HF.out.ca
  clear hW hq
  go_wp2_with (first
    | (go_at_call 51; (with_reducible refine (vcheck_any _ s A n c HF.out.q).mono ?_); rintro e w1 ⟨rfl, hb⟩; rw [HC.out]; have HF1 := hide (HF.out.below hb); obtain ⟨b0, b1, b2, b3, b4, b5, b6, b7, b8, b9⟩ := HF1.out.ca; clear hb)
    | (go_at_call 52; (with_reducible refine (vjudge_ok _ s l h a b M A n c xs HF1.out.q HK.out (HR.out.below HF1.out.bw) HL.out hn).mono ?_); rintro e w2 ⟨rfl, hb⟩; rw [← HT.out]; have HF2 := hide (HF1.out.below hb); clear hb))
  refine bodyPost_ret (v := .tuple #[.int .i64 T.1, .int .i64 (T.2 : Int), .int .i64 0]) (by simp [results, Tryz.results20, go_sem, *]) rfl ⟨rfl, HF2.out.bw⟩
set_option maxRecDepth 100000 in
set_option maxHeartbeats 8000000 in
theorem vjudgex_bad (w : World) (s : Sv) (A : Option Addr) (n c : Nat) (hq : SQ w s) (hc : vckE s n ≠ 0) :
    Calls Tryz.prog 20 #[.agg #[.slice s.l.A s.l.n s.l.c, .slice s.l.B s.l.m s.l.d, .slice s.h.A s.h.n s.h.c, .slice s.h.B s.h.m s.h.d, .slice s.a.A s.a.n s.a.c, .slice s.a.B s.a.m s.a.d, .slice s.b.A s.b.n s.b.c, .slice s.b.B s.b.m s.b.d, .int .i64 s.m], .slice A n c] w fun e w' => e = .returned (.tuple #[.int .i64 0, .int .i64 0, .int .i64 (vckE s n)]) ∧ Below w.heap.size w w' := by
  obtain ⟨E, hE⟩ : ∃ E, E = vckE s n := ⟨_, rfl⟩
  rw [← hE] at hc ⊢
  have HE := hide hE
  have g1 : (E == 0) = false := by simp [hc]
  have g2 : decide (E = 0) = false := decide_eq_false hc
  clear hE
  go_enter Tryz.func20, Tryz.ntmps20
  go_upto_region 1 with (fail)
  generalize hW : World.alloc w _ = v
  have HF := hide (show FS w v w.heap.size s by rw [← hW]; exact FS.mk0 hq _)
  obtain ⟨a0, a1, a2, a3, a4, a5, a6, a7, a8, a9⟩ := HF.out.ca
  clear hW hq
  go_wp2_with (go_at_call 51; (with_reducible refine (vcheck_any _ s A n c HF.out.q).mono ?_); rintro e w1 ⟨rfl, hb⟩; rw [← HE.out]; have HF1 := hide (HF.out.below hb); obtain ⟨b0, b1, b2, b3, b4, b5, b6, b7, b8, b9⟩ := HF1.out.ca; clear hb)
  refine bodyPost_ret (v := .tuple #[.int .i64 0, .int .i64 0, .int .i64 E]) (by simp [results, Tryz.results20, go_sem, *]) rfl ⟨rfl, HF1.out.bw⟩
set_option maxRecDepth 100000 in
set_option maxHeartbeats 8000000 in
theorem vexample_any (w : World) : Calls Tryz.prog 50 #[] w fun e w' => ∃ s : Sv, e = .returned (.agg #[.slice s.l.A s.l.n s.l.c, .slice s.l.B s.l.m s.l.d, .slice s.h.A s.h.n s.h.c, .slice s.h.B s.h.m s.h.d, .slice s.a.A s.a.n s.a.c, .slice s.a.B s.a.m s.a.d, .slice s.b.A s.b.n s.b.c, .slice s.b.B s.b.m s.b.d, .int .i64 s.m]) ∧ SQ w' s ∧ OKex s ∧ Below w.heap.size w w' := by
  go_enter Tryz.func50, Tryz.ntmps50
  go_upto_region 1 with (fail)
  generalize hW : World.alloc w _ = v
  have HR := hide (show Cb v w.heap.size z9 by rw [← hW]; exact Cb.mk0 z9 (by simp [z9]) _ rfl)
  have HB := hide (show Below w.heap.size w v by rw [← hW]; exact (Below.refl _ _).alloc (Nat.le_refl _) _)
  clear hW
  go_wp2_with (first
    | (go_at_call 25; (with_reducible refine (sm10 _).mono ?_); rintro e w4 ⟨f4, rfl, ho, hb⟩; have HO4 := hide ho; have HO34 := hide (HO3.out.below hb); have HO24 := hide (HO23.out.below hb); have HO14 := hide (HO13.out.below hb); have HR4 := hide (HR3.out.below hb); have HB4 := hide (HB3.out.trans (hb.mono HB3.out.size)); have t0 := HR4.out.cell 0 _ rfl; have t1 := HR4.out.cell 1 _ rfl; have t2 := HR4.out.cell 2 _ rfl; have t3 := HR4.out.cell 3 _ rfl; have t4 := HR4.out.cell 4 _ rfl; have t5 := HR4.out.cell 5 _ rfl; have t6 := HR4.out.cell 6 _ rfl; have t7 := HR4.out.cell 7 _ rfl; have t8 := HR4.out.cell 8 _ rfl; have tf := HR4.out.fz; have tz := HR4.out.sz; clear ho hb)
    | (go_at_call 25; (with_reducible refine (sm20 _).mono ?_); rintro e w3 ⟨f3, rfl, ho, hb⟩; have HO3 := hide ho; have HO23 := hide (HO2.out.below hb); have HO13 := hide (HO12.out.below hb); have HR3 := hide (HR2.out.below hb); have HB3 := hide (HB2.out.trans (hb.mono HB2.out.size)); clear ho hb)
    | (go_at_call 25; (with_reducible refine (sm2 _).mono ?_); rintro e w2 ⟨f2, rfl, ho, hb⟩; have HO2 := hide ho; have HO12 := hide (HO1.out.below hb); have HR2 := hide (HR1.out.below hb); have HB2 := hide (HB1.out.trans (hb.mono HB1.out.size)); clear ho hb)
    | (go_at_call 25; (with_reducible refine (sm10 _).mono ?_); rintro e w1 ⟨f1, rfl, ho, hb⟩; have HO1 := hide ho; have HR1 := hide (HR.out.below hb); have HB1 := hide (HB.out.trans (hb.mono HB.out.size)); clear ho hb))
  have hq9 := hide (fr9 (w := w4) (g := w.heap.size) (.slice f1.A f1.n f1.c) (.slice f1.B f1.m f1.d) (.slice f2.A f2.n f2.c) (.slice f2.B f2.m f2.d) (.slice f3.A f3.n f3.c) (.slice f3.B f3.m f3.d) (.slice f4.A f4.n f4.c) (.slice f4.B f4.m f4.d) (.int .i64 10))
  generalize hW : World.setCell (World.setCell (World.setCell (World.setCell (World.setCell (World.setCell (World.setCell (World.setCell (World.setCell w4 _ _) _ _) _ _) _ _) _ _) _ _) _ _) _ _) _ _ = v10
  have HR10 := hide (show Cb v10 w.heap.size [.slice f1.A f1.n f1.c, .slice f1.B f1.m f1.d, .slice f2.A f2.n f2.c, .slice f2.B f2.m f2.d, .slice f3.A f3.n f3.c, .slice f3.B f3.m f3.d, .slice f4.A f4.n f4.c, .slice f4.B f4.m f4.d, .int .i64 10] by rw [← hW]; exact (((((((((HR4.out.put 0 (.slice f1.A f1.n f1.c) (by simp [z9]) (by simp)).put 1 (.slice f1.B f1.m f1.d) (by simp [z9]) (by simp)).put 2 (.slice f2.A f2.n f2.c) (by simp [z9]) (by simp)).put 3 (.slice f2.B f2.m f2.d) (by simp [z9]) (by simp)).put 4 (.slice f3.A f3.n f3.c) (by simp [z9]) (by simp)).put 5 (.slice f3.B f3.m f3.d) (by simp [z9]) (by simp)).put 6 (.slice f4.A f4.n f4.c) (by simp [z9]) (by simp)).put 7 (.slice f4.B f4.m f4.d) (by simp [z9]) (by simp)).put 8 (.int .i64 10) (by simp [z9]) (by simp)))
  have HQ9 := hide (show Fr w4 v10 (fun b => b = w.heap.size) by rw [← hW]; exact hq9.out)
  clear hW hq9 t0 t1 t2 t3 t4 t5 t6 t7 t8 tf tz
  have k0 := HR10.out.cell 0 _ rfl; have k1 := HR10.out.cell 1 _ rfl; have k2 := HR10.out.cell 2 _ rfl; have k3 := HR10.out.cell 3 _ rfl; have k4 := HR10.out.cell 4 _ rfl; have k5 := HR10.out.cell 5 _ rfl; have k6 := HR10.out.cell 6 _ rfl; have k7 := HR10.out.cell 7 _ rfl; have k8 := HR10.out.cell 8 _ rfl
  refine bodyPost_ret (v := .agg #[.slice f1.A f1.n f1.c, .slice f1.B f1.m f1.d, .slice f2.A f2.n f2.c, .slice f2.B f2.m f2.d, .slice f3.A f3.n f3.c, .slice f3.B f3.m f3.d, .slice f4.A f4.n f4.c, .slice f4.B f4.m f4.d, .int .i64 10]) (by simp [results, Tryz.results50, go_sem, *]) rfl ⟨⟨f1, f2, f3, f4, 10, lm (rn (mkRat 1 10)), lm (mkRat 1 10).den, lm (rn (mkRat 1 2)), lm (mkRat 1 2).den, lm (rn (mkRat 1 20)), lm (mkRat 1 20).den, lm (rn (mkRat 1 10)), lm (mkRat 1 10).den⟩, rfl, ⟨HO14.out.1.one HQ9.out HR4.out.nb, HO24.out.1.one HQ9.out HR4.out.nb, HO34.out.1.one HQ9.out HR4.out.nb, HO4.out.1.one HQ9.out HR4.out.nb⟩, ⟨fracOf_self (o := some _) HO14.out.2, fracOf_self (o := some _) HO24.out.2, fracOf_self (o := some _) HO34.out.2, fracOf_self (o := some _) HO4.out.2, inn10, inn2, inn20, inn10, by decide +kernel, rfl, by omega, by omega⟩, ((Fr.of_below (fun b => b = w.heap.size) HB4.out).trans HQ9.out).below (Nat.le_refl _) (fun k hk e => by omega)⟩
end Go.Proofs.YtnokfhkcfebimaaGreat

/- Rows of attempts of a call's own; contract: the maker of attempts. -/
namespace Go.Proofs.YtnokfhkcfebimaaGreat
open Go.RowKit

theorem info80 : (Tryz.prog.info? 80).map (fun i => (i.zero, i.size, i.bytes)) = some (some (.agg #[.bool false, .bool false]), 2, 2) := by kernel_rfl
theorem atv_one (x : Bool × Bool) : ∀ u ∈ atv x, u.oneCell' = true := by
  intro u hu
  simp [atv] at hu
  rcases hu with rfl | rfl <;> rfl
/-- A slice of attempts of a call's own; the tape may have moved. -/
structure OA (w0 w : World) (T : Nat) (A : Option Addr) (m c : Nat) (l : List (Bool × Bool)) : Prop where
  own : w.ownsRow w0.heap.size 80 2 (.slice A m c) m (l.flatMap atv)
  len : l.length = m
  fr : Fr w0 w (fun b => b = T)
section
variable {w0 w w' : World} {T : Nat} {A : Option Addr} {m c : Nat} {l : List (Bool × Bool)}
theorem OA.rs (h : OA w0 w T A m c l) : Rs w none 2 atv A l := Rs.of_own h.own atv_len h.len (by simp)
theorem OA.cap (h : OA w0 w T A m c l) : m ≤ c := own_slice_cap h.own (by omega)
theorem OA.nil (hf : Fr w0 w (fun b => b = T)) : OA w0 w T none 0 0 [] := ⟨World.ownsRow_nil _ _ _ _, rfl, hf⟩
theorem OA.lo (h : OA w0 w T A m c l) {g : Nat} (hg : (Value.slice A m c).ownBlock = some g) : w0.heap.size ≤ g ∧ g < w.heap.size := by
  rcases h.own.2 with ⟨h1, _⟩ | ⟨g', cap, cur, hv, hb, hh, _⟩
  · rw [h1] at hg; simp [Value.ownBlock] at hg
  · rw [hv] at hg
    simp [Value.ownBlock] at hg
    subst hg
    exact ⟨hb, (Array.getElem?_eq_some_iff.1 hh).1⟩
theorem OA.below (h : OA w0 w T A m c l) (hb : Below w.heap.size w w') : OA w0 w' T A m c l := ⟨h.own.kept (grown_of_below hb none) (Classical.em _), h.len, h.fr.below_ hb⟩
theorem OA.alloc (h : OA w0 w T A m c l) (o : Obj) : OA w0 (w.alloc o) T A m c l := h.below ((Below.refl _ _).alloc (Nat.le_refl _) _)
theorem OA.tape (h : OA w0 w T A m c l) (hf : Fr w w' (fun b => b = T)) (hT : T < w0.heap.size) : OA w0 w' T A m c l :=
  ⟨h.own.kept (row := some T) ⟨hf.os, hf.tape, hf.output, hf.size, fun k hk hne => hf.block k hk (fun e => hne (by rw [e]))⟩ (by
      cases hob : (Value.slice A m c).ownBlock with
      | none => exact .inl rfl
      | some b => right; intro e; injection e with e; have := (h.lo hob).1; omega),
    h.len, h.fr.trans hf⟩
theorem OA.tp (h : OA w0 w T A m c l) {TA : Option Addr} {tn tc : Nat} {tl : List Int} {a0 a : Nat} (h0 : Tp w0 T TA tn tc tl a0) (hp : Tp w T TA tn tc tl a) (hf : Fr w w' (fun b => (Value.slice A m c).ownBlock = some b)) : Tp w' T TA tn tc tl a := by
  cases hob : (Value.slice A m c).ownBlock with
  | none =>
    refine hp.below ((hf.mono (T := fun _ => False) (fun k hk e => ?_)).below (Nat.le_refl _) (fun _ _ h => h))
    rw [hob] at e; simp at e
  | some b => exact h0.one hp (h.lo hob).1 (hf.mono (fun k hk e => by rw [hob] at e; injection e with e; exact e.symm))
end
theorem wl_app_att {w0 w : World} {ops : Array Oper} {rest : List Oper} {o : Oper} {a : Act} {Q : Exit → Act → World → Prop} (hgd : o.guard = none) (s x : Operand) (t : TypeId) (ht : Tryz.prog.underlying t = some (.slice 80))
    (ho : o.op = .call { callee := .builtin .append, args := #[s, x], argTypes := #[t, t] })
    (T : Nat) (A : Option Addr) (m c : Nat) (l : List (Bool × Bool)) (X Y : Bool) (hs : a.eval s = .slice A m c) (hx : a.eval x = .slice (some ⟨w.heap.size, 0, none⟩) 1 1) (hO : OA w0 w T A m c l) (h63 : m + 1 ≤ 4294967296)
    (h : ∀ A' c' w', OA w0 w' T A' (m + 1) c' (l ++ [(X, Y)]) → Fr (w.alloc (.cells #[.bool X, .bool Y] 80)) w' (fun b => (Value.slice A m c).ownBlock = some b) → wpList Tryz.prog ops Q rest (a.put o.dst (.slice A' (m + 1) c')) w') :
    wpList Tryz.prog ops Q (o :: rest) a (w.alloc (.cells #[.bool X, .bool Y] 80)) := by
  have hO1 : OA w0 (w.alloc (.cells #[.bool X, .bool Y] 80)) T A m c l := hO.alloc _
  refine wl_append _ hgd s x t ho w0.heap.size 80 _ 2 2 ht info80 rfl (by omega) (.slice A m c) m l hs hO1.own _ 1 1 [(X, Y)] hx
    (rs_one (av := none) (by simp) (by simp) (by intro j u hu; match j with | 0 => simp [atv] at hu; subst hu; simp [go_sem] | 1 => simp [atv] at hu; subst hu; simp [go_sem] | j + 2 => simp [atv] at hu)) rfl atv_len atv_one h63 (by omega) hO1.fr.size ?_
  intro A' c' w' hown hgr _
  refine h A' c' w' ⟨hown, by simp [hO.len], hO1.fr.grown hgr ?_⟩ ⟨hgr.os, hgr.tape, hgr.output, hgr.size, fun k hk hS => hgr.block k hk (fun e => hS e.symm)⟩
  intro g hg
  exact .inl (hO1.lo hg).1
/-- What the maker of attempts returns. -/
def MkA (w : World) (T : Nat) (TA : Option Addr) (tn tc : Nat) (tl : List Int) (a most : Nat) (e : Ending) (w' : World) : Prop :=
  ∃ (A : Option Addr) (m c : Nat) (xs : List (Bool × Bool)) (b : Nat), e = .returned (.slice A m c) ∧ OA w w' T A m c xs ∧ m ≤ most ∧ Tp w' T TA tn tc tl b ∧ b ≤ a + 3 + 3 * most
set_option maxRecDepth 100000 in
set_option maxHeartbeats 8000000 in
theorem vattempts_any (w : World) (T : Nat) (TA : Option Addr) (tn tc : Nat) (tl : List Int) (a most : Nat) (hP : Tp w T TA tn tc tl a) (ha : a ≤ 4294960000) (hm : most ≤ 100) :
    Calls Tryz.prog 19 #[.pointer (some ⟨T, 0, none⟩), .int .i64 (most : Int)] w fun e w' => MkA w T TA tn tc tl a most e w' := by
  have hT0 := hP.t.1
  have HP0 := hide hP
  clear hP
  have hw1 : wrap64 ((most : Int) + 1) = (most : Int) + 1 := IntWalk.wrap64_in _ ⟨by omega, by omega⟩
  obtain ⟨c5, hc5⟩ : ∃ x, x = tapeV tl (a + 1) 4 := ⟨_, rfl⟩
  have HC5 := hide hc5
  have hc51 : 0 ≤ c5 ∧ c5 ≤ 4 := by have := tapeV_lo tl (a + 1) 4; omega
  have hw2 : wrap64 (1 + c5) = 1 + c5 := IntWalk.wrap64_in _ ⟨by omega, by omega⟩
  clear hc5
  obtain ⟨N, hN, hN2⟩ := tapeV_nat tl (a + 1 + 1) ((most : Int) + 1)
  have HN := hide hN
  have hNm : N ≤ most := by omega
  clear hN hN2
  obtain ⟨rb, hrb⟩ : ∃ x, x = decide (tapeV tl a 4 < 3) := ⟨_, rfl⟩
  have HRB := hide hrb
  clear hrb
  go_enter Tryz.func19, Tryz.ntmps19
  go_wp2_with (first
    | (go_at_call 41; (with_reducible refine (chancetp_any _ T TA tn tc tl a 3 4 HP0.out (by omega) (by omega)).mono ?_); rintro e w1 ⟨rfl, hp, hf⟩; rw [← HRB.out]; have HP1 := hide hp; have HF1 := hide hf; clear hp hf)
    | (go_at_call 24; (with_reducible refine (nextp_any _ T TA tn tc tl (a + 1) 4 HP1.out (by omega) (by omega)).mono ?_); rintro e w2 ⟨rfl, hp, hf⟩; rw [← HC5.out]; have HP2 := hide hp; have HF2 := hide (HF1.out.trans hf); clear hp hf)
    | (go_at_call 24; (with_reducible refine (nextp_any _ T TA tn tc tl (a + 1 + 1) ((most : Int) + 1) HP2.out (by omega) (by omega)).mono ?_); rintro e w3 ⟨rfl, hp, hf⟩; rw [HN.out]; have HP3 := hide hp; have HF3 := hide (HF2.out.trans hf); clear hp hf))
  go_loopw [5, 8] (fun sv nv wr => ∃ (k r p c : Nat) (A : Option Addr) (xs : List (Bool × Bool)), sv = .slice A k c ∧ nv = .int .i64 (r : Int) ∧ k + r = N ∧ p + 3 * r ≤ a + 3 + 3 * N ∧ Hid (OA w wr T A k c xs) ∧ Hid (Tp wr T TA tn tc tl p)) (fun _ nv _ => (intOf nv).toNat)
  case atStart => exact ⟨0, N, a + 1 + 1 + 1, 0, none, [], rfl, rfl, by omega, by omega, hide (OA.nil HF3.out), HP3⟩
  case round =>
    obtain ⟨k, r, p, c, A, xs, rfl, rfl, hkr, hpr, HO, HP⟩ := hrel
    by_cases hr : r = 0
    · subst hr
      have hle : decide ((0 : Int) < ((0 : Nat) : Int)) = false := rfl
      go_wp2_with fail
      go_ret
      exact ⟨A, k, c, xs, p, rfl, HO.out, by omega, HP.out, by omega⟩
    · obtain ⟨r', rfl⟩ : ∃ r', r = r' + 1 := ⟨r - 1, by omega⟩
      have hgt : decide ((0 : Int) < ((r' + 1 : Nat) : Int)) = true := decide_eq_true (by omega)
      have hgt2 : (0 : Int) < ((r' + 1 : Nat) : Int) := by omega
      have hpb : p ≤ 4294964000 := by omega
      have hk100 : k ≤ 100 := by omega
      by_cases hk : k = 0
      · subst hk
        obtain ⟨b1, hb1⟩ : ∃ x, x = decide (tapeV tl p 8 < 7) := ⟨_, rfl⟩
        have HB1 := hide hb1
        clear hb1
        cases b1
        · go_wp2_with (first
            | (go_at_call 41; (with_reducible refine (chancetp_any _ T TA tn tc tl p 7 8 HP.out (by omega) (by omega)).mono ?_); rintro e w4 ⟨rfl, hp, hf⟩; rw [← HB1.out]; have HP4 := hide hp; have HO4 := hide (HO.out.tape hf hT0); clear hp hf)
            | (go_at_call 41; (with_reducible refine (chancetp_any _ T TA tn tc tl (p + 1) (1 + c5) 5 HP4.out (by omega) (by omega)).mono ?_); rintro e w5 ⟨rfl, hp, hf⟩; have HP5 := hide hp; have HO5 := hide (HO4.out.tape hf hT0); clear hp hf)
            | (go_at_call 41; (with_reducible refine (chancetp_any _ T TA tn tc tl (p + 1 + 1) 1 30 HP5.out (by omega) (by omega)).mono ?_); rintro e w6 ⟨rfl, hp, hf⟩; have HP6 := hide hp; have HO6 := hide (HO5.out.tape hf hT0); clear hp hf)
            | (at_builtin; refine wl_app_att (w0 := w) rfl _ _ _ Tryz.underlying46 rfl T A 0 c xs _ _ rfl rfl HO6.out (by omega) ?_; intro A2 c2 w7 ho2 hf2; have HO7 := hide ho2; have HP7 := hide ((HO6.out.alloc _).tp HP0.out (HP6.out.alloc _) hf2); clear ho2 hf2))
          go_roundw
          case rel => exact ⟨0 + 1, r', p + 1 + 1 + 1, c2, A2, _, rfl, by go_num, by omega, by omega, HO7, HP7⟩
          case measure => simp [intOf] <;> omega
        · go_wp2_with (first
            | (go_at_call 41; (with_reducible refine (chancetp_any _ T TA tn tc tl p 7 8 HP.out (by omega) (by omega)).mono ?_); rintro e w4 ⟨rfl, hp, hf⟩; rw [← HB1.out]; have HP4 := hide hp; have HO4 := hide (HO.out.tape hf hT0); clear hp hf)
            | (go_at_call 41; (with_reducible refine (chancetp_any _ T TA tn tc tl (p + 1) 1 30 HP4.out (by omega) (by omega)).mono ?_); rintro e w6 ⟨rfl, hp, hf⟩; have HP6 := hide hp; have HO6 := hide (HO4.out.tape hf hT0); clear hp hf)
            | (at_builtin; refine wl_app_att (w0 := w) rfl _ _ _ Tryz.underlying46 rfl T A 0 c xs _ _ rfl rfl HO6.out (by omega) ?_; intro A2 c2 w7 ho2 hf2; have HO7 := hide ho2; have HP7 := hide ((HO6.out.alloc _).tp HP0.out (HP6.out.alloc _) hf2); clear ho2 hf2))
          go_roundw
          case rel => exact ⟨0 + 1, r', p + 1 + 1, c2, A2, _, rfl, by go_num, by omega, by omega, HO7, HP7⟩
          case measure => simp [intOf] <;> omega
      · have g1 : decide ((k : Int) = 0) = false := decide_eq_false (by omega)
        have g2 : ((k : Int) == 0) = false := by simp [hk]
        have g3 : ¬ (k : Int) = 0 := by omega
        go_wp2_with (first
          | (go_at_call 41; (with_reducible refine (chancetp_any _ T TA tn tc tl p (1 + c5) 5 HP.out (by omega) (by omega)).mono ?_); rintro e w5 ⟨rfl, hp, hf⟩; have HP5 := hide hp; have HO5 := hide (HO.out.tape hf hT0); clear hp hf)
          | (go_at_call 41; (with_reducible refine (chancetp_any _ T TA tn tc tl (p + 1) 1 30 HP5.out (by omega) (by omega)).mono ?_); rintro e w6 ⟨rfl, hp, hf⟩; have HP6 := hide hp; have HO6 := hide (HO5.out.tape hf hT0); clear hp hf)
          | (at_builtin; refine wl_app_att (w0 := w) rfl _ _ _ Tryz.underlying46 rfl T A k c xs _ _ rfl rfl HO6.out (by omega) ?_; intro A2 c2 w7 ho2 hf2; have HO7 := hide ho2; have HP7 := hide ((HO6.out.alloc _).tp HP0.out (HP6.out.alloc _) hf2); clear ho2 hf2))
        go_roundw
        case rel => exact ⟨k + 1, r', p + 1 + 1, c2, A2, _, rfl, by go_num, by omega, by omega, HO7, HP7⟩
        case measure => simp [intOf] <;> omega
end Go.Proofs.YtnokfhkcfebimaaGreat

/- Contract: the rerun laws' known. -/
namespace Go.Proofs.YtnokfhkcfebimaaGreat
open Go.RowKit

theorem rs_newf {α : Type} {f : α → List Value} {s : Nat} (hs : ∀ a, (f a).length = s) {w : World} (l : List α) (t : TypeId) (cs : Array Value) (hcs : cs = (l.flatMap f).toArray) : Rs (w.alloc (.cells cs t)) none s f (some ⟨w.heap.size, 0, none⟩) l := by
  intro _
  refine ⟨w.heap.size, 0, rfl, by simp, by simp, fun k a hk j u hu => ?_⟩
  have h1 := flat_get hs l k a j u hk hu
  rw [World.cell?_alloc_new, hcs]
  simpa using h1
theorem kj1 (w : World) (s : Sv) (g : Nat) (hq : SQ w s) (hk : OKex s) (hR : Rs w none 2 atv (some ⟨g, 0, none⟩) [(true, true), (true, true), (true, true)]) :
    Calls Tryz.prog 20 #[.agg #[.slice s.l.A s.l.n s.l.c, .slice s.l.B s.l.m s.l.d, .slice s.h.A s.h.n s.h.c, .slice s.h.B s.h.m s.h.d, .slice s.a.A s.a.n s.a.c, .slice s.a.B s.a.m s.a.d, .slice s.b.A s.b.n s.b.c, .slice s.b.B s.b.m s.b.d, .int .i64 s.m], .slice (some ⟨g, 0, none⟩) 3 3] w fun e w' => e = .returned (.tuple #[.int .i64 1, .int .i64 3, .int .i64 0]) ∧ Below w.heap.size w w' := by
  have h := vjudgex_ok w s _ _ _ _ 10 _ 3 3 _ hq hk hR rfl (by omega)
  rwa [show jud (aftQ (decQ (mkRat 1 10) (mkRat 1 2) (mkRat 1 20) (mkRat 1 10)) 10) [(true, true), (true, true), (true, true)] = (1, 3) by decide +kernel] at h
theorem kj2 (w : World) (s : Sv) (g : Nat) (hq : SQ w s) (hk : OKex s) (hR : Rs w none 2 atv (some ⟨g, 0, none⟩) [(true, true), (false, true), (false, true), (false, true), (false, true), (true, true)]) :
    Calls Tryz.prog 20 #[.agg #[.slice s.l.A s.l.n s.l.c, .slice s.l.B s.l.m s.l.d, .slice s.h.A s.h.n s.h.c, .slice s.h.B s.h.m s.h.d, .slice s.a.A s.a.n s.a.c, .slice s.a.B s.a.m s.a.d, .slice s.b.A s.b.n s.b.c, .slice s.b.B s.b.m s.b.d, .int .i64 s.m], .slice (some ⟨g, 0, none⟩) 6 6] w fun e w' => e = .returned (.tuple #[.int .i64 2, .int .i64 5, .int .i64 0]) ∧ Below w.heap.size w w' := by
  have h := vjudgex_ok w s _ _ _ _ 10 _ 6 6 _ hq hk hR rfl (by omega)
  rwa [show jud (aftQ (decQ (mkRat 1 10) (mkRat 1 2) (mkRat 1 20) (mkRat 1 10)) 10) [(true, true), (false, true), (false, true), (false, true), (false, true), (true, true)] = (2, 5) by decide +kernel] at h
theorem kj3 (w : World) (s : Sv) (g : Nat) (hq : SQ w s) (hk : OKex s) (hR : Rs w none 2 atv (some ⟨g, 0, none⟩) [(true, false), (false, false)]) :
    Calls Tryz.prog 20 #[.agg #[.slice s.l.A s.l.n s.l.c, .slice s.l.B s.l.m s.l.d, .slice s.h.A s.h.n s.h.c, .slice s.h.B s.h.m s.h.d, .slice s.a.A s.a.n s.a.c, .slice s.a.B s.a.m s.a.d, .slice s.b.A s.b.n s.b.c, .slice s.b.B s.b.m s.b.d, .int .i64 s.m], .slice (some ⟨g, 0, none⟩) 2 2] w fun e w' => e = .returned (.tuple #[.int .i64 4, .int .i64 2, .int .i64 0]) ∧ Below w.heap.size w w' := by
  have h := vjudgex_ok w s _ _ _ _ 10 _ 2 2 _ hq hk hR rfl (by omega)
  rwa [show jud (aftQ (decQ (mkRat 1 10) (mkRat 1 2) (mkRat 1 20) (mkRat 1 10)) 10) [(true, false), (false, false)] = (4, 2) by decide +kernel] at h
set_option maxRecDepth 100000 in
set_option maxHeartbeats 8000000 in
theorem vknown_any (w : World) : Calls Tryz.prog 17 #[] w fun e w' => e = .returned (.bool true) ∧ Below w.heap.size w w' := by
  go_enter Tryz.func17, Tryz.ntmps17
  go_upto_region 2 with (fail)
  generalize hW : World.alloc (World.alloc w _) _ = v
  have HB := hide (show Below w.heap.size w v by rw [← hW]; exact ((Below.refl _ _).alloc (Nat.le_refl _) _).alloc (by simp) _)
  have HG := hide (show Cb v w.heap.size [.bool true, .bool true] by rw [← hW]; exact (Cb.mk0 [.bool true, .bool true] (by simp) _ rfl).alloc _)
  have HH := hide (show Cb v (w.heap.size + 1) [.bool false, .bool true] by rw [← hW]; exact Cb.mk0 [.bool false, .bool true] (by simp) _ (by simp))
  clear hW
  have x0 := HG.out.cell 0 _ rfl
  have x1 := HG.out.cell 1 _ rfl
  have x2 := HG.out.sz
  have y0 := HH.out.cell 0 _ rfl
  have y1 := HH.out.cell 1 _ rfl
  have y2 := HH.out.sz
  go_region_held3 (fun W => W.cell? ⟨w.heap.size, 0, none⟩ = some (.bool true) ∧ W.cell? ⟨w.heap.size, 1, none⟩ = some (.bool true)) (first | (go_keep; done) | ((try dsimp only); (repeat' apply And.intro) <;> first | (go_keep; done) | ((repeat rw [World.cell?_setCell_other _ _ _ _ (by intro h; injection h; omega)]); go_keep; done))) (first
    | (go_at_call 50; (with_reducible refine (vexample_any _).mono ?_); rintro e u1 ⟨s1, rfl, hq, hk, hb⟩; have HQ1 := hide hq; have HK1 := hide hk; (first | have HRS1 := hide (show Rs u1 none 2 atv (some ⟨v.heap.size, 0, none⟩) [(true, true), (true, true), (true, true)] from ((rs_newf (w := v) atv_len [(true, true), (true, true), (true, true)] _ _ rfl).below (Dr.below ⟨1, rfl⟩)).below hb) | skip); have HB1 := hide (show Below w.heap.size w u1 from (by first | exact HB.out.drew.trans (hb.mono HB.out.drew.size) | exact HB.out.trans (hb.mono HB.out.size) | exact (HB.out.alloc HB.out.size _).drew.trans (hb.mono (HB.out.alloc HB.out.size _).drew.size))); have HG1 := hide (show Cb u1 w.heap.size [.bool true, .bool true] from (by first | exact HG.out.drew.below hb | exact HG.out.below hb | exact (HG.out.alloc _).drew.below hb)); have HH1 := hide (show Cb u1 (w.heap.size + 1) [.bool false, .bool true] from (by first | exact HH.out.drew.below hb | exact HH.out.below hb | exact (HH.out.alloc _).drew.below hb)); have x0 := HG1.out.cell 0 _ rfl; have x1 := HG1.out.cell 1 _ rfl; have x2 := HG1.out.sz; have y0 := HH1.out.cell 0 _ rfl; have y1 := HH1.out.cell 1 _ rfl; have y2 := HH1.out.sz; clear hq hk hb)
    | (go_at_call 20; (with_reducible refine (kj1 _ s1 _ ?hq HK1.out ?hr).mono ?_); (case hq => first | exact HQ1.out.alloc _ | exact HQ1.out); (case hr => first | exact rs_newf atv_len _ _ _ rfl | exact HRS1.out); rintro e v1 ⟨rfl, hb⟩; have HC1 := hide (show Below w.heap.size w v1 from (by first | exact (HB1.out.alloc HB1.out.size _).trans (hb.mono (HB1.out.alloc HB1.out.size _).size) | exact HB1.out.trans (hb.mono HB1.out.size))); have HGJ1 := hide (show Cb v1 w.heap.size [.bool true, .bool true] from (by first | exact (HG1.out.alloc _).below hb | exact HG1.out.below hb)); have HHJ1 := hide (show Cb v1 (w.heap.size + 1) [.bool false, .bool true] from (by first | exact (HH1.out.alloc _).below hb | exact HH1.out.below hb)); have x0 := HGJ1.out.cell 0 _ rfl; have x1 := HGJ1.out.cell 1 _ rfl; have x2 := HGJ1.out.sz; have y0 := HHJ1.out.cell 0 _ rfl; have y1 := HHJ1.out.cell 1 _ rfl; have y2 := HHJ1.out.sz; clear hb))
  all_goals go_upto_region 3 with (fail)
  all_goals go_region_held3 (fun W => W.cell? ⟨w.heap.size, 0, none⟩ = some (.bool true) ∧ W.cell? ⟨w.heap.size, 1, none⟩ = some (.bool true) ∧ W.cell? ⟨w.heap.size + 1, 0, none⟩ = some (.bool false) ∧ W.cell? ⟨w.heap.size + 1, 1, none⟩ = some (.bool true)) (first | (go_keep; done) | ((try dsimp only); (repeat' apply And.intro) <;> first | (go_keep; done) | ((repeat rw [World.cell?_setCell_other _ _ _ _ (by intro h; injection h; omega)]); go_keep; done))) (first
    | (go_at_call 50; (with_reducible refine (vexample_any _).mono ?_); rintro e u2 ⟨s2, rfl, hq, hk, hb⟩; have HQ2 := hide hq; have HK2 := hide hk; (first | have HRS2 := hide (show Rs u2 none 2 atv (some ⟨v1.heap.size, 0, none⟩) [(true, true), (false, true), (false, true), (false, true), (false, true), (true, true)] from ((rs_newf (w := v1) atv_len [(true, true), (false, true), (false, true), (false, true), (false, true), (true, true)] _ _ rfl).below (Dr.below ⟨1, rfl⟩)).below hb) | skip); have HB2 := hide (show Below w.heap.size w u2 from (by first | exact HC1.out.drew.trans (hb.mono HC1.out.drew.size) | exact HC1.out.trans (hb.mono HC1.out.size) | exact (HC1.out.alloc HC1.out.size _).drew.trans (hb.mono (HC1.out.alloc HC1.out.size _).drew.size))); have HG2 := hide (show Cb u2 w.heap.size [.bool true, .bool true] from (by first | exact HGJ1.out.drew.below hb | exact HGJ1.out.below hb | exact (HGJ1.out.alloc _).drew.below hb)); have HH2 := hide (show Cb u2 (w.heap.size + 1) [.bool false, .bool true] from (by first | exact HHJ1.out.drew.below hb | exact HHJ1.out.below hb | exact (HHJ1.out.alloc _).drew.below hb)); have x0 := HG2.out.cell 0 _ rfl; have x1 := HG2.out.cell 1 _ rfl; have x2 := HG2.out.sz; have y0 := HH2.out.cell 0 _ rfl; have y1 := HH2.out.cell 1 _ rfl; have y2 := HH2.out.sz; clear hq hk hb)
    | (go_at_call 20; (with_reducible refine (kj2 _ s2 _ ?hq HK2.out ?hr).mono ?_); (case hq => first | exact HQ2.out.alloc _ | exact HQ2.out); (case hr => first | exact rs_newf atv_len _ _ _ rfl | exact HRS2.out); rintro e v2 ⟨rfl, hb⟩; have HC2 := hide (show Below w.heap.size w v2 from (by first | exact (HB2.out.alloc HB2.out.size _).trans (hb.mono (HB2.out.alloc HB2.out.size _).size) | exact HB2.out.trans (hb.mono HB2.out.size))); have HGJ2 := hide (show Cb v2 w.heap.size [.bool true, .bool true] from (by first | exact (HG2.out.alloc _).below hb | exact HG2.out.below hb)); have HHJ2 := hide (show Cb v2 (w.heap.size + 1) [.bool false, .bool true] from (by first | exact (HH2.out.alloc _).below hb | exact HH2.out.below hb)); have x0 := HGJ2.out.cell 0 _ rfl; have x1 := HGJ2.out.cell 1 _ rfl; have x2 := HGJ2.out.sz; have y0 := HHJ2.out.cell 0 _ rfl; have y1 := HHJ2.out.cell 1 _ rfl; have y2 := HHJ2.out.sz; clear hb))
  all_goals go_wp2_with (first
    | (go_at_call 50; (with_reducible refine (vexample_any _).mono ?_); rintro e u3 ⟨s3, rfl, hq, hk, hb⟩; have HQ3 := hide hq; have HK3 := hide hk; (first | have HRS3 := hide (show Rs u3 none 2 atv (some ⟨v2.heap.size, 0, none⟩) [(true, false), (false, false)] from ((rs_newf (w := v2) atv_len [(true, false), (false, false)] _ _ rfl).below (Dr.below ⟨1, rfl⟩)).below hb) | skip); have HB3 := hide (show Below w.heap.size w u3 from (by first | exact HC2.out.drew.trans (hb.mono HC2.out.drew.size) | exact HC2.out.trans (hb.mono HC2.out.size) | exact (HC2.out.alloc HC2.out.size _).drew.trans (hb.mono (HC2.out.alloc HC2.out.size _).drew.size))); have HG3 := hide (show Cb u3 w.heap.size [.bool true, .bool true] from (by first | exact HGJ2.out.drew.below hb | exact HGJ2.out.below hb | exact (HGJ2.out.alloc _).drew.below hb)); have HH3 := hide (show Cb u3 (w.heap.size + 1) [.bool false, .bool true] from (by first | exact HHJ2.out.drew.below hb | exact HHJ2.out.below hb | exact (HHJ2.out.alloc _).drew.below hb)); have x0 := HG3.out.cell 0 _ rfl; have x1 := HG3.out.cell 1 _ rfl; have x2 := HG3.out.sz; have y0 := HH3.out.cell 0 _ rfl; have y1 := HH3.out.cell 1 _ rfl; have y2 := HH3.out.sz; clear hq hk hb)
    | (go_at_call 20; (with_reducible refine (kj3 _ s3 _ ?hq HK3.out ?hr).mono ?_); (case hq => first | exact HQ3.out.alloc _ | exact HQ3.out); (case hr => first | exact rs_newf atv_len _ _ _ rfl | exact HRS3.out); rintro e v3 ⟨rfl, hb⟩; have HC3 := hide (show Below w.heap.size w v3 from (by first | exact (HB3.out.alloc HB3.out.size _).trans (hb.mono (HB3.out.alloc HB3.out.size _).size) | exact HB3.out.trans (hb.mono HB3.out.size))); have HGJ3 := hide (show Cb v3 w.heap.size [.bool true, .bool true] from (by first | exact (HG3.out.alloc _).below hb | exact HG3.out.below hb)); have HHJ3 := hide (show Cb v3 (w.heap.size + 1) [.bool false, .bool true] from (by first | exact (HH3.out.alloc _).below hb | exact HH3.out.below hb)); have x0 := HGJ3.out.cell 0 _ rfl; have x1 := HGJ3.out.cell 1 _ rfl; have x2 := HGJ3.out.sz; have y0 := HHJ3.out.cell 0 _ rfl; have y1 := HHJ3.out.cell 1 _ rfl; have y2 := HHJ3.out.sz; clear hb))
  all_goals go_ret
  all_goals exact ⟨rfl, HC3.out⟩
end Go.Proofs.YtnokfhkcfebimaaGreat

/- Plain laws of verdicts; boxes and the tape. -/
namespace Go.Proofs.YtnokfhkcfebimaaGreat
open Go.RowKit

theorem FS.tape {w0 v v' : World} {g T : Nat} {s : Sv} (h : FS w0 v g s) (hf : Fr v v' (fun b => b = T)) (hT : w0.heap.size ≤ T) (hg : g ≠ T) (hn : NB v T) : FS w0 v' g s := ⟨bw_one h.bw hf hT, h.cb.one hf hg, h.q.one hf hn⟩
/-- All random: at the last run there is a verdict. -/
theorem judL_ends {d : Nat → Nat → Int} {M : Nat} : ∀ (t : List (Bool × Bool)) (k p f : Nat), (∀ x ∈ t, x.2 = true) → p + f + t.length = M → 0 < t.length →
    (judL (aftQ d M) true t k p f).1 ≠ 0 ∧ (judL (aftQ d M) true t k p f).1 ≠ 5
  | [], _, _, _, _, _, h0 => absurd h0 (by simp)
  | (fl, rd) :: t, k, p, f, hr, hl, _ => by
    obtain rfl : rd = true := hr (fl, rd) (by simp)
    rw [judL, if_neg (by simp), if_neg (by simp)]
    have e : (if fl then p else p + 1) + (if fl then f + 1 else f) = p + f + 1 := by cases fl <;> simp <;> omega
    rw [List.length_cons] at hl
    generalize (if fl = true then p else p + 1) = p' at e ⊢
    generalize (if fl = true then f + 1 else f) = f' at e ⊢
    by_cases h : aftQ d M p' f' = 0
    · rw [if_pos h]
      have := aft_go (by omega) h
      exact judL_ends t _ _ _ (fun x hx => hr x (by simp [hx])) (by omega) (by omega)
    · rw [if_neg h]
      refine ⟨h, ?_⟩
      rcases aft_range d M p' f' with h1 | h1 | h1 | h1 <;> rw [h1] <;> simp
theorem jud_ends {d : Nat → Nat → Int} {M : Nat} {r : Bool} {xs : List (Bool × Bool)} (hr : ∀ x ∈ xs, x.2 = r) (h0 : xs.head? = some (true, r)) (hl : xs.length = M + 1) (hM : 1 ≤ M) :
    (jud (aftQ d M) xs).1 ≠ 0 ∧ (jud (aftQ d M) xs).1 ≠ 5 ∧ (r = false → (jud (aftQ d M) xs).2 = 2) := by
  cases xs with
  | nil => simp at h0
  | cons y t =>
    obtain rfl : y = (true, r) := by simpa using h0
    rw [List.length_cons] at hl
    cases r
    · cases t with
      | nil => simp at hl; omega
      | cons z t =>
        obtain ⟨fl, rd⟩ := z
        obtain rfl : rd = false := hr (fl, rd) (by simp)
        cases fl <;> simp [jud, judL]
    · have h := judL_ends (d := d) (M := M) t 1 0 0 (fun x hx => hr x (by simp [hx])) (by omega) (by omega)
      exact ⟨h.1, h.2, fun h => by simp at h⟩
end Go.Proofs.YtnokfhkcfebimaaGreat

/- Plain laws of verdicts: what hides behind each. -/
namespace Go.Proofs.YtnokfhkcfebimaaGreat
open Go.RowKit

theorem pow_ge_one {r : Rat} (h : 1 ≤ r) : ∀ n : Nat, 1 ≤ r ^ n
  | 0 => by rw [Rat.pow_zero]; exact Rat.le_refl
  | n + 1 => by
    rw [Rat.pow_succ]
    have h1 := pow_ge_one h n
    have h0 : (0 : Rat) ≤ r ^ n := Rat.le_trans (by decide) h1
    have := Rat.mul_le_mul_of_nonneg_left h h0
    rw [Rat.mul_one] at this
    exact Rat.le_trans h1 this
theorem pow_le_one' {r : Rat} (h0 : 0 ≤ r) (h : r ≤ 1) : ∀ n : Nat, 0 ≤ r ^ n ∧ r ^ n ≤ 1
  | 0 => by rw [Rat.pow_zero]; exact ⟨by decide, Rat.le_refl⟩
  | n + 1 => by
    rw [Rat.pow_succ]
    obtain ⟨h1, h2⟩ := pow_le_one' h0 h n
    have := Rat.mul_le_mul_of_nonneg_left h h1
    rw [Rat.mul_one] at this
    exact ⟨Rat.mul_nonneg h1 h0, Rat.le_trans this h2⟩
theorem inv_gt_one {a : Rat} (h0 : 0 < a) (h1 : a < 1) : 1 < 1 / a := by
  refine Rat.not_le.1 (fun h => ?_)
  have h2 := Rat.mul_le_mul_of_nonneg_right h (Rat.le_of_lt h0)
  have h3 : (1 / a) * a = 1 := Rat.div_mul_cancel (fun h => by rw [h] at h0; exact absurd h0 (by decide))
  rw [h3, Rat.one_mul] at h2
  exact absurd h1 (Rat.not_lt.2 h2)
theorem dec_no_fail {s : Sv} {l h a b : Rat} {M : Nat} (hk : OKs s l h a b M) (p : Nat) : decQ l h a b p 0 ≠ 2 := by
  intro h2
  have h3 := decQ_flaky.1 h2
  unfold ratQ at h3
  rw [Rat.pow_zero, Rat.one_mul] at h3
  have h4 := (pow_le_one' (r := (1 - h) / (1 - l)) (div_nonneg' (Rat.le_of_lt hk.il.q0) (Rat.le_of_lt hk.ih.q0)) (div_le_one hk.il.q0 (by have := Rat.le_of_lt hk.lt; grind)) p).2
  exact absurd (inv_gt_one hk.ia.p hk.ia.q) (Rat.not_lt.2 (Rat.le_trans h3 h4))
theorem dec_no_pass {s : Sv} {l h a b : Rat} {M : Nat} (hk : OKs s l h a b M) (f : Nat) : decQ l h a b 0 f ≠ 1 := by
  intro h2
  have h3 := (decQ_stable.1 h2).2
  unfold ratQ at h3
  rw [Rat.pow_zero, Rat.mul_one] at h3
  have h4 := pow_ge_one (r := h / l) (one_le_div hk.il.p (Rat.le_of_lt hk.lt)) f
  exact absurd hk.ib.q (Rat.not_lt.2 (Rat.le_trans h4 h3))
/-- How many failed. -/
def cntF (xs : List (Bool × Bool)) : Nat := xs.countP (·.1)
/-- What a verdict says of the attempts used. -/
def Hides (M : Nat) (n : Nat) (r0 : Bool) (v : Int) (u F : Nat) : Prop :=
  u ≤ n ∧ 1 ≤ F ∧ ((v = 1 ∧ 2 ≤ F) ∨ (v = 2 ∧ F < u ∧ r0 = true) ∨ (v = 4 ∧ 2 ≤ u) ∨ (v = 3 ∧ u = M + 1) ∨ (v = 0 ∧ u = n))
theorem judL_hides {d : Nat → Nat → Int} {M : Nat} (hd1 : ∀ p, d p 0 ≠ 2) (hd2 : ∀ f, d 0 f ≠ 1) (r0 : Bool) : ∀ (t : List (Bool × Bool)) (k p f : Nat), k = p + f + 1 → p + f < M →
    k ≤ (judL (aftQ d M) r0 t k p f).2 ∧ Hides M (k + t.length) r0 (judL (aftQ d M) r0 t k p f).1 (judL (aftQ d M) r0 t k p f).2 (f + 1 + cntF (t.take ((judL (aftQ d M) r0 t k p f).2 - k)))
  | [], k, p, f, hk, _ => ⟨Nat.le_refl _, Nat.le_refl _, by omega, by simp [judL]⟩
  | (fl, rd) :: t, k, p, f, hk, hM => by
    have hln : k + ((fl, rd) :: t).length = (k + 1) + t.length := by rw [List.length_cons]; omega
    have hc : ∀ j, cntF (((fl, rd) :: t).take (j + 1)) = (if fl then 1 else 0) + cntF (t.take j) := fun j => by
      rw [List.take_succ_cons]
      unfold cntF
      cases fl <;> simp [List.countP_cons] <;> omega
    rw [judL, hln]
    by_cases h1 : rd ≠ r0
    · rw [if_pos h1]
      have h2 := hc 0
      dsimp only
      rw [show k + 1 - k = 0 + 1 by omega]
      exact ⟨by omega, by omega, by omega, .inr (.inr (.inl ⟨rfl, by omega⟩))⟩
    · rw [if_neg h1]
      have h1 : rd = r0 := Classical.not_not.1 h1
      by_cases h2 : rd = false
      · rw [if_pos h2]
        cases fl
        · simp only [Bool.false_eq_true, if_false]
          exact ⟨by omega, by omega, by omega, .inr (.inr (.inl ⟨rfl, by omega⟩))⟩
        · simp only [if_true]
          have h3 := hc 0
          rw [show k + 1 - k = 0 + 1 by omega, h3]
          exact ⟨by omega, by omega, by simp; omega, .inl ⟨rfl, by simp; omega⟩⟩
      · rw [if_neg h2]
        have hr : r0 = true := by rw [← h1]; simpa using h2
        have e : (if fl then p else p + 1) + (if fl then f + 1 else f) = p + f + 1 := by cases fl <;> simp <;> omega
        have e2 : (if fl then f + 1 else f) = f + (if fl then 1 else 0) := by cases fl <;> rfl
        obtain ⟨p', hp'⟩ : ∃ p', p' = (if fl then p else p + 1) := ⟨_, rfl⟩
        obtain ⟨f', hf'⟩ : ∃ f', f' = (if fl then f + 1 else f) := ⟨_, rfl⟩
        obtain ⟨z, hz⟩ : ∃ z : Nat, z = (if fl then 1 else 0) := ⟨_, rfl⟩
        rw [← hp', ← hf'] at e
        rw [← hf', ← hz] at e2
        rw [← hp', ← hf']
        by_cases h3 : aftQ d M p' f' = 0
        · rw [if_pos h3]
          have h4 := aft_go (by omega) h3
          obtain ⟨h5, h6, h7, h8⟩ := judL_hides hd1 hd2 r0 t (k + 1) p' f' (by omega) h4
          have h9 := hc ((judL (aftQ d M) r0 t (k + 1) p' f').2 - (k + 1))
          rw [← hz] at h9
          rw [show (judL (aftQ d M) r0 t (k + 1) p' f').2 - k = (judL (aftQ d M) r0 t (k + 1) p' f').2 - (k + 1) + 1 by omega, h9, show f + 1 + (z + cntF (t.take ((judL (aftQ d M) r0 t (k + 1) p' f').2 - (k + 1)))) = f' + 1 + cntF (t.take ((judL (aftQ d M) r0 t (k + 1) p' f').2 - (k + 1))) by omega]
          exact ⟨by omega, h6, h7, h8⟩
        · rw [if_neg h3]
          dsimp only
          have h4 := hc 0
          rw [← hz] at h4
          rw [show k + 1 - k = 0 + 1 by omega, h4]
          have h5 : cntF (t.take 0) = 0 := by simp [cntF]
          refine ⟨by omega, by omega, by omega, ?_⟩
          unfold aftQ at h3 ⊢
          by_cases h6 : d p' f' = 2
          · rw [if_pos h6]
            have : f' ≠ 0 := fun h0 => hd1 p' (by rw [← h0]; exact h6)
            exact .inl ⟨rfl, by omega⟩
          · rw [if_neg h6] at h3 ⊢
            by_cases h7 : d p' f' = 1
            · rw [if_pos h7]
              have : p' ≠ 0 := fun h0 => hd2 f' (by rw [← h0]; exact h7)
              exact .inr (.inl ⟨rfl, by omega, hr⟩)
            · rw [if_neg h7] at h3 ⊢
              by_cases h8 : p' + f' = M
              · rw [if_pos h8]
                exact .inr (.inr (.inr (.inl ⟨rfl, by omega⟩)))
              · rw [if_neg h8] at h3
                exact absurd rfl h3
theorem jud_hides {s : Sv} {l h a b : Rat} {M : Nat} (hk : OKs s l h a b M) (xs : List (Bool × Bool)) :
    ((jud (aftQ (decQ l h a b) M) xs).2 = 0 ∧ (jud (aftQ (decQ l h a b) M) xs).1 = 0 ∧ xs.length = 0) ∨
    ((jud (aftQ (decQ l h a b) M) xs).1 = 5 ∧ (jud (aftQ (decQ l h a b) M) xs).2 = 1 ∧ 1 ≤ xs.length ∧ cntF (xs.take 1) = 0) ∨
    ∃ r0, xs[0]? = some (true, r0) ∧ Hides M xs.length r0 (jud (aftQ (decQ l h a b) M) xs).1 (jud (aftQ (decQ l h a b) M) xs).2 (cntF (xs.take (jud (aftQ (decQ l h a b) M) xs).2)) := by
  cases xs with
  | nil => exact .inl ⟨rfl, rfl, rfl⟩
  | cons y t =>
    obtain ⟨fl, rd⟩ := y
    cases fl
    · exact .inr (.inl ⟨rfl, rfl, by simp, rfl⟩)
    · right; right
      refine ⟨rd, rfl, ?_⟩
      have h1 := judL_hides (M := M) (dec_no_fail hk) (dec_no_pass hk) rd t 1 0 0 rfl (by have := hk.m1; omega)
      have e : jud (aftQ (decQ l h a b) M) ((true, rd) :: t) = judL (aftQ (decQ l h a b) M) rd t 1 0 0 := rfl
      rw [e, List.length_cons]
      obtain ⟨h2, h3⟩ := h1
      have hc : cntF (((true, rd) :: t).take (judL (aftQ (decQ l h a b) M) rd t 1 0 0).2) = 0 + 1 + cntF (t.take ((judL (aftQ (decQ l h a b) M) rd t 1 0 0).2 - 1)) := by
        obtain ⟨j, hj⟩ : ∃ j, (judL (aftQ (decQ l h a b) M) rd t 1 0 0).2 = j + 1 := ⟨_, (Nat.sub_add_cancel h2).symm⟩
        rw [hj, List.take_succ_cons]
        unfold cntF
        rw [List.countP_cons]
        simp
        omega
      rw [hc, show t.length + 1 = 1 + t.length by omega]
      exact h3
end Go.Proofs.YtnokfhkcfebimaaGreat

/- Plain laws of verdicts: more attempts, fewer attempts; a row of attempts is appended. -/
namespace Go.Proofs.YtnokfhkcfebimaaGreat
open Go.RowKit

theorem judL_take (g : Nat → Nat → Int) (r0 : Bool) : ∀ (t : List (Bool × Bool)) (k p f j : Nat), k + j < (judL g r0 t k p f).2 → judL g r0 (t.take j) k p f = (0, k + j)
  | t, k, p, f, 0, _ => by rw [List.take_zero]; rfl
  | [], k, p, f, j + 1, h => by simp only [judL] at h; omega
  | (fl, rd) :: t, k, p, f, j + 1, h => by
    rw [List.take_succ_cons, judL]
    rw [judL] at h
    by_cases h1 : rd ≠ r0
    · rw [if_pos h1] at h; dsimp only at h; omega
    · rw [if_neg h1] at h ⊢
      by_cases h2 : rd = false
      · rw [if_pos h2] at h
        cases fl <;> simp at h <;> omega
      · rw [if_neg h2] at h ⊢
        generalize (if fl = true then p else p + 1) = p' at h ⊢
        generalize (if fl = true then f + 1 else f) = f' at h ⊢
        by_cases h3 : g p' f' = 0
        · rw [if_pos h3] at h ⊢
          rw [judL_take g r0 t (k + 1) p' f' j (by omega), show k + 1 + j = k + (j + 1) by omega]
        · rw [if_neg h3] at h; dsimp only at h; omega
theorem judL_app (g : Nat → Nat → Int) (r0 : Bool) (y : List (Bool × Bool)) : ∀ (t : List (Bool × Bool)) (k p f : Nat), (judL g r0 t k p f).1 ≠ 0 → judL g r0 (t ++ y) k p f = judL g r0 t k p f
  | [], k, p, f, h => absurd rfl h
  | (fl, rd) :: t, k, p, f, h => by
    rw [List.cons_append, judL, judL]
    rw [judL] at h
    by_cases h1 : rd ≠ r0
    · rw [if_pos h1, if_pos h1]
    · rw [if_neg h1] at h ⊢
      rw [if_neg h1]
      by_cases h2 : rd = false
      · rw [if_pos h2, if_pos h2]
      · rw [if_neg h2] at h ⊢
        rw [if_neg h2]
        generalize (if fl = true then p else p + 1) = p' at h ⊢
        generalize (if fl = true then f + 1 else f) = f' at h ⊢
        by_cases h3 : g p' f' = 0
        · rw [if_pos h3] at h ⊢
          rw [if_pos h3]
          exact judL_app g r0 y t _ _ _ h
        · rw [if_neg h3, if_neg h3]
theorem judL_le (g : Nat → Nat → Int) (r0 : Bool) : ∀ (t : List (Bool × Bool)) (k p f : Nat), (judL g r0 t k p f).2 ≤ k + t.length ∧ k ≤ (judL g r0 t k p f).2 ∧ ((judL g r0 t k p f).1 = 0 → (judL g r0 t k p f).2 = k + t.length)
  | [], k, p, f => ⟨Nat.le_refl _, Nat.le_refl _, fun _ => rfl⟩
  | (fl, rd) :: t, k, p, f => by
    rw [judL, List.length_cons]
    by_cases h1 : rd ≠ r0
    · rw [if_pos h1]; exact ⟨by dsimp only; omega, by dsimp only; omega, fun h => by simp at h⟩
    · rw [if_neg h1]
      by_cases h2 : rd = false
      · rw [if_pos h2]
        cases fl
        · exact ⟨by simp <;> omega, by simp, fun h => by simp at h⟩
        · exact ⟨by simp <;> omega, by simp, fun h => by simp at h⟩
      · rw [if_neg h2]
        generalize (if fl = true then p else p + 1) = p'
        generalize (if fl = true then f + 1 else f) = f'
        by_cases h3 : g p' f' = 0
        · rw [if_pos h3]
          obtain ⟨h4, h5, h6⟩ := judL_le g r0 t (k + 1) p' f'
          exact ⟨by omega, by omega, fun h => by have := h6 h; omega⟩
        · rw [if_neg h3]; exact ⟨by dsimp only; omega, by dsimp only; omega, fun h => absurd h h3⟩
theorem jud_take {g : Nat → Nat → Int} {xs : List (Bool × Bool)} {j : Nat} (h : j < (jud g xs).2) : jud g (xs.take j) = (0, j) := by
  cases xs with
  | nil => simp [jud] at h
  | cons y t =>
    obtain ⟨fl, rd⟩ := y
    cases j with
    | zero => rfl
    | succ j =>
      cases fl
      · simp [jud] at h
      · have e : ∀ t, jud g ((true, rd) :: t) = judL g rd t 1 0 0 := fun t => rfl
        rw [e] at h
        rw [List.take_succ_cons, e, judL_take g rd t 1 0 0 j (by omega), show 1 + j = j + 1 by omega]
theorem jud_app {g : Nat → Nat → Int} {xs : List (Bool × Bool)} (y : List (Bool × Bool)) (h : (jud g xs).1 ≠ 0) : jud g (xs ++ y) = jud g xs := by
  cases xs with
  | nil => exact absurd rfl h
  | cons x t =>
    obtain ⟨fl, rd⟩ := x
    cases fl
    · rfl
    · exact judL_app g rd y t 1 0 0 h
theorem jud_le (g : Nat → Nat → Int) (xs : List (Bool × Bool)) : (jud g xs).2 ≤ xs.length ∧ ((jud g xs).1 = 0 → (jud g xs).2 = xs.length) := by
  cases xs with
  | nil => exact ⟨Nat.le_refl _, fun _ => rfl⟩
  | cons x t =>
    obtain ⟨fl, rd⟩ := x
    cases fl
    · exact ⟨by simp [jud], fun h => by simp [jud] at h⟩
    · obtain ⟨h1, -, h3⟩ := judL_le g rd t 1 0 0
      have e : jud g ((true, rd) :: t) = judL g rd t 1 0 0 := rfl
      rw [e, List.length_cons]
      exact ⟨by omega, fun h => by have := h3 h; omega⟩
theorem OA.drew {w0 w : World} {T : Nat} {A : Option Addr} {m c : Nat} {l : List (Bool × Bool)} (h : OA w0 w T A m c l) : OA w0 w.drew T A m c l := h.below (Dr.below ⟨1, rfl⟩)
theorem step_app_atts {w0 w : World} {ops : Array Oper} {o : Oper} {a : Act} {K : Act → World → Prop} {Q : Exit → Act → World → Prop} {E : Prop} (hgd : o.guard = none) (s x : Operand) (t : TypeId) (ht : Tryz.prog.underlying t = some (.slice 80))
    (ho : o.op = .call { callee := .builtin .append, args := #[s, x], argTypes := #[t, t] })
    (T : Nat) (A : Option Addr) (m c : Nat) (l : List (Bool × Bool)) (B : Option Addr) (k d : Nat) (M : List (Bool × Bool)) (hs : a.eval s = .slice A m c) (hx : a.eval x = .slice B k d) (hO : OA w0 w T A m c l) (hR : Rs w none 2 atv B M) (hM : M.length = k) (h63 : m + k ≤ 4294967296)
    (h : ∀ A' c' w', OA w0 w' T A' (m + k) c' (l ++ M) → Fr w w' (fun b => (Value.slice A m c).ownBlock = some b) → K (a.put o.dst (.slice A' (m + k) c')) w') :
    if Region.wanted o (yielded ops a.tmps) = true then Oper.wp Tryz.prog o a w K Q else E := by
  refine step_append _ hgd s x t ho w0.heap.size 80 _ 2 2 ht info80 rfl (by omega) (.slice A m c) m l hs hO.own B k d M hx hR hM atv_len atv_one h63 (by omega) hO.fr.size ?_
  intro A' c' w' hown hgr _
  refine h A' c' w' ⟨hown, by simp [hO.len, hM], hO.fr.grown hgr ?_⟩ ⟨hgr.os, hgr.tape, hgr.output, hgr.size, fun k hk hS => hgr.block k hk (fun e => hS e.symm)⟩
  intro g hg
  exact .inl (hO.lo hg).1
theorem wl_app_atts {w0 w : World} {ops : Array Oper} {rest : List Oper} {o : Oper} {a : Act} {Q : Exit → Act → World → Prop} (hgd : o.guard = none) (s x : Operand) (t : TypeId) (ht : Tryz.prog.underlying t = some (.slice 80))
    (ho : o.op = .call { callee := .builtin .append, args := #[s, x], argTypes := #[t, t] })
    (T : Nat) (A : Option Addr) (m c : Nat) (l : List (Bool × Bool)) (B : Option Addr) (k d : Nat) (M : List (Bool × Bool)) (hs : a.eval s = .slice A m c) (hx : a.eval x = .slice B k d) (hO : OA w0 w T A m c l) (hR : Rs w none 2 atv B M) (hM : M.length = k) (h63 : m + k ≤ 4294967296)
    (h : ∀ A' c' w', OA w0 w' T A' (m + k) c' (l ++ M) → Fr w w' (fun b => (Value.slice A m c).ownBlock = some b) → wpList Tryz.prog ops Q rest (a.put o.dst (.slice A' (m + k) c')) w') :
    wpList Tryz.prog ops Q (o :: rest) a w := by
  refine wl_append _ hgd s x t ho w0.heap.size 80 _ 2 2 ht info80 rfl (by omega) (.slice A m c) m l hs hO.own B k d M hx hR hM atv_len atv_one h63 (by omega) hO.fr.size ?_
  intro A' c' w' hown hgr _
  refine h A' c' w' ⟨hown, by simp [hO.len, hM], hO.fr.grown hgr ?_⟩ ⟨hgr.os, hgr.tape, hgr.output, hgr.size, fun k hk hS => hgr.block k hk (fun e => hS e.symm)⟩
  intro g hg
  exact .inl (hO.lo hg).1
end Go.Proofs.YtnokfhkcfebimaaGreat

/- Plain laws: how many further attempts can decide. -/
namespace Go.Proofs.YtnokfhkcfebimaaGreat
open Go.RowKit

theorem judL_zero {d : Nat → Nat → Int} {M : Nat} (r0 : Bool) : ∀ (t : List (Bool × Bool)) (k p f : Nat), (judL (aftQ d M) r0 t k p f).1 = 0 → p + f < M →
    (∀ x ∈ t, x.2 = r0) ∧ (t ≠ [] → r0 = true) ∧ p + f + t.length < M ∧ cntF t ≤ t.length ∧
      ∀ y, judL (aftQ d M) r0 (t ++ y) k p f = judL (aftQ d M) r0 y (k + t.length) (p + (t.length - cntF t)) (f + cntF t)
  | [], k, p, f, _, hM => ⟨by simp, by simp, by simpa using hM, by simp [cntF], fun y => by simp [cntF]⟩
  | (fl, rd) :: t, k, p, f, h, hM => by
    rw [judL] at h
    by_cases h1 : rd ≠ r0
    · rw [if_pos h1] at h; simp at h
    · rw [if_neg h1] at h
      have h1 : rd = r0 := Classical.not_not.1 h1
      by_cases h2 : rd = false
      · rw [if_pos h2] at h
        cases fl <;> simp at h
      · rw [if_neg h2] at h
        have hr : r0 = true := by rw [← h1]; simpa using h2
        obtain ⟨z, hz, hz1⟩ : ∃ z : Nat, z = (if fl then 1 else 0) ∧ z ≤ 1 := ⟨_, rfl, by cases fl <;> simp⟩
        have ep : (if fl then p else p + 1) = p + (1 - z) := by rw [hz]; cases fl <;> rfl
        have ef : (if fl then f + 1 else f) = f + z := by rw [hz]; cases fl <;> rfl
        rw [ep, ef] at h
        by_cases h3 : aftQ d M (p + (1 - z)) (f + z) = 0
        · rw [if_pos h3] at h
          have h4 := aft_go (by omega) h3
          obtain ⟨h5, -, h6, h7, h8⟩ := judL_zero r0 t (k + 1) _ _ h h4
          have hc : cntF ((fl, rd) :: t) = z + cntF t := by
            unfold cntF
            rw [hz]
            cases fl <;> simp [List.countP_cons] <;> omega
          refine ⟨fun x hx => ?_, fun _ => hr, by rw [List.length_cons]; omega, by rw [hc, List.length_cons]; omega, fun y => ?_⟩
          · rcases List.mem_cons.1 hx with rfl | hx
            · exact h1
            · exact h5 x hx
          · rw [List.cons_append, judL, if_neg (by simp [h1]), if_neg h2, ep, ef, if_pos h3, h8, hc, List.length_cons]
            rw [show k + 1 + t.length = k + (t.length + 1) by omega, show p + (1 - z) + (t.length - cntF t) = p + (t.length + 1 - (z + cntF t)) by omega, show f + z + cntF t = f + (z + cntF t) by omega]
        · rw [if_neg h3] at h; exact absurd h h3
/-- m further runs, all alike, can decide, and no fewer. -/
def lstP (g : Nat → Nat → Int) (p f m : Nat) : Prop := 1 ≤ m ∧ (g (p + m) f ≠ 0 ∨ g p (f + m) ≠ 0) ∧ ∀ j, 1 ≤ j → j < m → g (p + j) f = 0 ∧ g p (f + j) = 0
/-- What Least returns. -/
def IsLv (g : Nat → Nat → Int) (M : Nat) (xs : List (Bool × Bool)) (L : Nat) : Prop :=
  ((jud g xs).1 ≠ 0 ∧ L = 0) ∨
  ((jud g xs).1 = 0 ∧ xs = [] ∧ L = 1) ∨
  ((jud g xs).1 = 0 ∧ xs = [(true, false)] ∧ L = 1) ∨
  ∃ (t : List (Bool × Bool)), (jud g xs).1 = 0 ∧ xs = (true, true) :: t ∧ cntF t ≤ t.length ∧ t.length < M ∧ lstP g (t.length - cntF t) (cntF t) L ∧ (∀ x ∈ t, x.2 = true) ∧
    ∀ y, jud g (xs ++ y) = judL g true y (1 + t.length) (t.length - cntF t) (cntF t)
theorem jud_zero {d : Nat → Nat → Int} {M : Nat} (hM : 1 ≤ M) {xs : List (Bool × Bool)} (h : (jud (aftQ d M) xs).1 = 0) :
    xs = [] ∨ xs = [(true, false)] ∨ ∃ t, xs = (true, true) :: t ∧ cntF t ≤ t.length ∧ t.length < M ∧ (∀ x ∈ t, x.2 = true) ∧ ∀ y, jud (aftQ d M) (xs ++ y) = judL (aftQ d M) true y (1 + t.length) (t.length - cntF t) (cntF t) := by
  cases xs with
  | nil => exact .inl rfl
  | cons x t =>
    obtain ⟨fl, rd⟩ := x
    cases fl
    · simp [jud] at h
    · have e : ∀ t, jud (aftQ d M) ((true, rd) :: t) = judL (aftQ d M) rd t 1 0 0 := fun t => rfl
      rw [e] at h
      obtain ⟨h1, h2, h3, h4, h5⟩ := judL_zero rd t 1 0 0 h (by omega)
      cases rd
      · cases t with
        | nil => exact .inr (.inl rfl)
        | cons y t => exact absurd (h2 (by simp)) (by simp)
      · refine .inr (.inr ⟨t, rfl, h4, by omega, h1, fun y => ?_⟩)
        rw [List.cons_append, e, h5 y]
        simp
theorem aft_last {d : Nat → Nat → Int} {M p f : Nat} (h : p + f = M) : aftQ d M p f ≠ 0 := fun h0 => by
  have := aft_go (Nat.le_of_eq h) h0
  omega
end Go.Proofs.YtnokfhkcfebimaaGreat

/- Plain law: the verdict of attempts is that of the first prefix which has one. -/
namespace Go.Proofs.YtnokfhkcfebimaaGreat
open Go.RowKit

/-- The verdict after all attempts: the first one x, the last one y, those behind the first t. -/
def lastV (g : Nat → Nat → Int) (x y : Bool × Bool) (t : List (Bool × Bool)) : Int :=
  if x.1 = false then 5 else if y.2 ≠ x.2 then 4 else if t = [] then 0 else if x.2 = false then (if ((t.head?.map (·.1)).getD false) = true then 1 else 4) else g (t.length - cntF t) (cntF t)
def lastQ (g : Nat → Nat → Int) (xs : List (Bool × Bool)) : Int := match xs with
  | [] => 0
  | x :: t => lastV g x ((x :: t).getLast?.getD x) t
theorem lastQ_one (g : Nat → Nat → Int) (r0 : Bool) : lastQ g [(true, r0)] = 0 := by simp [lastQ, lastV]
theorem cntF_snoc (pre : List (Bool × Bool)) (x : Bool × Bool) : cntF (pre ++ [x]) = cntF pre + if x.1 then 1 else 0 := by
  unfold cntF
  rw [List.countP_append]
  obtain ⟨a, b⟩ := x
  cases a <;> simp
theorem cntF_le' (l : List (Bool × Bool)) : cntF l ≤ l.length := List.countP_le_length
theorem lastQ_snoc (g : Nat → Nat → Int) (r0 : Bool) (pre : List (Bool × Bool)) (fl rd : Bool) (hp : pre ≠ [] → r0 = true) :
    lastQ g ((true, r0) :: (pre ++ [(fl, rd)])) = if rd ≠ r0 then 4 else if rd = false then (if fl then 1 else 4) else g (pre.length - cntF pre + if fl then 0 else 1) (cntF pre + if fl then 1 else 0) := by
  have e1 : ((true, r0) :: (pre ++ [(fl, rd)])).getLast? = some (fl, rd) := by
    rw [← List.cons_append, List.getLast?_append]; rfl
  show lastV g (true, r0) (((true, r0) :: (pre ++ [(fl, rd)])).getLast?.getD (true, r0)) (pre ++ [(fl, rd)]) = _
  rw [e1]
  unfold lastV
  simp only [Option.getD_some]
  rw [if_neg (by simp)]
  by_cases h : rd ≠ r0
  · rw [if_pos h, if_pos h]
  · rw [if_neg h, if_neg h, if_neg (by simp)]
    have h' : rd = r0 := Classical.not_not.1 h
    by_cases h2 : rd = false
    · rw [if_pos h2, if_pos (by rw [← h', h2])]
      obtain rfl : pre = [] := Classical.byContradiction fun hne => by have := hp hne; rw [← h', h2] at this; cases this
      rfl
    · rw [if_neg h2, if_neg (by rw [← h']; exact h2), cntF_snoc, List.length_append]
      have := cntF_le' pre
      cases fl
      · simp only [Bool.false_eq_true, if_false, Nat.add_zero, List.length_singleton]
        rw [show pre.length + 1 - cntF pre = pre.length - cntF pre + 1 by omega]
      · simp only [if_true, Nat.add_zero, List.length_singleton]
        rw [show pre.length + 1 - (cntF pre + 1) = pre.length - cntF pre by omega]
theorem judL_first (g : Nat → Nat → Int) (r0 : Bool) : ∀ (t pre : List (Bool × Bool)), (pre ≠ [] → r0 = true) →
    (∃ j, 1 ≤ j ∧ j ≤ t.length ∧ lastQ g ((true, r0) :: (pre ++ t.take j)) ≠ 0 ∧ (∀ i, 1 ≤ i → i < j → lastQ g ((true, r0) :: (pre ++ t.take i)) = 0) ∧ judL g r0 t (1 + pre.length) (pre.length - cntF pre) (cntF pre) = (lastQ g ((true, r0) :: (pre ++ t.take j)), 1 + pre.length + j)) ∨
    ((∀ i, 1 ≤ i → i ≤ t.length → lastQ g ((true, r0) :: (pre ++ t.take i)) = 0) ∧ judL g r0 t (1 + pre.length) (pre.length - cntF pre) (cntF pre) = (0, 1 + pre.length + t.length))
  | [], pre, hp => .inr ⟨fun i h1 h2 => by simp at h2; omega, rfl⟩
  | (fl, rd) :: t, pre, hp => by
    have h1 := lastQ_snoc g r0 pre fl rd hp
    have hc := cntF_le' pre
    have step : judL g r0 ((fl, rd) :: t) (1 + pre.length) (pre.length - cntF pre) (cntF pre) = if lastQ g ((true, r0) :: (pre ++ [(fl, rd)])) = 0 then judL g r0 t (1 + (pre ++ [(fl, rd)]).length) ((pre ++ [(fl, rd)]).length - cntF (pre ++ [(fl, rd)])) (cntF (pre ++ [(fl, rd)])) else (lastQ g ((true, r0) :: (pre ++ [(fl, rd)])), 1 + pre.length + 1) := by
      rw [judL, h1]
      by_cases h2 : rd ≠ r0
      · rw [if_pos h2, if_pos h2, if_neg (by decide)]
      · rw [if_neg h2, if_neg h2]
        by_cases h3 : rd = false
        · rw [if_pos h3, if_pos h3]
          cases fl
          · simp
          · simp
        · rw [if_neg h3, if_neg h3, cntF_snoc, List.length_append, List.length_singleton]
          cases fl
          · simp only [Bool.false_eq_true, if_false, Nat.add_zero]
            rw [show pre.length + 1 - cntF pre = pre.length - cntF pre + 1 by omega, show 1 + (pre.length + 1) = 1 + pre.length + 1 by omega]
          · simp only [if_true, Nat.add_zero]
            rw [show pre.length + 1 - (cntF pre + 1) = pre.length - cntF pre by omega, show 1 + (pre.length + 1) = 1 + pre.length + 1 by omega]
    rw [step]
    by_cases h0 : lastQ g ((true, r0) :: (pre ++ [(fl, rd)])) = 0
    · rw [if_pos h0]
      have hr : r0 = true := by
        rw [h1] at h0
        by_cases h2 : rd ≠ r0
        · rw [if_pos h2] at h0; simp at h0
        · rw [if_neg h2] at h0
          by_cases h3 : rd = false
          · rw [if_pos h3] at h0; cases fl <;> simp at h0
          · have := Classical.not_not.1 h2
            rw [← this]; simpa using h3
      have ih := judL_first g r0 t (pre ++ [(fl, rd)]) (fun _ => hr)
      have e : ∀ j, (true, r0) :: ((pre ++ [(fl, rd)]) ++ t.take j) = (true, r0) :: (pre ++ ((fl, rd) :: t).take (j + 1)) := fun j => by
        rw [List.take_succ_cons, List.append_assoc]; rfl
      have el : (pre ++ [(fl, rd)]).length = pre.length + 1 := by simp
      rcases ih with ⟨j, j1, j2, j3, j4, j5⟩ | ⟨j1, j2⟩
      · rw [e] at j3 j5
        refine .inl ⟨j + 1, by omega, by rw [List.length_cons]; omega, j3, fun i i1 i2 => ?_, by rw [j5, el]; congr 1; omega⟩
        by_cases hi : i = 1
        · subst hi; simpa using h0
        · have := j4 (i - 1) (by omega) (by omega)
          rw [e, show i - 1 + 1 = i by omega] at this
          exact this
      · refine .inr ⟨fun i i1 i2 => ?_, by rw [j2, el, List.length_cons]; congr 1; omega⟩
        rw [List.length_cons] at i2
        by_cases hi : i = 1
        · subst hi; simpa using h0
        · have := j1 (i - 1) (by omega) (by omega)
          rw [e, show i - 1 + 1 = i by omega] at this
          exact this
    · rw [if_neg h0]
      exact .inl ⟨1, by omega, by rw [List.length_cons]; omega, by simpa using h0, fun i h2 h3 => by omega, by simp⟩
/-- The first prefix with a verdict. -/
theorem jud_pref (g : Nat → Nat → Int) (xs : List (Bool × Bool)) :
    (∃ n, 1 ≤ n ∧ n ≤ xs.length ∧ lastQ g (xs.take n) ≠ 0 ∧ (∀ i, 1 ≤ i → i < n → lastQ g (xs.take i) = 0) ∧ jud g xs = (lastQ g (xs.take n), n)) ∨
    ((∀ i, 1 ≤ i → i ≤ xs.length → lastQ g (xs.take i) = 0) ∧ jud g xs = (0, xs.length)) := by
  cases xs with
  | nil => exact .inr ⟨fun i h1 h2 => by simp at h2; omega, rfl⟩
  | cons x t =>
    obtain ⟨fl, r0⟩ := x
    cases fl
    · exact .inl ⟨1, by omega, by simp, by simp [lastQ, lastV], fun i h1 h2 => by omega, by simp [lastQ, lastV, jud]⟩
    · have h := judL_first g r0 t [] (fun h => absurd rfl h)
      have e : jud g ((true, r0) :: t) = judL g r0 t (1 + ([] : List (Bool × Bool)).length) (([] : List (Bool × Bool)).length - cntF []) (cntF []) := rfl
      rw [e]
      have e2 : ∀ j, (true, r0) :: ([] ++ t.take j) = ((true, r0) :: t).take (j + 1) := fun j => rfl
      rcases h with ⟨j, j1, j2, j3, j4, j5⟩ | ⟨j1, j2⟩
      · rw [e2] at j3 j5
        refine .inl ⟨j + 1, by omega, by rw [List.length_cons]; omega, j3, fun i i1 i2 => ?_, by rw [j5]; simp; omega⟩
        by_cases hi : i = 1
        · subst hi; exact lastQ_one g r0
        · have := j4 (i - 1) (by omega) (by omega)
          rw [e2, show i - 1 + 1 = i by omega] at this
          exact this
      · refine .inr ⟨fun i i1 i2 => ?_, by rw [j2]; simp; omega⟩
        rw [List.length_cons] at i2
        by_cases hi : i = 1
        · subst hi; exact lastQ_one g r0
        · have := j1 (i - 1) (by omega) (by omega)
          rw [e2, show i - 1 + 1 = i by omega] at this
          exact this
theorem jud_stop {g : Nat → Nat → Int} {xs : List (Bool × Bool)} {n : Nat} (h1 : 1 ≤ n) (h2 : n ≤ xs.length) (h3 : lastQ g (xs.take n) ≠ 0) (h4 : ∀ i, 1 ≤ i → i < n → lastQ g (xs.take i) = 0) : jud g xs = (lastQ g (xs.take n), n) := by
  rcases jud_pref g xs with ⟨m, m1, m2, m3, m4, m5⟩ | ⟨m1, m2⟩
  · obtain rfl : m = n := by
      rcases Nat.lt_trichotomy m n with h | h | h
      · exact absurd (h4 m m1 h) m3
      · exact h
      · exact absurd (m4 n h1 h) h3
    exact m5
  · exact absurd (m1 n h1 h2) h3
theorem jud_none {g : Nat → Nat → Int} {xs : List (Bool × Bool)} (h4 : ∀ i, 1 ≤ i → i ≤ xs.length → lastQ g (xs.take i) = 0) : jud g xs = (0, xs.length) := by
  rcases jud_pref g xs with ⟨m, m1, m2, m3, m4, m5⟩ | ⟨m1, m2⟩
  · exact absurd (h4 m m1 m2) m3
  · exact m2
theorem lst_uniq {g : Nat → Nat → Int} {p f m n : Nat} (h : lstP g p f m) (k : lstP g p f n) : m = n := by
  obtain ⟨h1, h2, h3⟩ := h
  obtain ⟨k1, k2, k3⟩ := k
  rcases Nat.lt_trichotomy m n with h | h | h
  · obtain ⟨a, b⟩ := k3 m h1 h; rcases h2 with c | c; exact absurd a c; exact absurd b c
  · exact h
  · obtain ⟨a, b⟩ := h3 n k1 h; rcases k2 with c | c; exact absurd a c; exact absurd b c
theorem lv_uniq {g : Nat → Nat → Int} {M : Nat} {xs : List (Bool × Bool)} {m n : Nat} (h : IsLv g M xs m) (k : IsLv g M xs n) : m = n := by
  rcases h with ⟨h0, rfl⟩ | ⟨h0, rfl, rfl⟩ | ⟨h0, rfl, rfl⟩ | ⟨t, h0, rfl, h1, h2, h3, h4, h5⟩
  · rcases k with ⟨k0, rfl⟩ | ⟨k0, _⟩ | ⟨k0, _⟩ | ⟨t, k0, _⟩
    · rfl
    · exact absurd k0 h0
    · exact absurd k0 h0
    · exact absurd k0 h0
  · rcases k with ⟨k0, rfl⟩ | ⟨k0, _, rfl⟩ | ⟨k0, k1, rfl⟩ | ⟨t, k0, k1, _⟩
    · exact absurd h0 k0
    · rfl
    · cases k1
    · cases k1
  · rcases k with ⟨k0, rfl⟩ | ⟨k0, k1, rfl⟩ | ⟨k0, k1, rfl⟩ | ⟨t, k0, k1, _⟩
    · exact absurd h0 k0
    · cases k1
    · rfl
    · simp at k1
  · rcases k with ⟨k0, rfl⟩ | ⟨k0, k1, rfl⟩ | ⟨k0, k1, rfl⟩ | ⟨t', k0, k1, k2, k3, k4, k5⟩
    · exact absurd h0 k0
    · cases k1
    · simp at k1
    · obtain rfl : t = t' := by simpa using k1
      exact lst_uniq h3 k4
/-- All alike behind the attempts. -/
theorem lastQ_rep (g : Nat → Nat → Int) (t : List (Bool × Bool)) (b : Bool) (n : Nat) (hn : 1 ≤ n) : lastQ g ((true, true) :: (t ++ List.replicate n (b, true))) = g (t.length - cntF t + if b then 0 else n) (cntF t + if b then n else 0) := by
  obtain ⟨m, rfl⟩ : ∃ m, n = m + 1 := ⟨n - 1, by omega⟩
  have hc : ∀ m, cntF (t ++ List.replicate m (b, true)) = cntF t + if b then m else 0 := fun m => by
    unfold cntF
    rw [List.countP_append, List.countP_replicate]
  rw [List.replicate_succ', ← List.append_assoc, lastQ_snoc g true _ b true (fun _ => rfl), if_neg (by simp), if_neg (by simp), hc, List.length_append, List.length_replicate]
  have := cntF_le' t
  cases b
  · simp only [Bool.false_eq_true, if_false, Nat.add_zero]
    rw [show t.length + m - cntF t + 1 = t.length - cntF t + (m + 1) by omega]
  · simp only [if_true, Nat.add_zero]
    rw [show t.length + m - (cntF t + m) = t.length - cntF t by omega, Nat.add_assoc]
end Go.Proofs.YtnokfhkcfebimaaGreat

/- Contract: the reference's last. -/
namespace Go.Proofs.YtnokfhkcfebimaaGreat
open Go.RowKit

theorem wrapK {p : Nat} (h : p ≤ 100) : wrap64 (p : Int) = (p : Int) := IntWalk.wrap64_in _ ⟨by omega, by omega⟩
set_option maxRecDepth 100000 in
set_option maxHeartbeats 16000000 in
theorem r25last_ok (w : World) (s : Sv) (l h a b : Rat) (M : Nat) (A : Option Addr) (n c : Nat) (x y : Bool × Bool) (t : List (Bool × Bool)) (hq : SQ w s) (hk : OKs s l h a b M) (hR : Rs w none 2 atv A (x :: t)) (hy : (x :: t)[t.length]? = some y) (hM : t.length ≤ M) (hn : n = t.length + 1) :
    Calls Tryz.prog 54 #[.agg #[.slice s.l.A s.l.n s.l.c, .slice s.l.B s.l.m s.l.d, .slice s.h.A s.h.n s.h.c, .slice s.h.B s.h.m s.h.d, .slice s.a.A s.a.n s.a.c, .slice s.a.B s.a.m s.a.d, .slice s.b.A s.b.n s.b.c, .slice s.b.B s.b.m s.b.d, .int .i64 s.m], .slice A n c] w fun e w' => e = .returned (.int .i64 (lastV (aftQ (decQ l h a b) M) x y t)) ∧ Below w.heap.size w w' := by
  have hm2 := hk.m2
  have HQ := hide hq
  have HK := hide hk
  obtain ⟨bb, o, rfl, hb0, c0, c1⟩ := atts_at hR (k := 0) rfl
  obtain ⟨b', o', hA, -, -, cl⟩ := atts_at hR hy
  obtain ⟨rfl, rfl⟩ : bb = b' ∧ o = o' := by simpa using hA
  simp only [Nat.zero_mul, Nat.add_zero] at c0 c1
  have HEL := hide (show ∀ (j : Nat) (z : Bool × Bool), t[j]? = some z → w.cell? ⟨bb, o + (j + 1) * 2, none⟩ = some (.bool z.1) from fun j z hz => by
    obtain ⟨b', o', h1, h2, h3, h4⟩ := atts_at hR (k := j + 1) (x := z) (by simpa using hz)
    obtain ⟨rfl, rfl⟩ : bb = b' ∧ o = o' := by simpa using h1
    exact h3)
  obtain ⟨k, hkt⟩ : ∃ k, k = t.length := ⟨_, rfl⟩
  rw [← hkt] at cl hM hn
  subst hn
  have HKT := hide hkt
  obtain ⟨x1, x2⟩ := x
  obtain ⟨y1, y2⟩ := y
  dsimp only at c0 c1 cl
  clear hq hk hR hy hkt hA
  have hk0 : (0 : Int) ≤ (k : Int) := by omega
  have hk32 : k ≤ 32 := by omega
  have hk1a : (k : Int) < (k : Int) + 1 := by omega
  have hk1b : decide ((k : Int) < (k : Int) + 1) = true := decide_eq_true hk1a
  have hk1c : k < k + 1 := by omega
  have e9 : (k : Int) + 1 - 1 = (k : Int) := by omega
  have HWK := hide (show wrap64 ((k : Int) + 1 - 1) = (k : Int) from by rw [e9]; exact wrapK (by omega))
  have hw3 : IntKind.i64.wrap ((k : Int) + 1 - 1) = (k : Int) := by rw [e9]; exact IntWalk.i64_in _ (by omega)
  have hw4 : IntKind.i64.wrap (k : Int) = (k : Int) := IntWalk.i64_in _ (by omega)
  clear e9
  have hw2 := HWK.out
  cases x1
  · skip
    go_enter Tryz.func54, Tryz.ntmps54
    go_upto_region 1 with (fail)
    generalize hW : World.alloc w _ = v
    have HF := hide (show FS w v w.heap.size s by rw [← hW]; exact FS.mk0 HQ.out _)
    have e0 : v.cell? ⟨bb, o, none⟩ = some (.bool false) := (HF.out.bw.cell (by exact hb0)).trans c0
    have e1 : v.cell? ⟨bb, o + 1, none⟩ = some (.bool x2) := (HF.out.bw.cell (by exact hb0)).trans c1
    have el : v.cell? ⟨bb, o + k * 2 + 1, none⟩ = some (.bool y2) := (HF.out.bw.cell (by exact hb0)).trans cl
    have hbv : bb < v.heap.size := Nat.lt_of_lt_of_le hb0 HF.out.bw.size
    clear hW c0 c1 cl
    go_wp2_with fail
    refine bodyPost_ret (v := .int .i64 5) (by simp [results, Tryz.results54, go_sem, *]) rfl ⟨by simp [lastV], HF.out.bw⟩
  · by_cases hyx : y2 = x2
    · subst hyx
      by_cases hk1 : k = 0
      · obtain rfl : t = [] := List.eq_nil_of_length_eq_zero (HKT.out.symm.trans hk1)
        have f1 : ((k : Int) + 1 == 1) = true := by simp; omega
        have f2 : (k : Int) + 1 = 1 := by omega
        have f3 : decide ((k : Int) + 1 = 1) = true := decide_eq_true f2
        have f4 : (k : Int) = 0 := by omega
        have HFS := hide (And.intro f1 (And.intro f2 (And.intro f3 f4)))
        clear f1 f2 f3 f4 hk1
        go_enter Tryz.func54, Tryz.ntmps54
        go_upto_region 1 with (fail)
        generalize hW : World.alloc w _ = v
        have HF := hide (show FS w v w.heap.size s by rw [← hW]; exact FS.mk0 HQ.out _)
        have e0 : v.cell? ⟨bb, o, none⟩ = some (.bool true) := (HF.out.bw.cell (by exact hb0)).trans c0
        have e1 : v.cell? ⟨bb, o + 1, none⟩ = some (.bool y2) := (HF.out.bw.cell (by exact hb0)).trans c1
        have el : v.cell? ⟨bb, o + k * 2 + 1, none⟩ = some (.bool y2) := (HF.out.bw.cell (by exact hb0)).trans cl
        have hbv : bb < v.heap.size := Nat.lt_of_lt_of_le hb0 HF.out.bw.size
        clear hW c0 c1 cl
        go_upto_region 4 with (fail)
        go_region_held3 (fun W => W.cell? ⟨bb, o + k * 2 + 1, none⟩ = some (.bool y2) ∧ W.cell? ⟨bb, o + 1, none⟩ = some (.bool y2)) (first | (go_keep; done) | ((try dsimp only); (repeat' apply And.intro) <;> first | (go_keep; done) | ((repeat rw [World.cell?_setCell_other _ _ _ _ (by intro h; injection h; omega)]); go_keep; done))) (fail)
        obtain ⟨f1, f2, f3, f4⟩ := HFS.out
        go_wp2_with fail
        refine bodyPost_ret (v := .int .i64 0) (by simp [results, Tryz.results54, go_sem, *]) rfl ⟨by simp [lastV], by first | exact HF.out.bw | exact HF.out.bw.drew⟩
      · have htn : t ≠ [] := fun e => by have := HKT.out; rw [e] at this; simp at this; omega
        have f1 : ((k : Int) + 1 == 1) = false := by simp; omega
        have f2 : ¬ ((k : Int) + 1 = 1) := by omega
        have f3 : decide ((k : Int) + 1 = 1) = false := decide_eq_false f2
        have f4 : ¬ ((k : Int) = 0) := by omega
        have hkp : (0 : Int) < (k : Int) := by omega
        have hkp2 : 0 < k := by omega
        cases y2
        · obtain ⟨z, hz⟩ : ∃ z, t[0]? = some z := ⟨_, List.getElem?_eq_getElem (by have := HKT.out; omega)⟩
          have cz := HEL.out 0 z hz
          obtain ⟨z1, z2⟩ := z
          have HZ := hide (show (t.head?.map (·.1)).getD false = z1 by rw [List.head?_eq_getElem?, hz]; rfl)
          dsimp only at cz
          have HT := hide htn
          clear hz htn
          cases z1
          · skip
            go_enter Tryz.func54, Tryz.ntmps54
            go_upto_region 1 with (fail)
            generalize hW : World.alloc w _ = v
            have HF := hide (show FS w v w.heap.size s by rw [← hW]; exact FS.mk0 HQ.out _)
            have e0 : v.cell? ⟨bb, o, none⟩ = some (.bool true) := (HF.out.bw.cell (by exact hb0)).trans c0
            have e1 : v.cell? ⟨bb, o + 1, none⟩ = some (.bool false) := (HF.out.bw.cell (by exact hb0)).trans c1
            have el : v.cell? ⟨bb, o + k * 2 + 1, none⟩ = some (.bool false) := (HF.out.bw.cell (by exact hb0)).trans cl
            have hbv : bb < v.heap.size := Nat.lt_of_lt_of_le hb0 HF.out.bw.size
            clear hW c0 c1 cl
            have ez : v.cell? ⟨bb, o + 2, none⟩ = some (.bool false) := (HF.out.bw.cell (by exact hb0)).trans cz
            clear cz
            go_upto_region 4 with (fail)
            go_region_held3 (fun W => W.cell? ⟨bb, o + k * 2 + 1, none⟩ = some (.bool false) ∧ W.cell? ⟨bb, o + 1, none⟩ = some (.bool false)) (first | (go_keep; done) | ((try dsimp only); (repeat' apply And.intro) <;> first | (go_keep; done) | ((repeat rw [World.cell?_setCell_other _ _ _ _ (by intro h; injection h; omega)]); go_keep; done))) (fail)
            go_wp2_with fail
            refine bodyPost_ret (v := .int .i64 4) (by simp [results, Tryz.results54, go_sem, *]) rfl ⟨by simp [lastV, HT.out, HZ.out], by first | exact HF.out.bw | exact HF.out.bw.drew⟩
          · skip
            go_enter Tryz.func54, Tryz.ntmps54
            go_upto_region 1 with (fail)
            generalize hW : World.alloc w _ = v
            have HF := hide (show FS w v w.heap.size s by rw [← hW]; exact FS.mk0 HQ.out _)
            have e0 : v.cell? ⟨bb, o, none⟩ = some (.bool true) := (HF.out.bw.cell (by exact hb0)).trans c0
            have e1 : v.cell? ⟨bb, o + 1, none⟩ = some (.bool false) := (HF.out.bw.cell (by exact hb0)).trans c1
            have el : v.cell? ⟨bb, o + k * 2 + 1, none⟩ = some (.bool false) := (HF.out.bw.cell (by exact hb0)).trans cl
            have hbv : bb < v.heap.size := Nat.lt_of_lt_of_le hb0 HF.out.bw.size
            clear hW c0 c1 cl
            have ez : v.cell? ⟨bb, o + 2, none⟩ = some (.bool true) := (HF.out.bw.cell (by exact hb0)).trans cz
            clear cz
            go_upto_region 4 with (fail)
            go_region_held3 (fun W => W.cell? ⟨bb, o + k * 2 + 1, none⟩ = some (.bool false) ∧ W.cell? ⟨bb, o + 1, none⟩ = some (.bool false)) (first | (go_keep; done) | ((try dsimp only); (repeat' apply And.intro) <;> first | (go_keep; done) | ((repeat rw [World.cell?_setCell_other _ _ _ _ (by intro h; injection h; omega)]); go_keep; done))) (fail)
            go_wp2_with fail
            refine bodyPost_ret (v := .int .i64 1) (by simp [results, Tryz.results54, go_sem, *]) rfl ⟨by simp [lastV, HT.out, HZ.out], by first | exact HF.out.bw | exact HF.out.bw.drew⟩
        · have HV := hide (show lastV (aftQ (decQ l h a b) M) (true, true) (y1, true) t = aftQ (decQ l h a b) M (t.length - cntF t) (cntF t) by simp [lastV, htn])
          have hcl := cntF_le' t
          obtain ⟨F, hF⟩ : ∃ F, F = cntF t := ⟨_, rfl⟩
          obtain ⟨P, hP⟩ : ∃ P, P = t.length - cntF t := ⟨_, rfl⟩
          have hPF : P + F = k := by have := HKT.out; omega
          rw [← hP, ← hF] at HV
          have HFF := hide hF
          have hcase : (decQ l h a b P F = 2 ∧ aftQ (decQ l h a b) M P F = 1) ∨ (decQ l h a b P F = 1 ∧ aftQ (decQ l h a b) M P F = 2) ∨ (decQ l h a b P F = 0 ∧ aftQ (decQ l h a b) M P F = if k = M then 3 else 0) := by
            unfold aftQ
            rw [hPF]
            rcases decQ_range l h a b P F with h0 | h0 | h0 <;> rw [h0] <;> simp
          have HPF := hide hPF
          have HCASE := hide hcase
          clear htn hcl hF hP hPF hcase
          go_enter Tryz.func54, Tryz.ntmps54
          go_upto_region 1 with (fail)
          generalize hW : World.alloc w _ = v
          have HF := hide (show FS w v w.heap.size s by rw [← hW]; exact FS.mk0 HQ.out _)
          have e0 : v.cell? ⟨bb, o, none⟩ = some (.bool true) := (HF.out.bw.cell (by exact hb0)).trans c0
          have e1 : v.cell? ⟨bb, o + 1, none⟩ = some (.bool true) := (HF.out.bw.cell (by exact hb0)).trans c1
          have el : v.cell? ⟨bb, o + k * 2 + 1, none⟩ = some (.bool true) := (HF.out.bw.cell (by exact hb0)).trans cl
          have hbv : bb < v.heap.size := Nat.lt_of_lt_of_le hb0 HF.out.bw.size
          clear hW c0 c1 cl
          go_upto_region 4 with (fail)
          go_region_held3 (fun W => W.cell? ⟨bb, o + k * 2 + 1, none⟩ = some (.bool true) ∧ W.cell? ⟨bb, o + 1, none⟩ = some (.bool true)) (first | (go_keep; done) | ((try dsimp only); (repeat' apply And.intro) <;> first | (go_keep; done) | ((repeat rw [World.cell?_setCell_other _ _ _ _ (by intro h; injection h; omega)]); go_keep; done))) (fail)
          have HB0 := hide (show Below v.heap.size v v.drew from (Below.refl _ _).drew)
          go_wp2_with fail
          go_loopw [6, 7, 8] (fun pv fv iv wr => ∃ (p f i : Nat), pv = .int .i64 (p : Int) ∧ fv = .int .i64 (f : Int) ∧ iv = .int .i64 (i : Int) ∧ 1 ≤ i ∧ i ≤ k + 1 ∧ p ≤ 32 ∧ f ≤ 32 ∧ Hid (p + f + 1 = i ∧ f = cntF (t.take (i - 1))) ∧ Hid (Below v.heap.size v wr)) (fun _ _ iv _ => k + 1 - (intOf iv).toNat)
          case atStart => exact ⟨0, 0, 1, rfl, rfl, rfl, by omega, by omega, by omega, by omega, hide ⟨rfl, by simp [cntF]⟩, by first | exact HB0 | exact hide (Below.refl _ _)⟩
          case round =>
            obtain ⟨p, f, i, rfl, rfl, rfl, hi1, hik, hp32, hf32, HC, HBr⟩ := hrel
            have HFr := hide (HF.out.below HBr.out)
            by_cases hiq : i = k + 1
            · have hle : decide ((i : Int) < (k : Int) + 1) = false := decide_eq_false (by omega)
              have hle2 : (k : Int) + 1 ≤ (i : Int) := by omega
              obtain ⟨rfl, rfl⟩ : f = F ∧ p = P := by
                have h1 := HC.out.2
                rw [hiq, Nat.add_sub_cancel, HKT.out, List.take_of_length_le (Nat.le_refl _), ← HFF.out] at h1
                have := HC.out.1
                have := HPF.out
                exact ⟨h1, by omega⟩
              have HPM := hide (show p + f ≤ M by have := HPF.out; omega)
              clear hiq
              obtain ⟨a0, a1, a2, a3, a4, a5, a6, a7, a8, a9⟩ := HFr.out.ca
              rcases HCASE.out with ⟨hd, ha⟩ | ⟨hd, ha⟩ | ⟨hd, ha⟩
              · have HD := hide hd
                rw [ha] at HV
                clear hd ha
                go_wp2_with (go_at_call 87; (with_reducible refine (qdecide_ok _ s l h a b M p f HFr.out.q HK.out HPM.out).mono ?_); rintro e w1 ⟨rfl, hb⟩; rw [HD.out]; have HF1 := hide (HFr.out.below hb); clear hb)
                refine bodyPost_ret (v := .int .i64 1) (by simp [results, Tryz.results54, go_sem, *]) rfl ⟨by rw [HV.out], HF1.out.bw⟩
              · have HD := hide hd
                rw [ha] at HV
                clear hd ha
                go_wp2_with (go_at_call 87; (with_reducible refine (qdecide_ok _ s l h a b M p f HFr.out.q HK.out HPM.out).mono ?_); rintro e w1 ⟨rfl, hb⟩; rw [HD.out]; have HF1 := hide (HFr.out.below hb); clear hb)
                refine bodyPost_ret (v := .int .i64 2) (by simp [results, Tryz.results54, go_sem, *]) rfl ⟨by rw [HV.out], HF1.out.bw⟩
              · have HD := hide hd
                rw [ha] at HV
                by_cases hkm : k = M
                · rw [if_pos hkm] at HV
                  have g1 : (k : Int) = s.m := by rw [HK.out.m]; omega
                  have g2 : ((k : Int) == s.m) = true := by rw [g1]; simp
                  have g3 : decide ((k : Int) = s.m) = true := decide_eq_true g1
                  clear hd ha hkm
                  go_wp2_with (go_at_call 87; (with_reducible refine (qdecide_ok _ s l h a b M p f HFr.out.q HK.out HPM.out).mono ?_); rintro e w1 ⟨rfl, hb⟩; rw [HD.out]; have HF1 := hide (HFr.out.below hb); obtain ⟨b0, b1, b2, b3, b4, b5, b6, b7, b8, b9⟩ := HF1.out.ca; clear hb)
                  refine bodyPost_ret (v := .int .i64 3) (by simp [results, Tryz.results54, go_sem, *]) rfl ⟨by rw [HV.out], HF1.out.bw⟩
                · rw [if_neg hkm] at HV
                  have g1 : ¬ (k : Int) = s.m := by rw [HK.out.m]; omega
                  have g2 : ((k : Int) == s.m) = false := by simp [g1]
                  have g3 : decide ((k : Int) = s.m) = false := decide_eq_false g1
                  clear hd ha hkm
                  go_wp2_with (go_at_call 87; (with_reducible refine (qdecide_ok _ s l h a b M p f HFr.out.q HK.out HPM.out).mono ?_); rintro e w1 ⟨rfl, hb⟩; rw [HD.out]; have HF1 := hide (HFr.out.below hb); obtain ⟨b0, b1, b2, b3, b4, b5, b6, b7, b8, b9⟩ := HF1.out.ca; clear hb)
                  refine bodyPost_ret (v := .int .i64 0) (by simp [results, Tryz.results54, go_sem, *]) rfl ⟨by rw [HV.out], HF1.out.bw⟩
            · have hlt : decide ((i : Int) < (k : Int) + 1) = true := decide_eq_true (by omega)
              have hlt2 : (i : Int) < (k : Int) + 1 := by omega
              have hi0 : (0 : Int) ≤ (i : Int) := by omega
              have hil : i - 1 < t.length := by have := HKT.out; omega
              have hzx := List.getElem?_eq_getElem hil
              obtain ⟨z, hz⟩ : ∃ z, z = t[i - 1] := ⟨_, rfl⟩
              rw [← hz] at hzx
              have cz0 := HEL.out (i - 1) z hzx
              rw [show i - 1 + 1 = i by omega] at cz0
              obtain ⟨z1, z2⟩ := z
              have cz : wr.cell? ⟨bb, o + i * 2, none⟩ = some (.bool z1) := (HFr.out.bw.cell (by exact hb0)).trans cz0
              have HCN := hide (show f + (if z1 then 1 else 0) = cntF (t.take (i - 1 + 1)) by
                rw [List.take_add_one, hzx, HC.out.2]
                unfold cntF
                rw [List.countP_append]
                cases z1 <;> rfl)
              have hbr : bb < wr.heap.size := Nat.lt_of_lt_of_le hb0 HFr.out.bw.size
              have hpf31 : p + f + 1 ≤ 32 := by have := HC.out.1; omega
              clear hzx hz cz0 hiq
              cases z1
              · go_wp2_with fail
                go_roundw
                case rel => exact ⟨p + 1, f, i + 1, by go_num, rfl, by go_num, by omega, by omega, by omega, by omega, hide ⟨by have := HC.out.1; omega, by have := HCN.out; rw [show i + 1 - 1 = i - 1 + 1 by omega]; simpa using this⟩, HBr⟩
                case measure => simp [intOf] <;> omega
              · go_wp2_with fail
                go_roundw
                case rel => exact ⟨p, f + 1, i + 1, rfl, by go_num, by go_num, by omega, by omega, by omega, by omega, hide ⟨by have := HC.out.1; omega, by have := HCN.out; rw [show i + 1 - 1 = i - 1 + 1 by omega]; simpa using this⟩, HBr⟩
                case measure => simp [intOf] <;> omega
    · have HV := hide (show lastV (aftQ (decQ l h a b) M) (true, x2) (y1, y2) t = 4 by simp [lastV, hyx])
      have hne : (y2 != x2) = true := by simpa using hyx
      cases x2
      · obtain rfl : y2 = true := by simpa using hyx
        go_enter Tryz.func54, Tryz.ntmps54
        go_upto_region 1 with (fail)
        generalize hW : World.alloc w _ = v
        have HF := hide (show FS w v w.heap.size s by rw [← hW]; exact FS.mk0 HQ.out _)
        have e0 : v.cell? ⟨bb, o, none⟩ = some (.bool true) := (HF.out.bw.cell (by exact hb0)).trans c0
        have e1 : v.cell? ⟨bb, o + 1, none⟩ = some (.bool false) := (HF.out.bw.cell (by exact hb0)).trans c1
        have el : v.cell? ⟨bb, o + k * 2 + 1, none⟩ = some (.bool true) := (HF.out.bw.cell (by exact hb0)).trans cl
        have hbv : bb < v.heap.size := Nat.lt_of_lt_of_le hb0 HF.out.bw.size
        clear hW c0 c1 cl
        go_upto_region 4 with (fail)
        go_region_held3 (fun W => W.cell? ⟨bb, o + k * 2 + 1, none⟩ = some (.bool true) ∧ W.cell? ⟨bb, o + 1, none⟩ = some (.bool false)) (first | (go_keep; done) | ((try dsimp only); (repeat' apply And.intro) <;> first | (go_keep; done) | ((repeat rw [World.cell?_setCell_other _ _ _ _ (by intro h; injection h; omega)]); go_keep; done))) (fail)
        go_wp2_with fail
        refine bodyPost_ret (v := .int .i64 4) (by simp [results, Tryz.results54, go_sem, *]) rfl ⟨by rw [HV.out], by first | exact HF.out.bw | exact HF.out.bw.drew⟩
      · obtain rfl : y2 = false := by simpa using hyx
        go_enter Tryz.func54, Tryz.ntmps54
        go_upto_region 1 with (fail)
        generalize hW : World.alloc w _ = v
        have HF := hide (show FS w v w.heap.size s by rw [← hW]; exact FS.mk0 HQ.out _)
        have e0 : v.cell? ⟨bb, o, none⟩ = some (.bool true) := (HF.out.bw.cell (by exact hb0)).trans c0
        have e1 : v.cell? ⟨bb, o + 1, none⟩ = some (.bool true) := (HF.out.bw.cell (by exact hb0)).trans c1
        have el : v.cell? ⟨bb, o + k * 2 + 1, none⟩ = some (.bool false) := (HF.out.bw.cell (by exact hb0)).trans cl
        have hbv : bb < v.heap.size := Nat.lt_of_lt_of_le hb0 HF.out.bw.size
        clear hW c0 c1 cl
        go_upto_region 4 with (fail)
        go_region_held3 (fun W => W.cell? ⟨bb, o + k * 2 + 1, none⟩ = some (.bool false) ∧ W.cell? ⟨bb, o + 1, none⟩ = some (.bool true)) (first | (go_keep; done) | ((try dsimp only); (repeat' apply And.intro) <;> first | (go_keep; done) | ((repeat rw [World.cell?_setCell_other _ _ _ _ (by intro h; injection h; omega)]); go_keep; done))) (fail)
        go_wp2_with fail
        refine bodyPost_ret (v := .int .i64 4) (by simp [results, Tryz.results54, go_sem, *]) rfl ⟨by rw [HV.out], by first | exact HF.out.bw | exact HF.out.bw.drew⟩
end Go.Proofs.YtnokfhkcfebimaaGreat

/- Contracts: the reference's check, Judge. -/
namespace Go.Proofs.YtnokfhkcfebimaaGreat
open Go.RowKit

set_option maxRecDepth 100000 in
set_option maxHeartbeats 8000000 in
theorem r25check_any (w : World) (s : Sv) (A : Option Addr) (n c : Nat) (hq : SQ w s) :
    Calls Tryz.prog 53 #[.agg #[.slice s.l.A s.l.n s.l.c, .slice s.l.B s.l.m s.l.d, .slice s.h.A s.h.n s.h.c, .slice s.h.B s.h.m s.h.d, .slice s.a.A s.a.n s.a.c, .slice s.a.B s.a.m s.a.d, .slice s.b.A s.b.n s.b.c, .slice s.b.B s.b.m s.b.d, .int .i64 s.m], .slice A n c] w fun e w' => e = .returned (.int .i64 (vckE s n)) ∧ Below w.heap.size w w' := by
  have hcase : (s.ok = false ∧ vckE s n = 1) ∨ (s.ok = true ∧ 33 < n ∧ vckE s n = 2) ∨ (s.ok = true ∧ ¬ 33 < n ∧ vckE s n = 0) := by
    unfold vckE
    cases s.ok
    · simp
    · by_cases h : 33 < n <;> simp [h]
  rcases hcase with ⟨h1, h2⟩ | ⟨h1, h3, h2⟩ | ⟨h1, h3, h2⟩
  · have HOK := hide h1
    rw [h2]
    clear h1 h2
    go_enter Tryz.func53, Tryz.ntmps53
    go_upto_region 1 with (fail)
    generalize hW : World.alloc w _ = v
    have HF := hide (show FS w v w.heap.size s by rw [← hW]; exact FS.mk0 hq _)
    obtain ⟨a0, a1, a2, a3, a4, a5, a6, a7, a8, a9⟩ := HF.out.ca
    clear hW hq
    go_wp2_with (go_at_call 45; (with_reducible refine (qcheckv_any _ s HF.out.q).mono ?_); rintro e w1 ⟨rfl, hb⟩; rw [HOK.out]; have HF1 := hide (HF.out.below hb); obtain ⟨b0, b1, b2, b3, b4, b5, b6, b7, b8, b9⟩ := HF1.out.ca; clear hb)
    refine bodyPost_ret (v := .int .i64 1) (by simp [results, Tryz.results53, go_sem, *]) rfl ⟨rfl, HF1.out.bw⟩
  · have HOK := hide h1
    have g1 : decide ((33 : Int) < (n : Int)) = true := decide_eq_true (by omega)
    have g2 : decide (33 < n) = true := decide_eq_true (by omega)
    rw [h2]
    clear h1 h2
    go_enter Tryz.func53, Tryz.ntmps53
    go_upto_region 1 with (fail)
    generalize hW : World.alloc w _ = v
    have HF := hide (show FS w v w.heap.size s by rw [← hW]; exact FS.mk0 hq _)
    obtain ⟨a0, a1, a2, a3, a4, a5, a6, a7, a8, a9⟩ := HF.out.ca
    clear hW hq
    go_wp2_with (go_at_call 45; (with_reducible refine (qcheckv_any _ s HF.out.q).mono ?_); rintro e w1 ⟨rfl, hb⟩; rw [HOK.out]; have HF1 := hide (HF.out.below hb); obtain ⟨b0, b1, b2, b3, b4, b5, b6, b7, b8, b9⟩ := HF1.out.ca; clear hb)
    refine bodyPost_ret (v := .int .i64 2) (by simp [results, Tryz.results53, go_sem, *]) rfl ⟨rfl, HF1.out.bw⟩
  · have HOK := hide h1
    have g1 : decide ((33 : Int) < (n : Int)) = false := decide_eq_false (by omega)
    have g2 : decide (33 < n) = false := decide_eq_false (by omega)
    rw [h2]
    clear h1 h2
    go_enter Tryz.func53, Tryz.ntmps53
    go_upto_region 1 with (fail)
    generalize hW : World.alloc w _ = v
    have HF := hide (show FS w v w.heap.size s by rw [← hW]; exact FS.mk0 hq _)
    obtain ⟨a0, a1, a2, a3, a4, a5, a6, a7, a8, a9⟩ := HF.out.ca
    clear hW hq
    go_wp2_with (go_at_call 45; (with_reducible refine (qcheckv_any _ s HF.out.q).mono ?_); rintro e w1 ⟨rfl, hb⟩; rw [HOK.out]; have HF1 := hide (HF.out.below hb); obtain ⟨b0, b1, b2, b3, b4, b5, b6, b7, b8, b9⟩ := HF1.out.ca; clear hb)
    refine bodyPost_ret (v := .int .i64 0) (by simp [results, Tryz.results53, go_sem, *]) rfl ⟨rfl, HF1.out.bw⟩
set_option maxRecDepth 100000 in
set_option maxHeartbeats 8000000 in
theorem r25judge_bad (w : World) (s : Sv) (A : Option Addr) (n c : Nat) (hq : SQ w s) (hc : vckE s n ≠ 0) :
    Calls Tryz.prog 21 #[.agg #[.slice s.l.A s.l.n s.l.c, .slice s.l.B s.l.m s.l.d, .slice s.h.A s.h.n s.h.c, .slice s.h.B s.h.m s.h.d, .slice s.a.A s.a.n s.a.c, .slice s.a.B s.a.m s.a.d, .slice s.b.A s.b.n s.b.c, .slice s.b.B s.b.m s.b.d, .int .i64 s.m], .slice A n c] w fun e w' => e = .returned (.tuple #[.int .i64 0, .int .i64 0, .int .i64 (vckE s n)]) ∧ Below w.heap.size w w' := by
  obtain ⟨E, hE⟩ : ∃ E, E = vckE s n := ⟨_, rfl⟩
  rw [← hE] at hc ⊢
  have HE := hide hE
  have g1 : (E == 0) = false := by simp [hc]
  have g2 : decide (E = 0) = false := decide_eq_false hc
  clear hE
  go_enter Tryz.func21, Tryz.ntmps21
  go_upto_region 1 with (fail)
  generalize hW : World.alloc w _ = v
  have HF := hide (show FS w v w.heap.size s by rw [← hW]; exact FS.mk0 hq _)
  obtain ⟨a0, a1, a2, a3, a4, a5, a6, a7, a8, a9⟩ := HF.out.ca
  clear hW hq
  go_wp2_with (go_at_call 53; (with_reducible refine (r25check_any _ s A n c HF.out.q).mono ?_); rintro e w1 ⟨rfl, hb⟩; rw [← HE.out]; have HF1 := hide (HF.out.below hb); obtain ⟨b0, b1, b2, b3, b4, b5, b6, b7, b8, b9⟩ := HF1.out.ca; clear hb)
  refine bodyPost_ret (v := .tuple #[.int .i64 0, .int .i64 0, .int .i64 E]) (by simp [results, Tryz.results21, go_sem, *]) rfl ⟨rfl, HF1.out.bw⟩
theorem lastQ_eq {g : Nat → Nat → Int} {x y : Bool × Bool} {t : List (Bool × Bool)} (h : (x :: t)[t.length]? = some y) : lastQ g (x :: t) = lastV g x y t := by
  show lastV g x ((x :: t).getLast?.getD x) t = _
  rw [List.getLast?_eq_getElem?, List.length_cons, Nat.add_sub_cancel, h]
  rfl
theorem lastQ_more {d : Nat → Nat → Int} {M : Nat} {xs : List (Bool × Bool)} (hM : xs.length ≤ M + 1) (h2 : 2 ≤ xs.length) (h : lastQ (aftQ d M) xs = 0) : xs.length ≤ M := by
  cases xs with
  | nil => simp at h2
  | cons x t =>
    rw [List.length_cons] at hM h2 ⊢
    have ht : t ≠ [] := fun e => by rw [e] at h2; simp at h2
    have h' : lastV (aftQ d M) x ((x :: t).getLast?.getD x) t = 0 := h
    unfold lastV at h'
    split at h'
    · simp at h'
    · split at h'
      · simp at h'
      · try rw [if_neg ht] at h'
        split at h'
        · split at h' <;> simp at h'
        · have hc := cntF_le' t
          have := aft_go (by omega) h'
          omega
theorem rs_take {w : World} {A : Option Addr} {xs : List (Bool × Bool)} (h : Rs w none 2 atv A xs) (i : Nat) : Rs w none 2 atv A (xs.take i) := by
  intro hne
  obtain ⟨b', o', h1, h2, h3, h4⟩ := h (by rintro rfl; simp at hne)
  refine ⟨b', o', h1, h2, h3, fun k a hk j w hw => h4 k a ?_ j w hw⟩
  rw [List.getElem?_take] at hk
  split at hk
  · exact hk
  · simp at hk
set_option maxRecDepth 100000 in
set_option maxHeartbeats 16000000 in
theorem r25judge_ok (w : World) (s : Sv) (l h a b : Rat) (M : Nat) (A : Option Addr) (n c : Nat) (xs : List (Bool × Bool)) (hq : SQ w s) (hk : OKs s l h a b M) (hR : Rs w none 2 atv A xs) (hl : xs.length = n) (hn : n ≤ 33) (hnc : n ≤ c) :
    Calls Tryz.prog 21 #[.agg #[.slice s.l.A s.l.n s.l.c, .slice s.l.B s.l.m s.l.d, .slice s.h.A s.h.n s.h.c, .slice s.h.B s.h.m s.h.d, .slice s.a.A s.a.n s.a.c, .slice s.a.B s.a.m s.a.d, .slice s.b.A s.b.n s.b.c, .slice s.b.B s.b.m s.b.d, .int .i64 s.m], .slice A n c] w fun e w' => e = .returned (.tuple #[.int .i64 (jud (aftQ (decQ l h a b) M) xs).1, .int .i64 ((jud (aftQ (decQ l h a b) M) xs).2 : Int), .int .i64 0]) ∧ Below w.heap.size w w' := by
  have HC := hide (show vckE s n = 0 by unfold vckE; rw [if_neg (by rw [hk.ok]; simp), if_neg (by omega)])
  have HK := hide hk
  have HR := hide hR
  have HL := hide hl
  have hM1 := hk.m1
  obtain ⟨G, hG⟩ : ∃ G, G = aftQ (decQ l h a b) M := ⟨_, rfl⟩
  rw [← hG]
  have HG := hide hG
  clear hk hR hl hG
  go_enter Tryz.func21, Tryz.ntmps21
  go_upto_region 1 with (fail)
  generalize hW : World.alloc w _ = v
  have HF := hide (show FS w v w.heap.size s by rw [← hW]; exact FS.mk0 hq _)
  obtain ⟨a0, a1, a2, a3, a4, a5, a6, a7, a8, a9⟩ := HF.out.ca
  clear hW hq
  go_wp2_with (go_at_call 53; (with_reducible refine (r25check_any _ s A n c HF.out.q).mono ?_); rintro e w1 ⟨rfl, hb⟩; rw [HC.out]; have HF1 := hide (HF.out.below hb); clear hb)
  clear a0 a1 a2 a3 a4 a5 a6 a7 a8 a9
  go_loopw [8] (fun iv wr => ∃ i : Nat, iv = .int .i64 (i : Int) ∧ 1 ≤ i ∧ i ≤ n + 1 ∧ i ≤ M + 1 + 1 ∧ Hid (i ≤ n → i ≤ M + 1) ∧ Hid (∀ j, 1 ≤ j → j < i → lastQ G (xs.take j) = 0) ∧ Hid (Below w1.heap.size w1 wr)) (fun iv _ => n + 1 - (intOf iv).toNat)
  case atStart => exact ⟨1, rfl, by omega, by omega, by omega, hide (fun _ => by omega), hide (fun j h1 h2 => by omega), hide (Below.refl _ _)⟩
  case round =>
    obtain ⟨i, rfl, hi1, hin, hiM, HIM, HZ, HBr⟩ := hrel
    have HFr := hide (HF1.out.below HBr.out)
    by_cases hiq : i = n + 1
    · have hle : decide ((i : Int) ≤ (n : Int)) = false := decide_eq_false (by omega)
      have hle2 : (n : Int) < (i : Int) := by omega
      have hle3 : decide (i ≤ n) = false := decide_eq_false (by omega)
      have HJ := hide (show jud G xs = (0, n) from by
        have := jud_none (g := G) (xs := xs) (fun j h1 h2 => HZ.out j h1 (by have := HL.out; omega))
        rw [HL.out] at this
        exact this)
      clear hiq
      go_wp2_with fail
      refine bodyPost_ret (v := .tuple #[.int .i64 0, .int .i64 (n : Int), .int .i64 0]) (by simp [results, Tryz.results21, go_sem, *]) rfl ⟨by rw [HJ.out], HFr.out.bw⟩
    · have hle : decide ((i : Int) ≤ (n : Int)) = true := decide_eq_true (by omega)
      have hle2 : (i : Int) ≤ (n : Int) := by omega
      have hle3 : decide (i ≤ n) = true := decide_eq_true (by omega)
      have hi0 : (0 : Int) ≤ (i : Int) := by omega
      have hic : (i : Int) ≤ (c : Int) := by omega
      have hiM1 : i ≤ M + 1 := HIM.out (by omega)
      obtain ⟨x, t, hxt⟩ : ∃ x t, xs = x :: t := by
        cases xs with
        | nil => exfalso; have := HL.out; simp at this; omega
        | cons x t => exact ⟨x, t, rfl⟩
      have htk : xs.take i = x :: t.take (i - 1) := by
        rw [hxt, show i = (i - 1) + 1 by omega, List.take_succ_cons]; simp
      have htl : (t.take (i - 1)).length = i - 1 := by
        rw [List.length_take]; have := HL.out; rw [hxt, List.length_cons] at this; omega
      obtain ⟨y, hy⟩ : ∃ y, (x :: t.take (i - 1))[(t.take (i - 1)).length]? = some y := ⟨_, List.getElem?_eq_getElem (by simp)⟩
      have HLQ := hide (show lastQ G (xs.take i) = lastV G x y (t.take (i - 1)) by rw [htk]; exact lastQ_eq hy)
      obtain ⟨bb, o, hA, hb0, -, -⟩ := atts_at (HR.out.below HFr.out.bw) (k := 0) (x := x) (by rw [hxt]; rfl)
      have HRt := hide (show Rs wr none 2 atv A (x :: t.take (i - 1)) by rw [← htk]; exact rs_take (HR.out.below HFr.out.bw) i)
      have HY := hide hy
      have HTL := hide htl
      have HIL := hide (show (xs.take i).length = i by rw [List.length_take]; have := HL.out; omega)
      subst hA
      clear hxt htk hy htl
      have k0 := HFr.out.ca
      obtain ⟨a0, a1, a2, a3, a4, a5, a6, a7, a8, a9⟩ := HFr.out.ca
      obtain ⟨V, hV⟩ : ∃ V, V = lastV G x y (t.take (i - 1)) := ⟨_, rfl⟩
      have HV := hide hV
      clear hV
      go_upto_region 7 with (fail)
      go_region_held3 (fun W => W.cell? ⟨w.heap.size, 0, none⟩ = some (.slice s.l.A s.l.n s.l.c) ∧ W.cell? ⟨w.heap.size, 1, none⟩ = some (.slice s.l.B s.l.m s.l.d) ∧ W.cell? ⟨w.heap.size, 2, none⟩ = some (.slice s.h.A s.h.n s.h.c) ∧ W.cell? ⟨w.heap.size, 3, none⟩ = some (.slice s.h.B s.h.m s.h.d) ∧ W.cell? ⟨w.heap.size, 4, none⟩ = some (.slice s.a.A s.a.n s.a.c) ∧ W.cell? ⟨w.heap.size, 5, none⟩ = some (.slice s.a.B s.a.m s.a.d) ∧ W.cell? ⟨w.heap.size, 6, none⟩ = some (.slice s.b.A s.b.n s.b.c) ∧ W.cell? ⟨w.heap.size, 7, none⟩ = some (.slice s.b.B s.b.m s.b.d) ∧ W.cell? ⟨w.heap.size, 8, none⟩ = some (.int .i64 s.m)) (first | with_reducible exact k1 | first | (go_keep; done) | ((try dsimp only); (repeat' apply And.intro) <;> first | (go_keep; done) | ((repeat rw [World.cell?_setCell_other _ _ _ _ (by intro h; injection h; omega)]); go_keep; done))) (first
        | (go_at_call 54; (with_reducible refine (r25last_ok _ s l h a b M (some ⟨bb, o, none⟩) i c x y (t.take (i - 1)) (by first | exact HFr.out.q | exact HFr.out.q.below (Below.refl _ _).drew) HK.out (by first | exact HRt.out | exact HRt.out.below (Below.refl _ _).drew) HY.out (by rw [HTL.out]; omega) (by rw [HTL.out]; omega)).mono ?_); rintro e w7 ⟨rfl, hb⟩; rw [← HG.out, ← HV.out]; have HB7 := hide (show Below w1.heap.size w1 w7 from (by first | exact HBr.out.trans (hb.mono HBr.out.size) | exact HBr.out.drew.trans (hb.mono HBr.out.size))); have k1 := (HF1.out.below HB7.out).ca; clear hb))
      clear a0 a1 a2 a3 a4 a5 a6 a7 a8 a9 k0 k1
      have HB7' := hide (show Below w1.heap.size w1 w7 ∧ Below w1.heap.size w1 w7.drew from ⟨HB7.out, HB7.out.drew⟩)
      by_cases hv0 : V = 0
      · subst hv0
        go_wp2_with fail
        go_roundw
        case rel => exact ⟨i + 1, by go_num, by omega, by omega, by omega, hide (fun _ => by
          by_cases h1 : i = 1
          · omega
          · have := lastQ_more (d := decQ l h a b) (M := M) (xs := xs.take i) (by rw [HIL.out]; omega) (by rw [HIL.out]; omega) (by rw [← HG.out, HLQ.out, ← HV.out])
            rw [HIL.out] at this
            omega), hide (fun j h1 h2 => by
          by_cases hj : j = i
          · rw [hj, HLQ.out, ← HV.out]
          · exact HZ.out j h1 (by omega)), by first | exact hide HB7'.out.1 | exact hide HB7'.out.2⟩
        case measure => simp [intOf] <;> omega
      · have z1 : (V != 0) = true := by simpa using hv0
        have HJ := hide (show jud G xs = (V, i) from by
          have := jud_stop (g := G) (xs := xs) (n := i) hi1 (by have := HL.out; omega) (by rw [HLQ.out, ← HV.out]; exact hv0) (fun j h1 h2 => HZ.out j h1 h2)
          rw [HLQ.out, ← HV.out] at this
          exact this)
        go_wp2_with fail
        refine bodyPost_ret (v := .tuple #[.int .i64 V, .int .i64 (i : Int), .int .i64 0]) (by simp [results, Tryz.results21, go_sem, *]) rfl ⟨by rw [HJ.out], by first | exact HF1.out.bw.trans (HB7'.out.1.mono HF1.out.bw.size) | exact HF1.out.bw.trans (HB7'.out.2.mono HF1.out.bw.size)⟩
end Go.Proofs.YtnokfhkcfebimaaGreat

/- The walk of the law RerunJudges. -/
namespace Go.Proofs.YtnokfhkcfebimaaGreat
open Go.RowKit

/-- Program and reference say the same. -/
theorem judges_both {s : Sv} (A : Option Addr) (n c : Nat) (xs : List (Bool × Bool)) (hl : xs.length = n) (hnc : n ≤ c) : ∃ (V U E : Int), (∀ W, SQ W s → Rs W none 2 atv A xs → Calls Tryz.prog 20 #[.agg #[.slice s.l.A s.l.n s.l.c, .slice s.l.B s.l.m s.l.d, .slice s.h.A s.h.n s.h.c, .slice s.h.B s.h.m s.h.d, .slice s.a.A s.a.n s.a.c, .slice s.a.B s.a.m s.a.d, .slice s.b.A s.b.n s.b.c, .slice s.b.B s.b.m s.b.d, .int .i64 s.m], .slice A n c] W fun e w' => e = .returned (.tuple #[.int .i64 V, .int .i64 U, .int .i64 E]) ∧ Below W.heap.size W w') ∧ (∀ W, SQ W s → Rs W none 2 atv A xs → Calls Tryz.prog 21 #[.agg #[.slice s.l.A s.l.n s.l.c, .slice s.l.B s.l.m s.l.d, .slice s.h.A s.h.n s.h.c, .slice s.h.B s.h.m s.h.d, .slice s.a.A s.a.n s.a.c, .slice s.a.B s.a.m s.a.d, .slice s.b.A s.b.n s.b.c, .slice s.b.B s.b.m s.b.d, .int .i64 s.m], .slice A n c] W fun e w' => e = .returned (.tuple #[.int .i64 V, .int .i64 U, .int .i64 E]) ∧ Below W.heap.size W w') := by
  by_cases hc : vckE s n = 0
  · have hs : s.ok = true := by
      unfold vckE at hc
      cases h : s.ok with
      | true => rfl
      | false => rw [h, if_pos rfl] at hc; simp at hc
    have hn : n ≤ 33 := by
      unfold vckE at hc
      rw [hs, if_neg (by simp)] at hc
      by_cases h : 33 < n
      · rw [if_pos h] at hc; simp at hc
      · omega
    obtain ⟨lo, h, a, b, M, hk⟩ := Sv.ok_some hs
    exact ⟨_, _, _, fun W h1 h2 => vjudgex_ok W s lo h a b M A n c xs h1 hk h2 hl hn, fun W h1 h2 => r25judge_ok W s lo h a b M A n c xs h1 hk h2 hl hn hnc⟩
  · exact ⟨_, _, _, fun W h1 _ => vjudgex_bad W s A n c h1 hc, fun W h1 _ => r25judge_bad W s A n c h1 hc⟩
set_option maxRecDepth 100000 in
set_option maxHeartbeats 16000000 in
theorem rjudges_walk (w : World) (A : Option Addr) (n c : Nat) (l : List Int) (R : Option Addr) (rn rc : Nat) (raw : List (Bool × Bool)) (hA : Rs w none 1 iv A l) (hl : l.length = n) (hR : Rs w none 2 atv R raw) (hrl : raw.length = rn) (hrc : rn ≤ rc) :
    Calls Tryz.prog 4 #[.slice A n c, .slice R rn rc] w fun e w' => e = .returned (.bool true) ∧ Below w.heap.size w w' := by
  by_cases hbig : 100 < rn
  · have d1 : decide ((100 : Int) < (rn : Int)) = true := decide_eq_true (by omega)
    have d2 : decide (100 < rn) = true := decide_eq_true hbig
    clear hR hA
    go_enter Tryz.func4, Tryz.ntmps4
    go_wp2_with (go_at_call 17; (with_reducible refine (vknown_any _).mono ?_); rintro e w9 ⟨rfl, hb⟩; have HB9 := hide hb; clear hb)
    go_ret
    exact ⟨rfl, HB9.out⟩
  · have d1 : decide ((100 : Int) < (rn : Int)) = false := decide_eq_false (by omega)
    have d2 : decide (100 < rn) = false := decide_eq_false hbig
    have HP := hide (tp_new (w := w) (c := c) hA hl 30)
    have HR := hide hR
    have HRL := hide (And.intro hrl hrc)
    clear hA hl hR hrl hrc hbig
    go_enter Tryz.func4, Tryz.ntmps4
    go_upto_region 5 with (go_at_call 18; refine (vspec_any _ w.heap.size A n c l 0 32 HP.out (by omega) (by omega) (by omega)).mono ?_; rintro e w1 ⟨s, lo, hi, al, be, M, b, rfl, hq, hk, hM, htp, hb12, hf⟩; have HB1 := hide (fr_new rfl hf); have HQ1 := hide hq; have HP1 := hide htp; clear hq hk hf htp)
    generalize hW : World.alloc w1 _ = v
    have hT : w.heap.size < w1.heap.size := HP1.out.t.1
    have HF := hide (show FS w v w1.heap.size s by rw [← hW]; exact ⟨HB1.out.trans (((Below.refl _ _).alloc (Nat.le_refl _) _ : Below w1.heap.size w1 _).mono HB1.out.size), (FS.mk0 HQ1.out _).cb, HQ1.out.alloc _⟩)
    have HP2 := hide (show Tp v w.heap.size A n c l b by rw [← hW]; exact HP1.out.alloc _)
    obtain ⟨g, hg⟩ : ∃ g, g = w1.heap.size := ⟨_, rfl⟩
    rw [← hg] at HF hT ⊢
    clear hW hg
    go_wp2_with (go_at_call 19; refine (vattempts_any _ w.heap.size A n c l b 34 HP2.out (by omega) (by omega)).mono ?_; rintro e w2 ⟨B, m, d, xs, p, rfl, ho, hm34, hp, hpb⟩; have HO := hide ho; have HF2 := hide (HF.out.tape ho.fr (Nat.le_refl _) (by omega) HP2.out.nb); clear ho hp)
    generalize hW : World.alloc w2 _ = v2
    have HC2 := hide (show Cb v2 w2.heap.size [.slice R rn rc, .slice B m d] by rw [← hW]; exact Cb.mk0 _ (by simp) _ rfl)
    have HF3 := hide (show FS w v2 g s by rw [← hW]; exact HF2.out.alloc _)
    have HX3 := hide (show Rs v2 none 2 atv B xs ∧ xs.length = m ∧ m ≤ d by rw [← hW]; exact ⟨HO.out.rs.below ((Below.refl _ _).alloc (Nat.le_refl _) _), HO.out.len, HO.out.cap⟩)
    obtain ⟨b2, hb2⟩ : ∃ b, b = w2.heap.size := ⟨_, rfl⟩
    rw [← hb2] at HC2 ⊢
    clear hW hb2
    go_loopw [29] (fun iv wr => ∃ j : Nat, iv = .int .i64 (j : Int) ∧ j ≤ 2 ∧ Hid (Below v2.heap.size v2 wr)) (fun iv _ => 2 - (intOf iv).toNat)
    case atStart => exact ⟨0, rfl, by omega, hide (Below.refl _ _)⟩
    case round =>
      obtain ⟨j, rfl, hj, HBr⟩ := hrel
      have HFr := hide (HF3.out.below HBr.out)
      by_cases hj2 : j = 2
      · subst hj2
        go_wp2_with (go_at_call 17; (with_reducible refine (vknown_any _).mono ?_); rintro e w9 ⟨rfl, hb⟩; have HB9 := hide (HFr.out.bw.trans (hb.mono HFr.out.bw.size)); clear hb)
        go_ret
        exact ⟨rfl, HB9.out⟩
      · have hj0 : (0 : Int) ≤ (j : Int) := by omega
        have hjlt : (j : Int) < 2 := by omega
        have HCr := hide (HC2.out.below HBr.out)
        obtain ⟨Q, qn, qc, qs, hc0, hqr, hql, hqc⟩ : ∃ (Q : Option Addr) (qn qc : Nat) (qs : List (Bool × Bool)), wr.cell? ⟨b2, j, none⟩ = some (.slice Q qn qc) ∧ Rs wr none 2 atv Q qs ∧ qs.length = qn ∧ qn ≤ qc := by
          obtain rfl | rfl : j = 0 ∨ j = 1 := by omega
          · exact ⟨R, rn, rc, raw, HCr.out.cell 0 _ rfl, HR.out.below HFr.out.bw, HRL.out.1, HRL.out.2⟩
          · exact ⟨B, m, d, xs, HCr.out.cell 1 _ rfl, HX3.out.1.below HBr.out, HX3.out.2.1, HX3.out.2.2⟩
        obtain ⟨V, U, E, h1, h2⟩ := judges_both (s := s) Q qn qc qs hql hqc
        have HC1 := hide h1
        have HC2' := hide h2
        have HQR := hide hqr
        have hcz := HCr.out.sz
        have z1 : (E != E) = false := by simp
        have z2 : (V != V) = false := by simp
        have z3 : (U != U) = false := by simp
        clear h1 h2 hqr
        obtain ⟨a0, a1, a2, a3, a4, a5, a6, a7, a8, a9⟩ := HFr.out.ca
        go_wp2_with (first
          | (go_at_call 21; (with_reducible refine (HC2'.out _ HF5.out.q (HQR.out.below HB5.out)).mono ?_); rintro e w6 ⟨rfl, hb⟩; have HB6 := hide (HBr.out.trans ((HB5.out.trans (hb.mono HB5.out.size)).mono HBr.out.size)); clear hb)
          | (go_at_call 20; (with_reducible refine (HC1.out _ HFr.out.q HQR.out).mono ?_); rintro e w5 ⟨rfl, hb⟩; have HB5 := hide hb; have HF5 := hide (HFr.out.below hb); obtain ⟨b0, b1, b2, b3, b4, b5, b6, b7, b8, b9⟩ := HF5.out.ca; clear hb))
        go_roundw
        case rel => exact ⟨j + 1, by go_num, by omega, HB6⟩
        case measure => simp [intOf] <;> omega
end Go.Proofs.YtnokfhkcfebimaaGreat
