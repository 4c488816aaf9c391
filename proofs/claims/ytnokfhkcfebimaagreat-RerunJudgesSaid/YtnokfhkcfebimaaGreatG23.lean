/- Contracts of the functions that these laws reach: part 23: Contracts: noise.Sequence; Contract: sequential.Run; A box whose cells are set; the tape's Chance beside limbs; contract: the law's spec; Contract: the maker of specifications of the sequential laws; Contracts: the sequential laws' example and known. -/
import Derived.Test.YtnokfhkcfebimaaGreatG19
import Derived.Test.YtnokfhkcfebimaaGreatG22
set_option linter.unusedVariables false
set_option linter.unusedSimpArgs false

/- Contracts: noise.Sequence. -/
namespace Go.Proofs.YtnokfhkcfebimaaGreat
open Go.RowKit

def bv (b : Bool) : List Value := [.bool b]
theorem bools_at {w : World} {av : Option Nat} {A : Option Addr} {l : List Bool} (h : Rs w av 1 bv A l) {k : Nat} (hk : k < l.length) :
    ∃ b o, A = some ⟨b, o, none⟩ ∧ some b ≠ av ∧ b < w.heap.size ∧ w.cell? ⟨b, o + k, none⟩ = some (.bool l[k]) := by
  obtain ⟨b, o, h1, h2, h3, h4⟩ := h.at (List.getElem?_eq_getElem hk)
  refine ⟨b, o, h1, h2, h3, ?_⟩
  have := h4 0 (.bool l[k]) rfl
  simpa using this
/-- The chance of outcomes in an order. -/
def sqF (r acc : Rat) (l : List Bool) : Rat := l.foldl (fun acc b => acc * (if b then r else 1 - r)) acc
def sqL (r : Rat) (l : List Bool) : Rat := sqF r 1 l
theorem sqF_snoc (r acc : Rat) (l : List Bool) (b : Bool) : sqF r acc (l ++ [b]) = sqF r acc l * (if b then r else 1 - r) := by
  unfold sqF
  rw [List.foldl_append]
  rfl
theorem sqF_ok {r : Rat} (h : Chn r) : ∀ (l : List Bool) (acc : Rat) (n : Nat), Sc r.den n acc → 0 ≤ acc → acc ≤ 1 → Sc r.den (n + l.length) (sqF r acc l) ∧ 0 ≤ sqF r acc l ∧ sqF r acc l ≤ 1
  | [], acc, n, h1, h2, h3 => ⟨h1, h2, h3⟩
  | b :: l, acc, n, h1, h2, h3 => by
    have hx : Sc r.den 1 (if b then r else 1 - r) ∧ 0 ≤ (if b then r else 1 - r) ∧ (if b then r else 1 - r) ≤ 1 := by
      cases b
      · exact ⟨den_sc1 h.h0 h.h1, h.q0, h.q1⟩
      · exact ⟨den_sc h.h0, h.h0, h.h1⟩
    have := sqF_ok h l (acc * (if b then r else 1 - r)) (n + 1) (h1.mul hx.1) (Rat.mul_nonneg h2 hx.2.1) (mul_le_b h2 h3 hx.2.2 hx.2.1)
    rw [List.length_cons, show n + (l.length + 1) = n + 1 + l.length by omega]
    exact this
theorem Chn.fsq {r : Rat} (h : Chn r) {l : List Bool} (hl : l.length ≤ 128) : fitsR (sqL r l) = true := by
  obtain ⟨h1, -, h3⟩ := sqF_ok h l 1 0 (by simpa using Sc.nat r.den 1) (by decide) Rat.le_refl
  exact h.fit h1 (by omega) (Rat.le_trans h3 one32)
theorem sqL_take {r : Rat} {l : List Bool} {j : Nat} (h : j < l.length) : sqL r (l.take (j + 1)) = sqL r (l.take j) * (if l[j] then r else 1 - r) := by
  rw [List.take_add_one, List.getElem?_eq_getElem h]
  exact sqF_snoc r 1 (l.take j) l[j]
/-- The loop's state. -/
structure SS (w wr : World) (a : Fa) (l k : List Nat) (r : Rat) (b6 b7 : Nat) (c6 c7 : Fa) (acc : Rat) : Prop where
  f1 : F1 w wr a l k
  x6 : Fx wr b6 c6 (some acc)
  x7 : Fx wr b7 c7 (some (1 - r))
  d : b7 ≠ b6
  g : w.heap.size + 1 < b6
theorem SS.below {w wr wr' : World} {a : Fa} {l k : List Nat} {r : Rat} {b6 b7 : Nat} {c6 c7 : Fa} {acc : Rat} (h : SS w wr a l k r b6 b7 c6 c7 acc) (hb : Below wr.heap.size wr wr') : SS w wr' a l k r b6 b7 c6 c7 acc :=
  ⟨h.f1.below hb, h.x6.below hb, h.x7.below hb, h.d, h.g⟩
theorem SS.alloc {w wr : World} {a : Fa} {l k : List Nat} {r : Rat} {b6 b7 : Nat} {c6 c7 : Fa} {acc : Rat} (h : SS w wr a l k r b6 b7 c6 c7 acc) (o : Obj) : SS w (wr.alloc o) a l k r b6 b7 c6 c7 acc := h.below ((Below.refl _ _).alloc (Nat.le_refl _) _)
theorem SS.put {w wr : World} {a : Fa} {l k : List Nat} {r : Rat} {b6 b7 : Nat} {c6 c7 : Fa} {acc : Rat} (h : SS w wr a l k r b6 b7 c6 c7 acc) {c : Fa} {s : Rat} (ho : Fo wr c (some s)) :
    SS w ((wr.setCell ⟨b6, 0, none⟩ (.slice c.A c.n c.c)).setCell ⟨b6, 1, none⟩ (.slice c.B c.m c.d)) a l k r b6 b7 c c7 s :=
  ⟨h.f1.one (fr_fill _ _) h.x6.b.nb h.g, h.x6.put ho, h.x7.one (fr_fill _ _) h.x6.b.nb h.d, h.d, h.g⟩
theorem SS.far {w wr wr' : World} {a : Fa} {l k : List Nat} {r : Rat} {b6 b7 : Nat} {c6 c7 : Fa} {acc : Rat} (h : SS w wr a l k r b6 b7 c6 c7 acc) {g : Nat} (hf : Fr wr wr' (fun b => b = g)) (hg : NB wr g) (h6 : b6 ≠ g) (h7 : b7 ≠ g) (hgw : w.heap.size + 1 < g) :
    SS w wr' a l k r b6 b7 c6 c7 acc := ⟨h.f1.one hf hg hgw, h.x6.one hf hg h6, h.x7.one hf hg h7, h.d, h.g⟩
def RSq (B : Nat) (a : Fa) (r : Rat) : Nat → Value → World → Prop
  | 0, x, W => ∃ c : Fa, x = .agg #[.slice c.A c.n c.c, .slice c.B c.m c.d] ∧ Fo W c (some 1)
  | 1, x, _ => x = .agg #[.slice a.A a.n a.c, .slice a.B a.m a.d]
  | 2, x, W => ∃ c : Fa, x = .agg #[.slice c.A c.n c.c, .slice c.B c.m c.d] ∧ Fo W c (some (1 - r))
  | 3, x, W => ∃ b, x = .pointer (some ⟨b, 0, none⟩) ∧ B ≤ b ∧ Bq W b fa0
  | 4, x, W => ∃ b, x = .pointer (some ⟨b, 0, none⟩) ∧ B ≤ b ∧ Bq W b fa0
  | _, _, _ => True
theorem RSq.st (B : Nat) (a : Fa) (r : Rat) : ∀ i x w w', RSq B a r i x w → Below w.heap.size w w' → RSq B a r i x w'
  | 0, _, _, _, ⟨c, h1, h2⟩, hb => ⟨c, h1, h2.below hb⟩
  | 1, _, _, _, h, _ => h
  | 2, _, _, _, ⟨c, h1, h2⟩, hb => ⟨c, h1, h2.below hb⟩
  | 3, _, _, _, ⟨b, h1, h2, h3⟩, hb => ⟨b, h1, h2, h3.below hb⟩
  | 4, _, _, _, ⟨b, h1, h2, h3⟩, hb => ⟨b, h1, h2, h3.below hb⟩
  | _ + 5, _, _, _, _, _ => trivial
/-- What Sequence returns. -/
def seqR (o : Option Rat) (l : List Bool) : Option Rat × Int :=
  if chO o = true then (if 32 < l.length then (none, 2) else match o with | some r => (some (sqL r l), 0) | none => (none, 41)) else (none, 41)
end Go.Proofs.YtnokfhkcfebimaaGreat

/- Contract: sequential.Run. -/
namespace Go.Proofs.YtnokfhkcfebimaaGreat
open Go.RowKit

theorem dec00 {s : Sv} {l h a b : Rat} {M : Nat} (hk : OKs s l h a b M) : decQ l h a b 0 0 = 0 := by
  have e : ratQ l h 0 0 = 1 := by
    unfold ratQ
    rw [Rat.pow_zero, Rat.pow_zero]
    decide +kernel
  have h1 : ¬ 1 / a ≤ 1 := by
    intro h2
    have h3 := Rat.mul_le_mul_of_nonneg_right h2 (Rat.le_of_lt hk.ia.p)
    rw [Rat.div_mul_cancel hk.ia.ne, Rat.one_mul] at h3
    exact absurd hk.ia.q (Rat.not_lt.2 h3)
  have h2 : ¬ (1 : Rat) ≤ b := Rat.not_le.2 hk.ib.q
  unfold decQ
  rw [e, if_neg h1, if_neg h2]
/-- How many outcomes may be taken. -/
def cutL (outs : List Bool) (M : Nat) : List Bool := outs.take (min outs.length M)
end Go.Proofs.YtnokfhkcfebimaaGreat

/- A box whose cells are set; the tape's Chance beside limbs; contract: the law's spec. -/
namespace Go.Proofs.YtnokfhkcfebimaaGreat
open Go.RowKit

theorem Cb.put {v : World} {g : Nat} {cs : List Value} (h : Cb v g cs) (i : Nat) (x : Value) (hi : i < cs.length) (hx : ∀ k, x ≠ .int .u32 k) : Cb (v.setCell ⟨g, i, none⟩ x) g (cs.set i x) := by
  have hs := h.sz
  have hci := h.cell i _ (List.getElem?_eq_getElem hi)
  refine ⟨fun j y hy => ?_, fun j => by have := h.fz j; simp [go_sem, *], by simpa using hs, h.nb.put i hx⟩
  by_cases hj : j = i
  · subst hj
    rw [List.getElem?_set_self hi] at hy
    injection hy with hy
    subst hy
    simp [go_sem, hci]
  · rw [List.getElem?_set_ne (fun e => hj e.symm)] at hy
    rw [World.cell?_setCell_other _ _ _ _ (by intro h; injection h; omega)]
    exact h.cell j y hy
theorem chancetp_any (w : World) (T : Nat) (A : Option Addr) (n c : Nat) (l : List Int) (a : Nat) (M N : Int) (hT : Tp w T A n c l a) (ha : a ≤ 4294967296) (hN : N ≤ 4294967296) :
    Calls Tryz.prog 41 #[.pointer (some ⟨T, 0, none⟩), .int .i64 M, .int .i64 N] w fun e w' => e = .returned (.bool (decide (tapeV l a N < M))) ∧ Tp w' T A n c l (a + 1) ∧ Fr w w' (fun b => b = T) := by
  go_enter Tryz.func41, Tryz.ntmps41
  go_wp2_with (go_at_call 24; refine (nextp_any _ T A n c l a N hT ha hN).mono ?_; rintro e w1 ⟨rfl, ht1, hf1⟩)
  go_ret
  exact ⟨rfl, ht1, hf1⟩
/-- The cells of a specification not yet filled. -/
def z9 : List Value := [.slice none 0 0, .slice none 0 0, .slice none 0 0, .slice none 0 0, .slice none 0 0, .slice none 0 0, .slice none 0 0, .slice none 0 0, .int .i64 0]
/-- A specification in the making: the tape, the result's box, its box. -/
structure SpS (w0 v : World) (T : Nat) (A : Option Addr) (n c : Nat) (l : List Int) (a g0 g1 : Nat) (s : Sv) : Prop where
  tp : Tp v T A n c l a
  r : Cb v g0 z9
  b : Cb v g1 s.cs
  q : SQ v s
  fr : Fr w0 v (fun b => b = T)
section
variable {w0 v v' : World} {T n c a g0 g1 : Nat} {A : Option Addr} {l : List Int} {s s' : Sv}
theorem SQ.one {g : Nat} (h : SQ v s) (hf : Fr v v' (fun b => b = g)) (hg : NB v g) : SQ v' s := ⟨h.l.one hf hg, h.h.one hf hg, h.a.one hf hg, h.b.one hf hg⟩
theorem SpS.below (h : SpS w0 v T A n c l a g0 g1 s) (hb : Below v.heap.size v v') : SpS w0 v' T A n c l a g0 g1 s := ⟨h.tp.below hb, h.r.below hb, h.b.below hb, h.q.below hb, h.fr.below_ hb⟩
theorem SpS.tape (h : SpS w0 v T A n c l a g0 g1 s) {a' : Nat} (hp : Tp v' T A n c l a') (hf : Fr v v' (fun b => b = T)) (h0 : g0 ≠ T) (h1 : g1 ≠ T) : SpS w0 v' T A n c l a' g0 g1 s :=
  ⟨hp, h.r.one hf h0, h.b.one hf h1, h.q.one hf h.tp.nb, h.fr.trans hf⟩
theorem SpS.put (h : SpS w0 v T A n c l a g0 g1 s) {t0 : World} {a0 : Nat} (hp0 : Tp t0 T A n c l a0) (hg1 : t0.heap.size ≤ g1) (h01 : g0 ≠ g1) (hf : Fr v v' (fun b => b = g1)) (hb : Cb v' g1 s'.cs) (hq : SQ v' s') (hw : w0.heap.size ≤ g1) : SpS w0 v' T A n c l a g0 g1 s' :=
  ⟨hp0.one h.tp hg1 hf, h.r.one hf h01, hb, hq, h.fr.step hf (fun i hi e => by omega)⟩
end
end Go.Proofs.YtnokfhkcfebimaaGreat

/- Contract: the maker of specifications of the sequential laws. -/
namespace Go.Proofs.YtnokfhkcfebimaaGreat
open Go.RowKit

theorem fr4 {w : World} {g : Nat} (i j k m : Nat) (a b c d : Value) : Fr w ((((w.setCell ⟨g, i, none⟩ a).setCell ⟨g, j, none⟩ b).setCell ⟨g, k, none⟩ c).setCell ⟨g, m, none⟩ d) (fun x => x = g) := by
  refine Fr.setCell (Fr.setCell (Fr.setCell (Fr.setCell (Fr.refl _ _) ?_ _) ?_ _) ?_ _) ?_ _ <;> exact Or.inr (by rfl)
theorem fr9 {w : World} {g : Nat} (x0 x1 x2 x3 x4 x5 x6 x7 x8 : Value) : Fr w (((((((((w.setCell ⟨g, 0, none⟩ x0).setCell ⟨g, 1, none⟩ x1).setCell ⟨g, 2, none⟩ x2).setCell ⟨g, 3, none⟩ x3).setCell ⟨g, 4, none⟩ x4).setCell ⟨g, 5, none⟩ x5).setCell ⟨g, 6, none⟩ x6).setCell ⟨g, 7, none⟩ x7).setCell ⟨g, 8, none⟩ x8) (fun x => x = g) := by
  refine Fr.setCell (Fr.setCell (Fr.setCell (Fr.setCell (Fr.setCell (Fr.setCell (Fr.setCell (Fr.setCell (Fr.setCell (Fr.refl _ _) ?_ _) ?_ _) ?_ _) ?_ _) ?_ _) ?_ _) ?_ _) ?_ _) ?_ _ <;> exact Or.inr (by rfl)
theorem fr1 {w : World} {g : Nat} (i : Nat) (a : Value) : Fr w (w.setCell ⟨g, i, none⟩ a) (fun x => x = g) := by
  refine Fr.setCell (Fr.refl _ _) ?_ _; exact Or.inr (by rfl)
/-- What the maker returns. -/
def MkS (w : World) (T : Nat) (A : Option Addr) (n c : Nat) (l : List Int) (a most : Nat) (e : Ending) (w' : World) : Prop :=
  ∃ (s : Sv) (lo hi al be : Rat) (M b : Nat), e = .returned (.agg #[.slice s.l.A s.l.n s.l.c, .slice s.l.B s.l.m s.l.d, .slice s.h.A s.h.n s.h.c, .slice s.h.B s.h.m s.h.d, .slice s.a.A s.a.n s.a.c, .slice s.a.B s.a.m s.a.d, .slice s.b.A s.b.n s.b.c, .slice s.b.B s.b.m s.b.d, .int .i64 s.m]) ∧ SQ w' s ∧ OKs s lo hi al be M ∧ M ≤ most ∧ Tp w' T A n c l b ∧ b ≤ a + 12 ∧ Fr w w' (fun b => b = T)
theorem lt_tr {a b c : Rat} (h : a < b) (k : b < c) : a < c := Rat.not_le.1 (fun h2 => Rat.not_lt.2 (Rat.le_trans h2 (Rat.le_of_lt h)) k)
theorem small1_any (w : World) (d : Nat) (h : 1 ≤ d) (h2 : d ≤ 1000) : Calls Tryz.prog 25 #[.int .i64 1, .int .i64 (d : Int)] w fun e w' => Ret1 w (some (mkRat ((1 : Nat) : Int) d)) e w' := small_any w 1 d (by omega) (by omega) (by omega)
def sv0 : Sv := ⟨fa0, fa0, fa0, fa0, 0, [], [], [], [], [], [], [], []⟩
theorem fq0 (w : World) : Fq w fa0 [] [] := ⟨Ul.nil, Ul.nil, Nat.le_refl _, Nat.le_refl _, by simp, by simp⟩
theorem inn_of {r : Rat} (hc : Chn r) (h : 0 < r ∧ r < 1) : Inn r := ⟨hc, h.1, h.2⟩
theorem inn_mk {d : Nat} (h2 : 2 ≤ d) (h3 : d ≤ 1000) : Inn (mkRat ((1 : Nat) : Int) d) := ⟨mk_chn (by omega) (by omega) h3, mk_pos (by omega) (by omega), mk_lt1 (by omega) (by omega)⟩
set_option maxRecDepth 100000 in
set_option maxHeartbeats 16000000 in
theorem yspec_any (w : World) (T : Nat) (A : Option Addr) (n c : Nat) (l : List Int) (a most : Nat) (hP : Tp w T A n c l a) (ha : a ≤ 4294960000) (hm : 1 ≤ most) (hm2 : most ≤ 32) :
    Calls Tryz.prog 9 #[.pointer (some ⟨T, 0, none⟩), .int .i64 (most : Int)] w fun e w' => MkS w T A n c l a most e w' := by
  have hTl := hP.t.1
  have HPW := hide hP
  go_enter Tryz.func9, Tryz.ntmps9
  go_upto_region 2 with (fail)
  generalize hW : World.alloc (World.alloc w _) _ = v
  have HS0 := hide (show SpS w v T A n c l a w.heap.size (w.heap.size + 1) sv0 by
    rw [← hW]
    exact ⟨(hP.alloc _).alloc _, (Cb.mk0 z9 (by simp [z9]) _ rfl).alloc _, Cb.mk0 z9 (by simp [z9]) _ (by simp), ⟨fq0 _, fq0 _, fq0 _, fq0 _⟩, ((Fr.refl _ _).alloc _).alloc _⟩)
  clear hW hP
  go_upto_region 3 with (go_at_call 39; refine (twom_any _ T A n c l a HS0.out.tp (by omega)).mono ?_; rintro e w1 ⟨f, g, r, s, rfl, hof, hog, hcr, hcs, hrs, hp, hf⟩; have HOF := hide hof; have HOG := hide hog; have HCR := hide hcr; have HCS := hide hcs; have HRS := hide hrs; have HS1 := hide (HS0.out.tape hp hf (by omega) (by omega)); have y0 := HS1.out.b.cell 0 _ rfl; have y1 := HS1.out.b.cell 1 _ rfl; have y2 := HS1.out.b.cell 2 _ rfl; have y3 := HS1.out.b.cell 3 _ rfl; have y4 := HS1.out.b.cell 4 _ rfl; have y5 := HS1.out.b.cell 5 _ rfl; have y6 := HS1.out.b.cell 6 _ rfl; have y7 := HS1.out.b.cell 7 _ rfl; have y8 := HS1.out.b.cell 8 _ rfl; have yf := HS1.out.b.fz; have yz := HS1.out.b.sz; clear hof hog hcr hcs hrs hp hf)
  generalize hW : World.setCell (World.setCell (World.setCell (World.setCell w1 _ _) _ _) _ _) _ _ = v2
  have HS2 := hide (show SpS w v2 T A n c l (a + 3) w.heap.size (w.heap.size + 1) ⟨f, g, fa0, fa0, 0, lm (rn r), lm r.den, lm (rn s), lm s.den, [], [], [], []⟩ by
    rw [← hW]
    exact HS1.out.put HPW.out (by omega) (by omega) (fr4 0 1 2 3 _ _ _ _) ((((HS1.out.b.put 0 (.slice f.A f.n f.c) (by simp [Sv.cs, sv0]) (by simp)).put 1 (.slice f.B f.m f.d) (by simp [Sv.cs, sv0]) (by simp)).put 2 (.slice g.A g.n g.c) (by simp [Sv.cs, sv0]) (by simp)).put 3 (.slice g.B g.m g.d) (by simp [Sv.cs, sv0]) (by simp)) ⟨HOF.out.1.one (fr4 0 1 2 3 _ _ _ _) HS1.out.b.nb, HOG.out.1.one (fr4 0 1 2 3 _ _ _ _) HS1.out.b.nb, fq0 _, fq0 _⟩ (by omega))
  clear hW
  clear y0 y1 y2 y3 y4 y5 y6 y7 y8 yf yz
  have HOK := hide (show okR (some r) ∧ okR (some s) from ⟨HOF.out.2, HOG.out.2⟩)
  have z0 := HS2.out.b.cell 0 _ rfl; have z1 := HS2.out.b.cell 1 _ rfl; have z2 := HS2.out.b.cell 2 _ rfl; have z3 := HS2.out.b.cell 3 _ rfl; have z4 := HS2.out.b.cell 4 _ rfl; have z5 := HS2.out.b.cell 5 _ rfl; have z6 := HS2.out.b.cell 6 _ rfl; have z7 := HS2.out.b.cell 7 _ rfl; have z8 := HS2.out.b.cell 8 _ rfl; have zf := HS2.out.b.fz; have zz := HS2.out.b.sz
  go_upto_region 4 with (first
    | (go_at_call 40; refine (innermi_any _ T A n c l (a + 3) HS2.out.tp (by omega)).mono ?_; rintro e w3 ⟨f3, r3, rfl, ho, hch, hin, hp, hf⟩; have HI3 := hide (And.intro (inn_of hch hin) ho.2); have HO3 := hide ho; have HS3 := hide (HS2.out.tape hp hf (by omega) (by omega)); clear ho hch hin hp hf)
    | (go_at_call 40; refine (innermi_any _ T A n c l (a + 3 + 2) HS3.out.tp (by omega)).mono ?_; rintro e w4 ⟨f4, r4, rfl, ho, hch, hin, hp, hf⟩; have HI4 := hide (And.intro (inn_of hch hin) ho.2); have HO4 := hide ho; have HO34 := hide (HO3.out.one hf HS3.out.tp.nb); have HS4 := hide (HS3.out.tape hp hf (by omega) (by omega)); have u0 := HS4.out.b.cell 0 _ rfl; have u1 := HS4.out.b.cell 1 _ rfl; have u2 := HS4.out.b.cell 2 _ rfl; have u3 := HS4.out.b.cell 3 _ rfl; have u4 := HS4.out.b.cell 4 _ rfl; have u5 := HS4.out.b.cell 5 _ rfl; have u6 := HS4.out.b.cell 6 _ rfl; have u7 := HS4.out.b.cell 7 _ rfl; have u8 := HS4.out.b.cell 8 _ rfl; have uf := HS4.out.b.fz; have uz := HS4.out.b.sz; clear ho hch hin hp hf))
  generalize hW : World.setCell (World.setCell (World.setCell (World.setCell w4 _ _) _ _) _ _) _ _ = v5
  have HS5 := hide (show SpS w v5 T A n c l (a + 3 + 2 + 2) w.heap.size (w.heap.size + 1) ⟨f, g, f3, f4, 0, lm (rn r), lm r.den, lm (rn s), lm s.den, lm (rn r3), lm r3.den, lm (rn r4), lm r4.den⟩ by
    rw [← hW]
    exact HS4.out.put HPW.out (by omega) (by omega) (fr4 4 5 6 7 _ _ _ _) (((((HS4.out.b.put 4 (.slice f3.A f3.n f3.c) (by simp [Sv.cs, sv0]) (by simp)).put 5 (.slice f3.B f3.m f3.d) (by simp [Sv.cs, sv0]) (by simp)).put 6 (.slice f4.A f4.n f4.c) (by simp [Sv.cs, sv0]) (by simp)).put 7 (.slice f4.B f4.m f4.d) (by simp [Sv.cs, sv0]) (by simp))) ⟨HS4.out.q.l.one (fr4 4 5 6 7 _ _ _ _) HS4.out.b.nb, HS4.out.q.h.one (fr4 4 5 6 7 _ _ _ _) HS4.out.b.nb, HO34.out.1.one (fr4 4 5 6 7 _ _ _ _) HS4.out.b.nb, HO4.out.1.one (fr4 4 5 6 7 _ _ _ _) HS4.out.b.nb⟩ (by omega))
  clear hW
  clear z0 z1 z2 z3 z4 z5 z6 z7 z8 zf zz
  clear u0 u1 u2 u3 u4 u5 u6 u7 u8 uf uz
  obtain ⟨bo, hbo⟩ : ∃ bo, bo = decide (tapeV l (a + 3 + 2 + 2) 2 < 1) := ⟨_, rfl⟩
  have HBO := hide hbo
  clear hbo
  cases bo
  · go_upto_region 7 with (first | (go_at_call 41; refine (chancetp_any _ T A n c l (a + 3 + 2 + 2) 1 2 HS5.out.tp (by omega) (by omega)).mono ?_; rintro e w6 ⟨rfl, hp, hf⟩; rw [← HBO.out]; have HS6 := hide (HS5.out.tape hp hf (by omega) (by omega)); clear hp hf) | (go_at_call 24; refine (nextp_any _ T A n c l (a + 3 + 2 + 2 + 1) (most : Int) HS6.out.tp (by omega) (by omega)).mono ?_; rintro e w8 ⟨rfl, hp, hf⟩; have HX := hide (tapeV_nat l (a + 3 + 2 + 2 + 1) (most : Int)); have HS8 := hide (HS6.out.tape hp hf (by omega) (by omega)); have q0 := HS8.out.b.cell 0 _ rfl; have q1 := HS8.out.b.cell 1 _ rfl; have q2 := HS8.out.b.cell 2 _ rfl; have q3 := HS8.out.b.cell 3 _ rfl; have q4 := HS8.out.b.cell 4 _ rfl; have q5 := HS8.out.b.cell 5 _ rfl; have q6 := HS8.out.b.cell 6 _ rfl; have q7 := HS8.out.b.cell 7 _ rfl; have q8 := HS8.out.b.cell 8 _ rfl; have qf := HS8.out.b.fz; have qz := HS8.out.b.sz; obtain ⟨x, hx, hxm⟩ := HX.out; rw [hx]; clear hp hf hx HX))
    obtain ⟨m, hmx⟩ : ∃ m : Nat, m = 1 + x := ⟨_, rfl⟩
    have hx1 : (1 : Int) + (x : Int) = (m : Int) := by omega
    have HMX := hide (show 1 ≤ m ∧ m ≤ most by omega)
    clear hmx
    generalize hW : World.setCell w8 _ _ = v8
    have HS9 := hide (show SpS w v8 T A n c l (a + 3 + 2 + 2 + 1 + 1) w.heap.size (w.heap.size + 1) ⟨f, g, f3, f4, (m : Int), lm (rn r), lm r.den, lm (rn s), lm s.den, lm (rn r3), lm r3.den, lm (rn r4), lm r4.den⟩ by
      rw [← hW]
      refine HS8.out.put HPW.out (by omega) (by omega) (fr1 8 _) ?_ (s' := ⟨f, g, f3, f4, (m : Int), lm (rn r), lm r.den, lm (rn s), lm s.den, lm (rn r3), lm r3.den, lm (rn r4), lm r4.den⟩) ⟨HS8.out.q.l.one (fr1 8 _) HS8.out.b.nb, HS8.out.q.h.one (fr1 8 _) HS8.out.b.nb, HS8.out.q.a.one (fr1 8 _) HS8.out.b.nb, HS8.out.q.b.one (fr1 8 _) HS8.out.b.nb⟩ (by omega)
      have h9 := HS8.out.b.put 8 (.int .i64 (m : Int)) (by simp [Sv.cs]) (by simp)
      rw [hx1]
      exact h9)
    clear q0 q1 q2 q3 q4 q5 q6 q7 q8 qf qz
    clear hW
    have p0 := HS9.out.b.cell 0 _ rfl; have p1 := HS9.out.b.cell 1 _ rfl; have p2 := HS9.out.b.cell 2 _ rfl; have p3 := HS9.out.b.cell 3 _ rfl; have p4 := HS9.out.b.cell 4 _ rfl; have p5 := HS9.out.b.cell 5 _ rfl; have p6 := HS9.out.b.cell 6 _ rfl; have p7 := HS9.out.b.cell 7 _ rfl; have p8 := HS9.out.b.cell 8 _ rfl; have pf := HS9.out.b.fz; have pz := HS9.out.b.sz
    have t0 := HS9.out.r.cell 0 _ rfl; have t1 := HS9.out.r.cell 1 _ rfl; have t2 := HS9.out.r.cell 2 _ rfl; have t3 := HS9.out.r.cell 3 _ rfl; have t4 := HS9.out.r.cell 4 _ rfl; have t5 := HS9.out.r.cell 5 _ rfl; have t6 := HS9.out.r.cell 6 _ rfl; have t7 := HS9.out.r.cell 7 _ rfl; have t8 := HS9.out.r.cell 8 _ rfl
    have tf := HS9.out.r.fz
    have tz := HS9.out.r.sz
    dsimp only at p0 p1 p2 p3 p4 p5 p6 p7 p8
    go_wp2_with fail
    have hq9 := hide (fr9 (w := v8) (g := w.heap.size) (.slice f.A f.n f.c) (.slice f.B f.m f.d) (.slice g.A g.n g.c) (.slice g.B g.m g.d) (.slice f3.A f3.n f3.c) (.slice f3.B f3.m f3.d) (.slice f4.A f4.n f4.c) (.slice f4.B f4.m f4.d) (.int .i64 (m : Int)))
    generalize hW : World.setCell (World.setCell (World.setCell (World.setCell (World.setCell (World.setCell (World.setCell (World.setCell (World.setCell v8 _ _) _ _) _ _) _ _) _ _) _ _) _ _) _ _) _ _ = v10
    have HR10 := hide (show Cb v10 w.heap.size [.slice f.A f.n f.c, .slice f.B f.m f.d, .slice g.A g.n g.c, .slice g.B g.m g.d, .slice f3.A f3.n f3.c, .slice f3.B f3.m f3.d, .slice f4.A f4.n f4.c, .slice f4.B f4.m f4.d, .int .i64 (m : Int)] by rw [← hW]; exact (((((((((HS9.out.r.put 0 (.slice f.A f.n f.c) (by simp [z9]) (by simp)).put 1 (.slice f.B f.m f.d) (by simp [z9]) (by simp)).put 2 (.slice g.A g.n g.c) (by simp [z9]) (by simp)).put 3 (.slice g.B g.m g.d) (by simp [z9]) (by simp)).put 4 (.slice f3.A f3.n f3.c) (by simp [z9]) (by simp)).put 5 (.slice f3.B f3.m f3.d) (by simp [z9]) (by simp)).put 6 (.slice f4.A f4.n f4.c) (by simp [z9]) (by simp)).put 7 (.slice f4.B f4.m f4.d) (by simp [z9]) (by simp)).put 8 (.int .i64 (m : Int)) (by simp [z9]) (by simp)))
    have HQ9 := hide (show Fr v8 v10 (fun b => b = w.heap.size) by rw [← hW]; exact hq9.out)
    clear hW hq9 p0 t0 p1 t1 p2 t2 p3 t3 p4 t4 p5 t5 p6 t6 p7 t7 p8 t8 pf tf pz tz
    have k0 := HR10.out.cell 0 _ rfl; have k1 := HR10.out.cell 1 _ rfl; have k2 := HR10.out.cell 2 _ rfl; have k3 := HR10.out.cell 3 _ rfl; have k4 := HR10.out.cell 4 _ rfl; have k5 := HR10.out.cell 5 _ rfl; have k6 := HR10.out.cell 6 _ rfl; have k7 := HR10.out.cell 7 _ rfl; have k8 := HR10.out.cell 8 _ rfl
    refine bodyPost_ret (v := .agg #[.slice f.A f.n f.c, .slice f.B f.m f.d, .slice g.A g.n g.c, .slice g.B g.m g.d, .slice f3.A f3.n f3.c, .slice f3.B f3.m f3.d, .slice f4.A f4.n f4.c, .slice f4.B f4.m f4.d, .int .i64 (m : Int)]) (by simp [results, Tryz.results9, go_sem, *]) rfl ⟨⟨f, g, f3, f4, (m : Int), lm (rn r), lm r.den, lm (rn s), lm s.den, lm (rn r3), lm r3.den, lm (rn r4), lm r4.den⟩, r, s, r3, r4, m, a + 3 + 2 + 2 + 1 + 1, rfl, HS9.out.q.one HQ9.out HS9.out.r.nb, ⟨fracOf_self (o := some r) HOK.out.1, fracOf_self (o := some s) HOK.out.2, fracOf_self (o := some r3) HI3.out.2, fracOf_self (o := some r4) HI4.out.2, ⟨HCR.out, HRS.out.1, lt_tr HRS.out.2.1 HRS.out.2.2⟩, ⟨HCS.out, lt_tr HRS.out.1 HRS.out.2.1, HRS.out.2.2⟩, HI3.out.1, HI4.out.1, HRS.out.2.1, rfl, HMX.out.1, Nat.le_trans HMX.out.2 hm2⟩, HMX.out.2, HPW.out.one HS9.out.tp (Nat.le_refl _) HQ9.out, by omega, HS9.out.fr.step HQ9.out (fun i hi e => by omega)⟩
  · go_upto_region 6 with (first
      | (go_at_call 41; refine (chancetp_any _ T A n c l (a + 3 + 2 + 2) 1 2 HS5.out.tp (by omega) (by omega)).mono ?_; rintro e w6 ⟨rfl, hp, hf⟩; rw [← HBO.out]; have HS6 := hide (HS5.out.tape hp hf (by omega) (by omega)); have hT6 := HS6.out.tp.t.1; clear hp hf)
      | (go_at_call 26; have hx10 : Rs (w10.alloc (.cells #[.int .i64 2, .int .i64 5, .int .i64 10, .int .i64 50] 3)) (some T) 1 iv (some ⟨w10.heap.size, 0, none⟩) [2, 5, 10, 50] := rs_new (by omega) [2, 5, 10, 50] 3; refine (pickp_any _ T A n c l (a + 3 + 2 + 2 + 1 + 1) _ 4 4 [2, 5, 10, 50] (HS10.out.tp.alloc _) (by omega) hx10 rfl (by decide) (by decide)).mono ?_; rintro e w11 ⟨⟨v2, hv, rfl⟩, hp, hf⟩; have HV := hide (mem_nat2 2 hv (by decide)); have HO5b := hide ((HO5.out.alloc _).one hf (HS10.out.tp.alloc _).nb); have HS11 := hide ((HS10.out.below ((Below.refl _ _).alloc (Nat.le_refl _) _)).tape hp hf (by omega) (by omega)); clear hv hp hf; obtain ⟨d2, rfl, hd3, hd4⟩ := HV.out; clear HV)
      | (go_at_call 26; have hx6 : Rs (w6.alloc (.cells #[.int .i64 3, .int .i64 10, .int .i64 20, .int .i64 100] 3)) (some T) 1 iv (some ⟨w6.heap.size, 0, none⟩) [3, 10, 20, 100] := rs_new (by omega) [3, 10, 20, 100] 3; refine (pickp_any _ T A n c l (a + 3 + 2 + 2 + 1) _ 4 4 [3, 10, 20, 100] (HS6.out.tp.alloc _) (by omega) hx6 rfl (by decide) (by decide)).mono ?_; rintro e w9 ⟨⟨v1, hv, rfl⟩, hp, hf⟩; have HV := hide (mem_nat2 2 hv (by decide)); have HS9 := hide ((HS6.out.below ((Below.refl _ _).alloc (Nat.le_refl _) _)).tape hp hf (by omega) (by omega)); clear hv hp hf; obtain ⟨d1, rfl, hd1, hd2⟩ := HV.out; clear HV)
      | (go_at_call 25; (with_reducible refine (small1_any _ d1 (by omega) (by omega)).mono ?_); rintro e w10 ⟨f5, rfl, ho, hb⟩; have HO5 := hide ho; have HS10 := hide (HS9.out.below hb); have hT10 := HS10.out.tp.t.1; clear ho hb)
      | (go_at_call 25; (with_reducible refine (small1_any _ d2 (by omega) (by omega)).mono ?_); rintro e w12 ⟨f6, rfl, ho, hb⟩; have HO6 := hide ho; have HO5c := hide (HO5b.out.below hb); have HS12 := hide (HS11.out.below hb); have u0 := HS12.out.b.cell 0 _ rfl; have u1 := HS12.out.b.cell 1 _ rfl; have u2 := HS12.out.b.cell 2 _ rfl; have u3 := HS12.out.b.cell 3 _ rfl; have u4 := HS12.out.b.cell 4 _ rfl; have u5 := HS12.out.b.cell 5 _ rfl; have u6 := HS12.out.b.cell 6 _ rfl; have u7 := HS12.out.b.cell 7 _ rfl; have u8 := HS12.out.b.cell 8 _ rfl; have uf := HS12.out.b.fz; have uz := HS12.out.b.sz; clear ho hb))
    have HI5 := hide (And.intro (inn_mk hd1 hd2) HO5c.out.2)
    have HI6 := hide (And.intro (inn_mk hd3 hd4) HO6.out.2)
    obtain ⟨r5, hr5⟩ : ∃ r, r = mkRat ((1 : Nat) : Int) d1 := ⟨_, rfl⟩
    obtain ⟨r6, hr6⟩ : ∃ r, r = mkRat ((1 : Nat) : Int) d2 := ⟨_, rfl⟩
    rw [← hr5] at HI5 HO5c
    rw [← hr6] at HI6 HO6
    clear hr5 hr6
    generalize hW : World.setCell (World.setCell (World.setCell (World.setCell w12 _ _) _ _) _ _) _ _ = v13
    have HS13 := hide (show SpS w v13 T A n c l (a + 3 + 2 + 2 + 1 + 1 + 1) w.heap.size (w.heap.size + 1) ⟨f, g, f5, f6, 0, lm (rn r), lm r.den, lm (rn s), lm s.den, lm (rn r5), lm r5.den, lm (rn r6), lm r6.den⟩ by
      rw [← hW]
      exact HS12.out.put HPW.out (by omega) (by omega) (fr4 4 5 6 7 _ _ _ _) (((((HS12.out.b.put 4 (.slice f5.A f5.n f5.c) (by simp [Sv.cs, sv0]) (by simp)).put 5 (.slice f5.B f5.m f5.d) (by simp [Sv.cs, sv0]) (by simp)).put 6 (.slice f6.A f6.n f6.c) (by simp [Sv.cs, sv0]) (by simp)).put 7 (.slice f6.B f6.m f6.d) (by simp [Sv.cs, sv0]) (by simp))) ⟨HS12.out.q.l.one (fr4 4 5 6 7 _ _ _ _) HS12.out.b.nb, HS12.out.q.h.one (fr4 4 5 6 7 _ _ _ _) HS12.out.b.nb, HO5c.out.1.one (fr4 4 5 6 7 _ _ _ _) HS12.out.b.nb, HO6.out.1.one (fr4 4 5 6 7 _ _ _ _) HS12.out.b.nb⟩ (by omega))
    clear hW
    clear u0 u1 u2 u3 u4 u5 u6 u7 u8 uf uz
    go_upto_region 7 with ((go_at_call 24; refine (nextp_any _ T A n c l (a + 3 + 2 + 2 + 1 + 1 + 1) (most : Int) HS13.out.tp (by omega) (by omega)).mono ?_; rintro e w8 ⟨rfl, hp, hf⟩; have HX := hide (tapeV_nat l (a + 3 + 2 + 2 + 1 + 1 + 1) (most : Int)); have HS8 := hide (HS13.out.tape hp hf (by omega) (by omega)); have q0 := HS8.out.b.cell 0 _ rfl; have q1 := HS8.out.b.cell 1 _ rfl; have q2 := HS8.out.b.cell 2 _ rfl; have q3 := HS8.out.b.cell 3 _ rfl; have q4 := HS8.out.b.cell 4 _ rfl; have q5 := HS8.out.b.cell 5 _ rfl; have q6 := HS8.out.b.cell 6 _ rfl; have q7 := HS8.out.b.cell 7 _ rfl; have q8 := HS8.out.b.cell 8 _ rfl; have qf := HS8.out.b.fz; have qz := HS8.out.b.sz; obtain ⟨x, hx, hxm⟩ := HX.out; rw [hx]; clear hp hf hx HX))
    obtain ⟨m, hmx⟩ : ∃ m : Nat, m = 1 + x := ⟨_, rfl⟩
    have hx1 : (1 : Int) + (x : Int) = (m : Int) := by omega
    have HMX := hide (show 1 ≤ m ∧ m ≤ most by omega)
    clear hmx
    generalize hW : World.setCell w8 _ _ = v8
    have HS9 := hide (show SpS w v8 T A n c l (a + 3 + 2 + 2 + 1 + 1 + 1 + 1) w.heap.size (w.heap.size + 1) ⟨f, g, f5, f6, (m : Int), lm (rn r), lm r.den, lm (rn s), lm s.den, lm (rn r5), lm r5.den, lm (rn r6), lm r6.den⟩ by
      rw [← hW]
      refine HS8.out.put HPW.out (by omega) (by omega) (fr1 8 _) ?_ (s' := ⟨f, g, f5, f6, (m : Int), lm (rn r), lm r.den, lm (rn s), lm s.den, lm (rn r5), lm r5.den, lm (rn r6), lm r6.den⟩) ⟨HS8.out.q.l.one (fr1 8 _) HS8.out.b.nb, HS8.out.q.h.one (fr1 8 _) HS8.out.b.nb, HS8.out.q.a.one (fr1 8 _) HS8.out.b.nb, HS8.out.q.b.one (fr1 8 _) HS8.out.b.nb⟩ (by omega)
      have h9 := HS8.out.b.put 8 (.int .i64 (m : Int)) (by simp [Sv.cs]) (by simp)
      rw [hx1]
      exact h9)
    clear q0 q1 q2 q3 q4 q5 q6 q7 q8 qf qz
    clear hW
    have p0 := HS9.out.b.cell 0 _ rfl; have p1 := HS9.out.b.cell 1 _ rfl; have p2 := HS9.out.b.cell 2 _ rfl; have p3 := HS9.out.b.cell 3 _ rfl; have p4 := HS9.out.b.cell 4 _ rfl; have p5 := HS9.out.b.cell 5 _ rfl; have p6 := HS9.out.b.cell 6 _ rfl; have p7 := HS9.out.b.cell 7 _ rfl; have p8 := HS9.out.b.cell 8 _ rfl; have pf := HS9.out.b.fz; have pz := HS9.out.b.sz
    have t0 := HS9.out.r.cell 0 _ rfl; have t1 := HS9.out.r.cell 1 _ rfl; have t2 := HS9.out.r.cell 2 _ rfl; have t3 := HS9.out.r.cell 3 _ rfl; have t4 := HS9.out.r.cell 4 _ rfl; have t5 := HS9.out.r.cell 5 _ rfl; have t6 := HS9.out.r.cell 6 _ rfl; have t7 := HS9.out.r.cell 7 _ rfl; have t8 := HS9.out.r.cell 8 _ rfl
    have tf := HS9.out.r.fz
    have tz := HS9.out.r.sz
    dsimp only at p0 p1 p2 p3 p4 p5 p6 p7 p8
    go_wp2_with fail
    have hq9 := hide (fr9 (w := v8) (g := w.heap.size) (.slice f.A f.n f.c) (.slice f.B f.m f.d) (.slice g.A g.n g.c) (.slice g.B g.m g.d) (.slice f5.A f5.n f5.c) (.slice f5.B f5.m f5.d) (.slice f6.A f6.n f6.c) (.slice f6.B f6.m f6.d) (.int .i64 (m : Int)))
    generalize hW : World.setCell (World.setCell (World.setCell (World.setCell (World.setCell (World.setCell (World.setCell (World.setCell (World.setCell v8 _ _) _ _) _ _) _ _) _ _) _ _) _ _) _ _) _ _ = v10
    have HR10 := hide (show Cb v10 w.heap.size [.slice f.A f.n f.c, .slice f.B f.m f.d, .slice g.A g.n g.c, .slice g.B g.m g.d, .slice f5.A f5.n f5.c, .slice f5.B f5.m f5.d, .slice f6.A f6.n f6.c, .slice f6.B f6.m f6.d, .int .i64 (m : Int)] by rw [← hW]; exact (((((((((HS9.out.r.put 0 (.slice f.A f.n f.c) (by simp [z9]) (by simp)).put 1 (.slice f.B f.m f.d) (by simp [z9]) (by simp)).put 2 (.slice g.A g.n g.c) (by simp [z9]) (by simp)).put 3 (.slice g.B g.m g.d) (by simp [z9]) (by simp)).put 4 (.slice f5.A f5.n f5.c) (by simp [z9]) (by simp)).put 5 (.slice f5.B f5.m f5.d) (by simp [z9]) (by simp)).put 6 (.slice f6.A f6.n f6.c) (by simp [z9]) (by simp)).put 7 (.slice f6.B f6.m f6.d) (by simp [z9]) (by simp)).put 8 (.int .i64 (m : Int)) (by simp [z9]) (by simp)))
    have HQ9 := hide (show Fr v8 v10 (fun b => b = w.heap.size) by rw [← hW]; exact hq9.out)
    clear hW hq9 p0 t0 p1 t1 p2 t2 p3 t3 p4 t4 p5 t5 p6 t6 p7 t7 p8 t8 pf tf pz tz
    have k0 := HR10.out.cell 0 _ rfl; have k1 := HR10.out.cell 1 _ rfl; have k2 := HR10.out.cell 2 _ rfl; have k3 := HR10.out.cell 3 _ rfl; have k4 := HR10.out.cell 4 _ rfl; have k5 := HR10.out.cell 5 _ rfl; have k6 := HR10.out.cell 6 _ rfl; have k7 := HR10.out.cell 7 _ rfl; have k8 := HR10.out.cell 8 _ rfl
    refine bodyPost_ret (v := .agg #[.slice f.A f.n f.c, .slice f.B f.m f.d, .slice g.A g.n g.c, .slice g.B g.m g.d, .slice f5.A f5.n f5.c, .slice f5.B f5.m f5.d, .slice f6.A f6.n f6.c, .slice f6.B f6.m f6.d, .int .i64 (m : Int)]) (by simp [results, Tryz.results9, go_sem, *]) rfl ⟨⟨f, g, f5, f6, (m : Int), lm (rn r), lm r.den, lm (rn s), lm s.den, lm (rn r5), lm r5.den, lm (rn r6), lm r6.den⟩, r, s, r5, r6, m, a + 3 + 2 + 2 + 1 + 1 + 1 + 1, rfl, HS9.out.q.one HQ9.out HS9.out.r.nb, ⟨fracOf_self (o := some r) HOK.out.1, fracOf_self (o := some s) HOK.out.2, fracOf_self (o := some r5) HI5.out.2, fracOf_self (o := some r6) HI6.out.2, ⟨HCR.out, HRS.out.1, lt_tr HRS.out.2.1 HRS.out.2.2⟩, ⟨HCS.out, lt_tr HRS.out.1 HRS.out.2.1, HRS.out.2.2⟩, HI5.out.1, HI6.out.1, HRS.out.2.1, rfl, HMX.out.1, Nat.le_trans HMX.out.2 hm2⟩, HMX.out.2, HPW.out.one HS9.out.tp (Nat.le_refl _) HQ9.out, by omega, HS9.out.fr.step HQ9.out (fun i hi e => by omega)⟩
end Go.Proofs.YtnokfhkcfebimaaGreat

/- Contracts: the sequential laws' example and known. -/
namespace Go.Proofs.YtnokfhkcfebimaaGreat
open Go.RowKit

theorem sm10 (w : World) : Calls Tryz.prog 25 #[.int .i64 1, .int .i64 10] w fun e w' => Ret1 w (some (mkRat 1 10)) e w' := small_any w 1 10 (by omega) (by omega) (by omega)
theorem sm2 (w : World) : Calls Tryz.prog 25 #[.int .i64 1, .int .i64 2] w fun e w' => Ret1 w (some (mkRat 1 2)) e w' := small_any w 1 2 (by omega) (by omega) (by omega)
theorem sm20 (w : World) : Calls Tryz.prog 25 #[.int .i64 1, .int .i64 20] w fun e w' => Ret1 w (some (mkRat 1 20)) e w' := small_any w 1 20 (by omega) (by omega) (by omega)
theorem inn10 : Inn (mkRat 1 10) := inn_mk (d := 10) (by omega) (by omega)
theorem inn2 : Inn (mkRat 1 2) := inn_mk (d := 2) (by omega) (by omega)
theorem inn20 : Inn (mkRat 1 20) := inn_mk (d := 20) (by omega) (by omega)
abbrev OKex (s : Sv) : Prop := OKs s (mkRat 1 10) (mkRat 1 2) (mkRat 1 20) (mkRat 1 10) 10
set_option maxRecDepth 100000 in
set_option maxHeartbeats 8000000 in
theorem yexample_any (w : World) : Calls Tryz.prog 37 #[] w fun e w' => ∃ s : Sv, e = .returned (.agg #[.slice s.l.A s.l.n s.l.c, .slice s.l.B s.l.m s.l.d, .slice s.h.A s.h.n s.h.c, .slice s.h.B s.h.m s.h.d, .slice s.a.A s.a.n s.a.c, .slice s.a.B s.a.m s.a.d, .slice s.b.A s.b.n s.b.c, .slice s.b.B s.b.m s.b.d, .int .i64 s.m]) ∧ SQ w' s ∧ OKex s ∧ Below w.heap.size w w' := by
  go_enter Tryz.func37, Tryz.ntmps37
  go_upto_region 1 with (fail)
  generalize hW : World.alloc w _ = v
  have HR := hide (show Cb v w.heap.size z9 by rw [← hW]; exact Cb.mk0 z9 (by simp [z9]) _ rfl)
  have HB := hide (show Below w.heap.size w v by rw [← hW]; exact (Below.refl _ _).alloc (Nat.le_refl _) _)
  clear hW
  go_wp2_with (first
    | (go_at_call 25; (with_reducible refine (sm10 _).mono ?_); rintro e w4 ⟨f4, rfl, ho, hb⟩; have HO4 := hide ho; have HO34 := hide (HO3.out.below hb); have HO24 := hide (HO23.out.below hb); have HO14 := hide (HO13.out.below hb); have HR4 := hide (HR3.out.below hb); have HB4 := hide (HB3.out.trans (hb.mono HB3.out.size)); have t0 := HR4.out.cell 0 _ rfl; have t1 := HR4.out.cell 1 _ rfl; have t2 := HR4.out.cell 2 _ rfl; have t3 := HR4.out.cell 3 _ rfl; have t4 := HR4.out.cell 4 _ rfl; have t5 := HR4.out.cell 5 _ rfl; have t6 := HR4.out.cell 6 _ rfl; have t7 := HR4.out.cell 7 _ rfl; have t8 := HR4.out.cell 8 _ rfl; have tf := HR4.out.fz; have tz := HR4.out.sz; clear ho hb)
    | (go_at_call 25; (with_reducible refine (sm20 _).mono ?_); rintro e w3 ⟨f3, rfl, ho, hb⟩; have HO3 := hide ho; have HO23 := hide (HO2.out.below hb); have HO13 := hide (HO12.out.below hb); have HR3 := hide (HR2.out.below hb); have HB3 := hide (HB2.out.trans (hb.mono HB2.out.size)); clear ho hb)
    | (go_at_call 25; (with_reducible refine (sm2 _).mono ?_); rintro e w2 ⟨f2, rfl, ho, hb⟩; have HO2 := hide ho; have HO12 := hide (HO1.out.below hb); have HR2 := hide (HR1.out.below hb); have HB2 := hide (HB1.out.trans (hb.mono HB1.out.size)); clear ho hb)
    | (go_at_call 25; (with_reducible refine (sm10 _).mono ?_); rintro e w1 ⟨f1, rfl, ho, hb⟩; have HO1 := hide ho; have HR1 := hide (HR.out.below hb); have HB1 := hide (HB.out.trans (hb.mono HB.out.size)); clear ho hb))
  have hq9 := hide (fr9 (w := w4) (g := w.heap.size) (.slice f1.A f1.n f1.c) (.slice f1.B f1.m f1.d) (.slice f2.A f2.n f2.c) (.slice f2.B f2.m f2.d) (.slice f3.A f3.n f3.c) (.slice f3.B f3.m f3.d) (.slice f4.A f4.n f4.c) (.slice f4.B f4.m f4.d) (.int .i64 10))
  generalize hW : World.setCell (World.setCell (World.setCell (World.setCell (World.setCell (World.setCell (World.setCell (World.setCell (World.setCell w4 _ _) _ _) _ _) _ _) _ _) _ _) _ _) _ _) _ _ = v10
  have HR10 := hide (show Cb v10 w.heap.size [.slice f1.A f1.n f1.c, .slice f1.B f1.m f1.d, .slice f2.A f2.n f2.c, .slice f2.B f2.m f2.d, .slice f3.A f3.n f3.c, .slice f3.B f3.m f3.d, .slice f4.A f4.n f4.c, .slice f4.B f4.m f4.d, .int .i64 10] by rw [← hW]; exact (((((((((HR4.out.put 0 (.slice f1.A f1.n f1.c) (by simp [z9]) (by simp)).put 1 (.slice f1.B f1.m f1.d) (by simp [z9]) (by simp)).put 2 (.slice f2.A f2.n f2.c) (by simp [z9]) (by simp)).put 3 (.slice f2.B f2.m f2.d) (by simp [z9]) (by simp)).put 4 (.slice f3.A f3.n f3.c) (by simp [z9]) (by simp)).put 5 (.slice f3.B f3.m f3.d) (by simp [z9]) (by simp)).put 6 (.slice f4.A f4.n f4.c) (by simp [z9]) (by simp)).put 7 (.slice f4.B f4.m f4.d) (by simp [z9]) (by simp)).put 8 (.int .i64 10) (by simp [z9]) (by simp)))
  have HQ9 := hide (show Fr w4 v10 (fun b => b = w.heap.size) by rw [← hW]; exact hq9.out)
  clear hW hq9 t0 t1 t2 t3 t4 t5 t6 t7 t8 tf tz
  have k0 := HR10.out.cell 0 _ rfl; have k1 := HR10.out.cell 1 _ rfl; have k2 := HR10.out.cell 2 _ rfl; have k3 := HR10.out.cell 3 _ rfl; have k4 := HR10.out.cell 4 _ rfl; have k5 := HR10.out.cell 5 _ rfl; have k6 := HR10.out.cell 6 _ rfl; have k7 := HR10.out.cell 7 _ rfl; have k8 := HR10.out.cell 8 _ rfl
  refine bodyPost_ret (v := .agg #[.slice f1.A f1.n f1.c, .slice f1.B f1.m f1.d, .slice f2.A f2.n f2.c, .slice f2.B f2.m f2.d, .slice f3.A f3.n f3.c, .slice f3.B f3.m f3.d, .slice f4.A f4.n f4.c, .slice f4.B f4.m f4.d, .int .i64 10]) (by simp [results, Tryz.results37, go_sem, *]) rfl ⟨⟨f1, f2, f3, f4, 10, lm (rn (mkRat 1 10)), lm (mkRat 1 10).den, lm (rn (mkRat 1 2)), lm (mkRat 1 2).den, lm (rn (mkRat 1 20)), lm (mkRat 1 20).den, lm (rn (mkRat 1 10)), lm (mkRat 1 10).den⟩, rfl, ⟨HO14.out.1.one HQ9.out HR4.out.nb, HO24.out.1.one HQ9.out HR4.out.nb, HO34.out.1.one HQ9.out HR4.out.nb, HO4.out.1.one HQ9.out HR4.out.nb⟩, ⟨fracOf_self (o := some _) HO14.out.2, fracOf_self (o := some _) HO24.out.2, fracOf_self (o := some _) HO34.out.2, fracOf_self (o := some _) HO4.out.2, inn10, inn2, inn20, inn10, by decide +kernel, rfl, by omega, by omega⟩, ((Fr.of_below (fun b => b = w.heap.size) HB4.out).trans HQ9.out).below (Nat.le_refl _) (fun k hk e => by omega)⟩
theorem kd1 (w : World) (s : Sv) (hq : SQ w s) (hk : OKex s) : Calls Tryz.prog 36 #[.agg #[.slice s.l.A s.l.n s.l.c, .slice s.l.B s.l.m s.l.d, .slice s.h.A s.h.n s.h.c, .slice s.h.B s.h.m s.h.d, .slice s.a.A s.a.n s.a.c, .slice s.a.B s.a.m s.a.d, .slice s.b.A s.b.n s.b.c, .slice s.b.B s.b.m s.b.d, .int .i64 s.m], .int .i64 0, .int .i64 2] w fun e w' => e = .returned (.tuple #[.int .i64 2, .int .i64 0]) ∧ Below w.heap.size w w' := by
  have h1 := sdecide_ok w s _ _ _ _ 10 0 2 hq hk (by omega)
  rwa [show decQ (mkRat 1 10) (mkRat 1 2) (mkRat 1 20) (mkRat 1 10) 0 2 = 2 by decide +kernel] at h1
theorem kd2 (w : World) (s : Sv) (hq : SQ w s) (hk : OKex s) : Calls Tryz.prog 36 #[.agg #[.slice s.l.A s.l.n s.l.c, .slice s.l.B s.l.m s.l.d, .slice s.h.A s.h.n s.h.c, .slice s.h.B s.h.m s.h.d, .slice s.a.A s.a.n s.a.c, .slice s.a.B s.a.m s.a.d, .slice s.b.A s.b.n s.b.c, .slice s.b.B s.b.m s.b.d, .int .i64 s.m], .int .i64 4, .int .i64 0] w fun e w' => e = .returned (.tuple #[.int .i64 1, .int .i64 0]) ∧ Below w.heap.size w w' := by
  have h1 := sdecide_ok w s _ _ _ _ 10 4 0 hq hk (by omega)
  rwa [show decQ (mkRat 1 10) (mkRat 1 2) (mkRat 1 20) (mkRat 1 10) 4 0 = 1 by decide +kernel] at h1
theorem kd3 (w : World) (s : Sv) (hq : SQ w s) (hk : OKex s) : Calls Tryz.prog 38 #[.agg #[.slice s.l.A s.l.n s.l.c, .slice s.l.B s.l.m s.l.d, .slice s.h.A s.h.n s.h.c, .slice s.h.B s.h.m s.h.d, .slice s.a.A s.a.n s.a.c, .slice s.a.B s.a.m s.a.d, .slice s.b.A s.b.n s.b.c, .slice s.b.B s.b.m s.b.d, .int .i64 s.m], .int .i64 4] w fun e w' => e = .returned (.tuple #[.int .i64 0, .int .i64 3, .int .i64 0]) ∧ Below w.heap.size w w' := by
  refine (slimits_ok w s _ _ _ _ 10 4 hq hk (by omega)).mono ?_
  rintro e w' ⟨x, y, rfl, hx, hy, hb⟩
  have e1 : x = ((0 : Nat) : Int) := hx.uniq (.inr ⟨0, rfl, by omega, by omega, by decide +kernel, fun g h1 h2 => by
    match g, h1, h2 with
    | 1, _, _ => decide +kernel
    | 2, _, _ => decide +kernel
    | 3, _, _ => decide +kernel
    | 4, _, _ => decide +kernel⟩)
  have e2 : y = ((3 : Nat) : Int) := hy.uniq (.inr ⟨3, rfl, by omega, by omega, by decide +kernel, fun g h1 h2 => by
    match g, h1, h2 with
    | 0, _, _ => decide +kernel
    | 1, _, _ => decide +kernel
    | 2, _, _ => decide +kernel⟩)
  subst e1 e2
  exact ⟨rfl, hb⟩
set_option maxRecDepth 100000 in
set_option maxHeartbeats 8000000 in
theorem yknown_any (w : World) : Calls Tryz.prog 8 #[] w fun e w' => e = .returned (.bool true) ∧ Below w.heap.size w w' := by
  go_enter Tryz.func8, Tryz.ntmps8
  go_wp2_with (first
    | (go_at_call 37; (with_reducible refine (yexample_any _).mono ?_); rintro e w5 ⟨s3, rfl, hq, hk, hb⟩; have HQ3 := hide hq; have HK3 := hide hk; have HB5 := hide (HB4.out.trans (hb.mono HB4.out.size)); clear hq hk hb)
    | (go_at_call 38; (with_reducible refine (kd3 _ s3 HQ3.out HK3.out).mono ?_); rintro e w6 ⟨rfl, hb⟩; have HB6 := hide (HB5.out.trans (hb.mono HB5.out.size)); clear hb)
    | (go_at_call 37; (with_reducible refine (yexample_any _).mono ?_); rintro e w3 ⟨s2, rfl, hq, hk, hb⟩; have HQ2 := hide hq; have HK2 := hide hk; have HB3 := hide (HB2.out.trans (hb.mono HB2.out.size)); clear hq hk hb)
    | (go_at_call 36; (with_reducible refine (kd2 _ s2 HQ2.out HK2.out).mono ?_); rintro e w4 ⟨rfl, hb⟩; have HB4 := hide (HB3.out.trans (hb.mono HB3.out.size)); clear hb)
    | (go_at_call 37; (with_reducible refine (yexample_any _).mono ?_); rintro e w1 ⟨s1, rfl, hq, hk, hb⟩; have HQ1 := hide hq; have HK1 := hide hk; have HB1 := hide hb; clear hq hk hb)
    | (go_at_call 36; (with_reducible refine (kd1 _ s1 HQ1.out HK1.out).mono ?_); rintro e w2 ⟨rfl, hb⟩; have HB2 := hide (HB1.out.trans (hb.mono HB1.out.size)); clear hb))
  go_ret
  exact ⟨rfl, HB6.out⟩
end Go.Proofs.YtnokfhkcfebimaaGreat
