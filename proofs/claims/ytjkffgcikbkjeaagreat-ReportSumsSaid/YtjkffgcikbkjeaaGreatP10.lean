/- Contracts of the functions that these laws reach: part 10: Plain facts and boxes for noise.total; Contracts: noise.total; Contracts: noise.total, Exactly, AtLeast, AtMost. -/
import Derived.Test.YtjkffgcikbkjeaaGreatP8
import Derived.Test.YtjkffgcikbkjeaaGreatP9
set_option linter.unusedVariables false
set_option linter.unusedSimpArgs false

/- Plain facts and boxes for noise.total. -/
namespace Go.Proofs.YtjkffgcikbkjeaaGreat
open Go.RowKit

/-! ### One block changes -/
theorem Rw.nb0 (w : World) (t : TypeId) {g : Nat} (hg : g = w.heap.size) : NB (w.alloc (.cells ⟨z33⟩ t)) g := by
  subst hg
  intro j x h
  by_cases hj : j < 33
  · rw [(Rw.mk0 w t rfl).c j hj] at h
    simp at h
  · rw [World.cell?_alloc_new] at h
    simp only [List.getElem?_toArray] at h
    rw [List.getElem?_eq_none (by show 33 ≤ j; omega)] at h
    simp at h
theorem NB.below {v v' : World} {g : Nat} (h : NB v g) (hs : g < v.heap.size) (hb : Below v.heap.size v v') : NB v' g := by
  intro j x
  rw [hb.cell (by simp; omega)]
  exact h j x
theorem Fq.one {w w' : World} {a : Fa} {l k : List Nat} {g : Nat} (h : Fq w a l k) (hf : Fr w w' (fun b => b = g)) (hg : NB w g) : Fq w' a l k :=
  ⟨h.u.fr hf (fun hl b o hA _ => h.u.nbox hl hA hg), h.v.fr hf (fun hl b o hA _ => h.v.nbox hl hA hg), h.c, h.d, h.n, h.m⟩
theorem Fo.one {w w' : World} {a : Fa} {o : Option Rat} {g : Nat} (h : Fo w a o) (hf : Fr w w' (fun b => b = g)) (hg : NB w g) : Fo w' a o := ⟨h.1.one hf hg, h.2⟩
theorem Bq.one {w w' : World} {g' : Nat} {c : Fa} {g : Nat} (h : Bq w g' c) (hf : Fr w w' (fun b => b = g)) (hg : g' ≠ g) : Bq w' g' c := by
  have hk := hf.block g' h.sz hg
  refine ⟨?_, ?_, fun j => ?_, Nat.lt_of_lt_of_le h.sz hf.size, fun j x => ?_⟩
  · rw [World.cell?_of_block (w := w) (a := ⟨g', 0, none⟩) hk]; exact h.c0
  · rw [World.cell?_of_block (w := w) (a := ⟨g', 1, none⟩) hk]; exact h.c1
  · rw [World.frozen?_of_block (w := w) (a := ⟨g', j, none⟩) hk]; exact h.fz j
  · rw [World.cell?_of_block (w := w) (a := ⟨g', j, none⟩) hk]; exact h.nb j x
theorem F1.one {w0 v v' : World} {a : Fa} {l k : List Nat} {g : Nat} (h : F1 w0 v a l k) (hf : Fr v v' (fun b => b = g)) (hg : NB v g) (hg2 : w0.heap.size + 1 < g) : F1 w0 v' a l k := by
  have h1 := h.sz
  have hk := hf.block w0.heap.size (by omega) (by omega)
  refine ⟨?_, ?_, ?_, Nat.lt_of_lt_of_le h.sz hf.size, h.q.one hf hg, (h.rb.bq.one hf (by omega)).rb⟩
  · exact ⟨hf.os.trans h.bw.os, hf.tape.trans h.bw.tape, hf.output.trans h.bw.output, Nat.le_trans h.bw.size hf.size, fun b hb => (hf.block b (by omega) (by omega)).trans (h.bw.block b hb)⟩
  · rw [World.cell?_of_block (w := v) (a := ⟨w0.heap.size, 0, none⟩) hk]; exact h.c0
  · rw [World.cell?_of_block (w := v) (a := ⟨w0.heap.size, 1, none⟩) hk]; exact h.c1
theorem fr_cells {w : World} {g : Nat} : ∀ (vs : List Value) (o : Nat) {v : World}, Fr w v (fun b => b = g) → Fr w (v.setCells g o vs) (fun b => b = g)
  | [], _, _, h => h
  | _ :: vs, o, _, h => fr_cells vs (o + 1) (h.setCell (p := ⟨g, o, none⟩) (.inr rfl) _)
theorem Rw.filled {w : World} {g n : Nat} {F : Nat → Nat} (h : Rw w g F) : Rw (w.setCells g 0 (rowCells n)) g (ch n) := by
  have hr := World.rangeAt_setCells_same w g 0 (rowCells n) (by rw [rowCells_len]; exact h.there)
  refine ⟨fun j hj => ?_, fun j => ?_, ?_⟩
  · have := hr j _ (rowCells_get hj)
    rwa [Nat.zero_add] at this
  · rw [World.frozen?_setCells]; exact h.fz j
  · have := (fr_cells (w := w) (rowCells n) 0 (Fr.refl w (fun b => b = g))).size
    exact Nat.lt_of_lt_of_le h.sz this
theorem Rw.one {w w' : World} {g' : Nat} {F : Nat → Nat} {g : Nat} (h : Rw w g' F) (hf : Fr w w' (fun b => b = g)) (hg : g' ≠ g) : Rw w' g' F := by
  have hk := hf.block g' h.sz hg
  refine ⟨fun j hj => ?_, fun j => ?_, Nat.lt_of_lt_of_le h.sz hf.size⟩
  · rw [World.cell?_of_block (w := w) (a := ⟨g', j, none⟩) hk]; exact h.c j hj
  · rw [World.frozen?_of_block (w := w) (a := ⟨g', j, none⟩) hk]; exact h.fz j

/-! ### The state of the loop -/
structure TS (w wr : World) (a : Fa) (l k : List Nat) (n : Nat) (r : Rat) (b8 b9 b10 : Nat) (cq cs : Fa) (sv : Rat) : Prop where
  f1 : F1 w wr a l k
  rw : Rw wr b8 (ch n)
  q : Bq wr b9 cq
  qo : Fo wr cq (some (1 - r))
  s : Bq wr b10 cs
  so : Fo wr cs (some sv)
  d80 : b8 ≠ b10
  d90 : b9 ≠ b10
  g0 : w.heap.size + 1 < b10
theorem TS.below {w wr wr' : World} {a : Fa} {l k : List Nat} {n : Nat} {r : Rat} {b8 b9 b10 : Nat} {cq cs : Fa} {s : Rat} (h : TS w wr a l k n r b8 b9 b10 cq cs s) (hb : Below wr.heap.size wr wr') : TS w wr' a l k n r b8 b9 b10 cq cs s :=
  ⟨h.f1.below hb, h.rw.below hb, h.q.below hb, h.qo.below hb, h.s.below hb, h.so.below hb, h.d80, h.d90, h.g0⟩
theorem fr_fill {w : World} {g : Nat} (x y : Value) : Fr w ((w.setCell ⟨g, 0, none⟩ x).setCell ⟨g, 1, none⟩ y) (fun b => b = g) :=
  ((Fr.refl w (fun b => b = g)).setCell (p := ⟨g, 0, none⟩) (.inr rfl) x).setCell (p := ⟨g, 1, none⟩) (.inr rfl) y
theorem TS.put {w wr : World} {a : Fa} {l k : List Nat} {n : Nat} {r : Rat} {b8 b9 b10 : Nat} {cq cs : Fa} {s : Rat} (h : TS w wr a l k n r b8 b9 b10 cq cs s) {c : Fa} {s' : Rat} (ho : Fo wr c (some s')) :
    TS w ((wr.setCell ⟨b10, 0, none⟩ (.slice c.A c.n c.c)).setCell ⟨b10, 1, none⟩ (.slice c.B c.m c.d)) a l k n r b8 b9 b10 cq c s' :=
  ⟨h.f1.one (fr_fill _ _) h.s.nb h.g0, h.rw.one (fr_fill _ _) h.d80, h.q.one (fr_fill _ _) h.d90, h.qo.one (fr_fill _ _) h.s.nb, h.s.fill c, ho.one (fr_fill _ _) h.s.nb, h.d80, h.d90, h.g0⟩
theorem TS.far {w wr wr' : World} {a : Fa} {l k : List Nat} {n : Nat} {r : Rat} {b8 b9 b10 : Nat} {cq cs : Fa} {s : Rat} (h : TS w wr a l k n r b8 b9 b10 cq cs s) {g : Nat} (hf : Fr wr wr' (fun b => b = g)) (hg : NB wr g) (h8 : b8 ≠ g) (h9 : b9 ≠ g) (h10 : b10 ≠ g) (hgw : w.heap.size + 1 < g) :
    TS w wr' a l k n r b8 b9 b10 cq cs s :=
  ⟨h.f1.one hf hg hgw, h.rw.one hf h8, h.q.one hf h9, h.qo.one hf hg, h.s.one hf h10, h.so.one hf hg, h.d80, h.d90, h.g0⟩
/-- The box g holds a fraction of the value o. -/
structure Fx (v : World) (g : Nat) (c : Fa) (o : Option Rat) : Prop where
  b : Bq v g c
  o : Fo v c o
theorem Fx.below {v v' : World} {g : Nat} {c : Fa} {o : Option Rat} (h : Fx v g c o) (hb : Below v.heap.size v v') : Fx v' g c o := ⟨h.b.below hb, h.o.below hb⟩
theorem Fx.mk0 {w : World} {c : Fa} {o : Option Rat} (h : Fo w c o) (t : TypeId) {g : Nat} (hg : g = w.heap.size) : Fx (w.alloc (.cells #[.slice c.A c.n c.c, .slice c.B c.m c.d] t)) g c o := ⟨Bq.mk0 t c hg, h.alloc _⟩
theorem Fx.put {w : World} {g : Nat} {c c' : Fa} {o o' : Option Rat} (h : Fx w g c o) (h' : Fo w c' o') : Fx ((w.setCell ⟨g, 0, none⟩ (.slice c'.A c'.n c'.c)).setCell ⟨g, 1, none⟩ (.slice c'.B c'.m c'.d)) g c' o' :=
  ⟨h.b.fill c', h'.one (fr_fill _ _) h.b.nb⟩
theorem Fx.one {w w' : World} {g g' : Nat} {c : Fa} {o : Option Rat} (h : Fx w g c o) (hf : Fr w w' (fun b => b = g')) (hg : NB w g') (hn : g ≠ g') : Fx w' g c o := ⟨h.b.one hf hn, h.o.one hf hg⟩

/-! ### What fits -/
theorem two128 : ((2 ^ 32 : Nat) : Rat) ≤ ((4294967296 ^ 4 : Nat) : Rat) := by exact_mod_cast (by decide : 2 ^ 32 ≤ 4294967296 ^ 4)
theorem den_sc {r : Rat} (h : 0 ≤ r) : Sc r.den 1 r := by
  refine ⟨rn r, ?_⟩
  have h1 : r = mkRat (rn r) r.den := (mk_self h).symm
  have hd : (r.den : Rat) ≠ 0 := fun e => by
    have : r.den = 0 := by exact_mod_cast e
    have := r.den_pos
    omega
  have h2 : r = (rn r : Rat) / (r.den : Rat) := by
    conv => lhs; rw [h1, Rat.mkRat_eq_div]
    rfl
  have h3 : (rn r : Rat) / (r.den : Rat) * (r.den : Rat) = (rn r : Rat) := Rat.div_mul_cancel hd
  rw [Rat.pow_one, ← h3, ← h2]
theorem den_sc1 {r : Rat} (h0 : 0 ≤ r) (h1 : r ≤ 1) : Sc r.den 1 (1 - r) := by
  obtain ⟨x, hx⟩ := den_sc h0
  have hle : (x : Rat) ≤ (r.den : Rat) := by
    rw [← hx, Rat.pow_one]
    have := Rat.mul_le_mul_of_nonneg_right h1 (cast_nonneg r.den)
    rwa [Rat.one_mul] at this
  have hle' : x ≤ r.den := by exact_mod_cast hle
  refine ⟨r.den - x, ?_⟩
  have e : ((r.den - x : Nat) : Rat) = (r.den : Rat) - (x : Rat) := by
    have : ((r.den - x : Nat) : Rat) + (x : Rat) = (r.den : Rat) := by rw [← Rat.natCast_add, Nat.sub_add_cancel hle']
    grind
  rw [e, ← hx]
  grind
theorem pow_le_one {r : Rat} (h0 : 0 ≤ r) (h1 : r ≤ 1) : ∀ n : Nat, r ^ n ≤ 1
  | 0 => by rw [Rat.pow_zero]; exact Rat.le_refl
  | n + 1 => by
    rw [Rat.pow_succ]
    have := Rat.mul_le_mul_of_nonneg_right (pow_le_one h0 h1 n) h0
    rw [Rat.one_mul] at this
    exact Rat.le_trans this h1
theorem ch_le_q {n k : Nat} (hn : n ≤ 32) : (ch n k : Rat) ≤ ((2 ^ 32 : Nat) : Rat) := by
  have h1 := ch_le n k
  have h2 : 2 ^ n ≤ 2 ^ 32 := Nat.pow_le_pow_right (by omega) hn
  exact_mod_cast Nat.le_trans h1 h2
theorem mul_le_b {x y b : Rat} (hx : 0 ≤ x) (h : x ≤ b) (hy : y ≤ 1) (hy0 : 0 ≤ y) : x * y ≤ b := by
  have := Rat.mul_le_mul_of_nonneg_left hy hx
  rw [Rat.mul_one] at this
  exact Rat.le_trans this h
theorem one32 : (1 : Rat) ≤ ((2 ^ 32 : Nat) : Rat) := by exact_mod_cast (by decide : 1 ≤ 2 ^ 32)
/-- A chance. -/
structure Chn (r : Rat) : Prop where
  h0 : 0 ≤ r
  h1 : r ≤ 1
  hd : r.den ≤ 1000
section
variable {r : Rat} (h : Chn r)
include h
theorem Chn.q0 : 0 ≤ 1 - r := (Rat.le_iff_sub_nonneg r 1).1 h.h1
theorem Chn.q1 : 1 - r ≤ 1 := by have := h.h0; grind
theorem Chn.fit {n : Nat} {x : Rat} (hs : Sc r.den n x) (hn : n ≤ 128) (hx : x ≤ ((2 ^ 32 : Nat) : Rat)) : fitsR x = true :=
  hs.fits r.den_pos (by have := h.hd; omega) hn (Rat.le_trans hx two128)
theorem Chn.fq : fitsR (1 - r) = true := h.fit (den_sc1 h.h0 h.h1) (by omega) (Rat.le_trans h.q1 one32)
theorem Chn.fp {k : Nat} (hk : k ≤ 32) : fitsR (r ^ k) = true := h.fit ((den_sc h.h0).pow k) (by omega) (Rat.le_trans (pow_le_one h.h0 h.h1 k) one32)
theorem Chn.fp' {k : Nat} (hk : k ≤ 32) : fitsR ((1 - r) ^ k) = true := h.fit ((den_sc1 h.h0 h.h1).pow k) (by omega) (Rat.le_trans (pow_le_one h.q0 h.q1 k) one32)
theorem Chn.fcp {n k : Nat} (hn : n ≤ 32) (hk : k ≤ 32) : fitsR ((ch n k : Rat) * r ^ k) = true :=
  h.fit ((Sc.nat r.den (ch n k)).mul ((den_sc h.h0).pow k)) (by omega) (mul_le_b (cast_nonneg _) (ch_le_q hn) (pow_le_one h.h0 h.h1 k) (Rat.pow_nonneg h.h0))
theorem Chn.ftm {n k : Nat} (hn : n ≤ 32) (hk : k ≤ n) : fitsR (tm r n k) = true :=
  h.fit (sc_tm (den_sc h.h0) (den_sc1 h.h0 h.h1) hk) (by omega) (mul_le_b (Rat.mul_nonneg (cast_nonneg _) (Rat.pow_nonneg h.h0)) (mul_le_b (cast_nonneg _) (ch_le_q hn) (pow_le_one h.h0 h.h1 k) (Rat.pow_nonneg h.h0)) (pow_le_one h.q0 h.q1 _) (Rat.pow_nonneg h.q0))
theorem Chn.fsm {n m : Nat} (hn : n ≤ 32) (f : Nat → Bool) (hm : m ≤ n + 1) : fitsR (sm r n f m) = true :=
  h.fit (sc_sm (den_sc h.h0) (den_sc1 h.h0 h.h1) f hm) (by omega) (Rat.le_trans (sm_le_one h.h0 h.h1 n f hm) one32)
end
theorem chO_chn {o : Option Rat} {r : Rat} (h : o = some r) (h0 : 0 ≤ r) (hc : chO o = true) : Chn r := by
  subst h
  simp only [chO, Bool.and_eq_true, decide_eq_true_eq] at hc
  exact ⟨h0, hc.1, hc.2⟩
/-! ### Calls that succeed -/
def RetV (w : World) (s : Rat) (e : Ending) (w' : World) : Prop := ∃ c : Fa, e = .returned (.tuple #[.agg #[.slice c.A c.n c.c, .slice c.B c.m c.d], .int .i64 0]) ∧ Fo w' c (some s) ∧ Below w.heap.size w w'
theorem Ret.ok {w : World} {x : Option Rat × Int} {s : Rat} (h : x = (some s, 0)) {e : Ending} {w' : World} (hr : Ret w x e w') : RetV w s e w' := by
  subst h
  exact hr
theorem fpow_ok (w : World) (a : Fa) (r : Rat) (k : Nat) (ha : Fo w a (some r)) (hk : k ≤ 65536) (hf : fitsR (r ^ k) = true) : Calls Tryz.prog 75 #[.agg #[.slice a.A a.n a.c, .slice a.B a.m a.d], .int .i64 (k : Int)] w fun e w' => RetV w (r ^ k) e w' :=
  (fpow_o w a (some r) (k : Int) ha (by omega) (by omega)).mono fun e w' h => h.ok (by
    show (if (k : Int) < 0 ∨ 65536 < (k : Int) then (none, 3) else limR (r ^ (k : Int).toNat)) = _
    rw [if_neg (by omega), Int.toNat_natCast, limR_fit hf])
theorem fmul_ok (w : World) (a b : Fa) (r s : Rat) (ha : Fo w a (some r)) (hb : Fo w b (some s)) (hf : fitsR (r * s) = true) : Calls Tryz.prog 76 #[.agg #[.slice a.A a.n a.c, .slice a.B a.m a.d], .agg #[.slice b.A b.n b.c, .slice b.B b.m b.d]] w fun e w' => RetV w (r * s) e w' :=
  (fmul_o w a b (some r) (some s) ha hb).mono fun e w' h => h.ok (limR_fit hf)
theorem fadd_ok (w : World) (a b : Fa) (r s : Rat) (ha : Fo w a (some r)) (hb : Fo w b (some s)) (hf : fitsR (r + s) = true) : Calls Tryz.prog 77 #[.agg #[.slice a.A a.n a.c, .slice a.B a.m a.d], .agg #[.slice b.A b.n b.c, .slice b.B b.m b.d]] w fun e w' => RetV w (r + s) e w' :=
  (fadd_o w a b (some r) (some s) ha hb).mono fun e w' h => h.ok (limR_fit hf)
theorem fmake_nat (w : World) (x : Nat) (A : Option Addr) (n c : Nat) (B : Option Addr) (m d : Nat) (hU : Ul w none A n (lm x)) (hV : Ul w none B m (lm 1)) (hn : n ≤ 1000) (hm : m ≤ 1000) (hx : x < 18446744073709551616) :
    Calls Tryz.prog 66 #[.slice A n c, .slice B m d] w fun e w' => RetV w (x : Rat) e w' :=
  (fmake_any w A n c B m d _ _ hU hV hn hm).mono fun e w' h => h.ok (by rw [mkR_64 hx (by omega) (by omega), mk_one])
theorem nof_one (w : World) : Calls Tryz.prog 67 #[.int .u64 1] w fun e w' => ∃ A m c, e = .returned (.slice A m c) ∧ m ≤ c ∧ m ≤ 2 ∧ Ul w' none A m (lm 1) ∧ Below w.heap.size w w' := nof_any w 1 (by omega)
theorem TS.alloc {w wr : World} {a : Fa} {l k : List Nat} {n : Nat} {r : Rat} {b8 b9 b10 : Nat} {cq cs : Fa} {s : Rat} (h : TS w wr a l k n r b8 b9 b10 cq cs s) (o : Obj) : TS w (wr.alloc o) a l k n r b8 b9 b10 cq cs s := h.below ((Below.refl _ _).alloc (Nat.le_refl _) _)
theorem Fx.alloc {w : World} {g : Nat} {c : Fa} {o : Option Rat} (h : Fx w g c o) (x : Obj) : Fx (w.alloc x) g c o := h.below ((Below.refl _ _).alloc (Nat.le_refl _) _)
/-- What total returns. -/
def totR (o : Option Rat) (n : Int) (f : Nat → Bool) : Option Rat × Int :=
  if chO o = true then (if n < 0 ∨ 32 < n then (none, 3) else match o with | some r => (some (tot r n.toNat f), 0) | none => (none, 41)) else (none, 41)
theorem totR_ok {r : Rat} {n : Nat} {f : Nat → Bool} (hc : Chn r) (hn : n ≤ 32) : totR (some r) n f = (some (tot r n f), 0) := by
  have : chO (some r) = true := by simp [chO, hc.h1, hc.hd]
  unfold totR
  rw [if_pos this, if_neg (by omega)]
  rfl
end Go.Proofs.YtjkffgcikbkjeaaGreat

/- Contracts: noise.total. -/
namespace Go.Proofs.YtjkffgcikbkjeaaGreat
open Go.RowKit

def RT (B n : Nat) (a : Fa) (r : Rat) : Nat → Value → World → Prop
  | 0, x, _ => x = .int .i64 (n : Int)
  | 1, x, _ => x = .agg (rowCells n).toArray
  | 2, x, _ => x = .agg #[.slice a.A a.n a.c, .slice a.B a.m a.d]
  | 3, x, W => ∃ c : Fa, x = .agg #[.slice c.A c.n c.c, .slice c.B c.m c.d] ∧ Fo W c (some (1 - r))
  | 4, x, W => ∃ c : Fa, x = .agg #[.slice c.A c.n c.c, .slice c.B c.m c.d] ∧ Fo W c (some 0)
  | 5, x, W => ∃ b, x = .pointer (some ⟨b, 0, none⟩) ∧ B ≤ b ∧ Rw W b (fun _ => 0) ∧ NB W b
  | 6, x, W => ∃ b, x = .pointer (some ⟨b, 0, none⟩) ∧ B ≤ b ∧ Bq W b fa0
  | 7, x, W => ∃ b, x = .pointer (some ⟨b, 0, none⟩) ∧ B ≤ b ∧ Bq W b fa0
  | _, _, _ => True
theorem RT.st (B n : Nat) (a : Fa) (r : Rat) : ∀ i x w w', RT B n a r i x w → Below w.heap.size w w' → RT B n a r i x w'
  | 0, _, _, _, h, _ => h
  | 1, _, _, _, h, _ => h
  | 2, _, _, _, h, _ => h
  | 3, _, _, _, ⟨c, h1, h2⟩, hb => ⟨c, h1, h2.below hb⟩
  | 4, _, _, _, ⟨c, h1, h2⟩, hb => ⟨c, h1, h2.below hb⟩
  | 5, _, _, _, ⟨b, h1, h2, h3, h4⟩, hb => ⟨b, h1, h2, h3.below hb, h4.below h3.sz hb⟩
  | 6, _, _, _, ⟨b, h1, h2, h3⟩, hb => ⟨b, h1, h2, h3.below hb⟩
  | 7, _, _, _, ⟨b, h1, h2, h3⟩, hb => ⟨b, h1, h2, h3.below hb⟩
  | _ + 8, _, _, _, _, _ => trivial
set_option maxRecDepth 100000 in
set_option maxHeartbeats 16000000 in
theorem total_main (w : World) (a : Fa) (r : Rat) (n : Nat) (fid : FuncId) (G : Nat) (f : Nat → Bool) (hq : Fq w a (lm (rn r)) (lm r.den)) (hn2 : n ≤ 32) (hc : Chn r) (hr : fitsR r = true) (hA : fracOf (lm (rn r)) (lm r.den) = some r) (hch : chO (fracOf (lm (rn r)) (lm r.den)) = true)
    (hcf : ∀ vs W, (callFunc fid vs).run Tryz.prog W = .ok (.enter fid vs) W)
    (hf : ∀ (W : World) (j : Nat), Below w.heap.size w W → j ≤ 32 → Calls Tryz.prog fid #[.int .i64 (j : Int), .pointer (some ⟨G, 0, none⟩)] W fun e w' => e = .returned (.bool (f j)) ∧ w' = W) :
    Calls Tryz.prog 55 #[.agg #[.slice a.A a.n a.c, .slice a.B a.m a.d], .int .i64 (n : Int), .func (Fn.func fid) #[] #[.pointer (some ⟨G, 0, none⟩)]] w fun e w' => Ret w (some (tot r n f), 0) e w' := by
  have hr0 := hc.h0
  have hr1 := hc.h1
  have hfr := hc.fq
  have HF0 := hide hf
  have HCH := hide hch
  have HC := hide hc
  have HOK := hide (show okR (some r) from ⟨hr0, hr⟩)
  have h1 : decide ((n : Int) < 0) = false := decide_eq_false (by omega)
  have hn : decide ((n : Int) > 32) = false := decide_eq_false (by omega)
  have HN := hide hn2
  clear hA hch hf hc
  go_enter Tryz.func55, Tryz.ntmps55
  go_upto_region 1 with (fail)
  generalize hW : World.alloc (World.alloc w _) _ = v
  have HF := hide (show F1 w v a (lm (rn r)) (lm r.den) by rw [← hW]; exact F1.mk0 hq _ _)
  obtain ⟨a0, a1, az, r0, r1, rf⟩ := HF.out.ca
  clear hW hq
  go_upto_region 5 with (go_at_call 53; (with_reducible refine (chance_any _ a _ _ HF.out.q).mono ?_); rintro e w1 ⟨rfl, hb⟩; rw [HCH.out]; have HF1 := hide (HF.out.below hb); obtain ⟨e0, e1, ez, s0, s1, sf⟩ := HF1.out.ca; clear hb)
  go_cut [8, 9, 10] from 8 to 36 (fun s8 s9 s10 wx => ∃ b8 b9 b10 cq cs, s8 = .pointer (some ⟨b8, 0, none⟩) ∧ s9 = .pointer (some ⟨b9, 0, none⟩) ∧ s10 = .pointer (some ⟨b10, 0, none⟩) ∧ Hid (TS w wx a (lm (rn r)) (lm r.den) n r b8 b9 b10 cq cs 0))
  case first =>
    refine region_first_many 8 [31, 32, 33, 34, 35, 8, 9, 10] (RT w1.heap.size n a r) (fun i => decide (5 ≤ i)) (by kernel_rfl) (by decide) rfl (by decide) (by kernel_rfl) (by kernel_rfl) (RT.st _ _ _ _) ?_ ?_
    · intro i hi a' w' hbw hdf hoff hdep K hK
      have o1 : a'.tmps.getD 1 undef = .int .i64 (n : Int) := hoff 1 rfl
      have o3 : a'.tmps.getD 3 undef = .pointer (some ⟨w.heap.size, 0, none⟩) := hoff 3 rfl
      have HF2 := hide (HF1.out.below hbw)
      obtain ⟨g0, g1, gz, -⟩ := HF2.out.ca
      have HBW := hide hbw
      have HFO := hide (show Fo w' a (some r) from ⟨HF2.out.q, HOK.out⟩)
      have sw := hbw.size
      clear hoff hdf hbw
      match i, hi with
      | 0, _ =>
        refine rg_in rfl (fun K' hKK => ?_)
        go_wp2_with fail
        exact (hK _ _ rfl (Below.refl _ _) (by simp))
      | 1, _ =>
        have o31 : a'.tmps.getD 31 undef = .int .i64 (n : Int) := hdep _ rfl ⟨0, Ground.data⟩ (by simp) rfl
        refine rg_in rfl (fun K' hKK => ?_)
        go_wp2_with (go_at_call 73; (with_reducible refine (row_any _ n hn2).mono ?_); rintro e w2 ⟨rfl, hb⟩; have HB := hide hb; clear hb)
        exact (hK _ _ rfl HB.out (by simp))
      | 2, _ =>
        refine rg_in rfl (fun K' hKK => ?_)
        go_wp2_with fail
        exact (hK _ _ rfl (Below.refl _ _) (by simp))
      | 3, _ =>
        have o33 : a'.tmps.getD 33 undef = .agg #[.slice a.A a.n a.c, .slice a.B a.m a.d] := hdep _ rfl ⟨2, Ground.data⟩ (by simp) rfl
        refine rg_in rfl (fun K' hKK => ?_)
        go_wp2_with (go_at_call 74; (with_reducible refine (other_any _ a r HFO.out hr1 hfr).mono ?_); rintro e w2 ⟨c, rfl, ho, hb⟩; have HB := hide hb; have HO := hide ho; clear hb ho)
        exact (hK _ _ ⟨c, rfl, HO.out⟩ HB.out (by simp))
      | 4, _ =>
        refine rg_in rfl (fun K' hKK => ?_)
        go_wp2_with (go_at_call 69; (with_reducible refine (whole0_any _).mono ?_); rintro e w2 ⟨c, rfl, ho, hb⟩; have HB := hide hb; have HO := hide ho; clear hb ho)
        exact (hK _ _ ⟨c, rfl, HO.out⟩ HB.out (by simp))
      | 5, _ =>
        refine rg_in rfl (fun K' hKK => ?_)
        go_wp2_with fail
        exact (hK _ _ ⟨_, rfl, sw, Rw.mk0 _ _ rfl, Rw.nb0 _ _ rfl⟩ ((Below.refl _ _).alloc (Nat.le_refl _) _) (fun _ => ⟨_, rfl, Nat.le_refl _, by simp⟩))
      | 6, _ =>
        refine rg_in rfl (fun K' hKK => ?_)
        go_wp2_with fail
        exact (hK _ _ ⟨_, rfl, sw, Bq.mk0 _ fa0 rfl⟩ ((Below.refl _ _).alloc (Nat.le_refl _) _) (fun _ => ⟨_, rfl, Nat.le_refl _, by simp⟩))
      | 7, _ =>
        refine rg_in rfl (fun K' hKK => ?_)
        go_wp2_with fail
        exact (hK _ _ ⟨_, rfl, sw, Bq.mk0 _ fa0 rfl⟩ ((Below.refl _ _).alloc (Nat.le_refl _) _) (fun _ => ⟨_, rfl, Nat.le_refl _, by simp⟩))
    · intro x w2 hbw hx hne
      obtain ⟨b8, e8, h8, q8, n8⟩ := hx 5 (by decide)
      obtain ⟨b9, e9, h9, q9⟩ := hx 6 (by decide)
      obtain ⟨b10, e10, h10, q10⟩ := hx 7 (by decide)
      obtain ⟨cq, e34, o34⟩ := hx 3 (by decide)
      obtain ⟨cs, e35, o35⟩ := hx 4 (by decide)
      have e32 : x 1 = .agg (rowCells n).toArray := hx 1 (by decide)
      have d89 : b8 ≠ b9 := fun h => hne 5 6 (by decide) (by decide) (by decide) rfl rfl (by rw [e8, e9, h])
      have d80 : b8 ≠ b10 := fun h => hne 5 7 (by decide) (by decide) (by decide) rfl rfl (by rw [e8, e10, h])
      have d90 : b9 ≠ b10 := fun h => hne 6 7 (by decide) (by decide) (by decide) rfl rfl (by rw [e9, e10, h])
      simp only [show (List.range 8).map (fun i => some (x i)) = [some (x 0), some (x 1), some (x 2), some (x 3), some (x 4), some (x 5), some (x 6), some (x 7)] from rfl, e8, e9, e10, e34, e35, e32]
      generalize x 0 = x0
      generalize x 2 = x2
      have HX := hide hbw
      clear hx hne hbw e8 e9 e10 e34 e35 e32
      have HTH := hide q8.there
      simp only [fillT, List.setIfInBounds_toArray, List.set_cons_succ, List.set_cons_zero]
      refine wpAny_one (i := 8) (by kernel_rfl) ?_
      refine rg_store_mid 117 (.tmp 8) (.tmp 32) rfl rfl rfl rfl b8 0 (rowCells n).toArray rfl rfl (by rw [List.size_toArray, rowCells_len]; exact HTH.out) (by rw [List.size_toArray, rowCells_len]; rfl) (all_oneCell_toArray (rowCells_one n)) ?_
      have HF2 := HF1.out.below HX.out
      have z2 := HX.out.size
      have hfc := fr_cells (w := w2) (g := b8) (rowCells n) 0 (Fr.refl w2 _)
      have HR3 := hide (q8.filled (n := n))
      have HF3 := hide (HF2.one hfc n8 (by omega))
      have HQ9 := hide (q9.one hfc (Ne.symm d89))
      have HQ10 := hide (q10.one hfc (Ne.symm d80))
      have HO34 := hide (o34.one hfc n8)
      have HO35 := hide (o35.one hfc n8)
      generalize hW : w2.setCells b8 0 (rowCells n).toArray.toList = w3 at hfc HR3 HF3 HQ9 HQ10 HO34 HO35 ⊢
      clear hW q8 q9 q10 n8 HF2 hfc o34 o35
      obtain ⟨c90, c91, cf9, cz9, -⟩ := HQ9.out
      obtain ⟨c00, c01, cf0, cz0, -⟩ := HQ10.out
      refine wpAny_one (i := 9) (by kernel_rfl) ?_
      refine rg_in rfl (fun K' hKK => ?_)
      go_wp2_with fail
      refine wpAny_one (i := 10) (by kernel_rfl) ?_
      refine rg_in rfl (fun K' hKK => ?_)
      go_wp2_with fail
      refine wpAny_done (by kernel_rfl) ?_ _
      go_wp2_with fail
      go_meet
      case rel =>
        have hf9 := fr_fill (w := w3) (g := b9) (.slice cq.A cq.n cq.c) (.slice cq.B cq.m cq.d)
        have hn9 := HQ9.out.nb
        have hT : TS w ((w3.setCell ⟨b9, 0, none⟩ (.slice cq.A cq.n cq.c)).setCell ⟨b9, 1, none⟩ (.slice cq.B cq.m cq.d)) a (lm (rn r)) (lm r.den) n r b8 b9 b10 cq cs 0 → True := fun _ => trivial
        have g1 := HF3.out.one hf9 hn9 (by omega)
        have g2 := HR3.out.one hf9 d89
        have g3 := HQ9.out.fill cq
        have g4 := HO34.out.one hf9 hn9
        have g5 := HQ10.out.one hf9 (Ne.symm d90)
        have g6 := HO35.out.one hf9 hn9
        have hf10 := fr_fill (w := ((w3.setCell ⟨b9, 0, none⟩ (.slice cq.A cq.n cq.c)).setCell ⟨b9, 1, none⟩ (.slice cq.B cq.m cq.d))) (g := b10) (.slice cs.A cs.n cs.c) (.slice cs.B cs.m cs.d)
        exact ⟨b8, b9, b10, cq, cs, rfl, rfl, rfl, hide ⟨g1.one hf10 g5.nb (by omega), g2.one hf10 d80, g3.one hf10 d90, g4.one hf10 g5.nb, g5.fill cs, g6.one hf10 g5.nb, d80, d90, by omega⟩⟩
  case rest =>
    obtain ⟨b8, b9, b10, cq, cs, rfl, rfl, rfl, HT⟩ := hcut
    go_wp2_with fail
    go_loopw [38] (fun i wr => ∃ (j : Nat) (cs : Fa), i = .int .i64 (j : Int) ∧ j ≤ n + 1 ∧ Hid (TS w wr a (lm (rn r)) (lm r.den) n r b8 b9 b10 cq cs (sm r n f j))) (fun i _ => n + 1 - (intOf i).toNat)
    case atStart => exact ⟨0, cs, rfl, by omega, HT⟩
    case round =>
      obtain ⟨j, cs, rfl, hj, HT⟩ := hrel
      clear HF HF1 e0 e1 ez s0 s1 sf a0 a1 az r0 r1 rf
      by_cases hjn : j = n + 1
      · subst hjn
        obtain ⟨a0, a1, az, r0, r1, rf⟩ := HT.out.f1.ca
        have c00 := HT.out.s.c0
        have c01 := HT.out.s.c1
        go_wp2_with fail
        refine bodyPost_ret (v := .tuple #[.agg #[.slice cs.A cs.n cs.c, .slice cs.B cs.m cs.d], .int .i64 0]) (by simp [results, Tryz.results55, go_sem, *]) rfl (HT.out.f1.end rfl HT.out.so)
      · have hlt : (j : Int) < (n : Int) + 1 := by omega
        have hj32 : j ≤ 32 := by omega
        have HBw := hide HT.out.f1.bw
        cases hfj : f j
        · have HFJ := hide hfj
          have HS := hide (show sm r n f (j + 1) = sm r n f j by show sm r n f j + (if f j then _ else 0) = _; rw [hfj, if_neg (by simp)]; grind)
          clear hfj
          go_wp2_with ((with_reducible refine (HF0.out _ j HBw.out hj32).mono ?_); rintro e w1 ⟨rfl, rfl⟩; rw [HFJ.out])
          go_roundw
          case rel => exact ⟨j + 1, cs, by go_num, by omega, by rw [HS.out]; exact HT⟩
          case measure => simp [intOf]; omega
        · have HFJ := hide hfj
          have HS := hide (show sm r n f (j + 1) = sm r n f j + tm r n j by show sm r n f j + (if f j then _ else 0) = _; rw [hfj, if_pos rfl])
          clear hfj
          have hC := HC.out
          have HA := hide (show Fo wr a (some r) from ⟨HT.out.f1.q, HOK.out⟩)
          obtain ⟨a0, a1, az, -⟩ := HT.out.f1.ca
          have z8 := HT.out.rw.sz
          have z9 := HT.out.q.sz
          have z10 := HT.out.s.sz
          have hnj : (n : Int) - (j : Int) = ((n - j : Nat) : Int) := by omega
          have g0 : (0 : Int) ≤ (j : Int) := by omega
          have g1 : (j : Int) < 33 := by omega
          have hch : ch n j < 18446744073709551616 := by
            have h1 := ch_le n j
            have h2 : 2 ^ n ≤ 2 ^ 32 := Nat.pow_le_pow_right (by omega) hn2
            omega
          have HCH2 := hide hch
          have HFT := hide (show fitsR ((ch n j : Rat) * r ^ j * (1 - r) ^ (n - j)) = true from hC.ftm hn2 (by omega))
          clear hch hC
          go_upto_region 13 with (first
            | ((with_reducible refine (HF0.out _ j HBw.out hj32).mono ?_); rintro e w1 ⟨rfl, rfl⟩; rw [HFJ.out])
            | (go_at_call 75; (with_reducible refine (fpow_ok _ a r j HA.out (by omega) (HC.out.fp hj32)).mono ?_); rintro e w2 ⟨c12, rfl, ho, hb⟩; have HO12 := hide ho; have HT2 := hide (HT.out.below hb); have s2 := hb.size; have q0 := HT2.out.q.c0; have q1 := HT2.out.q.c1; have qz := HT2.out.q.sz; clear ho hb)
            | (go_at_call 75; (with_reducible refine (fpow_ok _ cq (1 - r) (n - j) (HT2.out.qo.alloc _) (by omega) (HC.out.fp' (by omega))).mono ?_); rintro e w3 ⟨c14, rfl, ho, hb⟩; have HO14 := hide ho; have HT3 := hide ((HT2.out.alloc _).below hb); have HX12 := hide ((Fx.mk0 HO12.out 52 rfl).below hb); have s3 : w2.heap.size < w3.heap.size := (by have := hb.size; simp at this; omega); have k8 := HT3.out.rw.c j (by omega); have kz := HT3.out.rw.sz; clear ho hb)
            | (go_at_call 67; (with_reducible refine (nof_any _ (ch n j) HCH2.out).mono ?_); rintro e w4 ⟨A4, m4, d4, rfl, hd4, hm4, hu, hb⟩; have HU4 := hide hu; have HT4 := hide ((HT3.out.alloc _).below hb); have HX12b := hide ((HX12.out.alloc _).below hb); have HX14 := hide ((Fx.mk0 HO14.out 52 rfl).below hb); have s4 : w3.heap.size < w4.heap.size := (by have := hb.size; simp at this; omega); clear hu hb)
            | (go_at_call 67; (with_reducible refine (nof_one _).mono ?_); rintro e w5 ⟨A5, m5, d5, rfl, hd5, hm5, hu, hb⟩; have HU5 := hide hu; have HU4b := hide (HU4.out.below hb); have HT5 := hide (HT4.out.below hb); have HX12c := hide (HX12b.out.below hb); have HX14b := hide (HX14.out.below hb); have s5 := hb.size; clear hu hb)
            | (go_at_call 66; (with_reducible refine (fmake_nat _ (ch n j) A4 m4 d4 A5 m5 d5 HU4b.out HU5.out (by omega) (by omega) HCH2.out).mono ?_); rintro e w6 ⟨c16, rfl, ho, hb⟩; have HO16 := hide ho; have HT6 := hide (HT5.out.below hb); have HX12d := hide (HX12c.out.below hb); have HX14c := hide (HX14b.out.below hb); have s6 := hb.size; clear ho hb))
          have hgw := HT.out.g0
          generalize hW : World.alloc w6 _ = v6
          have HT7 := hide (show TS w v6 a (lm (rn r)) (lm r.den) n r b8 b9 b10 cq cs (sm r n f j) by rw [← hW]; exact HT6.out.alloc _)
          have HX12e := hide (show Fx v6 w2.heap.size c12 (some (r ^ j)) by rw [← hW]; exact HX12d.out.alloc _)
          have HX14d := hide (show Fx v6 w3.heap.size c14 (some ((1 - r) ^ (n - j))) by rw [← hW]; exact HX14c.out.alloc _)
          have HX16 := hide (show Fx v6 w6.heap.size c16 (some (ch n j : Rat)) by rw [← hW]; exact Fx.mk0 HO16.out 52 rfl)
          clear hW
          obtain ⟨x0, x1, xf, xz, -⟩ := HX16.out.b
          obtain ⟨y0, y1, yf, yz, -⟩ := HX12e.out.b
          go_upto_region 14 with (go_at_call 76; (with_reducible refine (fmul_ok _ c16 c12 _ _ HX16.out.o HX12e.out.o (HC.out.fcp HN.out hj32)).mono ?_); rintro e w7 ⟨c17, rfl, ho, hb⟩; have HO17 := hide ho; have HT8 := hide (HT7.out.below hb); have HX14e := hide (HX14d.out.below hb); have HX16b := hide (HX16.out.below hb); obtain ⟨p0, p1, pf, pz, -⟩ := HX16b.out.b; clear ho hb)
          generalize hW : World.setCell (World.setCell w7 _ _) _ _ = v7
          have HT9 := hide (show TS w v7 a (lm (rn r)) (lm r.den) n r b8 b9 b10 cq cs (sm r n f j) by rw [← hW]; exact HT8.out.far (fr_fill _ _) HX16b.out.b.nb (by omega) (by omega) (by omega) (by omega))
          have HX14f := hide (show Fx v7 w3.heap.size c14 (some ((1 - r) ^ (n - j))) by rw [← hW]; exact HX14e.out.one (fr_fill _ _) HX16b.out.b.nb (by omega))
          have HX16c := hide (show Fx v7 w6.heap.size c17 (some ((ch n j : Rat) * r ^ j)) by rw [← hW]; exact HX16b.out.put HO17.out)
          clear hW
          obtain ⟨k0, k1, kf, kz, -⟩ := HX16c.out.b
          obtain ⟨l0, l1, lf, lz, -⟩ := HX14f.out.b
          go_upto_region 15 with (go_at_call 76; (with_reducible refine (fmul_ok _ c17 c14 _ _ HX16c.out.o HX14f.out.o HFT.out).mono ?_); rintro e w8 ⟨c18, rfl, ho, hb⟩; have HO18 : Hid (Fo w8 c18 (some (tm r n j))) := hide ho; have HT10 := hide (HT9.out.below hb); have HX16d := hide (HX16c.out.below hb); obtain ⟨p0, p1, pf, pz, -⟩ := HX16d.out.b; clear ho hb)
          generalize hW : World.setCell (World.setCell w8 _ _) _ _ = v8
          have HT11 := hide (show TS w v8 a (lm (rn r)) (lm r.den) n r b8 b9 b10 cq cs (sm r n f j) by rw [← hW]; exact HT10.out.far (fr_fill _ _) HX16d.out.b.nb (by omega) (by omega) (by omega) (by omega))
          have HX16e := hide (show Fx v8 w6.heap.size c18 (some (tm r n j)) by rw [← hW]; exact HX16d.out.put HO18.out)
          clear hW
          obtain ⟨m0, m1, mf, mz, -⟩ := HX16e.out.b
          obtain ⟨n0, n1, nf, nz, -⟩ := HT11.out.s
          go_wp2_with (go_at_call 77; (with_reducible refine (fadd_ok _ cs c18 _ _ HT11.out.so HX16e.out.o (by rw [← HS.out]; exact HC.out.fsm HN.out f (by omega))).mono ?_); rintro e w9 ⟨c19, rfl, ho, hb⟩; rw [← HS.out] at ho; have HO19 := hide ho; have HT12 := hide (HT11.out.below hb); obtain ⟨t0, t1, tf, tz, -⟩ := HT12.out.s; clear ho hb)
          go_roundw
          case rel => exact ⟨j + 1, c19, by go_num, by omega, hide (HT12.out.put HO19.out)⟩
          case measure => simp [intOf]; omega
end Go.Proofs.YtjkffgcikbkjeaaGreat

/- Contracts: noise.total, Exactly, AtLeast, AtMost. -/
namespace Go.Proofs.YtjkffgcikbkjeaaGreat
open Go.RowKit

set_option maxRecDepth 100000 in
set_option maxHeartbeats 8000000 in
theorem total_any (w : World) (a : Fa) (l k : List Nat) (n : Int) (fid : FuncId) (G : Nat) (f : Nat → Bool) (hq : Fq w a l k)
    (hcf : ∀ vs W, (callFunc fid vs).run Tryz.prog W = .ok (.enter fid vs) W)
    (hf : ∀ (W : World) (j : Nat), Below w.heap.size w W → j ≤ 32 → Calls Tryz.prog fid #[.int .i64 (j : Int), .pointer (some ⟨G, 0, none⟩)] W fun e w' => e = .returned (.bool (f j)) ∧ w' = W) :
    Calls Tryz.prog 55 #[.agg #[.slice a.A a.n a.c, .slice a.B a.m a.d], .int .i64 n, .func (Fn.func fid) #[] #[.pointer (some ⟨G, 0, none⟩)]] w fun e w' => Ret w (totR (fracOf l k) n f) e w' := by
  cases hch : chO (fracOf l k)
  · have HCH := hide hch
    have HX := hide (show totR (fracOf l k) n f = (none, 41) by unfold totR; rw [if_neg (by rw [hch]; simp)])
    clear hch hf hcf
    go_enter Tryz.func55, Tryz.ntmps55
    go_upto_region 1 with (fail)
    generalize hW : World.alloc (World.alloc w _) _ = v
    have HF := hide (show F1 w v a (l) (k) by rw [← hW]; exact F1.mk0 hq _ _)
    obtain ⟨a0, a1, az, r0, r1, rf⟩ := HF.out.ca
    clear hW hq
    go_wp2_with (go_at_call 53; (with_reducible refine (chance_any _ a _ _ HF.out.q).mono ?_); rintro e w1 ⟨rfl, hb⟩; rw [HCH.out]; have HF1 := hide (HF.out.below hb); obtain ⟨e0, e1, ez, s0, s1, sf⟩ := HF1.out.ca; clear hb)
    refine bodyPost_ret (v := .tuple #[.agg #[.slice none 0 0, .slice none 0 0], .int .i64 41]) (by simp [results, Tryz.results55, go_sem, *]) rfl (HF1.out.err HX.out)
  · by_cases h0 : n < 0
    · have HCH := hide hch
      have HX := hide (show totR (fracOf l k) n f = (none, 3) by unfold totR; rw [if_pos hch, if_pos (.inl h0)])
      have d0 : decide (n < 0) = true := decide_eq_true h0
      clear hch hf hcf h0
      go_enter Tryz.func55, Tryz.ntmps55
      go_upto_region 1 with (fail)
      generalize hW : World.alloc (World.alloc w _) _ = v
      have HF := hide (show F1 w v a (l) (k) by rw [← hW]; exact F1.mk0 hq _ _)
      obtain ⟨a0, a1, az, r0, r1, rf⟩ := HF.out.ca
      clear hW hq
      go_wp2_with (go_at_call 53; (with_reducible refine (chance_any _ a _ _ HF.out.q).mono ?_); rintro e w1 ⟨rfl, hb⟩; rw [HCH.out]; have HF1 := hide (HF.out.below hb); obtain ⟨e0, e1, ez, s0, s1, sf⟩ := HF1.out.ca; clear hb)
      refine bodyPost_ret (v := .tuple #[.agg #[.slice none 0 0, .slice none 0 0], .int .i64 3]) (by simp [results, Tryz.results55, go_sem, *]) rfl (HF1.out.err HX.out)
    · by_cases h2 : 32 < n
      · have HCH := hide hch
        have HX := hide (show totR (fracOf l k) n f = (none, 3) by unfold totR; rw [if_pos hch, if_pos (.inr h2)])
        have d0 : decide (n < 0) = false := decide_eq_false h0
        have d1 : decide (n > 32) = true := decide_eq_true h2
        clear hch hf hcf h0 h2
        go_enter Tryz.func55, Tryz.ntmps55
        go_upto_region 1 with (fail)
        generalize hW : World.alloc (World.alloc w _) _ = v
        have HF := hide (show F1 w v a (l) (k) by rw [← hW]; exact F1.mk0 hq _ _)
        obtain ⟨a0, a1, az, r0, r1, rf⟩ := HF.out.ca
        clear hW hq
        go_wp2_with (go_at_call 53; (with_reducible refine (chance_any _ a _ _ HF.out.q).mono ?_); rintro e w1 ⟨rfl, hb⟩; rw [HCH.out]; have HF1 := hide (HF.out.below hb); obtain ⟨e0, e1, ez, s0, s1, sf⟩ := HF1.out.ca; clear hb)
        refine bodyPost_ret (v := .tuple #[.agg #[.slice none 0 0, .slice none 0 0], .int .i64 3]) (by simp [results, Tryz.results55, go_sem, *]) rfl (HF1.out.err HX.out)
      · cases hA : fracOf l k with
        | none => rw [hA] at hch; simp [chO] at hch
        | some r =>
          obtain ⟨rfl, rfl, hr0, hr⟩ := fracOf_some hA
          rw [hA] at hch
          have hc := chO_chn rfl hr0 hch
          obtain ⟨m, rfl⟩ : ∃ m : Nat, n = m := ⟨n.toNat, by omega⟩
          have hX : totR (some r) m f = (some (tot r m f), 0) := by
            unfold totR
            rw [if_pos hch, if_neg (by omega)]; rfl
          rw [hX]
          exact total_main w a r m fid G f hq (by omega) hc hr hA (by rw [hA]; exact hch) hcf hf
set_option maxRecDepth 100000 in
set_option maxHeartbeats 4000000 in
theorem atleast1_any (w : World) (j : Nat) (k : Int) (G : Nat) (h0 : w.cell? ⟨G, 0, none⟩ = some (.int .i64 k)) :
  Calls Tryz.prog 63 #[.int .i64 (j : Int), .pointer (some ⟨G, 0, none⟩)] w fun e w' => e = .returned (.bool (decide (k ≤ (j : Int)))) ∧ w' = w := by
  go_enter Tryz.func63, Tryz.ntmps63
  go_wp2_with fail
  go_ret
  exact ⟨by first | (simp; done) | (simp; rfl), rfl⟩
set_option maxRecDepth 100000 in
set_option maxHeartbeats 4000000 in
theorem atmost1_any (w : World) (j : Nat) (k : Int) (G : Nat) (h0 : w.cell? ⟨G, 0, none⟩ = some (.int .i64 k)) :
  Calls Tryz.prog 56 #[.int .i64 (j : Int), .pointer (some ⟨G, 0, none⟩)] w fun e w' => e = .returned (.bool (decide ((j : Int) ≤ k))) ∧ w' = w := by
  go_enter Tryz.func56, Tryz.ntmps56
  go_wp2_with fail
  go_ret
  exact ⟨by first | (simp; done) | (simp; rfl), rfl⟩
theorem calls_func {fid : FuncId} {fn : Func} {c : Code} (hf : Tryz.prog.funcs[fid]? = some fn) (hname : (fn.name == "runtime.NumGoroutine") = false) (hb : fn.body = some c) (vs : Array Value) (w : World) : (callFunc fid vs).run Tryz.prog w = .ok (.enter fid vs) w := by
  unfold callFunc
  simp [Sem.run_bind, go_sem, hf, hb]
  simpa using hname
set_option maxRecDepth 100000 in
set_option maxHeartbeats 4000000 in
theorem atleast_any (w : World) (a : Fa) (l k : List Nat) (n m : Int) (hq : Fq w a l k) :
    Calls Tryz.prog 47 #[.agg #[.slice a.A a.n a.c, .slice a.B a.m a.d], .int .i64 n, .int .i64 m] w fun e w' => Ret w (totR (fracOf l k) n (fun j => decide (m ≤ (j : Int)))) e w' := by
  have hcf := fun (vs : Array Value) (W : World) => calls_func (fid := 63) (fn := Tryz.f63) rfl (by kernel_rfl) rfl vs W
  have HCF := hide hcf
  clear hcf
  go_enter Tryz.func47, Tryz.ntmps47
  go_upto_region 1 with (fail)
  generalize hW : World.alloc (World.alloc (World.alloc w _) _) _ = v
  have HQ := hide (show Fq v a l k by rw [← hW]; exact ((hq.alloc _).alloc _).alloc _)
  have a0 : v.cell? ⟨w.heap.size, 0, none⟩ = some (.slice a.A a.n a.c) := by rw [← hW]; clear hW; go_simp
  have a1 : v.cell? ⟨w.heap.size, 1, none⟩ = some (.slice a.B a.m a.d) := by rw [← hW]; clear hW; go_simp
  have hk : v.cell? ⟨w.heap.size + 1, 0, none⟩ = some (.int .i64 m) := by rw [← hW]; clear hW; go_simp
  have HR := hide (show Rb v (w.heap.size + 2) by rw [← hW]; exact Rb.mk0 _ (by simp))
  have HB := hide (show Below w.heap.size w v by rw [← hW]; exact (((Below.refl _ _).alloc (Nat.le_refl _) _).alloc (by simp) _).alloc (by simp; omega) _)
  have hz : w.heap.size + 2 < v.heap.size := HR.out.sz
  obtain ⟨r0, r1, rf, rz, -⟩ := HR.out
  have HFN := hide (show ∀ (W : World) (j : Nat), Below v.heap.size v W → j ≤ 32 → Calls Tryz.prog 63 #[.int .i64 (j : Int), .pointer (some ⟨w.heap.size + 1, 0, none⟩)] W fun e w' => e = .returned (.bool (decide (m ≤ (j : Int)))) ∧ w' = W from
    fun W j hb hj => atleast1_any W j m (w.heap.size + 1) (by rw [hb.cell (by simp; omega)]; exact hk))
  clear hW hq
  go_wp2_with (go_at_call 55; (with_reducible refine (total_any _ a l k n 63 (w.heap.size + 1) (fun j => decide (m ≤ (j : Int))) HQ.out HCF.out HFN.out).mono ?_); rintro e w1 ⟨c, rfl, ho, hb⟩; have HO := hide ho; have HB1 := hide (HB.out.trans (hb.mono HB.out.size)); have HR1 := hide (HR.out.below hb); obtain ⟨z0, z1, zf, zz, -⟩ := HR1.out; clear ho hb)
  have HE := hide (show totR (fracOf l k) n (fun j => decide (m ≤ (j : Int))) = totR (fracOf l k) n (fun j => decide (m ≤ (j : Int))) from rfl)
  refine bodyPost_ret (v := .tuple #[.agg #[.slice c.A c.n c.c, .slice c.B c.m c.d], .int .i64 (totR (fracOf l k) n (fun j => decide (m ≤ (j : Int)))).2]) (by simp [results, Tryz.results47, go_sem, *]) rfl (Ret.mk0 rfl HO.out HR1.out HB1.out (by omega))
set_option maxRecDepth 100000 in
set_option maxHeartbeats 4000000 in
theorem atmost_any (w : World) (a : Fa) (l k : List Nat) (n m : Int) (hq : Fq w a l k) :
    Calls Tryz.prog 39 #[.agg #[.slice a.A a.n a.c, .slice a.B a.m a.d], .int .i64 n, .int .i64 m] w fun e w' => Ret w (totR (fracOf l k) n (fun j => decide ((j : Int) ≤ m))) e w' := by
  have hcf := fun (vs : Array Value) (W : World) => calls_func (fid := 56) (fn := Tryz.f56) rfl (by kernel_rfl) rfl vs W
  have HCF := hide hcf
  clear hcf
  go_enter Tryz.func39, Tryz.ntmps39
  go_upto_region 1 with (fail)
  generalize hW : World.alloc (World.alloc (World.alloc w _) _) _ = v
  have HQ := hide (show Fq v a l k by rw [← hW]; exact ((hq.alloc _).alloc _).alloc _)
  have a0 : v.cell? ⟨w.heap.size, 0, none⟩ = some (.slice a.A a.n a.c) := by rw [← hW]; clear hW; go_simp
  have a1 : v.cell? ⟨w.heap.size, 1, none⟩ = some (.slice a.B a.m a.d) := by rw [← hW]; clear hW; go_simp
  have hk : v.cell? ⟨w.heap.size + 1, 0, none⟩ = some (.int .i64 m) := by rw [← hW]; clear hW; go_simp
  have HR := hide (show Rb v (w.heap.size + 2) by rw [← hW]; exact Rb.mk0 _ (by simp))
  have HB := hide (show Below w.heap.size w v by rw [← hW]; exact (((Below.refl _ _).alloc (Nat.le_refl _) _).alloc (by simp) _).alloc (by simp; omega) _)
  have hz : w.heap.size + 2 < v.heap.size := HR.out.sz
  obtain ⟨r0, r1, rf, rz, -⟩ := HR.out
  have HFN := hide (show ∀ (W : World) (j : Nat), Below v.heap.size v W → j ≤ 32 → Calls Tryz.prog 56 #[.int .i64 (j : Int), .pointer (some ⟨w.heap.size + 1, 0, none⟩)] W fun e w' => e = .returned (.bool (decide ((j : Int) ≤ m))) ∧ w' = W from
    fun W j hb hj => atmost1_any W j m (w.heap.size + 1) (by rw [hb.cell (by simp; omega)]; exact hk))
  clear hW hq
  go_wp2_with (go_at_call 55; (with_reducible refine (total_any _ a l k n 56 (w.heap.size + 1) (fun j => decide ((j : Int) ≤ m)) HQ.out HCF.out HFN.out).mono ?_); rintro e w1 ⟨c, rfl, ho, hb⟩; have HO := hide ho; have HB1 := hide (HB.out.trans (hb.mono HB.out.size)); have HR1 := hide (HR.out.below hb); obtain ⟨z0, z1, zf, zz, -⟩ := HR1.out; clear ho hb)
  have HE := hide (show totR (fracOf l k) n (fun j => decide ((j : Int) ≤ m)) = totR (fracOf l k) n (fun j => decide ((j : Int) ≤ m)) from rfl)
  refine bodyPost_ret (v := .tuple #[.agg #[.slice c.A c.n c.c, .slice c.B c.m c.d], .int .i64 (totR (fracOf l k) n (fun j => decide ((j : Int) ≤ m))).2]) (by simp [results, Tryz.results39, go_sem, *]) rfl (Ret.mk0 rfl HO.out HR1.out HB1.out (by omega))
end Go.Proofs.YtjkffgcikbkjeaaGreat
