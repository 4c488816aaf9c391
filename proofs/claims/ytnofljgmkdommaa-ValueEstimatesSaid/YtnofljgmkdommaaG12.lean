/- Contracts of the functions that these laws reach: part 12: Plain facts and boxes for noise.total; Contracts: noise.total; Contracts: noise.total, Exactly, AtLeast, AtMost; Contracts: Small; Contracts: the reference's Split in one, Pow; Contracts: the reference's fractions: lowest, limited, Make, Of; Contracts: the reference's fractions: Make, Of. -/
import Derived.Test.YtnofljgmkdommaaG10
import Derived.Test.YtnofljgmkdommaaG11
import Derived.Test.YtnofljgmkdommaaG8
set_option linter.unusedVariables false
set_option linter.unusedSimpArgs false

/- Plain facts and boxes for noise.total. -/
namespace Go.Proofs.Ytnofljgmkdommaa
open Go.RowKit

/-! ### One block changes -/
theorem Rw.nb0 (w : World) (t : TypeId) {g : Nat} (hg : g = w.heap.size) : NB (w.alloc (.cells ⟨z33⟩ t)) g := by
  subst hg
  intro j x h
  by_cases hj : j < 33
  · rw [(Rw.mk0 w t rfl).c j hj] at h
    simp at h
  · rw [World.cell?_alloc_new] at h
    simp only [List.getElem?_toArray] at h
    rw [List.getElem?_eq_none (by show 33 ≤ j; omega)] at h
    simp at h
theorem NB.below {v v' : World} {g : Nat} (h : NB v g) (hs : g < v.heap.size) (hb : Below v.heap.size v v') : NB v' g := by
  intro j x
  rw [hb.cell (by simp; omega)]
  exact h j x
theorem Fq.one {w w' : World} {a : Fa} {l k : List Nat} {g : Nat} (h : Fq w a l k) (hf : Fr w w' (fun b => b = g)) (hg : NB w g) : Fq w' a l k :=
  ⟨h.u.fr hf (fun hl b o hA _ => h.u.nbox hl hA hg), h.v.fr hf (fun hl b o hA _ => h.v.nbox hl hA hg), h.c, h.d, h.n, h.m⟩
theorem Fo.one {w w' : World} {a : Fa} {o : Option Rat} {g : Nat} (h : Fo w a o) (hf : Fr w w' (fun b => b = g)) (hg : NB w g) : Fo w' a o := ⟨h.1.one hf hg, h.2⟩
theorem Bq.one {w w' : World} {g' : Nat} {c : Fa} {g : Nat} (h : Bq w g' c) (hf : Fr w w' (fun b => b = g)) (hg : g' ≠ g) : Bq w' g' c := by
  have hk := hf.block g' h.sz hg
  refine ⟨?_, ?_, fun j => ?_, Nat.lt_of_lt_of_le h.sz hf.size, fun j x => ?_⟩
  · rw [World.cell?_of_block (w := w) (a := ⟨g', 0, none⟩) hk]; exact h.c0
  · rw [World.cell?_of_block (w := w) (a := ⟨g', 1, none⟩) hk]; exact h.c1
  · rw [World.frozen?_of_block (w := w) (a := ⟨g', j, none⟩) hk]; exact h.fz j
  · rw [World.cell?_of_block (w := w) (a := ⟨g', j, none⟩) hk]; exact h.nb j x
theorem F1.one {w0 v v' : World} {a : Fa} {l k : List Nat} {g : Nat} (h : F1 w0 v a l k) (hf : Fr v v' (fun b => b = g)) (hg : NB v g) (hg2 : w0.heap.size + 1 < g) : F1 w0 v' a l k := by
  have h1 := h.sz
  have hk := hf.block w0.heap.size (by omega) (by omega)
  refine ⟨?_, ?_, ?_, Nat.lt_of_lt_of_le h.sz hf.size, h.q.one hf hg, (h.rb.bq.one hf (by omega)).rb⟩
  · exact ⟨hf.os.trans h.bw.os, hf.tape.trans h.bw.tape, hf.output.trans h.bw.output, Nat.le_trans h.bw.size hf.size, fun b hb => (hf.block b (by omega) (by omega)).trans (h.bw.block b hb)⟩
  · rw [World.cell?_of_block (w := v) (a := ⟨w0.heap.size, 0, none⟩) hk]; exact h.c0
  · rw [World.cell?_of_block (w := v) (a := ⟨w0.heap.size, 1, none⟩) hk]; exact h.c1
theorem fr_cells {w : World} {g : Nat} : ∀ (vs : List Value) (o : Nat) {v : World}, Fr w v (fun b => b = g) → Fr w (v.setCells g o vs) (fun b => b = g)
  | [], _, _, h => h
  | _ :: vs, o, _, h => fr_cells vs (o + 1) (h.setCell (p := ⟨g, o, none⟩) (.inr rfl) _)
theorem Rw.filled {w : World} {g n : Nat} {F : Nat → Nat} (h : Rw w g F) : Rw (w.setCells g 0 (rowCells n)) g (ch n) := by
  have hr := World.rangeAt_setCells_same w g 0 (rowCells n) (by rw [rowCells_len]; exact h.there)
  refine ⟨fun j hj => ?_, fun j => ?_, ?_⟩
  · have := hr j _ (rowCells_get hj)
    rwa [Nat.zero_add] at this
  · rw [World.frozen?_setCells]; exact h.fz j
  · have := (fr_cells (w := w) (rowCells n) 0 (Fr.refl w (fun b => b = g))).size
    exact Nat.lt_of_lt_of_le h.sz this
theorem Rw.one {w w' : World} {g' : Nat} {F : Nat → Nat} {g : Nat} (h : Rw w g' F) (hf : Fr w w' (fun b => b = g)) (hg : g' ≠ g) : Rw w' g' F := by
  have hk := hf.block g' h.sz hg
  refine ⟨fun j hj => ?_, fun j => ?_, Nat.lt_of_lt_of_le h.sz hf.size⟩
  · rw [World.cell?_of_block (w := w) (a := ⟨g', j, none⟩) hk]; exact h.c j hj
  · rw [World.frozen?_of_block (w := w) (a := ⟨g', j, none⟩) hk]; exact h.fz j

/-! ### The state of the loop -/
structure TS (w wr : World) (a : Fa) (l k : List Nat) (n : Nat) (r : Rat) (b8 b9 b10 : Nat) (cq cs : Fa) (sv : Rat) : Prop where
  f1 : F1 w wr a l k
  rw : Rw wr b8 (ch n)
  q : Bq wr b9 cq
  qo : Fo wr cq (some (1 - r))
  s : Bq wr b10 cs
  so : Fo wr cs (some sv)
  d80 : b8 ≠ b10
  d90 : b9 ≠ b10
  g0 : w.heap.size + 1 < b10
theorem TS.below {w wr wr' : World} {a : Fa} {l k : List Nat} {n : Nat} {r : Rat} {b8 b9 b10 : Nat} {cq cs : Fa} {s : Rat} (h : TS w wr a l k n r b8 b9 b10 cq cs s) (hb : Below wr.heap.size wr wr') : TS w wr' a l k n r b8 b9 b10 cq cs s :=
  ⟨h.f1.below hb, h.rw.below hb, h.q.below hb, h.qo.below hb, h.s.below hb, h.so.below hb, h.d80, h.d90, h.g0⟩
theorem fr_fill {w : World} {g : Nat} (x y : Value) : Fr w ((w.setCell ⟨g, 0, none⟩ x).setCell ⟨g, 1, none⟩ y) (fun b => b = g) :=
  ((Fr.refl w (fun b => b = g)).setCell (p := ⟨g, 0, none⟩) (.inr rfl) x).setCell (p := ⟨g, 1, none⟩) (.inr rfl) y
theorem TS.put {w wr : World} {a : Fa} {l k : List Nat} {n : Nat} {r : Rat} {b8 b9 b10 : Nat} {cq cs : Fa} {s : Rat} (h : TS w wr a l k n r b8 b9 b10 cq cs s) {c : Fa} {s' : Rat} (ho : Fo wr c (some s')) :
    TS w ((wr.setCell ⟨b10, 0, none⟩ (.slice c.A c.n c.c)).setCell ⟨b10, 1, none⟩ (.slice c.B c.m c.d)) a l k n r b8 b9 b10 cq c s' :=
  ⟨h.f1.one (fr_fill _ _) h.s.nb h.g0, h.rw.one (fr_fill _ _) h.d80, h.q.one (fr_fill _ _) h.d90, h.qo.one (fr_fill _ _) h.s.nb, h.s.fill c, ho.one (fr_fill _ _) h.s.nb, h.d80, h.d90, h.g0⟩
theorem TS.far {w wr wr' : World} {a : Fa} {l k : List Nat} {n : Nat} {r : Rat} {b8 b9 b10 : Nat} {cq cs : Fa} {s : Rat} (h : TS w wr a l k n r b8 b9 b10 cq cs s) {g : Nat} (hf : Fr wr wr' (fun b => b = g)) (hg : NB wr g) (h8 : b8 ≠ g) (h9 : b9 ≠ g) (h10 : b10 ≠ g) (hgw : w.heap.size + 1 < g) :
    TS w wr' a l k n r b8 b9 b10 cq cs s :=
  ⟨h.f1.one hf hg hgw, h.rw.one hf h8, h.q.one hf h9, h.qo.one hf hg, h.s.one hf h10, h.so.one hf hg, h.d80, h.d90, h.g0⟩
/-- The box g holds a fraction of the value o. -/
structure Fx (v : World) (g : Nat) (c : Fa) (o : Option Rat) : Prop where
  b : Bq v g c
  o : Fo v c o
theorem Fx.below {v v' : World} {g : Nat} {c : Fa} {o : Option Rat} (h : Fx v g c o) (hb : Below v.heap.size v v') : Fx v' g c o := ⟨h.b.below hb, h.o.below hb⟩
theorem Fx.mk0 {w : World} {c : Fa} {o : Option Rat} (h : Fo w c o) (t : TypeId) {g : Nat} (hg : g = w.heap.size) : Fx (w.alloc (.cells #[.slice c.A c.n c.c, .slice c.B c.m c.d] t)) g c o := ⟨Bq.mk0 t c hg, h.alloc _⟩
theorem Fx.put {w : World} {g : Nat} {c c' : Fa} {o o' : Option Rat} (h : Fx w g c o) (h' : Fo w c' o') : Fx ((w.setCell ⟨g, 0, none⟩ (.slice c'.A c'.n c'.c)).setCell ⟨g, 1, none⟩ (.slice c'.B c'.m c'.d)) g c' o' :=
  ⟨h.b.fill c', h'.one (fr_fill _ _) h.b.nb⟩
theorem Fx.one {w w' : World} {g g' : Nat} {c : Fa} {o : Option Rat} (h : Fx w g c o) (hf : Fr w w' (fun b => b = g')) (hg : NB w g') (hn : g ≠ g') : Fx w' g c o := ⟨h.b.one hf hn, h.o.one hf hg⟩

/-! ### What fits -/
theorem two128 : ((2 ^ 32 : Nat) : Rat) ≤ ((4294967296 ^ 4 : Nat) : Rat) := by exact_mod_cast (by decide : 2 ^ 32 ≤ 4294967296 ^ 4)
theorem one128 : (1 : Rat) ≤ ((4294967296 ^ 4 : Nat) : Rat) := by exact_mod_cast (by decide : 1 ≤ 4294967296 ^ 4)
theorem den_sc {r : Rat} (h : 0 ≤ r) : Sc r.den 1 r := by
  refine ⟨rn r, ?_⟩
  have h1 : r = mkRat (rn r) r.den := (mk_self h).symm
  have hd : (r.den : Rat) ≠ 0 := fun e => by
    have : r.den = 0 := by exact_mod_cast e
    have := r.den_pos
    omega
  have h2 : r = (rn r : Rat) / (r.den : Rat) := by
    conv => lhs; rw [h1, Rat.mkRat_eq_div]
    rfl
  have h3 : (rn r : Rat) / (r.den : Rat) * (r.den : Rat) = (rn r : Rat) := Rat.div_mul_cancel hd
  rw [Rat.pow_one, ← h3, ← h2]
theorem den_sc1 {r : Rat} (h0 : 0 ≤ r) (h1 : r ≤ 1) : Sc r.den 1 (1 - r) := by
  obtain ⟨x, hx⟩ := den_sc h0
  have hle : (x : Rat) ≤ (r.den : Rat) := by
    rw [← hx, Rat.pow_one]
    have := Rat.mul_le_mul_of_nonneg_right h1 (cast_nonneg r.den)
    rwa [Rat.one_mul] at this
  have hle' : x ≤ r.den := by exact_mod_cast hle
  refine ⟨r.den - x, ?_⟩
  have e : ((r.den - x : Nat) : Rat) = (r.den : Rat) - (x : Rat) := by
    have : ((r.den - x : Nat) : Rat) + (x : Rat) = (r.den : Rat) := by rw [← Rat.natCast_add, Nat.sub_add_cancel hle']
    grind
  rw [e, ← hx]
  grind
theorem pow_le_one {r : Rat} (h0 : 0 ≤ r) (h1 : r ≤ 1) : ∀ n : Nat, r ^ n ≤ 1
  | 0 => by rw [Rat.pow_zero]; exact Rat.le_refl
  | n + 1 => by
    rw [Rat.pow_succ]
    have := Rat.mul_le_mul_of_nonneg_right (pow_le_one h0 h1 n) h0
    rw [Rat.one_mul] at this
    exact Rat.le_trans this h1
theorem ch_le_q {n k : Nat} (hn : n ≤ 32) : (ch n k : Rat) ≤ ((2 ^ 32 : Nat) : Rat) := by
  have h1 := ch_le n k
  have h2 : 2 ^ n ≤ 2 ^ 32 := Nat.pow_le_pow_right (by omega) hn
  exact_mod_cast Nat.le_trans h1 h2
theorem mul_le_b {x y b : Rat} (hx : 0 ≤ x) (h : x ≤ b) (hy : y ≤ 1) (hy0 : 0 ≤ y) : x * y ≤ b := by
  have := Rat.mul_le_mul_of_nonneg_left hy hx
  rw [Rat.mul_one] at this
  exact Rat.le_trans this h
theorem one32 : (1 : Rat) ≤ ((2 ^ 32 : Nat) : Rat) := by exact_mod_cast (by decide : 1 ≤ 2 ^ 32)
/-- A chance. -/
structure Chn (r : Rat) : Prop where
  h0 : 0 ≤ r
  h1 : r ≤ 1
  hd : r.den ≤ 1000
section
variable {r : Rat} (h : Chn r)
include h
theorem Chn.q0 : 0 ≤ 1 - r := (Rat.le_iff_sub_nonneg r 1).1 h.h1
theorem Chn.q1 : 1 - r ≤ 1 := by have := h.h0; grind
theorem Chn.fit {n : Nat} {x : Rat} (hs : Sc r.den n x) (hn : n ≤ 128) (hx : x ≤ ((2 ^ 32 : Nat) : Rat)) : fitsR x = true :=
  hs.fits r.den_pos (by have := h.hd; omega) hn (Rat.le_trans hx two128)
theorem Chn.fq : fitsR (1 - r) = true := h.fit (den_sc1 h.h0 h.h1) (by omega) (Rat.le_trans h.q1 one32)
theorem Chn.fp {k : Nat} (hk : k ≤ 32) : fitsR (r ^ k) = true := h.fit ((den_sc h.h0).pow k) (by omega) (Rat.le_trans (pow_le_one h.h0 h.h1 k) one32)
theorem Chn.fp' {k : Nat} (hk : k ≤ 32) : fitsR ((1 - r) ^ k) = true := h.fit ((den_sc1 h.h0 h.h1).pow k) (by omega) (Rat.le_trans (pow_le_one h.q0 h.q1 k) one32)
theorem Chn.fcp {n k : Nat} (hn : n ≤ 32) (hk : k ≤ 32) : fitsR ((ch n k : Rat) * r ^ k) = true :=
  h.fit ((Sc.nat r.den (ch n k)).mul ((den_sc h.h0).pow k)) (by omega) (mul_le_b (cast_nonneg _) (ch_le_q hn) (pow_le_one h.h0 h.h1 k) (Rat.pow_nonneg h.h0))
theorem Chn.ftm {n k : Nat} (hn : n ≤ 32) (hk : k ≤ n) : fitsR (tm r n k) = true :=
  h.fit (sc_tm (den_sc h.h0) (den_sc1 h.h0 h.h1) hk) (by omega) (mul_le_b (Rat.mul_nonneg (cast_nonneg _) (Rat.pow_nonneg h.h0)) (mul_le_b (cast_nonneg _) (ch_le_q hn) (pow_le_one h.h0 h.h1 k) (Rat.pow_nonneg h.h0)) (pow_le_one h.q0 h.q1 _) (Rat.pow_nonneg h.q0))
theorem Chn.fsm {n m : Nat} (hn : n ≤ 32) (f : Nat → Bool) (hm : m ≤ n + 1) : fitsR (sm r n f m) = true :=
  h.fit (sc_sm (den_sc h.h0) (den_sc1 h.h0 h.h1) f hm) (by omega) (Rat.le_trans (sm_le_one h.h0 h.h1 n f hm) one32)
end
theorem chO_chn {o : Option Rat} {r : Rat} (h : o = some r) (h0 : 0 ≤ r) (hc : chO o = true) : Chn r := by
  subst h
  simp only [chO, Bool.and_eq_true, decide_eq_true_eq] at hc
  exact ⟨h0, hc.1, hc.2⟩
/-! ### Calls that succeed -/
def RetV (w : World) (s : Rat) (e : Ending) (w' : World) : Prop := ∃ c : Fa, e = .returned (.tuple #[.agg #[.slice c.A c.n c.c, .slice c.B c.m c.d], .int .i64 0]) ∧ Fo w' c (some s) ∧ Below w.heap.size w w'
theorem Ret.ok {w : World} {x : Option Rat × Int} {s : Rat} (h : x = (some s, 0)) {e : Ending} {w' : World} (hr : Ret w x e w') : RetV w s e w' := by
  subst h
  exact hr
theorem fpow_ok (w : World) (a : Fa) (r : Rat) (k : Nat) (ha : Fo w a (some r)) (hk : k ≤ 65536) (hf : fitsR (r ^ k) = true) : Calls Try.prog 59 #[.agg #[.slice a.A a.n a.c, .slice a.B a.m a.d], .int .i64 (k : Int)] w fun e w' => RetV w (r ^ k) e w' :=
  (fpow_o w a (some r) (k : Int) ha (by omega) (by omega)).mono fun e w' h => h.ok (by
    show (if (k : Int) < 0 ∨ 65536 < (k : Int) then (none, 3) else limR (r ^ (k : Int).toNat)) = _
    rw [if_neg (by omega), Int.toNat_natCast, limR_fit hf])
theorem fmul_ok (w : World) (a b : Fa) (r s : Rat) (ha : Fo w a (some r)) (hb : Fo w b (some s)) (hf : fitsR (r * s) = true) : Calls Try.prog 45 #[.agg #[.slice a.A a.n a.c, .slice a.B a.m a.d], .agg #[.slice b.A b.n b.c, .slice b.B b.m b.d]] w fun e w' => RetV w (r * s) e w' :=
  (fmul_o w a b (some r) (some s) ha hb).mono fun e w' h => h.ok (limR_fit hf)
theorem fadd_ok (w : World) (a b : Fa) (r s : Rat) (ha : Fo w a (some r)) (hb : Fo w b (some s)) (hf : fitsR (r + s) = true) : Calls Try.prog 36 #[.agg #[.slice a.A a.n a.c, .slice a.B a.m a.d], .agg #[.slice b.A b.n b.c, .slice b.B b.m b.d]] w fun e w' => RetV w (r + s) e w' :=
  (fadd_o w a b (some r) (some s) ha hb).mono fun e w' h => h.ok (limR_fit hf)
theorem fmake_nat (w : World) (x : Nat) (A : Option Addr) (n c : Nat) (B : Option Addr) (m d : Nat) (hU : Ul w none A n (lm x)) (hV : Ul w none B m (lm 1)) (hn : n ≤ 1000) (hm : m ≤ 1000) (hx : x < 18446744073709551616) :
    Calls Try.prog 75 #[.slice A n c, .slice B m d] w fun e w' => RetV w (x : Rat) e w' :=
  (fmake_any w A n c B m d _ _ hU hV hn hm).mono fun e w' h => h.ok (by rw [mkR_64 hx (by omega) (by omega), mk_one])
theorem nof_one (w : World) : Calls Try.prog 76 #[.int .u64 1] w fun e w' => ∃ A m c, e = .returned (.slice A m c) ∧ m ≤ c ∧ m ≤ 2 ∧ Ul w' none A m (lm 1) ∧ Below w.heap.size w w' := nof_any w 1 (by omega)
theorem TS.alloc {w wr : World} {a : Fa} {l k : List Nat} {n : Nat} {r : Rat} {b8 b9 b10 : Nat} {cq cs : Fa} {s : Rat} (h : TS w wr a l k n r b8 b9 b10 cq cs s) (o : Obj) : TS w (wr.alloc o) a l k n r b8 b9 b10 cq cs s := h.below ((Below.refl _ _).alloc (Nat.le_refl _) _)
theorem Fx.alloc {w : World} {g : Nat} {c : Fa} {o : Option Rat} (h : Fx w g c o) (x : Obj) : Fx (w.alloc x) g c o := h.below ((Below.refl _ _).alloc (Nat.le_refl _) _)
/-- What total returns. -/
def totR (o : Option Rat) (n : Int) (f : Nat → Bool) : Option Rat × Int :=
  if chO o = true then (if n < 0 ∨ 32 < n then (none, 3) else match o with | some r => (some (tot r n.toNat f), 0) | none => (none, 41)) else (none, 41)
theorem totR_ok {r : Rat} {n : Nat} {f : Nat → Bool} (hc : Chn r) (hn : n ≤ 32) : totR (some r) n f = (some (tot r n f), 0) := by
  have : chO (some r) = true := by simp [chO, hc.h1, hc.hd]
  unfold totR
  rw [if_pos this, if_neg (by omega)]
  rfl
end Go.Proofs.Ytnofljgmkdommaa

/- Contracts: noise.total. -/
namespace Go.Proofs.Ytnofljgmkdommaa
open Go.RowKit

def RT (B n : Nat) (a : Fa) (r : Rat) : Nat → Value → World → Prop
  | 0, x, _ => x = .int .i64 (n : Int)
  | 1, x, _ => x = .agg (rowCells n).toArray
  | 2, x, _ => x = .agg #[.slice a.A a.n a.c, .slice a.B a.m a.d]
  | 3, x, W => ∃ c : Fa, x = .agg #[.slice c.A c.n c.c, .slice c.B c.m c.d] ∧ Fo W c (some (1 - r))
  | 4, x, W => ∃ c : Fa, x = .agg #[.slice c.A c.n c.c, .slice c.B c.m c.d] ∧ Fo W c (some 0)
  | 5, x, W => ∃ b, x = .pointer (some ⟨b, 0, none⟩) ∧ B ≤ b ∧ Rw W b (fun _ => 0) ∧ NB W b
  | 6, x, W => ∃ b, x = .pointer (some ⟨b, 0, none⟩) ∧ B ≤ b ∧ Bq W b fa0
  | 7, x, W => ∃ b, x = .pointer (some ⟨b, 0, none⟩) ∧ B ≤ b ∧ Bq W b fa0
  | _, _, _ => True
theorem RT.st (B n : Nat) (a : Fa) (r : Rat) : ∀ i x w w', RT B n a r i x w → Below w.heap.size w w' → RT B n a r i x w'
  | 0, _, _, _, h, _ => h
  | 1, _, _, _, h, _ => h
  | 2, _, _, _, h, _ => h
  | 3, _, _, _, ⟨c, h1, h2⟩, hb => ⟨c, h1, h2.below hb⟩
  | 4, _, _, _, ⟨c, h1, h2⟩, hb => ⟨c, h1, h2.below hb⟩
  | 5, _, _, _, ⟨b, h1, h2, h3, h4⟩, hb => ⟨b, h1, h2, h3.below hb, h4.below h3.sz hb⟩
  | 6, _, _, _, ⟨b, h1, h2, h3⟩, hb => ⟨b, h1, h2, h3.below hb⟩
  | 7, _, _, _, ⟨b, h1, h2, h3⟩, hb => ⟨b, h1, h2, h3.below hb⟩
  | _ + 8, _, _, _, _, _ => trivial
end Go.Proofs.Ytnofljgmkdommaa

/- Contracts: noise.total, Exactly, AtLeast, AtMost. -/
namespace Go.Proofs.Ytnofljgmkdommaa
open Go.RowKit

theorem calls_func {fid : FuncId} {fn : Func} {c : Code} (hf : Try.prog.funcs[fid]? = some fn) (hname : (fn.name == "runtime.NumGoroutine") = false) (hb : fn.body = some c) (vs : Array Value) (w : World) : (callFunc fid vs).run Try.prog w = .ok (.enter fid vs) w := by
  unfold callFunc
  simp [Sem.run_bind, go_sem, hf, hb]
  simpa using hname
end Go.Proofs.Ytnofljgmkdommaa

/- Contracts: Small. -/
namespace Go.Proofs.Ytnofljgmkdommaa
open Go.RowKit

/-- A slice of one limb just built. -/
theorem ul_one {w : World} {x : Nat} (hx : x < 4294967296) (t : TypeId) {g : Nat} (hg : g = w.heap.size) : Ul (w.alloc (.cells #[.int .u32 (x : Int)] t)) none (some ⟨g, 0, none⟩) 1 [x] := by
  subst hg
  refine ⟨fun _ => ⟨w.heap.size, 0, rfl, by simp, by simp, fun k a hk j u hu => ?_⟩, rfl, fun y hy => by simp at hy; omega⟩
  match k, j with
  | 0, 0 =>
    simp [uv] at hk hu
    subst hk
    subst hu
    rw [World.cell?_alloc_new]
    rfl
  | k + 1, _ => simp at hk
  | 0, j + 1 => simp [uv] at hu
theorem tmod_nat (a b : Nat) : ((a : Int)).tmod (b : Int) = ((a % b : Nat) : Int) := rfl
theorem tdiv_nat (a b : Nat) : ((a : Int)).tdiv (b : Int) = ((a / b : Nat) : Int) := rfl
set_option maxRecDepth 100000 in
set_option maxHeartbeats 8000000 in
theorem small_any (w : World) (x y : Nat) (hx : x < 2147483648) (hy : y < 2147483648) (h0 : 0 < y) :
    Calls Try.prog 18 #[.int .i64 (x : Int), .int .i64 (y : Int)] w fun e w' => Ret1 w (some (mkRat x y)) e w' := by
  go_enter Try.func18, Try.ntmps18
  go_upto_region 1 with (fail)
  generalize hW : World.alloc w _ = v
  have HRB := hide (show Rb v w.heap.size by rw [← hW]; exact Rb.mk0 _ rfl)
  have HBV := hide (show Below w.heap.size w v by rw [← hW]; exact (Below.refl _ _).alloc (Nat.le_refl _) _)
  clear hW
  go_wp2_with fail
  go_loopw [5, 6] (fun p q wr => ∃ a b : Nat, p = .int .i64 (a : Int) ∧ q = .int .i64 (b : Int) ∧ a < 2147483648 ∧ b < 2147483648 ∧ Hid (Nat.gcd a b = Nat.gcd x y) ∧ Hid (Below v.heap.size v wr)) (fun _ q _ => (intOf q).toNat)
  case atStart => exact ⟨x, y, rfl, rfl, hx, hy, hide rfl, hide (Below.refl _ _)⟩
  case round =>
    obtain ⟨a, b, rfl, rfl, ha, hb, HG, HB⟩ := hrel
    by_cases hb0 : b = 0
    · subst hb0
      rw [Nat.gcd_zero_right] at HG
      have hg : a = Nat.gcd x y := HG.out
      have hap : 0 < a := by rw [hg]; exact Nat.gcd_pos_of_pos_right _ h0
      have ha0 : ((a : Int) == 0) = false := by simp; omega
      have hden : (mkRat x y).den = y / a := by rw [hg]; exact mk_den x y h0
      have hrn : rn (mkRat x y) = x / a := by rw [hg]; exact mk_num x y h0
      have hyp : y / a ≠ 0 := by
        have := Nat.div_pos (Nat.le_of_dvd h0 (by rw [hg]; exact Nat.gcd_dvd_right x y)) hap
        omega
      have hxp' : x ≠ 0 → x / a ≠ 0 := fun hx0 => by
        have := Nat.div_pos (Nat.le_of_dvd (Nat.pos_of_ne_zero hx0) (by rw [hg]; exact Nat.gcd_dvd_left x y)) hap
        omega
      obtain ⟨qy, hqy⟩ : ∃ q, q = y / a := ⟨_, rfl⟩
      obtain ⟨qx, hqx⟩ : ∃ q, q = x / a := ⟨_, rfl⟩
      have hy1 : qy < 2147483648 := by rw [hqy]; exact Nat.lt_of_le_of_lt (Nat.div_le_self _ _) hy
      have hx1 : qx < 2147483648 := by rw [hqx]; exact Nat.lt_of_le_of_lt (Nat.div_le_self _ _) hx
      rw [← hqy] at hden hyp
      rw [← hqx] at hrn hxp'
      have HD := hide (show lm (mkRat x y).den = [qy] by rw [hden]; exact lm_small (by omega) hyp)
      have HN := hide (show x ≠ 0 → lm (rn (mkRat x y)) = [qx] from fun h => by rw [hrn]; exact lm_small (by omega) (hxp' h))
      have HN0 := hide (show x = 0 → lm (rn (mkRat x y)) = [] from fun h => by subst h; rw [hrn, hqx, Nat.zero_div, lm_zero])
      have HOK := hide (show okR (some (mkRat x y)) from ⟨mk_nonneg x y, fits64 (by omega) (by omega) h0⟩)
      have e1 : (y : Int) / (a : Int) = (qy : Int) := by rw [hqy]; rfl
      have e2 : (x : Int) / (a : Int) = (qx : Int) := by rw [hqx]; rfl
      have w1 : (qy : Int) % 4294967296 = (qy : Int) := by omega
      have w2 : (qx : Int) % 4294967296 = (qx : Int) := by omega
      have HR := hide (HRB.out.below HB.out)
      obtain ⟨r0, r1, rf, rz, -⟩ := HR.out
      have rz1 : w.heap.size < wr.heap.size + 1 := by omega
      have rz2 : w.heap.size < wr.heap.size + 1 + 1 := by omega
      have HBW := hide (HBV.out.trans (HB.out.mono HBV.out.size))
      clear hden hrn hyp hxp' hqy hqx hg HG HB
      by_cases hx0 : x = 0
      · have hN := HN0.out hx0
        subst hx0
        have HNN := hide hN
        clear hN HN HN0
        go_wp2_with fail
        refine bodyPost_ret (v := .agg #[.slice none 0 0, .slice (some ⟨wr.heap.size, 0, none⟩) 1 1]) (by simp [results, Try.results18, go_sem, *]) rfl ⟨⟨none, 0, 0, some ⟨wr.heap.size, 0, none⟩, 1, 1⟩, rfl, ?_, ?_⟩
        · refine ⟨⟨?_, ?_, Nat.le_refl _, Nat.le_refl _, by show 0 ≤ 9223372036854775807; omega, by show 1 ≤ 9223372036854775807; omega⟩, HOK.out⟩
          · show Ul _ none none 0 (lm (rn (mkRat _ y))); rw [HNN.out]; exact Ul.nil
          · show Ul _ none _ 1 (lm (mkRat _ y).den); rw [HD.out]; exact (ul_one (by omega) _ (by simp)).alloc _
        · exact ((Rb.end0 HBW.out (Nat.le_refl _) _ _).alloc (by simp; omega) _).alloc (by simp; omega) _
      · have HNN := hide (HN.out hx0)
        clear HN HN0
        have hxp : (0 : Int) < (x : Int) := by omega
        go_wp2_with fail
        refine bodyPost_ret (v := .agg #[.slice (some ⟨wr.heap.size + 1 + 1, 0, none⟩) 1 1, .slice (some ⟨wr.heap.size, 0, none⟩) 1 1]) (by simp [results, Try.results18, go_sem, *]) rfl ⟨⟨some ⟨wr.heap.size + 1 + 1, 0, none⟩, 1, 1, some ⟨wr.heap.size, 0, none⟩, 1, 1⟩, rfl, ?_, ?_⟩
        · refine ⟨⟨?_, ?_, Nat.le_refl _, Nat.le_refl _, by show 1 ≤ 9223372036854775807; omega, by show 1 ≤ 9223372036854775807; omega⟩, HOK.out⟩
          · show Ul _ none _ 1 (lm (rn (mkRat _ y))); rw [HNN.out]; exact ul_one (by omega) _ (by simp)
          · show Ul _ none _ 1 (lm (mkRat _ y).den); rw [HD.out]; exact ((ul_one (by omega) _ (by simp)).alloc _).alloc _
        · exact (((Rb.end0 HBW.out (Nat.le_refl _) _ _).alloc (by simp; omega) _).alloc (by simp; omega) _).alloc (by simp; omega) _
    · have e1 := tmod_nat a b
      have hm := Nat.mod_lt a (Nat.pos_of_ne_zero hb0)
      have hbI : ((b : Int) == 0) = false := by simp; omega
      go_wp2_with fail
      go_quiet (fail)
      go_wp2_with fail
      go_roundw
      case rel => exact ⟨b, a % b, rfl, by go_num, hb, by omega, hide (by rw [← HG.out]; exact gcd_step a b), hide (HB.out.trans ((Dr.below ⟨_, rfl⟩).mono HB.out.size))⟩
      case measure => simp [intOf]; omega
end Go.Proofs.Ytnofljgmkdommaa

/- Contracts: the reference's Split in one, Pow. -/
namespace Go.Proofs.Ytnofljgmkdommaa
open Go.RowKit

theorem r1split_any (w : World) (av av' : Option Nat) (A : Option Addr) (n c : Nat) (B : Option Addr) (m d : Nat) (x y : Nat) (hU : Ul w av A n (lm x)) (hV : Ul w av' B m (lm y)) (hn : n ≤ 500000) (hm : m ≤ 500000) (hy : 0 < y) :
    Calls Try.prog 86 #[.slice A n c, .slice B m d] w fun e w' => ∃ A' m' c' A2 m2 c2, e = .returned (.tuple #[.slice A' m' c', .slice A2 m2 c2]) ∧ m' ≤ c' ∧ m2 ≤ c2 ∧ Ul w' none A' m' (lm (x / y)) ∧ Ul w' none A2 m2 (lm (x % y)) ∧ Below w.heap.size w w' := by
  rcases Nat.lt_or_ge x y with h | h
  · exact r1split_lt w av av' A n c B m d x y hU hV hn hm h
  · have hm0 : 0 < m := lm_pos_len1 hy hV.len
    by_cases h1 : m = 1
    · subst h1
      exact r1split_one w av av' A n c B d x y hU hV hn h
    · exact r1split_gen w av av' A n c B m d x y hU hV hn hm (by omega) h
theorem pow_len_mono {a i k : Nat} (ha : 0 < a) (h : i ≤ k) : (lm (a ^ i)).length ≤ (lm (a ^ k)).length := lm_length_mono (Nat.pow_le_pow_right ha h)
set_option maxRecDepth 100000 in
set_option maxHeartbeats 8000000 in
theorem r1pow_any (w : World) (av : Option Nat) (A : Option Addr) (n c : Nat) (a k : Nat) (hU : Ul w av A n (lm a)) (hn : n ≤ 128) (hk : k ≤ 65536) :
    Calls Try.prog 63 #[.slice A n c, .int .i64 (k : Int)] w fun e w' => ∃ A' m' c' ok, e = .returned (.tuple #[.slice A' m' c', .int .i64 (if ok = true then 0 else 2)]) ∧ m' ≤ c' ∧ Hid (ok = decide ((lm (a ^ k)).length ≤ 128)) ∧ Ul w' none A' m' (if ok = true then lm (a ^ k) else []) ∧ Below w.heap.size w w' := by
  have HU := hide hU
  have HC := hide (show natB (lm a) = true by rw [natB_iff, lv_lm]; exact ⟨by rw [hU.len]; exact hn, rfl⟩)
  clear hU
  have d0 : decide ((k : Int) < 0) = false := decide_eq_false (by omega)
  have d1 : decide ((65536 : Int) < (k : Int)) = false := decide_eq_false (by omega)
  by_cases hn0 : n = 0
  · have ha0 : a = 0 := lm_eq_nil.1 (List.eq_nil_of_length_eq_zero (by rw [HU.out.len, hn0]))
    have dn0 : ((n : Int) == 0) = true := by simp; omega
    have dn1 : ((n : Int) == 1) = false := by simp; omega
    by_cases hk0 : k = 0
    · have HA := hide (show 0 < k → 0 < a by omega)
      have d2 : decide (0 < k) = false := decide_eq_false (by omega)
      clear hn0 ha0 hk0
      go_enter Try.func63, Try.ntmps63
      go_wp2_with ((go_at_call 70; (with_reducible refine (r1check_any _ av _ n c _ HU.out (by omega)).mono ?_); rintro e w' ⟨rfl, hw⟩; subst w'; rw [HC.out]))
      go_loopw [6, 7] (fun pv iv wr => ∃ (i : Nat) (A1 : Option Addr) (m1 c1 : Nat), i ≤ k ∧ pv = .slice A1 m1 c1 ∧ iv = .int .i64 (i : Int) ∧ m1 ≤ 128 ∧ m1 ≤ c1 ∧ Hid (Ul wr none A1 m1 (lm (a ^ i))) ∧ Hid (Below w.heap.size w wr)) (fun _ iv _ => k - (intOf iv).toNat)
      case atStart => exact ⟨0, _, 1, 1, by omega, rfl, rfl, by omega, by omega, hide (by rw [Nat.pow_zero, lm_one]; exact ul_one (x := 1) (by omega) _ rfl), hide ((Below.refl _ _).alloc (Nat.le_refl _) _)⟩
      case round =>
        obtain ⟨i, A1, m1, c1, hi, rfl, rfl, hm1, hc1, HU1, HB1⟩ := hrel
        by_cases hik : i = k
        · subst hik
          go_wp2_with fail
          go_ret2
          have hle : (lm (a ^ i)).length ≤ 128 := by rw [HU1.out.len]; exact hm1
          exact ⟨A1, m1, c1, true, rfl, hc1, hide (by simp [hle]), HU1.out, HB1.out⟩
        · have hlt : (i : Int) < (k : Int) := by omega
          go_wp2_with (go_at_call 67; (with_reducible refine (r1times_any _ none av A1 m1 c1 _ n c (a ^ i) a HU1.out (HU.out.below HB1.out) (by omega) (by omega)).mono ?_); rintro e w3 ⟨A3, m3, c3, rfl, hc3, hu3, hb3⟩; rw [← Nat.pow_succ] at hu3; have HU3 := hide hu3; have HB3 := hide (HB1.out.trans (hb3.mono HB1.out.size)); clear hu3 hb3)
          · go_ret2
            have ho := pow_len_mono (a := a) (i := i + 1) (k := k) (HA.out (by omega)) (by omega)
            rw [HU3.out.len] at ho
            exact ⟨none, 0, 0, false, rfl, by omega, hide (by simp; omega), Ul.nil, HB3.out⟩
          · exact ⟨⟨i + 1, A3, m3, c3, by omega, rfl, by go_num, by omega, hc3, HU3, HB3⟩, by simp [intOf] <;> omega⟩
    · have d2 : decide (0 < k) = true := decide_eq_true (by omega)
      have HK := hide hk0
      have HZ := hide ha0
      clear hn0 ha0 hk0
      go_enter Try.func63, Try.ntmps63
      go_wp2_with (first | ((go_at_call 70; (with_reducible refine (r1check_any _ av _ n c _ HU.out (by omega)).mono ?_); rintro e w' ⟨rfl, hw⟩; subst w'; rw [HC.out])) | ((at_builtin; refine wl_appall_u32 (w0 := w) rfl _ _ _ Try.underlying34 rfl none 0 0 [] av _ n c (lm _) rfl rfl (OF.nil (Fr.refl w _)) HU.out (by omega) ?_; intro A1 c1 w2 ho; rw [List.nil_append, Nat.zero_add] at ho; rw [Nat.zero_add]; have HO2 := hide ho; clear ho)))
      go_ret2
      have h0 : a ^ k = a := by rw [HZ.out]; exact Nat.zero_pow (Nat.pos_of_ne_zero HK.out)
      exact ⟨A1, n, c1, true, rfl, HO2.out.cap, hide (by rw [h0, HU.out.len]; simp [hn]), by rw [if_pos rfl, h0]; exact HO2.out.ul, fr_below HO2.out.fr⟩
  · have dn0 : ((n : Int) == 0) = false := by simp; omega
    have hap : 0 < a := by
      rcases Nat.eq_zero_or_pos a with h | h
      · exfalso
        have := HU.out.len
        rw [h, lm_zero] at this
        exact hn0 this.symm
      · exact h
    have HA := hide (show 0 < k → 0 < a from fun _ => hap)
    by_cases hn1 : n = 1
    · have dn1 : ((n : Int) == 1) = true := by simp; omega
      obtain ⟨hl1, hy1, hy2⟩ := lm_len1 (y := a) (by rw [HU.out.len]; exact hn1)
      obtain ⟨b, o, p, rfl, -, -, hp, hpl, hcell⟩ := HU.out.at (k := 0) (by omega)
      obtain rfl : p = a := by rw [hl1] at hp; simpa using hp.symm
      rw [Nat.add_zero] at hcell
      have gn1 : (0 : Int) < (n : Int) := by omega
      clear hp hl1 hn0 hn1
      by_cases hp1 : p = 1
      · have dp1 : ((p : Int) == 1) = true := by simp; omega
        have HZ := hide hp1
        clear hp1
        go_enter Try.func63, Try.ntmps63
        go_wp2_with (first | ((go_at_call 70; (with_reducible refine (r1check_any _ av _ n c _ HU.out (by omega)).mono ?_); rintro e w' ⟨rfl, hw⟩; subst w'; rw [HC.out])) | ((at_builtin; refine wl_appall_u32 (w0 := w) rfl _ _ _ Try.underlying34 rfl none 0 0 [] av _ n c (lm _) rfl rfl (OF.nil (Fr.refl w _)) HU.out (by omega) ?_; intro A1 c1 w2 ho; rw [List.nil_append, Nat.zero_add] at ho; rw [Nat.zero_add]; have HO2 := hide ho; clear ho)))
        go_ret2
        have h0 : p ^ k = p := by rw [HZ.out, Nat.one_pow]
        exact ⟨A1, n, c1, true, rfl, HO2.out.cap, hide (by rw [h0, HU.out.len]; simp [hn]), by rw [if_pos rfl, h0]; exact HO2.out.ul, fr_below HO2.out.fr⟩
      · have dp1 : ((p : Int) == 1) = false := by simp; omega
        obtain ⟨a, ha⟩ : ∃ a, a = p := ⟨p, rfl⟩
        rw [← ha] at HU HC HA
        rw [← ha]
        clear hp1
        go_enter Try.func63, Try.ntmps63
        go_wp2_with ((go_at_call 70; (with_reducible refine (r1check_any _ av _ n c _ HU.out (by omega)).mono ?_); rintro e w' ⟨rfl, hw⟩; subst w'; rw [HC.out]))
        clear hcell dp1 hap hy1 hy2 hpl ha
        go_loopw [6, 7] (fun pv iv wr => ∃ (i : Nat) (A1 : Option Addr) (m1 c1 : Nat), i ≤ k ∧ pv = .slice A1 m1 c1 ∧ iv = .int .i64 (i : Int) ∧ m1 ≤ 128 ∧ m1 ≤ c1 ∧ Hid (Ul wr none A1 m1 (lm (a ^ i))) ∧ Hid (Below w.heap.size w wr)) (fun _ iv _ => k - (intOf iv).toNat)
        case atStart => exact ⟨0, _, 1, 1, by omega, rfl, rfl, by omega, by omega, hide (by rw [Nat.pow_zero, lm_one]; exact ul_one (x := 1) (by omega) _ rfl), hide ((Below.refl _ _).alloc (Nat.le_refl _) _)⟩
        case round =>
          obtain ⟨i, A1, m1, c1, hi, rfl, rfl, hm1, hc1, HU1, HB1⟩ := hrel
          by_cases hik : i = k
          · subst hik
            go_wp2_with fail
            go_ret2
            have hle : (lm (a ^ i)).length ≤ 128 := by rw [HU1.out.len]; exact hm1
            exact ⟨A1, m1, c1, true, rfl, hc1, hide (by simp [hle]), HU1.out, HB1.out⟩
          · have hlt : (i : Int) < (k : Int) := by omega
            go_wp2_with (go_at_call 67; (with_reducible refine (r1times_any _ none av A1 m1 c1 _ n c (a ^ i) a HU1.out (HU.out.below HB1.out) (by omega) (by omega)).mono ?_); rintro e w3 ⟨A3, m3, c3, rfl, hc3, hu3, hb3⟩; rw [← Nat.pow_succ] at hu3; have HU3 := hide hu3; have HB3 := hide (HB1.out.trans (hb3.mono HB1.out.size)); clear hu3 hb3)
            · go_ret2
              have ho := pow_len_mono (a := a) (i := i + 1) (k := k) (HA.out (by omega)) (by omega)
              rw [HU3.out.len] at ho
              exact ⟨none, 0, 0, false, rfl, by omega, hide (by simp; omega), Ul.nil, HB3.out⟩
            · exact ⟨⟨i + 1, A3, m3, c3, by omega, rfl, by go_num, by omega, hc3, HU3, HB3⟩, by simp [intOf] <;> omega⟩
    · have dn1 : ((n : Int) == 1) = false := by simp; omega
      go_enter Try.func63, Try.ntmps63
      go_wp2_with ((go_at_call 70; (with_reducible refine (r1check_any _ av _ n c _ HU.out (by omega)).mono ?_); rintro e w' ⟨rfl, hw⟩; subst w'; rw [HC.out]))
      go_loopw [6, 7] (fun pv iv wr => ∃ (i : Nat) (A1 : Option Addr) (m1 c1 : Nat), i ≤ k ∧ pv = .slice A1 m1 c1 ∧ iv = .int .i64 (i : Int) ∧ m1 ≤ 128 ∧ m1 ≤ c1 ∧ Hid (Ul wr none A1 m1 (lm (a ^ i))) ∧ Hid (Below w.heap.size w wr)) (fun _ iv _ => k - (intOf iv).toNat)
      case atStart => exact ⟨0, _, 1, 1, by omega, rfl, rfl, by omega, by omega, hide (by rw [Nat.pow_zero, lm_one]; exact ul_one (x := 1) (by omega) _ rfl), hide ((Below.refl _ _).alloc (Nat.le_refl _) _)⟩
      case round =>
        obtain ⟨i, A1, m1, c1, hi, rfl, rfl, hm1, hc1, HU1, HB1⟩ := hrel
        by_cases hik : i = k
        · subst hik
          go_wp2_with fail
          go_ret2
          have hle : (lm (a ^ i)).length ≤ 128 := by rw [HU1.out.len]; exact hm1
          exact ⟨A1, m1, c1, true, rfl, hc1, hide (by simp [hle]), HU1.out, HB1.out⟩
        · have hlt : (i : Int) < (k : Int) := by omega
          go_wp2_with (go_at_call 67; (with_reducible refine (r1times_any _ none av A1 m1 c1 _ n c (a ^ i) a HU1.out (HU.out.below HB1.out) (by omega) (by omega)).mono ?_); rintro e w3 ⟨A3, m3, c3, rfl, hc3, hu3, hb3⟩; rw [← Nat.pow_succ] at hu3; have HU3 := hide hu3; have HB3 := hide (HB1.out.trans (hb3.mono HB1.out.size)); clear hu3 hb3)
          · go_ret2
            have ho := pow_len_mono (a := a) (i := i + 1) (k := k) (HA.out (by omega)) (by omega)
            rw [HU3.out.len] at ho
            exact ⟨none, 0, 0, false, rfl, by omega, hide (by simp; omega), Ul.nil, HB3.out⟩
          · exact ⟨⟨i + 1, A3, m3, c3, by omega, rfl, by go_num, by omega, hc3, HU3, HB3⟩, by simp [intOf] <;> omega⟩
end Go.Proofs.Ytnofljgmkdommaa

/- Contracts: the reference's fractions: lowest, limited, Make, Of. -/
namespace Go.Proofs.Ytnofljgmkdommaa
open Go.RowKit

/-- The slices read as a fraction of any size. -/
def Lo (w : World) (a : Fa) (r : Rat) : Prop := Fq w a (lm (rn r)) (lm r.den)
theorem Lo.below {w w' : World} {a : Fa} {r : Rat} (h : Lo w a r) (hb : Below w.heap.size w w') : Lo w' a r := Fq.below h hb
theorem Fq.put2 {w : World} {a : Fa} {l k : List Nat} (h : Fq w a l k) {g : Nat} (hg : NB w g) (x y : Value) (hx : ∀ i, x ≠ .int .u32 i) : Fq ((w.setCell ⟨g, 0, none⟩ x).setCell ⟨g, 1, none⟩ y) a l k := (h.put hg _ _).put (hg.put _ hx) _ _
set_option maxRecDepth 100000 in
set_option maxHeartbeats 8000000 in
theorem r2lowest_any (w : World) (av av' : Option Nat) (A : Option Addr) (n c : Nat) (B : Option Addr) (m d : Nat) (x y : Nat) (hU : Ul w av A n (lm x)) (hV : Ul w av' B m (lm y)) (hn : n ≤ 1000) (hm : m ≤ 1000) (hy : 0 < y) :
    Calls Try.prog 66 #[.slice A n c, .slice B m d] w fun e w' => ∃ a : Fa, e = .returned (.agg #[.slice a.A a.n a.c, .slice a.B a.m a.d]) ∧ Lo w' a (mkRat x y) ∧ Below w.heap.size w w' := by
  have hgp := gcd_pos' (x := x) hy
  have HN := hide (mk_num x y hy)
  have HD := hide (mk_den x y hy)
  go_enter Try.func66, Try.ntmps66
  go_upto_region 1 with (fail)
  generalize hW : World.alloc w _ = v
  have HRB := hide (show Rb v w.heap.size by rw [← hW]; exact Rb.mk0 _ rfl)
  have HBV := hide (show Below w.heap.size w v by rw [← hW]; exact (Below.refl _ _).alloc (Nat.le_refl _) _)
  have HU := hide (show Ul v av A n (lm x) by rw [← hW]; exact hU.alloc _)
  have HV := hide (show Ul v av' B m (lm y) by rw [← hW]; exact hV.alloc _)
  clear hW hU hV
  go_wp2_with (first
    | (go_at_call 72; (with_reducible refine (r1common_any _ av av' A n c B m d x y HU.out HV.out (by omega) (by omega)).mono ?_); rintro e w1 ⟨A1, m1, c1, rfl, hc1, hu1, hb1⟩; have hl1 := lm_length_mono (Nat.le_of_dvd hy (Nat.gcd_dvd_right x y)); rw [hu1.len, HV.out.len] at hl1; have HU1 := hide hu1; have HB1 := hide (HBV.out.trans (hb1.mono HBV.out.size)); have HR1 := hide (HRB.out.below hb1); have HUa := hide (HU.out.below hb1); have HVa := hide (HV.out.below hb1); clear hu1 hb1)
    | (go_at_call 86; (with_reducible refine (r1split_any _ av none A n c A1 m1 c1 x (Nat.gcd x y) HUa.out HU1.out (by omega) (by omega) hgp).mono ?_); rintro e w2 ⟨A2, m2, c2, A3, m3, c3, rfl, hc2, hc3, hu2, hu3, hb2⟩; have HU2 := hide hu2; have HB2 := hide (HB1.out.trans (hb2.mono HB1.out.size)); have HR2 := hide (HR1.out.below hb2); have HVb := hide (HVa.out.below hb2); have HU1b := hide (HU1.out.below hb2); clear hu2 hu3 hb2)
    | (go_at_call 86; (with_reducible refine (r1split_any _ av' none B m d A1 m1 c1 y (Nat.gcd x y) HVb.out HU1b.out (by omega) (by omega) hgp).mono ?_); rintro e w4 ⟨A4, m4, c4, A5, m5, c5, rfl, hc4, hc5, hu4, hu5, hb4⟩; have HU4 := hide hu4; have HB4 := hide (HB2.out.trans (hb4.mono HB2.out.size)); have HR4 := hide (HR2.out.below hb4); have HU2b := hide (HU2.out.below hb4); obtain ⟨z0, z1, zf, zz, -⟩ := HR4.out; clear hu4 hu5 hb4))
  have h2 : m2 ≤ 1000 := by
    rw [← HU2b.out.len]
    exact Nat.le_trans (lm_length_mono (Nat.div_le_self x _)) (by rw [HU.out.len]; exact hn)
  have h4 : m4 ≤ 1000 := by
    rw [← HU4.out.len]
    exact Nat.le_trans (lm_length_mono (Nat.div_le_self y _)) (by rw [HV.out.len]; exact hm)
  have HQ : Lo w4 ⟨A2, m2, c2, A4, m4, c4⟩ (mkRat x y) := by
    refine ⟨?_, ?_, hc2, hc4, by show m2 ≤ _; omega, by show m4 ≤ _; omega⟩
    · rw [HN.out]; exact HU2b.out
    · rw [HD.out]; exact HU4.out
  refine bodyPost_ret (v := .agg #[.slice A2 m2 c2, .slice A4 m4 c4]) (by simp [results, Try.results66, go_sem, *]) rfl ⟨⟨A2, m2, c2, A4, m4, c4⟩, rfl, Fq.put2 HQ HR4.out.nb _ _ (by simp), Rb.end0 HB4.out (Nat.le_refl _) _ _⟩
set_option maxRecDepth 100000 in
set_option maxHeartbeats 8000000 in
theorem r2limited_any (w : World) (a : Fa) (r : Rat) (h0 : 0 ≤ r) (hq : Lo w a r) :
    Calls Try.prog 64 #[.agg #[.slice a.A a.n a.c, .slice a.B a.m a.d]] w fun e w' => Ret w (limR r) e w' := by
  have hul := hq.u.len
  have hvl := hq.v.len
  by_cases h1 : a.n ≤ 128
  · have d1 : decide ((128 : Int) < (a.n : Int)) = false := decide_eq_false (by omega)
    by_cases h2 : a.m ≤ 128
    · have d2 : decide ((128 : Int) < (a.m : Int)) = false := decide_eq_false (by omega)
      have hf : fitsR r = true := by unfold fitsR; rw [hul, hvl]; simp [h1, h2]
      have HX := hide (limR_fit hf)
      have HOK := hide (show okR (some r) from ⟨h0, hf⟩)
      clear h1 h2 hf hul hvl
      go_enter Try.func64, Try.ntmps64
      go_upto_region 1 with (fail)
      generalize hW : World.alloc (World.alloc w _) _ = v
      have HF := hide (show F1 w v a (lm (rn r)) (lm r.den) by rw [← hW]; exact F1.mk0 hq _ _)
      obtain ⟨a0, a1, az, r0, r1, rf⟩ := HF.out.ca
      clear hW hq
      go_wp2_with fail
      refine bodyPost_ret (v := .tuple #[.agg #[.slice a.A a.n a.c, .slice a.B a.m a.d], .int .i64 0]) (by simp [results, Try.results64, go_sem, *]) rfl (HF.out.end (c := a) (by rw [HX.out]) (by rw [HX.out]; exact ⟨HF.out.q, HOK.out⟩))
    · have d2 : decide ((128 : Int) < (a.m : Int)) = true := decide_eq_true (by omega)
      have hf : fitsR r = false := by unfold fitsR; rw [hul, hvl]; simp; omega
      have HX := hide (limR_no hf)
      clear h1 h2 hf hul hvl
      go_enter Try.func64, Try.ntmps64
      go_upto_region 1 with (fail)
      generalize hW : World.alloc (World.alloc w _) _ = v
      have HF := hide (show F1 w v a (lm (rn r)) (lm r.den) by rw [← hW]; exact F1.mk0 hq _ _)
      obtain ⟨a0, a1, az, r0, r1, rf⟩ := HF.out.ca
      clear hW hq
      go_wp2_with fail
      refine bodyPost_ret (v := .tuple #[.agg #[.slice none 0 0, .slice none 0 0], .int .i64 2]) (by simp [results, Try.results64, go_sem, *]) rfl (HF.out.err HX.out)
  · have d1 : decide ((128 : Int) < (a.n : Int)) = true := decide_eq_true (by omega)
    have hf : fitsR r = false := by unfold fitsR; rw [hul, hvl]; simp; omega
    have HX := hide (limR_no hf)
    clear h1 hf hul hvl
    go_enter Try.func64, Try.ntmps64
    go_upto_region 1 with (fail)
    generalize hW : World.alloc (World.alloc w _) _ = v
    have HF := hide (show F1 w v a (lm (rn r)) (lm r.den) by rw [← hW]; exact F1.mk0 hq _ _)
    obtain ⟨a0, a1, az, r0, r1, rf⟩ := HF.out.ca
    clear hW hq
    go_wp2_with fail
    refine bodyPost_ret (v := .tuple #[.agg #[.slice none 0 0, .slice none 0 0], .int .i64 2]) (by simp [results, Try.results64, go_sem, *]) rfl (HF.out.err HX.out)
end Go.Proofs.Ytnofljgmkdommaa

/- Contracts: the reference's fractions: Make, Of. -/
namespace Go.Proofs.Ytnofljgmkdommaa
open Go.RowKit

theorem fits_mk {x y : Nat} (hx : (lm x).length ≤ 128) (hy : (lm y).length ≤ 128) (h0 : 0 < y) : fitsR (mkRat x y) = true := by
  unfold fitsR
  rw [mk_num x y h0, mk_den x y h0]
  have h1 := lm_length_mono (Nat.div_le_self x (Nat.gcd x y))
  have h2 := lm_length_mono (Nat.div_le_self y (Nat.gcd x y))
  simp; omega
theorem Lo.fo {w : World} {a : Fa} {r : Rat} (h : Lo w a r) (h0 : 0 ≤ r) (hf : fitsR r = true) : Fo w a (some r) := ⟨h, h0, hf⟩
set_option maxRecDepth 100000 in
set_option maxHeartbeats 8000000 in
theorem r2make_nat (w : World) (A : Option Addr) (n c : Nat) (B : Option Addr) (m d : Nat) (x y : Nat) (hU : Ul w none A n (lm x)) (hV : Ul w none B m (lm y)) (hn : n ≤ 128) (hm : m ≤ 128) (hy : 0 < y) :
    Calls Try.prog 79 #[.slice A n c, .slice B m d] w fun e w' => Ret w (some (mkRat x y), 0) e w' := by
  have hm0 := lm_pos_len1 hy hV.len
  have dm0 : ((m : Int) == 0) = false := by simp; omega
  have HC := hide (show natB (lm x) = true by rw [natB_lm, hU.len]; simp [hn])
  have HD := hide (show natB (lm y) = true by rw [natB_lm, hV.len]; simp [hm])
  have HF := hide (fits_mk (x := x) (y := y) (by rw [hU.len]; exact hn) (by rw [hV.len]; exact hm) hy)
  go_enter Try.func79, Try.ntmps79
  go_upto_region 1 with (fail)
  generalize hW : World.alloc w _ = v
  have HRB := hide (show Rb v w.heap.size by rw [← hW]; exact Rb.mk0 _ rfl)
  have HBV := hide (show Below w.heap.size w v by rw [← hW]; exact (Below.refl _ _).alloc (Nat.le_refl _) _)
  have HU := hide (show Ul v none A n (lm x) by rw [← hW]; exact hU.alloc _)
  have HV := hide (show Ul v none B m (lm y) by rw [← hW]; exact hV.alloc _)
  clear hW hU hV
  go_wp2_with (first
    | ((go_at_call 70; (with_reducible refine (r1check_any _ none A n c (lm x) HU.out (by omega)).mono ?_); rintro e w' ⟨rfl, hw⟩; subst w'; rw [HC.out]))
    | ((go_at_call 70; (with_reducible refine (r1check_any _ none B m d (lm y) HV.out (by omega)).mono ?_); rintro e w' ⟨rfl, hw⟩; subst w'; rw [HD.out]))
    | (go_at_call 66; (with_reducible refine (r2lowest_any _ none none A n c B m d x y HU.out HV.out (by omega) (by omega) hy).mono ?_); rintro e w5 ⟨q, rfl, ho, hb5⟩; have HO := hide ho; have HB5 := hide (HBV.out.trans (hb5.mono HBV.out.size)); have HR5 := hide (HRB.out.below hb5); obtain ⟨z0, z1, z2, z3, -⟩ := HR5.out; clear ho hb5))
  refine bodyPost_ret (v := .tuple #[.agg #[.slice q.A q.n q.c, .slice q.B q.m q.d], .int .i64 0]) (by simp [results, Try.results79, go_sem, *]) rfl (Ret.mk0 (x := (some (mkRat x y), 0)) rfl (HO.out.fo (mk_nonneg x y) HF.out) HR5.out HB5.out (Nat.le_refl _))
set_option maxRecDepth 100000 in
set_option maxHeartbeats 8000000 in
theorem r2of_any (w : World) (x y : Nat) (hx : x < 9223372036854775808) (hy : y < 9223372036854775808) (h0 : 0 < y) :
    Calls Try.prog 57 #[.int .i64 (x : Int), .int .i64 (y : Int)] w fun e w' => Ret w (some (mkRat x y), 0) e w' := by
  have hw1 : IntKind.u64.wrap (x : Int) = (x : Int) := by
    show (x : Int) % 18446744073709551616 = x
    omega
  have hw2 : IntKind.u64.wrap (y : Int) = (y : Int) := by
    show (y : Int) % 18446744073709551616 = y
    omega
  go_enter Try.func57, Try.ntmps57
  go_upto_region 1 with (fail)
  generalize hW : World.alloc w _ = v
  have HRB := hide (show Rb v w.heap.size by rw [← hW]; exact Rb.mk0 _ rfl)
  have HBV := hide (show Below w.heap.size w v by rw [← hW]; exact (Below.refl _ _).alloc (Nat.le_refl _) _)
  clear hW
  go_wp2_with (first
    | (go_at_call 80; (with_reducible refine (r1of_any _ x (by omega)).mono ?_); rintro e w1 ⟨A1, m1, c1, rfl, hc1, hm1, hu1, hb1⟩; have HU1 := hide hu1; have HB1 := hide (HBV.out.trans (hb1.mono HBV.out.size)); have HR1 := hide (HRB.out.below hb1); clear hu1 hb1)
    | (go_at_call 80; (with_reducible refine (r1of_any _ y (by omega)).mono ?_); rintro e w2 ⟨A2, m2, c2, rfl, hc2, hm2, hu2, hb2⟩; have HU2 := hide hu2; have HU1b := hide (HU1.out.below hb2); have HB2 := hide (HB1.out.trans (hb2.mono HB1.out.size)); have HR2 := hide (HR1.out.below hb2); clear hu2 hb2)
    | (go_at_call 79; (with_reducible refine (r2make_nat _ A1 m1 c1 A2 m2 c2 x y HU1b.out HU2.out (by omega) (by omega) h0).mono ?_); rintro e w5 ⟨q, rfl, ho, hb5⟩; have HO := hide ho; have HB5 := hide (HB2.out.trans (hb5.mono HB2.out.size)); have HR5 := hide (HR2.out.below hb5); obtain ⟨z0, z1, z2, z3, -⟩ := HR5.out; clear ho hb5))
  refine bodyPost_ret (v := .tuple #[.agg #[.slice q.A q.n q.c, .slice q.B q.m q.d], .int .i64 0]) (by simp [results, Try.results57, go_sem, *]) rfl (Ret.mk0 (x := (some (mkRat x y), 0)) rfl HO.out HR5.out HB5.out (Nat.le_refl _))
end Go.Proofs.Ytnofljgmkdommaa
