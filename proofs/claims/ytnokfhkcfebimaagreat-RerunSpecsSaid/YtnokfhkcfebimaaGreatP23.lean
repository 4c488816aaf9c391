/- Contracts of the functions that these laws reach: part 23: The boxes of sequential.walk; contract: its spread (walk$2); Contracts: the noise law's one and known; Contracts: the law's bits; Plain laws of runs of outcomes for the law SequentialFirst; rows of bools that grow by a row. -/
import Derived.Test.YtnokfhkcfebimaaGreatP22
import Derived.Test.YtnokfhkcfebimaaGreatP20
import Derived.IntWalk
import Derived.Test.YtnokfhkcfebimaaGreatP16
import Derived.Test.YtnokfhkcfebimaaGreatP1
set_option linter.unusedVariables false
set_option linter.unusedSimpArgs false

/- The boxes of sequential.walk; contract: its spread (walk$2). -/
namespace Go.Proofs.YtnokfhkcfebimaaGreat
open Go.RowKit

theorem Fp.one {w w' : World} {g o : Nat} {x : Fa} {r : Rat} (h : Fp w g o x r) {g' : Nat} (hf : Fr w w' (fun b => b = g')) (hg : NB w g') (hne : g ≠ g') : Fp w' g o x r := by
  have hk := hf.block g h.sz hne
  refine ⟨?_, ?_, fun j => ?_, Nat.lt_of_lt_of_le h.sz hf.size, fun j y => ?_, h.o.one hf hg⟩
  · rw [World.cell?_of_block (w := w) (a := ⟨g, o, none⟩) hk]; exact h.c0
  · rw [World.cell?_of_block (w := w) (a := ⟨g, o + 1, none⟩) hk]; exact h.c1
  · rw [World.frozen?_of_block (w := w) (a := ⟨g, j, none⟩) hk]; exact h.fz j
  · rw [World.cell?_of_block (w := w) (a := ⟨g, j, none⟩) hk]; exact h.nb j y
theorem frp {w : World} {g : Nat} (o : Nat) (x y : Value) : Fr w ((w.setCell ⟨g, o, none⟩ x).setCell ⟨g, o + 1, none⟩ y) (fun b => b = g) := by
  refine Fr.setCell (Fr.setCell (Fr.refl _ _) ?_ _) ?_ _ <;> exact Or.inr (by rfl)
/-- The place itself is filled. -/
theorem Fp.fill {w : World} {g o : Nat} {x : Fa} {r : Rat} (h : Fp w g o x r) {c : Fa} {q : Rat} (hc : Fo w c (some q)) : Fp ((w.setCell ⟨g, o, none⟩ (.slice c.A c.n c.c)).setCell ⟨g, o + 1, none⟩ (.slice c.B c.m c.d)) g o c q := by
  have k0 := h.c0
  have k1 := h.c1
  have s0 : (w.setCell ⟨g, o, none⟩ (.slice c.A c.n c.c)).cell? ⟨g, o, none⟩ = some (.slice c.A c.n c.c) := by simp [go_sem, k0]
  have s1 : (w.setCell ⟨g, o, none⟩ (.slice c.A c.n c.c)).cell? ⟨g, o + 1, none⟩ = some (.slice x.B x.m x.d) := by
    rw [World.cell?_setCell_other _ _ _ _ (by intro h; injection h; omega)]; exact k1
  refine ⟨?_, by simp [go_sem, s1], fun j => by have := h.fz j; simp [go_sem, *], Nat.lt_of_lt_of_le h.sz (frp o _ _).size, (h.nb.put o (by simp)).put (o + 1) (by simp), hc.one (frp o _ _) h.nb⟩
  rw [World.cell?_setCell_other _ _ _ _ (by intro h; injection h; omega)]; exact s0
/-- Another place of the same block. -/
theorem Fp.beside {w : World} {g o : Nat} {x : Fa} {r : Rat} (h : Fp w g o x r) (p : Nat) (u v : Value) (hp : p + 1 < o ∨ o + 1 < p) (hu : ∀ k, u ≠ .int .u32 k) (hv : ∀ k, v ≠ .int .u32 k) : Fp ((w.setCell ⟨g, p, none⟩ u).setCell ⟨g, p + 1, none⟩ v) g o x r := by
  refine ⟨?_, ?_, fun j => by have := h.fz j; simp [go_sem, *], Nat.lt_of_lt_of_le h.sz (frp p _ _).size, (h.nb.put p hu).put (p + 1) hv, h.o.one (frp p _ _) h.nb⟩
  · rw [World.cell?_setCell_other _ _ _ _ (by intro h; injection h; omega), World.cell?_setCell_other _ _ _ _ (by intro h; injection h; omega)]; exact h.c0
  · rw [World.cell?_setCell_other _ _ _ _ (by intro h; injection h; omega), World.cell?_setCell_other _ _ _ _ (by intro h; injection h; omega)]; exact h.c1
/-- The boxes: specification, chance, odds, expected number, row. -/
structure WS (w0 v : World) (br : Nat) (s : Sv) (fp : Fa) (x : Rat) (g n : Nat) (rs : List Rat) (fl st ex : Rat) : Prop where
  bw : Below w0.heap.size w0 v
  fs : Cb v w0.heap.size s.cs
  q : SQ v s
  pp : Fp v (w0.heap.size + 1) 0 fp x
  o0 : ∃ f, Fp v (w0.heap.size + 2) 0 f fl
  o2 : ∃ f, Fp v (w0.heap.size + 2) 2 f st
  o4 : ∃ f, Fp v (w0.heap.size + 2) 4 f 0
  ee : ∃ f, Fp v (w0.heap.size + 3) 0 f ex
  rb : Cb v br [.slice (some ⟨g, 0, none⟩) n n]
  row : ∃ fs, Fw v g n fs (rs.map some)
  hb : w0.heap.size + 3 < br
  hg : w0.heap.size + 3 < g
  hn : g ≠ br
section
variable {w0 v v' : World} {br : Nat} {s : Sv} {fp : Fa} {x : Rat} {g n : Nat} {rs : List Rat} {fl st ex : Rat}
theorem WS.below (h : WS w0 v br s fp x g n rs fl st ex) (hb : Below v.heap.size v v') : WS w0 v' br s fp x g n rs fl st ex := by
  obtain ⟨f0, h0⟩ := h.o0
  obtain ⟨f2, h2⟩ := h.o2
  obtain ⟨f4, h4⟩ := h.o4
  obtain ⟨f5, h5⟩ := h.ee
  obtain ⟨fs, h6⟩ := h.row
  exact ⟨h.bw.trans (hb.mono h.bw.size), h.fs.below hb, h.q.below hb, h.pp.below hb, ⟨f0, h0.below hb⟩, ⟨f2, h2.below hb⟩, ⟨f4, h4.below hb⟩, ⟨f5, h5.below hb⟩, h.rb.below hb, ⟨fs, h6.below hb⟩, h.hb, h.hg, h.hn⟩
theorem WS.alloc (h : WS w0 v br s fp x g n rs fl st ex) (o : Obj) : WS w0 (v.alloc o) br s fp x g n rs fl st ex := h.below ((Below.refl _ _).alloc (Nat.le_refl _) _)
/-- Another block changes. -/
theorem WS.one (h : WS w0 v br s fp x g n rs fl st ex) {g' : Nat} (hf : Fr v v' (fun b => b = g')) (hnb : NB v g') (h1 : w0.heap.size + 3 < g') (h2 : br ≠ g') (h3 : g ≠ g') : WS w0 v' br s fp x g n rs fl st ex := by
  obtain ⟨f0, k0⟩ := h.o0
  obtain ⟨f2, k2⟩ := h.o2
  obtain ⟨f4, k4⟩ := h.o4
  obtain ⟨f5, k5⟩ := h.ee
  obtain ⟨fs, k6⟩ := h.row
  exact ⟨((Fr.of_below (fun b => b = g') h.bw).trans hf).below (Nat.le_refl _) (fun k hk e => by omega), h.fs.one hf (by omega), h.q.one hf hnb, h.pp.one hf hnb (by omega), ⟨f0, k0.one hf hnb (by omega)⟩, ⟨f2, k2.one hf hnb (by omega)⟩, ⟨f4, k4.one hf hnb (by omega)⟩, ⟨f5, k5.one hf hnb (by omega)⟩, h.rb.one hf h2, ⟨fs, k6.one hf hnb h3⟩, h.hb, h.hg, h.hn⟩
/-- The expected number is set. -/
theorem WS.setE (h : WS w0 v br s fp x g n rs fl st ex) {c : Fa} {q : Rat} (hc : Fo v c (some q)) : WS w0 ((v.setCell ⟨w0.heap.size + 3, 0, none⟩ (.slice c.A c.n c.c)).setCell ⟨w0.heap.size + 3, 1, none⟩ (.slice c.B c.m c.d)) br s fp x g n rs fl st q := by
  obtain ⟨f0, k0⟩ := h.o0
  obtain ⟨f2, k2⟩ := h.o2
  obtain ⟨f4, k4⟩ := h.o4
  obtain ⟨f5, k5⟩ := h.ee
  obtain ⟨fs, k6⟩ := h.row
  have hf := frp (w := v) (g := w0.heap.size + 3) 0 (.slice c.A c.n c.c) (.slice c.B c.m c.d)
  have hg := h.hg
  have hb := h.hb
  exact ⟨((Fr.of_below (fun b => b = w0.heap.size + 3) h.bw).trans hf).below (Nat.le_refl _) (fun k hk e => by omega), h.fs.one hf (by omega), h.q.one hf k5.nb, h.pp.one hf k5.nb (by omega), ⟨f0, k0.one hf k5.nb (by omega)⟩, ⟨f2, k2.one hf k5.nb (by omega)⟩, ⟨f4, k4.one hf k5.nb (by omega)⟩, ⟨c, k5.fill hc⟩, h.rb.one hf (by omega), ⟨fs, k6.one hf k5.nb (by omega)⟩, h.hb, h.hg, h.hn⟩
end
/-- Part way through a spread: the old row, the next one, the chance's box. -/
structure SP (wz w0 v : World) (br : Nat) (s : Sv) (fp : Fa) (x : Rat) (g n : Nat) (rs : List Rat) (fl st ex : Rat) (bq : Nat) (q : Fa) (qv : Rat) (g1 g2 : Nat) (os : List (Option Rat)) : Prop where
  ws : WS w0 v br s fp x g n rs fl st ex
  qb : Bq v bq q
  qo : Fo v q (some qv)
  ol : ∃ fs, Fw v g1 n fs (rs.map some)
  nx : ∃ fs, Fw v g2 (n + 1) fs os
  h0 : w0.heap.size + 3 < bq
  hb : br < bq
  hg : g < bq
  h1 : bq < g1
  h2 : g1 < g2
  fr : Fr wz v (fun b => b = w0.heap.size + 3)
  hz : wz.heap.size ≤ g2
section
variable {wz w0 v v' : World} {br : Nat} {s : Sv} {fp : Fa} {x : Rat} {g n : Nat} {rs : List Rat} {fl st ex : Rat} {bq : Nat} {q : Fa} {qv : Rat} {g1 g2 : Nat} {os : List (Option Rat)}
theorem SP.below (h : SP wz w0 v br s fp x g n rs fl st ex bq q qv g1 g2 os) (hb : Below v.heap.size v v') : SP wz w0 v' br s fp x g n rs fl st ex bq q qv g1 g2 os := by
  obtain ⟨f1, k1⟩ := h.ol
  obtain ⟨f2, k2⟩ := h.nx
  exact ⟨h.ws.below hb, h.qb.below hb, h.qo.below hb, ⟨f1, k1.below hb⟩, ⟨f2, k2.below hb⟩, h.h0, h.hb, h.hg, h.h1, h.h2, h.fr.below_ hb, h.hz⟩
theorem SP.alloc (h : SP wz w0 v br s fp x g n rs fl st ex bq q qv g1 g2 os) (o : Obj) : SP wz w0 (v.alloc o) br s fp x g n rs fl st ex bq q qv g1 g2 os := h.below ((Below.refl _ _).alloc (Nat.le_refl _) _)
theorem SP.addE (h : SP wz w0 v br s fp x g n rs fl st ex bq q qv g1 g2 os) {r : Rat} (ha : AddP v (w0.heap.size + 3) 0 r v') : SP wz w0 v' br s fp x g n rs fl st r bq q qv g1 g2 os := by
  obtain ⟨c, w1, hb, ho, rfl⟩ := ha
  have h' := h.below hb
  obtain ⟨f1, k1⟩ := h'.ol
  obtain ⟨f2, k2⟩ := h'.nx
  obtain ⟨f5, k5⟩ := h'.ws.ee
  have i0 := h.h0
  have i1 := h.h1
  have i2 := h.h2
  have hf := frp (w := w1) (g := w0.heap.size + 3) 0 (.slice c.A c.n c.c) (.slice c.B c.m c.d)
  exact ⟨h'.ws.setE ho, h'.qb.one hf (by omega), h'.qo.one hf k5.nb, ⟨f1, k1.one hf k5.nb (by omega)⟩, ⟨f2, k2.one hf k5.nb (by omega)⟩, h.h0, h.hb, h.hg, h.h1, h.h2, h'.fr.trans hf, h.hz⟩
theorem SP.setN (h : SP wz w0 v br s fp x g n rs fl st ex bq q qv g1 g2 os) {i : Nat} (hi : i < n + 1) {c : Fa} {o : Option Rat} (ho : Fo v c o) : SP wz w0 ((v.setCell ⟨g2, i * 2, none⟩ (.slice c.A c.n c.c)).setCell ⟨g2, i * 2 + 1, none⟩ (.slice c.B c.m c.d)) br s fp x g n rs fl st ex bq q qv g1 g2 (os.set i o) := by
  obtain ⟨f1, k1⟩ := h.ol
  obtain ⟨f2, k2⟩ := h.nx
  have i0 := h.h0
  have i1 := h.h1
  have i2 := h.h2
  have i3 := h.hb
  have i4 := h.hg
  have hf := frp (w := v) (g := g2) (i * 2) (.slice c.A c.n c.c) (.slice c.B c.m c.d)
  exact ⟨h.ws.one hf k2.nb (by omega) (by omega) (by omega), h.qb.one hf (by omega), h.qo.one hf k2.nb, ⟨f1, k1.one hf k2.nb (by omega)⟩, ⟨_, k2.set hi ho⟩, h.h0, h.hb, h.hg, h.h1, h.h2, h.fr.step hf (fun k hk e => by have := h.hz; omega), h.hz⟩
theorem SP.addN (h : SP wz w0 v br s fp x g n rs fl st ex bq q qv g1 g2 os) {i : Nat} (hi : i < n + 1) {r : Rat} (ha : AddP v g2 (i * 2) r v') : SP wz w0 v' br s fp x g n rs fl st ex bq q qv g1 g2 (os.set i (some r)) := by
  obtain ⟨c, w1, hb, ho, rfl⟩ := ha
  exact (h.below hb).setN hi ho
end
theorem AddP.fr {w w' : World} {g o : Nat} {q : Rat} (h : AddP w g o q w') : Fr w w' (fun b => b = g) := by
  obtain ⟨c, w1, hb, _, rfl⟩ := h
  exact (Fr.of_below _ hb).trans (frp o _ _)
theorem WS.pc {w0 v : World} {br : Nat} {s : Sv} {fp : Fa} {x : Rat} {g n : Nat} {rs : List Rat} {fl st ex : Rat} (h : WS w0 v br s fp x g n rs fl st ex) : v.cell? ⟨w0.heap.size + 1, 0, none⟩ = some (.slice fp.A fp.n fp.c) ∧ v.cell? ⟨w0.heap.size + 1, 1, none⟩ = some (.slice fp.B fp.m fp.d) ∧ w0.heap.size + 1 < v.heap.size := ⟨h.pp.c0, h.pp.c1, h.pp.sz⟩
theorem spr_cons (q x c a : Rat) (t : List Rat) : spr q x c (a :: t) = (c + a * q) :: spr q x (a * x) t := rfl
/-- A box with a fraction. -/
structure Bf (v : World) (b : Nat) (c : Fa) (r : Rat) : Prop where
  b : Bq v b c
  o : Fo v c (some r)
theorem Bf.below {v v' : World} {b : Nat} {c : Fa} {r : Rat} (h : Bf v b c r) (hb : Below v.heap.size v v') : Bf v' b c r := ⟨h.b.below hb, h.o.below hb⟩
theorem Bf.alloc {v : World} {b : Nat} {c : Fa} {r : Rat} (h : Bf v b c r) (o : Obj) : Bf (v.alloc o) b c r := ⟨h.b.alloc o, h.o.alloc o⟩
theorem Bf.one {v v' : World} {b : Nat} {c : Fa} {r : Rat} (h : Bf v b c r) {g : Nat} (hf : Fr v v' (fun b => b = g)) (hg : NB v g) (hne : b ≠ g) : Bf v' b c r := ⟨h.b.one hf hne, h.o.one hf hg⟩
/-- The zeros of the next row. -/
def zrow (j m : Nat) : List (Option Rat) := List.replicate j (some 0) ++ List.replicate (m - j) none
theorem zrow_set {j m : Nat} (h : j < m) : (zrow j m).set j (some 0) = zrow (j + 1) m := by
  unfold zrow
  rw [List.set_append_right _ _ (by simp), List.length_replicate, Nat.sub_self, show m - j = (m - (j + 1)) + 1 by omega, List.replicate_succ, List.set_cons_zero, List.replicate_succ', List.append_assoc]
  rfl
theorem zrow_full (m : Nat) : zrow m m = List.replicate m (some 0) := by unfold zrow; rw [Nat.sub_self, List.replicate_zero, List.append_nil]
/-- The next row part way: what is done, what was carried, zeros. -/
def nrow (done : List Rat) (c : Rat) (k : Nat) : List (Option Rat) := (done ++ c :: List.replicate k 0).map some
theorem nrow_zero (n : Nat) : List.replicate (n + 1) (some (0 : Rat)) = nrow [] 0 n := by
  unfold nrow
  rw [List.nil_append, List.map_cons, List.map_replicate, List.replicate_succ]
theorem nrow_at (done : List Rat) (c : Rat) (k : Nat) : (nrow done c k)[done.length]? = some (some c) := by
  unfold nrow
  rw [List.getElem?_map, List.getElem?_append_right (Nat.le_refl _), Nat.sub_self]; rfl
theorem nrow_at1 (done : List Rat) (c y : Rat) (k : Nat) : ((nrow done c (k + 1)).set done.length (some y))[done.length + 1]? = some (some 0) := by
  rw [List.getElem?_set_ne (by omega)]
  unfold nrow
  rw [List.getElem?_map, List.getElem?_append_right (by omega), show done.length + 1 - done.length = 1 by omega]; rfl
theorem nrow_step (done : List Rat) (c y z : Rat) (k : Nat) : (((nrow done c (k + 1)).set done.length (some y)).set (done.length + 1) (some z)) = nrow (done ++ [y]) z k := by
  unfold nrow
  rw [List.map_append, List.map_append, List.map_append, List.set_append_right _ _ (by simp), List.length_map, Nat.sub_self, List.map_cons, List.set_cons_zero, List.set_append_right _ _ (by simp), List.length_map, show done.length + 1 - done.length = 1 by omega, List.set_cons_succ, List.replicate_succ, List.map_cons, List.set_cons_zero, List.append_assoc]
  rfl
theorem sumL_take {l : List Rat} : ∀ {j : Nat} {a : Rat}, l[j]? = some a → sumL (l.take (j + 1)) = sumL (l.take j) + a := by
  induction l with
  | nil => intro j a h; simp at h
  | cons b t ih =>
    intro j a h
    cases j with
    | zero => simp at h; subst h; simp only [List.take_succ_cons, List.take_zero, sumL]; grind
    | succ j =>
      have := ih (j := j) (a := a) (by simpa using h)
      simp only [List.take_succ_cons, sumL] at this ⊢
      rw [this]; grind
set_option maxRecDepth 100000 in
set_option maxHeartbeats 16000000 in
theorem spread_any (w0 w : World) (br : Nat) (s : Sv) (fp : Fa) (x : Rat) (g n : Nat) (rs : List Rat) (fl st ex : Rat) (q : Fa) (qv : Rat) (k B C : Nat) (h : WS w0 w br s fp x g n rs fl st ex) (hq : Fo w q (some qv)) (hn1 : 1 ≤ n) (hn : n ≤ 40)
    (hx : Dv x.den 1 1 x) (hqv : Dv x.den 1 1 qv) (hxd : x.den ≤ 1000) (hB : ∀ a ∈ rs, Dv x.den k B a) (hE : Dv x.den k C ex) (hk : k ≤ 64) (hB2 : 2 * B ≤ 18446744073709551616) (hC2 : C + n * B ≤ 18446744073709551616) :
    Calls Tryz.prog 79 #[.agg #[.slice q.A q.n q.c, .slice q.B q.m q.d], .pointer (some ⟨br, 0, none⟩), .pointer (some ⟨w0.heap.size + 3, 0, none⟩), .pointer (some ⟨w0.heap.size + 1, 0, none⟩)] w fun e w' =>
      ∃ g', e = .returned (.slice (some ⟨g', 0, none⟩) (n + 1) (n + 1)) ∧ WS w0 w' br s fp x g n rs fl st (ex + sumL rs) ∧ (∃ fs, Fw w' g' (n + 1) fs ((spr qv x 0 rs).map some)) ∧ w0.heap.size + 3 < g' ∧ g' ≠ br ∧ g' ≠ g ∧ Fr w w' (fun b => b = w0.heap.size + 3) ∧ w.heap.size ≤ g' := by
  have HS0 := hide h
  go_enter Tryz.func79, Tryz.ntmps79
  go_upto_region 1 with (fail)
  generalize hW : World.alloc w _ = v
  have HS := hide (show WS w0 v br s fp x g n rs fl st ex by rw [← hW]; exact h.alloc _)
  have HQ := hide (show Bq v w.heap.size q by rw [← hW]; exact Bq.mk0 _ q rfl)
  have HO := hide (show Fo v q (some qv) by rw [← hW]; exact hq.alloc _)
  have HFR := hide (show Fr w v (fun b => b = w0.heap.size + 3) by rw [← hW]; exact (Fr.refl _ _).alloc _)
  have hwz := hide (show w.heap.size < v.heap.size by rw [← hW]; simp)
  have hqb := hide (show w0.heap.size + 3 < w.heap.size ∧ br < w.heap.size ∧ g < w.heap.size by have := h.hb; have := h.rb.sz; obtain ⟨fs, h6⟩ := h.row; have := h6.sz; omega)
  obtain ⟨bq, hbq⟩ : ∃ b, b = w.heap.size := ⟨_, rfl⟩
  rw [← hbq] at HQ hqb ⊢
  have r0 := HS.out.rb.cell 0 _ rfl
  have rz := HS.out.rb.sz
  clear hW hbq h hq
  go_wp2_with (first
    | (at_make; refine wl_make_frac rfl _ _ _ Tryz.underlying35 rfl (n + 1) _ _ rfl rfl (by omega) (by omega) (by omega) ?_; intro w3 ho3 hf3 hb3; have HP := hide (show SP w w0 w3 br s fp x g n rs fl st ex bq q qv v.heap.size w2.heap.size (zrow 0 (n + 1)) from ⟨HS2.out.below hb3, HQ2.out.1.below hb3, HQ2.out.2.below hb3, ⟨_, HF2.out.below hb3⟩, ⟨_, hf3⟩, hqb.out.1, hqb.out.2.1, hqb.out.2.2, HQ.out.sz, Nat.lt_of_lt_of_le HF2.out.sz (Nat.le_refl _), (HFR2.out).below_ hb3, by have := hwz.out; have := HF2.out.sz; omega⟩); clear ho3 hf3 hb3)
    | (have hrw := HS1.out.row; obtain ⟨fs0, hr0⟩ := hrw; refine wl_copy_frac rfl _ _ _ _ Tryz.underlying35 rfl _ _ n g _ rfl rfl HO1.out fs0 _ hr0 HF1.out.nb ?_; intro w2 hc2 hfr2; have HF2 := hide hc2; have HS2 := hide (HS1.out.one hfr2 HF1.out.nb (by have := hqb.out.1; have := HQ.out.sz; omega) (by have := hqb.out.2.1; have := HQ.out.sz; omega) (by have := hqb.out.2.2; have := HQ.out.sz; omega)); have HFR2 := hide ((HFR.out.below_ HB1.out).step hfr2 (fun k hk e => by have := hwz.out; omega)); have HQ2 := hide (And.intro ((HQ.out.below HB1.out).one hfr2 (by have := HQ.out.sz; omega)) ((HO.out.below HB1.out).one hfr2 HF1.out.nb)); clear hc2 hfr2 hr0)
    | (at_make; refine wl_make_frac rfl _ _ _ Tryz.underlying35 rfl n _ _ rfl rfl rfl rfl (by omega) ?_; intro w1 ho1 hf1 hb1; have HO1 := hide ho1; have HF1 := hide hf1; have HB1 := hide hb1; have HS1 := hide (HS.out.below hb1); have s0 := HS1.out.rb.cell 0 _ rfl; have sz := HS1.out.rb.sz; clear ho1 hf1 hb1))
  obtain ⟨g1, hg1⟩ : ∃ b, b = v.heap.size := ⟨_, rfl⟩
  obtain ⟨g2, hg2⟩ : ∃ b, b = w2.heap.size := ⟨_, rfl⟩
  rw [← hg1, ← hg2] at HP ⊢
  have HV := hide (show g1 < g2 from HP.out.h2)
  clear r0 rz s0 sz hg1 hg2
  go_loopw [27] (fun i wr => ∃ j : Nat, i = .int .i64 (j : Int) ∧ j ≤ n + 1 ∧ Hid (SP w w0 wr br s fp x g n rs fl st ex bq q qv g1 g2 (zrow j (n + 1)))) (fun i _ => n + 1 - (intOf i).toNat)
  case atStart => exact ⟨0, rfl, by omega, HP⟩
  case round =>
    obtain ⟨j, rfl, hj, HR⟩ := hrel
    by_cases hjn : j = n + 1
    · have hlt : decide ((j : Int) < (n : Int) + 1) = false := decide_eq_false (by omega)
      have hlt2 : (n : Int) + 1 ≤ (j : Int) := by omega
      have HR0 := hide (show SP w w0 wr br s fp x g n rs fl st ex bq q qv g1 g2 (nrow [] 0 n) by have := HR.out; rwa [hjn, zrow_full, nrow_zero] at this)
      clear hjn
      go_wp2_with fail
      clear hlt hlt2 hj
      have hxp := x.den_pos
      have hlen : rs.length = n := by obtain ⟨f, hf⟩ := HR0.out.ol; have := hf.lo; simpa using this
      have HLEN := hide hlen
      have HSPR := hide (show spr qv x 0 rs = [] ++ spr qv x 0 (rs.drop 0) by simp)
      have HDV := hide (And.intro hx (And.intro hqv (And.intro hB hE)))
      clear hx hqv hB hE hlen
      go_loopw [37] (fun i wr => ∃ (j : Nat) (done : List Rat) (c : Rat), i = .int .i64 (j : Int) ∧ j ≤ n ∧ Hid (done.length = j) ∧ Hid (spr qv x 0 rs = done ++ spr qv x c (rs.drop j)) ∧ Hid (Dv x.den (k + 1) B c) ∧ Hid (SP w w0 wr br s fp x g n rs fl st (ex + sumL (rs.take j)) bq q qv g1 g2 (nrow done c (n - j)))) (fun i _ => n - (intOf i).toNat)
      case atStart => exact ⟨0, [], 0, rfl, by omega, hide rfl, HSPR, hide (Dv.zero _ _ _), hide (by rw [List.take_zero, show ex + sumL [] = ex from Rat.add_zero _]; exact HR0.out)⟩
      case round =>
        obtain ⟨j, done, c, rfl, hj, HDN, HSP, HC, HRj⟩ := hrel
        by_cases hjn : j = n
        · subst hjn
          have hlt : decide ((j : Int) < (j : Int)) = false := decide_eq_false (by omega)
          go_wp2_with fail
          go_ret
          obtain ⟨fn, hfn⟩ := HRj.out.nx
          have i0 := HRj.out.h0
          have i1 := HRj.out.h1
          have i2 := HRj.out.h2
          have i3 := HRj.out.hb
          have i4 := HRj.out.hg
          have e1 := HSP.out
          rw [List.drop_eq_nil_of_le (by rw [HLEN.out]; exact Nat.le_refl _)] at e1
          refine ⟨g2, rfl, ?_, ⟨fn, ?_⟩, by omega, by omega, by omega, HRj.out.fr, HRj.out.hz⟩
          · have := HRj.out.ws
            rwa [List.take_of_length_le (by rw [HLEN.out]; exact Nat.le_refl _)] at this
          · rw [e1]
            have := hfn
            rwa [Nat.sub_self] at this
        · have hlt : decide ((j : Int) < (n : Int)) = true := decide_eq_true (by omega)
          have hlt2 : (j : Int) < (n : Int) := by omega
          have hj0 : (0 : Int) ≤ (j : Int) := by omega
          obtain ⟨a, ha⟩ : ∃ a, rs[j]? = some a := ⟨_, List.getElem?_eq_getElem (by rw [HLEN.out]; omega)⟩
          have HA := hide ha
          have hda : Dv x.den k B a := HDV.out.2.2.1 a (List.mem_of_getElem? ha)
          have hdt : Dv x.den k (j * B) (sumL (rs.take j)) := by
            have := sumL_dv (D := x.den) (n := k) (B := B) (rs.take j) (fun b hb => HDV.out.2.2.1 b (List.mem_of_mem_take hb))
            rwa [List.length_take, HLEN.out, Nat.min_eq_left hj] at this
          have hnB : j * B + B ≤ n * B := by rw [← Nat.succ_mul]; exact Nat.mul_le_mul_right _ (by omega)
          have f1 := hide (((HDV.out.2.2.2.add hdt).add hda).fits hxp hxd (by omega) (by omega))
          have hd1 := hda.mul HDV.out.2.1
          have hd2 := hda.mul HDV.out.1
          rw [Nat.mul_one] at hd1 hd2
          have f2 := hide (hd1.fits hxp hxd (by omega) (by omega))
          have f3 := hide (hd2.fits hxp hxd (by omega) (by omega))
          have f4 := hide ((HC.out.add hd1).fits hxp hxd (by omega) (by omega))
          have f5 := hide (show fitsR (0 + a * x) = true by rw [Rat.zero_add]; exact f3.out)
          have HD2 := hide hd2
          obtain ⟨fs1, hfs1⟩ := HRj.out.ol
          obtain ⟨z, hz, hzp⟩ := hfs1.at (i := j) (r := a) (by omega) (by rw [List.getElem?_map, ha]; rfl)
          have z0 := hzp.c0
          have z1 := hzp.c1
          have zs := hzp.sz
          have HZO := hide hzp.o
          clear hfs1 hz hzp ha hda hdt hnB hd1 hd2 hjn
          go_upto_region 12 with (fail)
          generalize hW : World.alloc wr _ = w3
          have HX3 := hide (show Bf w3 wr.heap.size z a by rw [← hW]; exact ⟨Bq.mk0 _ z rfl, HZO.out.alloc _⟩)
          have HR3 := hide (show SP w w0 w3 br s fp x g n rs fl st (ex + sumL (rs.take j)) bq q qv g1 g2 (nrow done c (n - j)) by rw [← hW]; exact HRj.out.alloc _)
          have hbz := hide (show g2 < wr.heap.size from HRj.out.nx.elim fun _ h => h.sz)
          obtain ⟨bx, hbx⟩ : ∃ b, b = wr.heap.size := ⟨_, rfl⟩
          rw [← hbx] at HX3 hbz ⊢
          have x0 := HX3.out.b.c0
          have x1 := HX3.out.b.c1
          obtain ⟨fe, hfe⟩ := HR3.out.ws.ee
          have HFE := hide hfe
          clear hW hbx z0 z1 zs hfe
          go_upto_region 13 with (go_at_call 78; (with_reducible refine (sadd_any _ (w0.heap.size + 3) 0 fe z _ _ HFE.out HX3.out.o f1.out).mono ?_); rintro e w4 ⟨rfl, hap⟩; have HAP := hide hap; have HR4 := hide (show SP w w0 w4 br s fp x g n rs fl st (ex + sumL (rs.take (j + 1))) bq q qv g1 g2 (nrow done c (n - j)) by have := HR3.out.addE hap; rwa [Rat.add_assoc, ← sumL_take HA.out] at this); have HX4 := hide (HX3.out.one hap.fr HFE.out.nb (by have := hbz.out; have := HR3.out.h0; have := HR3.out.h1; have := HR3.out.h2; omega)); have y0 := HX4.out.b.c0; have y1 := HX4.out.b.c1; have q0 := HR4.out.qb.c0; have q1 := HR4.out.qb.c1; clear hap)
          clear x0 x1
          go_upto_region 14 with (go_at_call 80; (with_reducible refine (fmul_ok _ z q _ _ HX4.out.o HR4.out.qo f2.out).mono ?_); rintro e w5 ⟨ca, rfl, ho, hb⟩; have HO5 := hide ho; have HR5 := hide (HR4.out.below hb); have HX5 := hide (HX4.out.below hb); clear ho hb)
          generalize hW : World.alloc w5 _ = w6
          have HA6 := hide (show Bf w6 w5.heap.size ca (a * qv) by rw [← hW]; exact ⟨Bq.mk0 _ ca rfl, HO5.out.alloc _⟩)
          have HR6 := hide (show SP w w0 w6 br s fp x g n rs fl st (ex + sumL (rs.take (j + 1))) bq q qv g1 g2 (nrow done c (n - j)) by rw [← hW]; exact HR5.out.alloc _)
          have HX6 := hide (show Bf w6 bx z a by rw [← hW]; exact HX5.out.alloc _)
          have hba := hide (show g2 < w5.heap.size from HR5.out.nx.elim fun _ h => h.sz)
          obtain ⟨b1, hb1⟩ : ∃ b, b = w5.heap.size := ⟨_, rfl⟩
          rw [← hb1] at HA6 hba ⊢
          have x0 := HX6.out.b.c0
          have x1 := HX6.out.b.c1
          obtain ⟨p0, p1, p2⟩ := HR6.out.ws.pc
          clear hW hb1 y0 y1 q0 q1
          go_upto_region 15 with (go_at_call 80; (with_reducible refine (fmul_ok _ z fp _ _ HX6.out.o HR6.out.ws.pp.o f3.out).mono ?_); rintro e w7 ⟨cb, rfl, ho, hb⟩; have HO7 := hide ho; have HR7 := hide (HR6.out.below hb); have HA7 := hide (HA6.out.below hb); clear ho hb)
          generalize hW : World.alloc w7 _ = w8
          have HB8 := hide (show Bf w8 w7.heap.size cb (a * x) by rw [← hW]; exact ⟨Bq.mk0 _ cb rfl, HO7.out.alloc _⟩)
          have HR8 := hide (show SP w w0 w8 br s fp x g n rs fl st (ex + sumL (rs.take (j + 1))) bq q qv g1 g2 (nrow done c (n - j)) by rw [← hW]; exact HR7.out.alloc _)
          have HA8 := hide (show Bf w8 b1 ca (a * qv) by rw [← hW]; exact HA7.out.alloc _)
          have hbb := hide (show g2 < w7.heap.size from HR7.out.nx.elim fun _ h => h.sz)
          obtain ⟨b2, hb2⟩ : ∃ b, b = w7.heap.size := ⟨_, rfl⟩
          rw [← hb2] at HB8 hbb ⊢
          clear hW hb2 x0 x1 p0 p1 p2
          have u0 := HA8.out.b.c0
          have u1 := HA8.out.b.c1
          have uz := HA8.out.b.sz
          obtain ⟨fs2, hfs2⟩ := HR8.out.nx
          obtain ⟨y, hy, hyp⟩ := hfs2.at (i := j) (r := c) (by omega) (by have := nrow_at done c (n - j); rwa [HDN.out] at this)
          have HY := hide hyp
          clear hfs2 hy hyp
          have hjn1 : (j : Int) < (n : Int) + 1 := by omega
          go_region_held3 (fun W => W.cell? ⟨b1, 0, none⟩ = some (.slice ca.A ca.n ca.c) ∧ W.cell? ⟨b1, 1, none⟩ = some (.slice ca.B ca.m ca.d)) (first | with_reducible exact k9 | first | (go_keep; done) | ((try dsimp only); (repeat' apply And.intro) <;> first | (go_keep; done) | ((repeat rw [World.cell?_setCell_other _ _ _ _ (by intro h; injection h; omega)]); go_keep; done))) (first | (go_at_call 78; (with_reducible refine (sadd_any _ g2 (j * 2) y ca _ _ (by first | exact HY.out | exact HY.out.below (Below.refl _ _).drew) (by first | exact HA8.out.o | exact HA8.out.o.below (Below.refl _ _).drew) f4.out).mono ?_); rintro e w9 ⟨rfl, hap⟩; have HAP := hide hap; have HR9 := hide ((by first | exact HR8.out.addN (by omega) hap | exact (HR8.out.below (Below.refl _ _).drew).addN (by omega) hap) : SP w w0 w9 br s fp x g n rs fl st (ex + sumL (rs.take (j + 1))) bq q qv g1 g2 ((nrow done c (n - j)).set j (some (c + a * qv)))); have HB9 := hide ((by first | exact HB8.out.one hap.fr HY.out.nb (by have := hbb.out; omega) | exact (HB8.out.below (Below.refl _ _).drew).one hap.fr HY.out.nb (by have := hbb.out; omega)) : Bf w9 b2 cb (a * x)); have HA9 := hide ((by first | exact HA8.out.one hap.fr HY.out.nb (by have := hba.out; omega) | exact (HA8.out.below (Below.refl _ _).drew).one hap.fr HY.out.nb (by have := hba.out; omega)) : Bf w9 b1 ca (a * qv)); have k9 : w9.cell? ⟨b1, 0, none⟩ = some (.slice ca.A ca.n ca.c) ∧ w9.cell? ⟨b1, 1, none⟩ = some (.slice ca.B ca.m ca.d) := ⟨HA9.out.b.c0, HA9.out.b.c1⟩; clear hap))
          clear u0 u1 uz k9
          have u0 := HB9.out.b.c0
          have u1 := HB9.out.b.c1
          have uz := HB9.out.b.sz
          obtain ⟨fs3, hfs3⟩ := HR9.out.nx
          obtain ⟨y2, hy2, hyp2⟩ := hfs3.at (i := j + 1) (r := 0) (by omega) (by have := nrow_at1 done c (c + a * qv) (n - j - 1); rw [HDN.out, show n - j - 1 + 1 = n - j by omega] at this; exact this)
          have HY2 := hide hyp2
          clear hfs3 hy2 hyp2
          have hj1 : (0 : Int) ≤ (j : Int) + 1 := by omega
          have hj2 : (j : Int) + 1 < (n : Int) + 1 := by omega
          have hj3 : ((j : Int) + 1).toNat = j + 1 := by omega
          have hjlt : j + 1 < n + 1 := by omega
          have hwr : IntKind.i64.wrap ((j : Int) + 1) = (j : Int) + 1 := IntWalk.i64_in _ (by omega)
          go_upto_region 16 with (fail)
          go_region_held3 (fun W => W.cell? ⟨b2, 0, none⟩ = some (.slice cb.A cb.n cb.c) ∧ W.cell? ⟨b2, 1, none⟩ = some (.slice cb.B cb.m cb.d)) (first | with_reducible exact k8 | first | (go_keep; done) | ((try dsimp only); (repeat' apply And.intro) <;> first | (go_keep; done) | ((repeat rw [World.cell?_setCell_other _ _ _ _ (by intro h; injection h; omega)]); go_keep; done))) (first | (go_at_call 78; (with_reducible refine (sadd_any _ g2 ((j + 1) * 2) y2 cb _ _ (by first | exact HY2.out | exact HY2.out.below (Below.refl _ _).drew) (by first | exact HB9.out.o | exact HB9.out.o.below (Below.refl _ _).drew) f5.out).mono ?_); rintro e wa ⟨rfl, hap⟩; have HRa := hide ((by first | exact HR9.out.addN (by omega) hap | exact (HR9.out.below (Below.refl _ _).drew).addN (by omega) hap) : SP w w0 wa br s fp x g n rs fl st (ex + sumL (rs.take (j + 1))) bq q qv g1 g2 (((nrow done c (n - j)).set j (some (c + a * qv))).set (j + 1) (some (0 + a * x)))); have HBa := hide ((by first | exact HB9.out.one hap.fr HY2.out.nb (by have := hbb.out; omega) | exact (HB9.out.below (Below.refl _ _).drew).one hap.fr HY2.out.nb (by have := hbb.out; omega)) : Bf wa b2 cb (a * x)); have k8 : wa.cell? ⟨b2, 0, none⟩ = some (.slice cb.A cb.n cb.c) ∧ wa.cell? ⟨b2, 1, none⟩ = some (.slice cb.B cb.m cb.d) := ⟨HBa.out.b.c0, HBa.out.b.c1⟩; clear hap))
          clear hwr k8
          go_wp2_with fail
          go_roundw
          case rel => exact ⟨j + 1, done ++ [c + a * qv], a * x, by go_num, by omega, hide (by rw [List.length_append, HDN.out]; rfl), hide (by
            rw [HSP.out, List.drop_eq_getElem_cons (by rw [HLEN.out]; omega), spr_cons, List.append_assoc, List.singleton_append]
            have e2 : rs[j]'(by rw [HLEN.out]; omega) = a := by
              have := HA.out
              rw [List.getElem?_eq_getElem (by rw [HLEN.out]; omega)] at this
              injection this
            rw [e2]), HD2, hide (by
            have h9 := HRa.out
            have e3 := nrow_step done c (c + a * qv) (0 + a * x) (n - (j + 1))
            rw [show n - (j + 1) + 1 = n - j by omega, HDN.out] at e3
            rw [e3, Rat.zero_add] at h9
            first | exact h9 | exact h9.below (Below.refl _ _).drew)⟩
          case measure => simp [intOf]; omega
    · have hlt : decide ((j : Int) < (n : Int) + 1) = true := decide_eq_true (by omega)
      have hlt2 : (j : Int) < (n : Int) + 1 := by omega
      have hj0 : (0 : Int) ≤ (j : Int) := by omega
      go_wp2_with (go_at_call 76; (with_reducible refine (swhole0_any _).mono ?_); rintro e w4 ⟨c, rfl, ho, hb⟩; have HO4 := hide ho; have HR4 := hide (HR.out.below hb); obtain ⟨fs, hfs⟩ := HR4.out.nx; obtain ⟨z, hz⟩ : ∃ z, fs[j]? = some z := ⟨_, List.getElem?_eq_getElem (l := fs) (i := j) (by have := hfs.len; omega)⟩; obtain ⟨z0, z1⟩ := hfs.c j z hz; have zf := hfs.fz; have zs := hfs.sz; clear hfs hz ho hb)
      go_roundw
      case rel => exact ⟨j + 1, by go_num, by omega, hide (by have := HR4.out.setN (i := j) (by omega) HO4.out; rwa [zrow_set (by omega)] at this)⟩
      case measure => simp [intOf]; omega
end Go.Proofs.YtnokfhkcfebimaaGreat

/- Contracts: the noise law's one and known. -/
namespace Go.Proofs.YtnokfhkcfebimaaGreat
open Go.RowKit

end Go.Proofs.YtnokfhkcfebimaaGreat

/- Contracts: the law's bits. -/
namespace Go.Proofs.YtnokfhkcfebimaaGreat
open Go.RowKit

/-- A slice of bools of a call's own. -/
structure OBl (w0 w : World) (A : Option Addr) (m c : Nat) (l : List Bool) : Prop where
  own : w.ownsRow w0.heap.size 4 1 (.slice A m c) m (l.flatMap bv)
  len : l.length = m
  fr : Fr w0 w (fun _ => False)
/-- The bits of a number, the least first. -/
def bitL (x n : Nat) : List Bool := (List.range n).map fun i => decide (x / 2 ^ i % 2 = 1)
end Go.Proofs.YtnokfhkcfebimaaGreat

/- Plain laws of runs of outcomes for the law SequentialFirst; rows of bools that grow by a row. -/
namespace Go.Proofs.YtnokfhkcfebimaaGreat
open Go.RowKit

end Go.Proofs.YtnokfhkcfebimaaGreat
