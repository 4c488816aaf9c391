/- Contracts of the functions that these laws reach: part 22: Contract: sequential.add: a fraction is added to the one in a place; Rows of fractions that a call owns; append onto them; Contracts: fraction.fold with Add, Sum; A block that holds a row of fractions: made, copied, changed in one place. -/
import Derived.Test.YtnokfhkcfebimaaGreatP19
import Derived.Test.YtnokfhkcfebimaaGreatP21
import Derived.Test.YtnokfhkcfebimaaGreatP17
import Derived.Test.YtnokfhkcfebimaaGreatP1
set_option linter.unusedVariables false
set_option linter.unusedSimpArgs false

/- Contract: sequential.add: a fraction is added to the one in a place. -/
namespace Go.Proofs.YtnokfhkcfebimaaGreat
open Go.RowKit

/-- The place of a fraction. -/
structure Fp (w : World) (g o : Nat) (x : Fa) (r : Rat) : Prop where
  c0 : w.cell? ⟨g, o, none⟩ = some (.slice x.A x.n x.c)
  c1 : w.cell? ⟨g, o + 1, none⟩ = some (.slice x.B x.m x.d)
  fz : ∀ j, w.frozen? ⟨g, j, none⟩ = false
  sz : g < w.heap.size
  nb : NB w g
  o : Fo w x (some r)
theorem Fp.below {w w' : World} {g o : Nat} {x : Fa} {r : Rat} (h : Fp w g o x r) (hb : Below w.heap.size w w') : Fp w' g o x r :=
  ⟨by rw [hb.cell (by exact h.sz)]; exact h.c0, by rw [hb.cell (by exact h.sz)]; exact h.c1, fun j => by rw [hb.frozen (by exact h.sz)]; exact h.fz j, Nat.lt_of_lt_of_le h.sz hb.size, h.nb.below h.sz hb, h.o.below hb⟩
/-- What it leaves: a fraction above, and it is stored. -/
def AddP (w : World) (g o : Nat) (q : Rat) (w' : World) : Prop := ∃ (c : Fa) (w1 : World), Below w.heap.size w w1 ∧ Fo w1 c (some q) ∧ w' = (w1.setCell ⟨g, o, none⟩ (.slice c.A c.n c.c)).setCell ⟨g, o + 1, none⟩ (.slice c.B c.m c.d)
set_option maxRecDepth 100000 in
set_option maxHeartbeats 8000000 in
theorem sadd_any (w : World) (g o : Nat) (x b : Fa) (r s : Rat) (hx : Fp w g o x r) (hb : Fo w b (some s)) (hf : fitsR (r + s) = true) :
    Calls Tryz.prog 78 #[.pointer (some ⟨g, o, none⟩), .agg #[.slice b.A b.n b.c, .slice b.B b.m b.d]] w fun e w' => e = .returned (.tuple #[]) ∧ AddP w g o (r + s) w' := by
  have HM := hide (show addR (some r) (some s) = (some (r + s), 0) from limR_fit hf)
  have HX0 := hide hx
  go_enter Tryz.func78, Tryz.ntmps78
  go_upto_region 1 with (fail)
  generalize hW : World.alloc w _ = v
  have HX := hide (show Fp v g o x r by rw [← hW]; exact hx.below ((Below.refl _ _).alloc (Nat.le_refl _) _))
  have HQ := hide (show Bq v w.heap.size b by rw [← hW]; exact Bq.mk0 _ b rfl)
  have HO := hide (show Fo v b (some s) by rw [← hW]; exact hb.alloc _)
  have HB := hide (show Below w.heap.size w v by rw [← hW]; exact (Below.refl _ _).alloc (Nat.le_refl _) _)
  clear hW hx hb hf
  apply region_seqo 8 10 [5, 6, 7, 8, 9, 10, 4, 11, 12, 13] [eqV _, eqV _, eqV _, eqV _, eqV _, fun x w => ∃ c : Fa, x = .tuple #[.agg #[.slice c.A c.n c.c, .slice c.B c.m c.d], .int .i64 0] ∧ Fo w c (some (r + s)), fun x w => ∃ c : Fa, x = .tuple #[.agg #[.slice c.A c.n c.c, .slice c.B c.m c.d], .int .i64 0] ∧ Fo w c (some (r + s)), fun x w => ∃ c : Fa, x = .agg #[.slice c.A c.n c.c, .slice c.B c.m c.d] ∧ Fo w c (some (r + s)), eqV _, eqV _] [false, false, false, false, false, false, false, false, false, false] (by kernel_rfl) (by decide) (by decide) rfl rfl rfl (by decide) (by kernel_rfl) (by kernel_rfl) rfl ?stb1 ?steps1 ?fina1 ?finb1
  case stb1 => repeat' (first | exact trivial | apply stb_eq | (exact fun x w w' ⟨c, h1, h2⟩ hb => ⟨c, h1, h2.below hb⟩) | apply And.intro)
  case steps1 =>
    repeat' (first | exact trivial | apply And.intro)
    all_goals
      intro a' w' hbw hdf hoff hdep K hK
      (have o0 := hoff 0 rfl; have o3 := hoff 3 rfl)
      (have HG := hide (HX.out.below hbw); have HH := hide (HQ.out.below hbw); have HI := hide (HO.out.below hbw); have y0 := HG.out.c0; have y1 := HG.out.c1; have z0 := HH.out.c0; have z1 := HH.out.c1; have hvz := hbw.size)
      replace hdep := hdep _ rfl
      simp only [List.getElem_toArray, List.getElem_cons_succ, List.getElem_cons_zero, List.toList_toArray, depAll, binds_data, binds_chain, binds_guard, binds_phase, binds_text, binds_gc, cond_true, cond_false, true_and, getR, eqV, List.getD_cons_succ, List.getD_cons_zero, and_true] at hdep
      simp only [Nat.zero_add, Nat.reduceAdd, getR, eqV, List.getD_cons_succ, List.getD_cons_zero] at hK
      clear hoff hdf
      (first | (obtain ⟨⟨c1, e24, HO1⟩, hdep⟩ : (∃ c : Fa, _) ∧ _ := hdep) | (obtain ⟨c1, e24, HO1⟩ : ∃ c : Fa, _ := hdep) | skip)
      first
        | (refine rg_unwanted rfl rfl rfl (b' := false) (by first | (simp [hdep]; done) | assumption) (by decide) ?_; exact hK _ _ rfl (Below.refl _ _) (by simp))
        | (refine rg_unwanted rfl rfl rfl (b' := true) (by first | (simp [hdep]; done) | assumption) (by decide) ?_; exact hK _ _ rfl (Below.refl _ _) (by simp))
        | (refine rg_wanted rfl rfl rfl (b' := true) (by first | (simp [hdep]; done) | assumption) rfl (fun K' hKK => ?_); go_wp2_with (go_at_call 108; (with_reducible refine (fadd_o _ x b _ _ HG.out.o HI.out).mono ?_); rintro e w1 ⟨c, rfl, ho, hb⟩; rw [HM.out] at ho ⊢); first | exact hK _ _ rfl (Below.refl _ _) (by simp) | (first | exact hK _ _ ⟨c, rfl, ho⟩ hb (by simp) | exact hK _ _ ⟨c1, rfl, HO1⟩ (Below.refl _ _) (by simp)))
        | (refine rg_wanted rfl rfl rfl (b' := false) (by first | (simp [hdep]; done) | assumption) rfl (fun K' hKK => ?_); go_wp2_with (go_at_call 108; (with_reducible refine (fadd_o _ x b _ _ HG.out.o HI.out).mono ?_); rintro e w1 ⟨c, rfl, ho, hb⟩; rw [HM.out] at ho ⊢); first | exact hK _ _ rfl (Below.refl _ _) (by simp) | (first | exact hK _ _ ⟨c, rfl, ho⟩ hb (by simp) | exact hK _ _ ⟨c1, rfl, HO1⟩ (Below.refl _ _) (by simp)))
        | (refine rg_free rfl rfl (fun K' hKK => ?_); fail)
        | (refine rg_free rfl rfl (fun K' hKK => ?_); go_wp2_with (go_at_call 108; (with_reducible refine (fadd_o _ x b _ _ HG.out.o HI.out).mono ?_); rintro e w1 ⟨c, rfl, ho, hb⟩; rw [HM.out] at ho ⊢); first | exact hK _ _ rfl (Below.refl _ _) (by simp) | (first | exact hK _ _ ⟨c, rfl, ho⟩ hb (by simp) | exact hK _ _ ⟨c1, rfl, HO1⟩ (Below.refl _ _) (by simp)))
  all_goals
    intro w' hbw
    repeat (first | refine fin_eq ?_ | refine fin_any (fun y hy => ?_))
    rename_i y10 h10 y4 h4
    obtain ⟨c2, rfl, -⟩ := h10
    obtain ⟨c3, rfl, -⟩ := h4
    obtain ⟨c, rfl, ho⟩ := hy
    have HC := hide ho
    have HW := hide (HB.out.trans (hbw.mono HB.out.size))
    have HG := hide (HX.out.below hbw)
    have y0 := HG.out.c0
    have y1 := HG.out.c1
    have yf := HG.out.fz
    have yz := HG.out.sz
    have hend := hide (show AddP w g o (r + s) ((w'.setCell ⟨g, o, none⟩ (.slice c.A c.n c.c)).setCell ⟨g, o + 1, none⟩ (.slice c.B c.m c.d)) from ⟨c, w', HW.out, HC.out, rfl⟩)
    clear ho
    refine fin_nil ?_
    simp only [List.setIfInBounds_toArray, List.set_cons_succ, List.set_cons_zero]
  · skip
    refine wpAny_one (i := 10) (by kernel_rfl) ?_
    refine rg_free rfl rfl (fun K' hKK => ?_)
    go_wp2_with fail
    refine wpAny_done (by kernel_rfl) ?_ _
    go_wp2_with fail
    refine bodyPost_end (results_none rfl _ _ _) rfl ⟨rfl, hend.out⟩
  · skip
    refine wpAny_two (i := 8) (j := 10) (by kernel_rfl) ?_ ?_
    · skip
      refine rg_free rfl rfl (fun K' hKK => ?_)
      go_wp2_with fail
      refine wpAny_one (i := 10) (by kernel_rfl) ?_
      refine rg_free rfl rfl (fun K' hKK => ?_)
      go_wp2_with fail
      refine wpAny_done (by kernel_rfl) ?_ _
      go_wp2_with fail
      refine bodyPost_end (results_none rfl _ _ _) rfl ⟨rfl, hend.out⟩
    · skip
      refine rg_free rfl rfl (fun K' hKK => ?_)
      go_wp2_with fail
      refine wpAny_one (i := 8) (by kernel_rfl) ?_
      refine rg_free rfl rfl (fun K' hKK => ?_)
      go_wp2_with fail
      refine wpAny_done (by kernel_rfl) ?_ _
      go_wp2_with fail
      refine bodyPost_end (results_none rfl _ _ _) rfl ⟨rfl, hend.out⟩
end Go.Proofs.YtnokfhkcfebimaaGreat

/- Rows of fractions that a call owns; append onto them. -/
namespace Go.Proofs.YtnokfhkcfebimaaGreat
open Go.RowKit

section
variable {P : Program}
/-- Each cell of a block is such a one. -/
def CellsP (w : World) (g : Nat) (Pr : Value → Prop) : Prop := ∀ j u, w.cell? ⟨g, j, none⟩ = some u → Pr u
theorem cell_of_heap {w : World} {g j : Nat} {cs : Array Value} {e : TypeId} {f : Nat × Nat} (h : w.heap[g]? = some (.cells cs e f)) : w.cell? ⟨g, j, none⟩ = cs[j]? := by
  simp [World.cell?, h]
end
theorem info26 : (Tryz.prog.info? 26).map (fun i => (i.zero, i.size, i.bytes)) = some (some (.agg #[.slice none 0 0, .slice none 0 0]), 2, 48) := by kernel_rfl
def fvv (c : Fa) : List Value := [.slice c.A c.n c.c, .slice c.B c.m c.d]
theorem fvv_len (c : Fa) : (fvv c).length = 2 := rfl
theorem fvv_one (c : Fa) : ∀ u ∈ fvv c, u.oneCell' = true := by
  intro u hu
  simp [fvv] at hu
  rcases hu with rfl | rfl <;> rfl
theorem fvv_nb (c : Fa) : ∀ u ∈ fvv c, ∀ x, u ≠ .int .u32 x := by
  intro u hu x
  simp [fvv] at hu
  rcases hu with rfl | rfl <;> simp
/-- A slice of fractions of a call's own. -/
structure OFr (w0 w : World) (A : Option Addr) (m c : Nat) (fs : List Fa) (os : List Rat) : Prop where
  own : w.ownsRow w0.heap.size 26 2 (.slice A m c) m (fs.flatMap fvv)
  nb : ∀ g, (Value.slice A m c).ownBlock = some g → NB w g
  len : fs.length = m
  lo : os.length = m
  el : ∀ (i : Nat) (x : Fa) (r : Rat), fs[i]? = some x → os[i]? = some r → Fo w x (some r)
  fr : Fr w0 w (fun _ => False)
section
variable {w0 w w' : World} {A : Option Addr} {m c : Nat} {fs : List Fa} {os : List Rat}
end
theorem fo_none {w : World} : Fo w fa0 none := ⟨⟨Ul.nil, Ul.nil, Nat.le_refl _, Nat.le_refl _, by simp, by simp⟩, trivial⟩
end Go.Proofs.YtnokfhkcfebimaaGreat

/- Contracts: fraction.fold with Add, Sum. -/
namespace Go.Proofs.YtnokfhkcfebimaaGreat
open Go.RowKit

/-- A slice of fractions. -/
structure FSl (w : World) (A : Option Addr) (n : Nat) (fs : List Fa) (os : List Rat) : Prop where
  rs : Rs w none 2 fvv A fs
  len : fs.length = n
  lo : os.length = n
  el : ∀ (i : Nat) (x : Fa) (r : Rat), fs[i]? = some x → os[i]? = some r → Fo w x (some r)
def sumQ (l : List Rat) : Rat := l.foldl (· + ·) 0
structure GS (w wr : World) (b6 : Nat) (c6 : Fa) (sv : Rat) : Prop where
  bw : Below w.heap.size w wr
  rb : Rb wr w.heap.size
  x6 : Fx wr b6 c6 (some sv)
  g : w.heap.size < b6
end Go.Proofs.YtnokfhkcfebimaaGreat

/- A block that holds a row of fractions: made, copied, changed in one place. -/
namespace Go.Proofs.YtnokfhkcfebimaaGreat
open Go.RowKit

/-- The block g holds these fractions. -/
structure Fw (w : World) (g m : Nat) (fs : List Fa) (os : List (Option Rat)) : Prop where
  sz : g < w.heap.size
  nb : NB w g
  fz : ∀ j, w.frozen? ⟨g, j, none⟩ = false
  len : fs.length = m
  lo : os.length = m
  c : ∀ (i : Nat) (x : Fa), fs[i]? = some x → w.cell? ⟨g, i * 2, none⟩ = some (.slice x.A x.n x.c) ∧ w.cell? ⟨g, i * 2 + 1, none⟩ = some (.slice x.B x.m x.d)
  el : ∀ (i : Nat) (x : Fa) (o : Option Rat), fs[i]? = some x → os[i]? = some o → Fo w x o
section
variable {w w' : World} {g m : Nat} {fs : List Fa} {os : List (Option Rat)}
theorem Fw.below (h : Fw w g m fs os) (hb : Below w.heap.size w w') : Fw w' g m fs os :=
  ⟨Nat.lt_of_lt_of_le h.sz hb.size, h.nb.below h.sz hb, fun j => by rw [hb.frozen (by exact h.sz)]; exact h.fz j, h.len, h.lo, fun i x hx => by rw [hb.cell (by exact h.sz), hb.cell (by exact h.sz)]; exact h.c i x hx, fun i x o hx ho => (h.el i x o hx ho).below hb⟩
theorem Fw.one (h : Fw w g m fs os) {g' : Nat} (hf : Fr w w' (fun b => b = g')) (hg : NB w g') (hne : g ≠ g') : Fw w' g m fs os := by
  have hk := hf.block g h.sz hne
  refine ⟨Nat.lt_of_lt_of_le h.sz hf.size, fun j x => ?_, fun j => ?_, h.len, h.lo, fun i x hx => ?_, fun i x o hx ho => (h.el i x o hx ho).one hf hg⟩
  · rw [World.cell?_of_block (w := w) (a := ⟨g, j, none⟩) hk]; exact h.nb j x
  · rw [World.frozen?_of_block (w := w) (a := ⟨g, j, none⟩) hk]; exact h.fz j
  · rw [World.cell?_of_block (w := w) (a := ⟨g, i * 2, none⟩) hk, World.cell?_of_block (w := w) (a := ⟨g, i * 2 + 1, none⟩) hk]; exact h.c i x hx
/-- One place of it. -/
theorem Fw.at (h : Fw w g m fs os) {i : Nat} {r : Rat} (hi : i < m) (ho : os[i]? = some (some r)) : ∃ x, fs[i]? = some x ∧ Fp w g (i * 2) x r := by
  have h1 := List.getElem?_eq_getElem (l := fs) (i := i) (by have := h.len; omega)
  exact ⟨_, h1, ⟨(h.c i _ h1).1, (h.c i _ h1).2, h.fz, h.sz, h.nb, h.el i _ _ h1 ho⟩⟩
theorem set_get {α : Type} {l : List α} {i j : Nat} {x y : α} (h : (l.set i x)[j]? = some y) : (j = i ∧ y = x) ∨ (j ≠ i ∧ l[j]? = some y) := by
  by_cases hj : j = i
  · subst hj
    rcases Nat.lt_or_ge j l.length with h1 | h1
    · rw [List.getElem?_set_self h1] at h
      injection h with h
      exact .inl ⟨rfl, h.symm⟩
    · rw [List.getElem?_eq_none (by simpa using h1)] at h
      simp at h
  · rw [List.getElem?_set_ne (fun e => hj e.symm)] at h
    exact .inr ⟨hj, h⟩
theorem Fw.set (h : Fw w g m fs os) {i : Nat} (hi : i < m) {x : Fa} {o : Option Rat} (hx : Fo w x o) : Fw ((w.setCell ⟨g, i * 2, none⟩ (.slice x.A x.n x.c)).setCell ⟨g, i * 2 + 1, none⟩ (.slice x.B x.m x.d)) g m (fs.set i x) (os.set i o) := by
  have hf : Fr w ((w.setCell ⟨g, i * 2, none⟩ (.slice x.A x.n x.c)).setCell ⟨g, i * 2 + 1, none⟩ (.slice x.B x.m x.d)) (fun b => b = g) := by
    refine Fr.setCell (Fr.setCell (Fr.refl _ _) ?_ _) ?_ _ <;> exact Or.inr (by rfl)
  obtain ⟨z, h1⟩ : ∃ z, fs[i]? = some z := ⟨_, List.getElem?_eq_getElem (l := fs) (i := i) (by have := h.len; omega)⟩
  obtain ⟨k0, k1⟩ := h.c i _ h1
  have s0 : (w.setCell ⟨g, i * 2, none⟩ (.slice x.A x.n x.c)).cell? ⟨g, i * 2, none⟩ = some (.slice x.A x.n x.c) := by simp [go_sem, k0]
  have s1 : (w.setCell ⟨g, i * 2, none⟩ (.slice x.A x.n x.c)).cell? ⟨g, i * 2 + 1, none⟩ = some (.slice z.B z.m z.d) := by
    rw [World.cell?_setCell_other _ _ _ _ (by intro h; injection h; omega)]; exact k1
  have t0 : ((w.setCell ⟨g, i * 2, none⟩ (.slice x.A x.n x.c)).setCell ⟨g, i * 2 + 1, none⟩ (.slice x.B x.m x.d)).cell? ⟨g, i * 2, none⟩ = some (.slice x.A x.n x.c) := by
    rw [World.cell?_setCell_other _ _ _ _ (by intro h; injection h; omega)]; exact s0
  have t1 : ((w.setCell ⟨g, i * 2, none⟩ (.slice x.A x.n x.c)).setCell ⟨g, i * 2 + 1, none⟩ (.slice x.B x.m x.d)).cell? ⟨g, i * 2 + 1, none⟩ = some (.slice x.B x.m x.d) := by
    simp [go_sem, s1]
  refine ⟨Nat.lt_of_lt_of_le h.sz hf.size, (h.nb.put (i * 2) (by simp)).put (i * 2 + 1) (by simp), fun j => ?_, by simp [h.len], by simp [h.lo], fun j y hy => ?_, fun j y u hy hu => ?_⟩
  · have := h.fz j; simp [go_sem, *]
  · rcases set_get hy with ⟨rfl, rfl⟩ | ⟨hj, hy⟩
    · exact ⟨t0, t1⟩
    · have := h.c j y hy
      rw [World.cell?_setCell_other _ _ _ _ (by intro h; injection h; omega), World.cell?_setCell_other _ _ _ _ (by intro h; injection h; omega), World.cell?_setCell_other _ _ _ _ (by intro h; injection h; omega), World.cell?_setCell_other _ _ _ _ (by intro h; injection h; omega)]
      exact this
  · rcases set_get hy with ⟨rfl, rfl⟩ | ⟨hj, hy⟩
    · rcases set_get hu with ⟨_, rfl⟩ | ⟨hj, hu⟩
      · exact hx.one hf h.nb
      · exact absurd rfl hj
    · rcases set_get hu with ⟨e, _⟩ | ⟨_, hu⟩
      · exact absurd e hj
      · exact (h.el j y u hy hu).one hf h.nb
theorem Fw.rs (h : Fw w g m fs os) : Rs w none 2 fvv (some ⟨g, 0, none⟩) fs := by
  intro _
  refine ⟨g, 0, rfl, by simp, h.sz, fun k x hk j u hu => ?_⟩
  have := h.c k x hk
  match j with
  | 0 => simp [fvv] at hu; subst hu; simpa using this.1
  | 1 => simp [fvv] at hu; subst hu; simpa using this.2
  | j + 2 => simp [fvv] at hu
theorem flat2 {l : List Fa} {i : Nat} {x : Fa} (h : l[i]? = some x) : (l.flatMap fvv)[i * 2]? = some (.slice x.A x.n x.c) ∧ (l.flatMap fvv)[i * 2 + 1]? = some (.slice x.B x.m x.d) := by
  induction l generalizing i with
  | nil => simp at h
  | cons a t ih =>
    rw [List.flatMap_cons]
    cases i with
    | zero => simp at h; subst h; exact ⟨rfl, rfl⟩
    | succ i =>
      have := ih (i := i) (by simpa using h)
      rw [List.getElem?_append_right (by rw [fvv_len]; omega), List.getElem?_append_right (by rw [fvv_len]; omega), fvv_len, show (i + 1) * 2 - 2 = i * 2 by omega, show (i + 1) * 2 + 1 - 2 = i * 2 + 1 by omega]
      exact this
theorem Fw.of_own {B : Nat} (h : w.ownsRow B 26 2 (.slice (some ⟨g, 0, none⟩) m m) m (fs.flatMap fvv)) (hl : fs.length = m) (hlo : os.length = m) (hel : ∀ (i : Nat) (x : Fa) (o : Option Rat), fs[i]? = some x → os[i]? = some o → Fo w x o) : Fw w g m fs os := by
  refine ⟨(h.lt g rfl).2, fun j x e => ?_, fun j => h.frozenAt j, hl, hlo, fun i x hx => ?_, hel⟩
  · rcases h.2 with ⟨h1, _⟩ | ⟨g', cap, cur, hv, _, hh, _, _, hcs, ht⟩
    · simp at h1
    · injection hv with h1 _ h2
      injection h1 with h1
      injection h1 with h1
      subst h1 h2
      rw [cell_of_heap hh] at e
      have hcur : cur.toList = fs.flatMap fvv := by rw [← ht, List.take_of_length_le (by simp [hcs])]
      have hm : (Value.int .u32 x) ∈ cur.toList := by
        have := Array.mem_of_getElem? e
        simpa using this
      rw [hcur] at hm
      obtain ⟨y, _, hy⟩ := List.mem_flatMap.1 hm
      exact fvv_nb y _ hy x rfl
  · obtain ⟨h1, h2⟩ := flat2 hx
    have hi : i < m := by have := (List.getElem?_eq_some_iff.1 hx).1; omega
    exact ⟨(h.cellAt (i * 2) (by omega)).trans h1, (h.cellAt (i * 2 + 1) (by omega)).trans h2⟩
end
theorem rep_flat (n : Nat) : (List.replicate n fa0).flatMap fvv = List.replicate (n * 2) (Value.slice none 0 0) := by
  induction n with
  | zero => rfl
  | succ n ih => rw [List.replicate_succ, List.flatMap_cons, ih, show (n + 1) * 2 = n * 2 + 1 + 1 by omega, List.replicate_succ, List.replicate_succ]; rfl
theorem made_frac (n : Nat) : (madeCells (Value.agg #[.slice none 0 0, .slice none 0 0]).cells (n * 2)).toList.take (n * 2) = (List.replicate n fa0).flatMap fvv := by
  rw [rep_flat]
  have e : (madeCells (Value.agg #[.slice none 0 0, .slice none 0 0]).cells (n * 2)).toList = List.replicate (n * 2) (Value.slice none 0 0) := by
    apply List.ext_getElem?
    intro i
    rw [Array.getElem?_toList]
    by_cases hi : i < n * 2
    · rw [List.getElem?_replicate, if_pos hi, Array.getElem?_eq_getElem (by rw [size_madeCells]; omega)]
      have h2 : i % 2 = 0 ∨ i % 2 = 1 := by omega
      rcases h2 with h2 | h2 <;> simp [madeCells, Value.cells, h2]
    · rw [List.getElem?_replicate, if_neg hi, Array.getElem?_eq_none (by rw [size_madeCells]; omega)]
  rw [e, List.take_replicate, Nat.min_self]
/-- 'make([]Frac, n)'. -/
theorem wl_make_frac {w : World} {ops : Array Oper} {rest : List Oper} {o : Oper} {a : Act} {Q : Exit → Act → World → Prop}
    (hg : o.guard = none) (l k : Operand) (t : TypeId) (ht : Tryz.prog.underlying t = some (.slice 26)) (hop : o.op = Op.makeSlice t l k)
    (n : Nat) (N C : Int) (hl : a.eval l = .int .i64 N) (hc : a.eval k = .int .i64 C) (hN : N = (n : Int)) (hC : C = (n : Int)) (b3 : n ≤ 4294967296)
    (hK : ∀ w', w'.ownsRow w.heap.size 26 2 (.slice (some ⟨w.heap.size, 0, none⟩) n n) n ((List.replicate n fa0).flatMap fvv) → Fw w' w.heap.size n (List.replicate n fa0) (List.replicate n none) → Below w.heap.size w w' → wpList Tryz.prog ops Q rest (a.put o.dst (.slice (some ⟨w.heap.size, 0, none⟩) n n)) w') :
    wpList Tryz.prog ops Q (o :: rest) a w := by
  refine wl_make w hg l k t hop w.heap.size 26 _ 2 48 ht info26 w.heap.size n n rfl N C hl hc hN hC (Nat.le_refl _) rfl (by omega) (by simp only [maxLen]; omega) (Nat.le_refl _) ?_
  intro w' ys hown hys hgr
  have hys' := hys.out
  rw [made_frac n] at hys'
  subst hys'
  refine hK w' hown (Fw.of_own hown (by simp) (by simp) (fun i x u hx hu => ?_)) (below_of_grown hgr)
  have h1 : x = fa0 := by
    have := List.getElem?_replicate (a := fa0) (n := n) (i := i)
    rw [hx] at this
    split at this <;> simp at this
    exact this
  have h2 : u = none := by
    have := List.getElem?_replicate (a := (none : Option Rat)) (n := n) (i := i)
    rw [hu] at this
    split at this <;> simp at this
    exact this
  subst h1 h2
  exact fo_none
/-- 'copy(d, s)' of as many. -/
theorem wl_copy_frac {w : World} {ops : Array Oper} {rest : List Oper} {o : Oper} {a : Act} {Q : Exit → Act → World → Prop} (hgd : o.guard = none) (d s : Operand) (dT sT : TypeId) (ht : Tryz.prog.underlying dT = some (.slice 26))
    (ho : o.op = .call { callee := .builtin .copy, args := #[d, s], argTypes := #[dT, sT] })
    (B g n g' : Nat) (ys : List Value) (hd : a.eval d = .slice (some ⟨g, 0, none⟩) n n) (hs : a.eval s = .slice (some ⟨g', 0, none⟩) n n) (hown : w.ownsRow B 26 2 (.slice (some ⟨g, 0, none⟩) n n) n ys)
    (fs : List Fa) (os : List (Option Rat)) (hF : Fw w g' n fs os) (hnb : NB w g)
    (h : ∀ w', Fw w' g n fs os → Fr w w' (fun b => b = g) → wpList Tryz.prog ops Q rest (a.put o.dst (goInt n)) w') :
    wpList Tryz.prog ops Q (o :: rest) a w := by
  refine wl_copy (P := Tryz.prog) w hgd d s dT sT ho 26 2 ht (by obtain ⟨i, hi, _, hsz, _⟩ := info_parts info26; rw [hi]; simp [hsz]) B g n n n ys _ hd hs hown fs hF.rs hF.len fvv_len fvv_one ?_
  intro w' hown' hgr
  have hf : Fr w w' (fun b => b = g) := ⟨hgr.os, hgr.tape, hgr.output, hgr.size, fun k hk hS => hgr.block k hk (fun e => hS (by injection e))⟩
  exact h w' (Fw.of_own hown' hF.len hF.lo (fun i x u hx hu => (hF.el i x u hx hu).one hf hnb)) hf
end Go.Proofs.YtnokfhkcfebimaaGreat
