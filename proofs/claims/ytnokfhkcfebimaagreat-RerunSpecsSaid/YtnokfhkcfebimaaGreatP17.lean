/- Contracts of the functions that these laws reach: part 17: Contracts: Inner, Two; Words for the laws: a slice of ints that came in, the tape over it; Words for the laws on chances: boxes of fractions, the tape, folded numbers; Boxes of any number of cells; contract: Noise; Contracts: the reference's noise: Of, Rest; Contract: the reference's Chance; Contracts: Check of a noise model, the program's and the reference's. -/
import Derived.Test.YtnokfhkcfebimaaGreatP16
import Derived.Test.YtnokfhkcfebimaaGreatP9
import Derived.Test.YtnokfhkcfebimaaGreatP14
set_option linter.unusedVariables false
set_option linter.unusedSimpArgs false

/- Contracts: Inner, Two. -/
namespace Go.Proofs.YtnokfhkcfebimaaGreat
open Go.RowKit

theorem mem_nat2 (k : Nat) {v : Int} {l : List Int} (h : v ∈ l) (hl : (l.all fun i => decide ((k : Int) ≤ i) && decide (i ≤ 1000)) = true) : ∃ d : Nat, v = d ∧ k ≤ d ∧ d ≤ 1000 := by
  have := List.all_eq_true.1 hl v h
  simp at this
  exact ⟨v.toNat, by omega, by omega, by omega⟩
theorem tapeV_nat (l : List Int) (a : Nat) (N : Int) : ∃ x : Nat, tapeV l a N = (x : Int) ∧ ((x : Int) < N ∨ x = 0) := by
  have := tapeV_lo l a N
  exact ⟨(tapeV l a N).toNat, by omega, by omega⟩
theorem mk_le {x y d : Nat} (hd : 0 < d) (h : x ≤ y) : mkRat x d ≤ mkRat y d := by
  have hd0 : (0 : Rat) < (d : Rat) := by exact_mod_cast hd
  have hd1 : (d : Rat) ≠ 0 := fun e => by rw [e] at hd0; exact absurd hd0 (by decide)
  refine Rat.le_of_mul_le_mul_right (c := (d : Rat)) ?_ hd0
  rw [Rat.mkRat_eq_div, Rat.mkRat_eq_div]
  have e1 := Rat.div_mul_cancel (a := ((x : Int) : Rat)) hd1
  have e2 := Rat.div_mul_cancel (a := ((y : Int) : Rat)) hd1
  have : ((x : Int) : Rat) ≤ ((y : Int) : Rat) := by exact_mod_cast h
  calc _ = ((x : Int) : Rat) := e1
    _ ≤ ((y : Int) : Rat) := this
    _ = _ := e2.symm
theorem mk_lt {x y d : Nat} (hd : 0 < d) (h : x < y) : mkRat x d < mkRat y d := by
  refine Rat.lt_of_le_of_ne (mk_le hd (Nat.le_of_lt h)) (fun e => ?_)
  have hd0 : (d : Rat) ≠ 0 := fun e => by have : d = 0 := by exact_mod_cast e
                                          omega
  rw [Rat.mkRat_eq_div, Rat.mkRat_eq_div] at e
  have e1 := Rat.div_mul_cancel (a := ((x : Int) : Rat)) hd0
  have e2 := Rat.div_mul_cancel (a := ((y : Int) : Rat)) hd0
  rw [e, e2] at e1
  have : (y : Int) = (x : Int) := by exact_mod_cast e1
  omega
theorem mk_pos {x d : Nat} (hd : 0 < d) (h : 0 < x) : 0 < mkRat x d := by
  have := mk_lt (x := 0) (y := x) hd h
  rwa [show mkRat ((0 : Nat) : Int) d = 0 from Rat.zero_mkRat d] at this
theorem cast_ne0 {d : Nat} (hd : 0 < d) : (d : Rat) ≠ 0 := fun e => by
  have h1 : d = 0 := by exact_mod_cast e
  omega
theorem mk_lt1 {x d : Nat} (hd : 0 < d) (h : x < d) : mkRat x d < 1 := by
  have h1 := mk_lt (x := x) (y := d) hd h
  have e1 : mkRat ((d : Nat) : Int) d = 1 := by
    rw [Rat.mkRat_eq_div]
    have e2 : (((d : Nat) : Int) : Rat) = (d : Rat) := rfl
    rw [e2, Rat.div_def, Rat.mul_inv_cancel _ (cast_ne0 hd)]
  rwa [e1] at h1
/-- What a maker of inner chances returns. -/
def MkI (w : World) (T : Nat) (A : Option Addr) (n c : Nat) (l : List Int) (a : Nat) (e : Ending) (w' : World) : Prop :=
  ∃ (f : Fa) (r : Rat), e = .returned (.agg #[.slice f.A f.n f.c, .slice f.B f.m f.d]) ∧ Fo w' f (some r) ∧ Chn r ∧ (0 < r ∧ r < 1) ∧ Tp w' T A n c l a ∧ Fr w w' (fun b => b = T)
/-- What Two returns. -/
def Mk2 (w : World) (T : Nat) (A : Option Addr) (n c : Nat) (l : List Int) (a : Nat) (e : Ending) (w' : World) : Prop :=
  ∃ (f g : Fa) (r s : Rat), e = .returned (.tuple #[.agg #[.slice f.A f.n f.c, .slice f.B f.m f.d], .agg #[.slice g.A g.n g.c, .slice g.B g.m g.d]]) ∧ Fo w' f (some r) ∧ Fo w' g (some s) ∧ Chn r ∧ Chn s ∧ (0 < r ∧ r < s ∧ s < 1) ∧ Tp w' T A n c l a ∧ Fr w w' (fun b => b = T)
set_option maxRecDepth 100000 in
set_option maxHeartbeats 4000000 in
theorem twom_any (w : World) (T : Nat) (A : Option Addr) (n c : Nat) (l : List Int) (a : Nat) (hP : Tp w T A n c l a) (ha : a ≤ 4294967000) :
    Calls Tryz.prog 39 #[.pointer (some ⟨T, 0, none⟩)] w fun e w' => Mk2 w T A n c l (a + 3) e w' := by
  have HP0 := hide hP
  have hTl := hP.t.1
  go_enter Tryz.func39, Tryz.ntmps39
  go_upto_region 1 with (fail)
  generalize hW : World.alloc (World.alloc w _) _ = v
  have HR := hide (show Rb v w.heap.size by rw [← hW]; exact ((Rb.mk0 _ rfl).bq.alloc _).rb)
  have HS := hide (show Rb v (w.heap.size + 1) by rw [← hW]; exact Rb.mk0 _ (by simp))
  have HF := hide (show Fr w v (fun b => b = T) by rw [← hW]; exact ((Fr.refl _ _).alloc _).alloc _)
  have HP := hide (show Tp v T A n c l a by rw [← hW]; exact (hP.alloc _).alloc _)
  clear hW hP
  have hvz := HS.out.sz
  go_upto_region 2 with (go_at_call 26; refine (pickp_any _ T A n c l a _ 8 8 [3, 4, 5, 10, 20, 100, 1000, 997] (HP.out.alloc _) (by omega) (rs_new (by omega) [3, 4, 5, 10, 20, 100, 1000, 997] 3) rfl (by decide) (by decide)).mono ?_; rintro e w1 ⟨⟨v1, hv, rfl⟩, hp1, hf1⟩; have HV := hide (mem_nat2 3 hv (by decide)); have HP1 := hide hp1; have HR1 := hide (((HR.out.bq.alloc _).one hf1 (by omega)).rb); have HS1 := hide (((HS.out.bq.alloc _).one hf1 (by omega)).rb); have HF1 := hide ((HF.out.alloc _).trans hf1); clear hv hp1 hf1)
  obtain ⟨d, rfl, hd1, hd2⟩ := HV.out
  have hw : IntKind.i64.wrap ((d : Int) - 2) = (d : Int) - 2 := IntWalk.i64_in _ (by omega)
  go_upto_region 3 with (go_at_call 24; refine (nextp_any _ T A n c l (a + 1) ((d : Int) - 2) HP1.out (by omega) (by omega)).mono ?_; rintro e w2 ⟨rfl, hp2, hf2⟩; have HX := hide (tapeV_nat l (a + 1) ((d : Int) - 2)); have HP2 := hide hp2; have HR2 := hide ((HR1.out.bq.one hf2 (by omega)).rb); have HS2 := hide ((HS1.out.bq.one hf2 (by omega)).rb); have HF2 := hide (HF1.out.trans (hf2.mono (fun _ _ h => h))); clear hp2 hf2; obtain ⟨x, hx, hxd⟩ := HX.out; rw [hx]; have hx1 : (1 : Int) + (x : Int) = ((1 + x : Nat) : Int) := (by omega); clear hx HX)
  obtain ⟨y, hy⟩ : ∃ y, y = 1 + x := ⟨_, rfl⟩
  rw [← hy] at hx1
  have hy1 : 1 ≤ y := by omega
  have hyd : y ≤ d - 2 ∨ y = 1 := by omega
  have HY := hide hy
  clear hy
  go_wp2_with (first
    | (go_at_call 25; (with_reducible refine (small_any _ y d (by omega) (by omega) (by omega)).mono ?_); rintro e w3 ⟨f, rfl, ho, hb⟩; have HO := hide ho; have HP3 := hide (HP2.out.below hb); have HR3 := hide (HR2.out.below hb); have HS3 := hide (HS2.out.below hb); have HF3 := hide (HF2.out.below_ hb); clear ho hb)
    | (go_at_call 24; refine (nextp_any _ T A n c l (a + 1 + 1) ((d : Int) - 1 - (y : Int)) HP3.out (by omega) (by omega)).mono ?_; rintro e w4 ⟨rfl, hp2, hf2⟩; have HX := hide (tapeV_nat l (a + 1 + 1) ((d : Int) - 1 - (y : Int))); have HP4 := hide hp2; have HO4 := hide (HO.out.one hf2 HP3.out.nb); have HR4 := hide ((HR3.out.bq.one hf2 (by omega)).rb); have HS4 := hide ((HS3.out.bq.one hf2 (by omega)).rb); have HF4 := hide (HF3.out.trans (hf2.mono (fun _ _ h => h))); clear hp2 hf2; obtain ⟨z, hz, hzd⟩ := HX.out; rw [hz]; obtain ⟨u, hu⟩ : ∃ u : Nat, u = y + 1 + z := ⟨_, rfl⟩; have hu1 : (y : Int) + 1 + (z : Int) = (u : Int) := (by omega); have HU := hide hu; clear hu hz HX)
    | (go_at_call 25; (with_reducible refine (small_any _ u d (by omega) (by omega) (by omega)).mono ?_); rintro e w5 ⟨g, rfl, ho, hb⟩; have HO5 := hide (HO4.out.below hb); have HG := hide ho; have HP5 := hide (HP4.out.below hb); have HR5 := hide (HR4.out.below hb); have HS5 := hide (HS4.out.below hb); have HF5 := hide (HF4.out.below_ hb); obtain ⟨r0, r1, rf, rz, -⟩ := HR5.out; obtain ⟨t0, t1, tf, tz, -⟩ := HS5.out; clear ho hb))
  have hN := (HS5.out.bq.far (g' := w.heap.size) (by omega) (.slice f.A f.n f.c) (.slice f.B f.m f.d)).nb
  have hyu : y < u := by have := HU.out; omega
  have hud : u < d := by have := HU.out; omega
  refine bodyPost_ret (v := .tuple #[.agg #[.slice f.A f.n f.c, .slice f.B f.m f.d], .agg #[.slice g.A g.n g.c, .slice g.B g.m g.d]]) (by simp [results, Tryz.results39, go_sem, *]) rfl ⟨f, g, mkRat y d, mkRat u d, rfl, (HO5.out.put2 HR5.out.nb _ _ (by simp)).put2 hN _ _ (by simp), (HG.out.put2 HR5.out.nb _ _ (by simp)).put2 hN _ _ (by simp), mk_chn (by omega) (by omega) hd2, mk_chn (by omega) (by omega) hd2, ⟨mk_pos (by omega) hy1, mk_lt (by omega) hyu, mk_lt1 (by omega) hud⟩, HP0.out.one (HP0.out.one HP5.out (Nat.le_refl _) (fr_fill _ _)) (by omega) (fr_fill _ _), (((HF5.out.setCell (.inl (Nat.le_refl _)) _).setCell (.inl (Nat.le_refl _)) _).setCell (.inl (by show _ ≤ w.heap.size + 1; omega)) _).setCell (.inl (by show _ ≤ w.heap.size + 1; omega)) _⟩
end Go.Proofs.YtnokfhkcfebimaaGreat

/- Words for the laws: a slice of ints that came in, the tape over it. -/
namespace Go.Proofs.YtnokfhkcfebimaaGreat
open Go.RowKit

/-- The tape just made. -/
theorem tape_new {w : World} {A : Option Addr} {n c : Nat} {l : List Int} (h : Rs w none 1 iv A l) (hl : l.length = n) (t : TypeId) : TapeAt (w.alloc (.cells #[.slice A n c, .int .i64 0] t)) w.heap.size A n c l 0 := by
  refine ⟨by simp, by go_simp, by go_simp, fun j => by go_simp, fun hne => ?_, hl⟩
  obtain ⟨b, o, h1, _, h3, h4⟩ := h hne
  refine ⟨b, o, h1, by intro e; injection e with e; omega, by simp; omega, fun k a hk j u hu => ?_⟩
  have := h4 k a hk j u hu
  rw [← this]
  exact World.cell?_of_block (w := w) (a := ⟨b, o + k * 1 + j, none⟩) (((Below.refl w.heap.size w).alloc (Nat.le_refl _) _).block b h3)

end Go.Proofs.YtnokfhkcfebimaaGreat

/- Words for the laws on chances: boxes of fractions, the tape, folded numbers. -/
namespace Go.Proofs.YtnokfhkcfebimaaGreat
open Go.RowKit

/-- Boxes that hold fractions. -/
structure BX (w0 W : World) (bs : List (Nat × Fa × Option Rat)) : Prop where
  bw : Below w0.heap.size w0 W
  all : ∀ x ∈ bs, Fx W x.1 x.2.1 x.2.2
theorem fold_nat (v n : Int) (h : 1 ≤ n) (hn : n ≤ 4294967296) : ∃ m : Nat, (m : Int) < n ∧ ∀ w, Calls Tryz.prog 27 #[.int .i64 v, .int .i64 n] w fun e w' => e = .returned (.int .i64 (m : Int)) ∧ w = w' := by
  have h1 := foldV_lo v n
  obtain ⟨m, hm⟩ : ∃ m : Nat, foldV v n = (m : Int) := ⟨(foldV v n).toNat, by omega⟩
  refine ⟨m, by omega, fun w => ?_⟩
  have := fold_any v n w hn
  rwa [hm] at this
/-- The tape just made, with no limbs in it. -/
theorem tp_new {w : World} {A : Option Addr} {n c : Nat} {l : List Int} (h : Rs w none 1 iv A l) (hl : l.length = n) (t : TypeId) : Tp (w.alloc (.cells #[.slice A n c, .int .i64 0] t)) w.heap.size A n c l 0 :=
  ⟨tape_new h hl t, box2n (Below.refl _ _) (by simp) (by simp)⟩
end Go.Proofs.YtnokfhkcfebimaaGreat

/- Boxes of any number of cells; contract: Noise. -/
namespace Go.Proofs.YtnokfhkcfebimaaGreat
open Go.RowKit

/-- A box with these cells, no limbs among them. -/
structure Cb (v : World) (g : Nat) (cs : List Value) : Prop where
  cell : ∀ i x, cs[i]? = some x → v.cell? ⟨g, i, none⟩ = some x
  fz : ∀ j, v.frozen? ⟨g, j, none⟩ = false
  sz : g < v.heap.size
  nb : NB v g
theorem Cb.below {v v' : World} {g : Nat} {cs : List Value} (h : Cb v g cs) (hb : Below v.heap.size v v') : Cb v' g cs := by
  have h1 := h.sz
  refine ⟨fun i x hx => ?_, fun j => ?_, Nat.lt_of_lt_of_le h.sz hb.size, h.nb.below h.sz hb⟩
  · rw [hb.cell (by simp; omega)]; exact h.cell i x hx
  · rw [World.frozen?_of_block (w := v) (a := ⟨g, j, none⟩) (hb.block g h1)]; exact h.fz j
theorem Cb.one {v v' : World} {g g' : Nat} {cs : List Value} (h : Cb v g cs) (hf : Fr v v' (fun b => b = g')) (hn : g ≠ g') : Cb v' g cs := by
  have h1 := h.sz
  refine ⟨fun i x hx => ?_, fun j => ?_, Nat.lt_of_lt_of_le h.sz hf.size, h.nb.one hf h.sz hn⟩
  · rw [World.cell?_of_block (w := v) (a := ⟨g, i, none⟩) (hf.block g h1 hn)]; exact h.cell i x hx
  · rw [World.frozen?_of_block (w := v) (a := ⟨g, j, none⟩) (hf.block g h1 hn)]; exact h.fz j
theorem Cb.mk0 {w : World} (cs : List Value) (hc : ∀ x ∈ cs, ∀ i, x ≠ .int .u32 i) (t : TypeId) {g : Nat} (hg : g = w.heap.size) : Cb (w.alloc (.cells cs.toArray t)) g cs := by
  subst hg
  have hcell : ∀ i, (w.alloc (.cells cs.toArray t)).cell? ⟨w.heap.size, i, none⟩ = cs[i]? := by
    intro i
    rw [World.cell?_alloc_new]
    simp
  refine ⟨fun i x hx => by rw [hcell]; exact hx, fun j => by go_simp, by simp, fun j x h => ?_⟩
  rw [hcell] at h
  exact hc _ (List.mem_of_getElem? h) x rfl
theorem Cb.alloc {v : World} {g : Nat} {cs : List Value} (h : Cb v g cs) (o : Obj) : Cb (v.alloc o) g cs := h.below ((Below.refl _ _).alloc (Nat.le_refl _) _)
theorem Cb.drew {v : World} {g : Nat} {cs : List Value} (h : Cb v g cs) : Cb v.drew g cs := h.below (Dr.below ⟨1, rfl⟩)
/-- What a maker of noise models returns. -/
def MkN (w : World) (T : Nat) (A : Option Addr) (n c : Nat) (l : List Int) (a : Nat) (e : Ending) (w' : World) : Prop :=
  ∃ (f g : Fa) (r s : Rat), e = .returned (.agg #[.slice f.A f.n f.c, .slice f.B f.m f.d, .slice g.A g.n g.c, .slice g.B g.m g.d]) ∧ Fo w' f (some r) ∧ Fo w' g (some s) ∧ Chn r ∧ Chn s ∧ r ≤ s ∧ Tp w' T A n c l a ∧ Fr w w' (fun b => b = T)
end Go.Proofs.YtnokfhkcfebimaaGreat

/- Contracts: the reference's noise: Of, Rest. -/
namespace Go.Proofs.YtnokfhkcfebimaaGreat
open Go.RowKit

set_option maxRecDepth 100000 in
set_option maxHeartbeats 8000000 in
theorem rzof_any (w : World) (x y : Int) (X Y : Nat) (hx : x = (X : Int)) (hy : y = (Y : Int)) (hX : X < 9223372036854775808) (hY : Y < 9223372036854775808) (h0 : 0 < Y) :
    Calls Tryz.prog 48 #[.int .i64 x, .int .i64 y] w fun e w' => Ret1 w (some (mkRat X Y)) e w' := by
  subst hx
  subst hy
  go_enter Tryz.func48, Tryz.ntmps48
  go_upto_region 1 with (fail)
  generalize hW : World.alloc w _ = v
  have HRB := hide (show Rb v w.heap.size by rw [← hW]; exact Rb.mk0 _ rfl)
  have HBV := hide (show Below w.heap.size w v by rw [← hW]; exact (Below.refl _ _).alloc (Nat.le_refl _) _)
  clear hW
  go_upto_region 2 with (go_at_call 91; (with_reducible refine (r2of_any _ X Y hX hY h0).mono ?_); rintro e w1 ⟨q, rfl, ho, hb1⟩; have HO := hide ho; have HB1 := hide (HBV.out.trans (hb1.mono HBV.out.size)); have HR1 := hide (HRB.out.below hb1); clear ho hb1)
  generalize hW : World.alloc w1 _ = v2
  have hsz := HR1.out.sz
  have HQ2 := hide (show Bq v2 w1.heap.size q by rw [← hW]; exact Bq.mk0 _ q rfl)
  have HO2 := hide (show Fo v2 q (some (mkRat X Y)) by rw [← hW]; exact HO.out.alloc _)
  have HR2 := hide (show Rb v2 w.heap.size by rw [← hW]; exact (HR1.out.bq.alloc _).rb)
  have HB2 := hide (show Below w.heap.size w v2 by rw [← hW]; exact HB1.out.alloc HB1.out.size _)
  obtain ⟨c0, c1, cf, cz, -⟩ := HQ2.out
  obtain ⟨r0, r1, rf, rz, -⟩ := HR2.out
  clear hW
  go_wp2_with fail
  refine bodyPost_ret (v := .agg #[.slice q.A q.n q.c, .slice q.B q.m q.d]) (by simp [results, Tryz.results48, go_sem, *]) rfl ⟨q, rfl, HO2.out.put2 HR2.out.nb _ _ (by simp), Rb.end0 HB2.out (Nat.le_refl _) _ _⟩
theorem rzof_one (w : World) : Calls Tryz.prog 48 #[.int .i64 1, .int .i64 1] w fun e w' => Ret1 w (some 1) e w' :=
  rzof_any w 1 1 1 1 rfl rfl (by omega) (by omega) (by omega)
theorem rzof_zero (w : World) : Calls Tryz.prog 48 #[.int .i64 0, .int .i64 1] w fun e w' => Ret1 w (some 0) e w' :=
  rzof_any w 0 1 0 1 rfl rfl (by omega) (by omega) (by omega)
theorem r2sub_o (w : World) (a b : Fa) (o o' : Option Rat) (ha : Fo w a o) (hb : Fo w b o') : Calls Tryz.prog 122 #[.agg #[.slice a.A a.n a.c, .slice a.B a.m a.d], .agg #[.slice b.A b.n b.c, .slice b.B b.m b.d]] w fun e w' => Ret w (subR o o') e w' := by
  have := r2sub_any w a b _ _ _ _ ha.1 hb.1
  rwa [fracOf_self ha.2, fracOf_self hb.2] at this
theorem r2add_o (w : World) (a b : Fa) (o o' : Option Rat) (ha : Fo w a o) (hb : Fo w b o') : Calls Tryz.prog 90 #[.agg #[.slice a.A a.n a.c, .slice a.B a.m a.d], .agg #[.slice b.A b.n b.c, .slice b.B b.m b.d]] w fun e w' => Ret w (addR o o') e w' := by
  have := r2add_any w a b _ _ _ _ ha.1 hb.1
  rwa [fracOf_self ha.2, fracOf_self hb.2] at this
theorem r2mul_o (w : World) (a b : Fa) (o o' : Option Rat) (ha : Fo w a o) (hb : Fo w b o') : Calls Tryz.prog 88 #[.agg #[.slice a.A a.n a.c, .slice a.B a.m a.d], .agg #[.slice b.A b.n b.c, .slice b.B b.m b.d]] w fun e w' => Ret w (mulR o o') e w' := by
  have := r2mul_any w a b _ _ _ _ ha.1 hb.1
  rwa [fracOf_self ha.2, fracOf_self hb.2] at this
theorem r2cmp_o (w : World) (a b : Fa) (o o' : Option Rat) (ha : Fo w a o) (hb : Fo w b o') : Calls Tryz.prog 83 #[.agg #[.slice a.A a.n a.c, .slice a.B a.m a.d], .agg #[.slice b.A b.n b.c, .slice b.B b.m b.d]] w fun e w' => e = .returned (.int .i64 (cmpO o o')) ∧ Below w.heap.size w w' := by
  have := r2cmp_any w a b _ _ _ _ ha.1 hb.1
  rwa [fracOf_self ha.2, fracOf_self hb.2] at this
theorem r2pow_o (w : World) (a : Fa) (o : Option Rat) (n : Int) (ha : Fo w a o) (hn : -9223372036854775808 ≤ n) (hn2 : n < 9223372036854775808) : Calls Tryz.prog 146 #[.agg #[.slice a.A a.n a.c, .slice a.B a.m a.d], .int .i64 n] w fun e w' => Ret w (powR o n) e w' := by
  have := r2pow_any w a _ _ n ha.1 hn hn2
  rwa [fracOf_self ha.2] at this
set_option maxRecDepth 100000 in
set_option maxHeartbeats 8000000 in
theorem rzrest_any (w : World) (a : Fa) (r : Rat) (ha : Fo w a (some r)) (h1 : r ≤ 1) (hf : fitsR (1 - r) = true) :
    Calls Tryz.prog 89 #[.agg #[.slice a.A a.n a.c, .slice a.B a.m a.d]] w fun e w' => Ret1 w (some (1 - r)) e w' := by
  have HX := hide (show subR (some 1) (some r) = (some (1 - r), 0) by
    show (if 1 < r then (none, 5) else limR (1 - r)) = _
    rw [if_neg (Rat.not_lt.2 h1), limR_fit hf])
  go_enter Tryz.func89, Tryz.ntmps89
  go_upto_region 1 with (fail)
  generalize hW : World.alloc (World.alloc w _) _ = v
  have HRB := hide (show Rb v (w.heap.size + 1) by rw [← hW]; exact Rb.mk0 _ (by simp))
  have HBV := hide (show Below w.heap.size w v by rw [← hW]; exact ((Below.refl _ _).alloc (Nat.le_refl _) _).alloc (by simp) _)
  have HA := hide (show Fo v a (some r) by rw [← hW]; exact (ha.alloc _).alloc _)
  have a0 : v.cell? ⟨w.heap.size, 0, none⟩ = some (.slice a.A a.n a.c) := by rw [← hW]; clear hW; go_simp
  have a1 : v.cell? ⟨w.heap.size, 1, none⟩ = some (.slice a.B a.m a.d) := by rw [← hW]; clear hW; go_simp
  obtain ⟨r0, r1, rf, rz, -⟩ := HRB.out
  clear hW ha
  go_cut [3] from 3 to 12 (fun s3 wx => ∃ (b : Nat) (c : Fa), s3 = .pointer (some ⟨b, 0, none⟩) ∧ Hid (Bq wx b c) ∧ Hid (Fo wx c (some (1 - r))) ∧ Hid (Rb wx (w.heap.size + 1)) ∧ Hid (Below w.heap.size w wx))
  case first =>
    go_region_held3 (fun W => W.cell? ⟨w.heap.size, 0, none⟩ = some (.slice a.A a.n a.c) ∧ W.cell? ⟨w.heap.size, 1, none⟩ = some (.slice a.B a.m a.d)) (first | exact ⟨a0, a1⟩ | exact ⟨e0, e1⟩ | exact ⟨g0, g1⟩ | (constructor <;> (repeat rw [World.cell?_setCell_other _ _ _ _ (by intro h; injection h; omega)]) <;> first | exact g0 | exact g1 | go_keep)) (first
      | (go_at_call 48; (with_reducible refine (rzof_one _).mono ?_); rintro e w1 ⟨c1, rfl, ho, hb⟩; have HO1 := hide ho; have hb' : Below v.heap.size v w1 := (by first | exact Below.of_drew hb | exact Below.of_drew (Below.of_alloc hb)); have HB1 := hide hb'; (try (have HQ := hide (Bq.below (g := v.heap.size) (Bq.mk0 (w := v.drew) 26 fa0 rfl) hb))); have e0 := (hb'.cell (p := ⟨w.heap.size, 0, none⟩) (by simp; omega)).trans a0; have e1 := (hb'.cell (p := ⟨w.heap.size, 1, none⟩) (by simp; omega)).trans a1; have q3 := hb'.size; clear ho hb hb')
      | (go_at_call 122; (with_reducible refine (r2sub_o _ c1 a (some 1) (some r) (by first | exact HO1.out | exact HO1.out.alloc _) (by first | exact HA.out.below HB1.out | exact (HA.out.below HB1.out).alloc _)).mono ?_); rintro e w2 ⟨c, rfl, ho, hb⟩; rw [HX.out] at ho; have HO := hide ho; have hb' : Below w1.heap.size w1 w2 := (by first | exact hb | exact Below.of_alloc hb); have HB2 := hide (HB1.out.trans (hb'.mono HB1.out.size)); have g0 := (HB2.out.cell (p := ⟨w.heap.size, 0, none⟩) (by simp; omega)).trans a0; have g1 := (HB2.out.cell (p := ⟨w.heap.size, 1, none⟩) (by simp; omega)).trans a1; (try (have HQ2 := hide (HQ.out.below hb))); (try (have HQ2 := hide (Bq.below (g := w1.heap.size) (Bq.mk0 (w := w1) 26 fa0 rfl) hb))); (try (obtain ⟨s0, s1, s2, s3, -⟩ := HQ2.out)); clear ho hb hb'))
    all_goals
      have HR2 := hide (HRB.out.below HB2.out)
      have HBW := hide (HBV.out.trans (HB2.out.mono HBV.out.size))
      have hz := HB1.out.size
      have hz2 := HB2.out.size
      have hz3 := HBV.out.size
      go_wp2_with fail
      go_meet
      case rel => first
        | exact ⟨_, c, rfl, hide (HQ2.out.fill c), hide (HO.out.fill HQ2.out c), hide (HR2.out.bq.far (by omega) _ _).rb, hide (Rb.end0 HBW.out (by omega) _ _)⟩
        | exact ⟨_, c, rfl, hide (Bq.mk0 _ c rfl), hide (HO.out.alloc _), hide (HR2.out.bq.alloc _).rb, hide (HBW.out.alloc (by omega) _)⟩
  case rest =>
    obtain ⟨b, c, rfl, HQ, HO, HR, HB⟩ := hcut
    obtain ⟨z0, z1, z2, z3, -⟩ := HR.out
    obtain ⟨c0, c1, -, -, -⟩ := HQ.out
    go_wp2_with fail
    refine bodyPost_ret (v := .agg #[.slice c.A c.n c.c, .slice c.B c.m c.d]) (by simp [results, Tryz.results89, go_sem, *]) rfl ⟨c, rfl, (HO.out.put2 HR.out.nb _ _ (by simp)), (Rb.end0 HB.out (by omega) _ _)⟩
end Go.Proofs.YtnokfhkcfebimaaGreat

/- Contract: the reference's Chance. -/
namespace Go.Proofs.YtnokfhkcfebimaaGreat
open Go.RowKit

theorem r1of1000 (w : World) : Calls Tryz.prog 86 #[.int .u64 1000] w fun e w' => ∃ A m c, e = .returned (.slice A m c) ∧ m ≤ c ∧ m ≤ 2 ∧ Ul w' none A m (lm 1000) ∧ Below w.heap.size w w' := r1of_any w 1000 (by omega)
set_option maxRecDepth 100000 in
set_option maxHeartbeats 8000000 in
theorem rzchance_any (w : World) (a : Fa) (l k : List Nat) (hq : Fq w a l k) :
    Calls Tryz.prog 46 #[.agg #[.slice a.A a.n a.c, .slice a.B a.m a.d]] w fun e w' => e = .returned (.bool (chO (fracOf l k))) ∧ Below w.heap.size w w' := by
  have hn := hq.n
  have hm := hq.m
  rcases hA : fracOf l k with _ | r
  · have HA := hide hA
    clear hA
    go_enter Tryz.func46, Tryz.ntmps46
    go_upto_region 1 with (fail)
    generalize hW : World.alloc w _ = v
    have HBV := hide (show Below w.heap.size w v by rw [← hW]; exact (Below.refl _ _).alloc (Nat.le_refl _) _)
    have HQ := hide (show Fq v a l k by rw [← hW]; exact hq.alloc _)
    have a0 : v.cell? ⟨w.heap.size, 0, none⟩ = some (.slice a.A a.n a.c) := by rw [← hW]; clear hW; go_simp
    have a1 : v.cell? ⟨w.heap.size, 1, none⟩ = some (.slice a.B a.m a.d) := by rw [← hW]; clear hW; go_simp
    have rz : w.heap.size < v.heap.size := by rw [← hW]; simp
    clear hW hq
    go_cut [2] from 2 to 18 (fun s2 wx => s2 = .bool false ∧ Hid (Below v.heap.size v wx))
    case first =>
      first | (go_region_with (first | (go_at_call 84; (with_reducible refine (r2check_any _ a l k (by first | exact HQ.out | exact HQ.out.drew)).mono ?_); rintro e w1 ⟨he, hb⟩; rw [HA.out] at he; subst he; have hb' : Below v.heap.size v w1 := (by first | exact hb | exact Below.of_drew hb); have HB1 := hide hb'; have e0 := (hb'.cell (p := ⟨w.heap.size, 0, none⟩) (by simp; omega)).trans a0; have e1 := (hb'.cell (p := ⟨w.heap.size, 1, none⟩) (by simp; omega)).trans a1; clear hb hb'))) | fail
      all_goals
        go_wp2_with fail
        go_meet
        case rel => exact ⟨rfl, HB1⟩
    case rest =>
      obtain ⟨rfl, HB1⟩ := hcut
      go_wp2_with fail
      refine bodyPost_ret (v := .bool false) (by simp [results, Tryz.results46, go_sem, *]) rfl ⟨rfl, HBV.out.trans (HB1.out.mono HBV.out.size)⟩
  · have HA := hide hA
    have HQo0 : Fo w a (some r) := ⟨by have h := fracOf_some hA; rw [h.1, h.2.1] at hq; exact hq, (fracOf_some hA).2.2⟩
    have hm128 := HQo0.small.2
    have HN := hide (show (if natB k && natB (lm 1000) then cmpN (lv k) (lv (lm 1000)) else 0) = cmpN r.den 1000 by
      obtain ⟨h1, h2, h3, h4⟩ := fracOf_some hA
      have h5 : natB k = true := by
        rw [h2, natB_lm]
        simp only [fitsR, Bool.and_eq_true, decide_eq_true_eq] at h4
        simp [h4.2]
      rw [h5, natB64 (by omega), if_pos (by rfl), h2, lv_lm, lv_lm])
    have HCX := hide (show cmpO (some r) (some 1) = cmpQ r 1 from rfl)
    clear hA
    by_cases h1 : r ≤ 1
    · have d1 : decide (cmpQ r 1 ≤ 0) = true := decide_eq_true (cmpQ_le.2 h1)
      have HE := hide (show chO (some r) = decide (cmpN r.den 1000 ≤ 0) by
        show (decide (r ≤ 1) && _) = _
        rw [decide_eq_true h1, Bool.true_and]
        exact decide_eq_decide.2 cmpN_le.symm)
      clear h1
      go_enter Tryz.func46, Tryz.ntmps46
      go_upto_region 1 with (fail)
      generalize hW : World.alloc w _ = v
      have HBV := hide (show Below w.heap.size w v by rw [← hW]; exact (Below.refl _ _).alloc (Nat.le_refl _) _)
      have HQ := hide (show Fq v a l k by rw [← hW]; exact hq.alloc _)
      have a0 : v.cell? ⟨w.heap.size, 0, none⟩ = some (.slice a.A a.n a.c) := by rw [← hW]; clear hW; go_simp
      have a1 : v.cell? ⟨w.heap.size, 1, none⟩ = some (.slice a.B a.m a.d) := by rw [← hW]; clear hW; go_simp
      have rz : w.heap.size < v.heap.size := by rw [← hW]; simp
      clear hW hq
      have HQo := hide (show Fo v a (some r) from HQo0.below HBV.out)
      clear HQo0
      go_region_held3 (fun W => W.cell? ⟨w.heap.size, 0, none⟩ = some (.slice a.A a.n a.c) ∧ W.cell? ⟨w.heap.size, 1, none⟩ = some (.slice a.B a.m a.d)) (first | exact ⟨a0, a1⟩ | exact ⟨e0, e1⟩ | exact ⟨g0, g1⟩ | exact ⟨i0, i1⟩ | exact ⟨j0, j1⟩ | exact ⟨k0, k1⟩) (first | (go_at_call 84; (with_reducible refine (r2check_any _ a l k (by first | exact HQ.out | exact HQ.out.drew)).mono ?_); rintro e w1 ⟨he, hb⟩; rw [HA.out] at he; subst he; have hb' : Below v.heap.size v w1 := (by first | exact hb | exact Below.of_drew hb); have HB1 := hide hb'; have e0 := (hb'.cell (p := ⟨w.heap.size, 0, none⟩) (by simp; omega)).trans a0; have e1 := (hb'.cell (p := ⟨w.heap.size, 1, none⟩) (by simp; omega)).trans a1; clear hb hb') | (go_at_call 48; (with_reducible refine (rzof_one _).mono ?_); rintro e w2 ⟨c1, rfl, ho, hb⟩; have HO1 := hide ho; have hb' : Below w1.heap.size w1 w2 := hb; have HB2 := hide (HB1.out.trans (hb'.mono HB1.out.size)); have g0 := (HB2.out.cell (p := ⟨w.heap.size, 0, none⟩) (by simp; omega)).trans a0; have g1 := (HB2.out.cell (p := ⟨w.heap.size, 1, none⟩) (by simp; omega)).trans a1; clear ho hb hb') | (go_at_call 83; (with_reducible refine (r2cmp_o _ a c1 (some r) (some 1) (HQo.out.below HB2.out) HO1.out).mono ?_); rintro e w3 ⟨he, hb⟩; rw [HCX.out] at he; subst he; have HB3 := hide (HB2.out.trans (hb.mono HB2.out.size)); have i0 := (HB3.out.cell (p := ⟨w.heap.size, 0, none⟩) (by simp; omega)).trans a0; have i1 := (HB3.out.cell (p := ⟨w.heap.size, 1, none⟩) (by simp; omega)).trans a1; clear hb) | (go_at_call 86; (with_reducible refine (r1of1000 _).mono ?_); rintro e w4 ⟨A4, m4, c4, rfl, h4, h42, hu, hb⟩; have HU4 := hide hu; have HB4 := hide (HB3.out.trans (hb.mono HB3.out.size)); have j0 := (HB4.out.cell (p := ⟨w.heap.size, 0, none⟩) (by simp; omega)).trans a0; have j1 := (HB4.out.cell (p := ⟨w.heap.size, 1, none⟩) (by simp; omega)).trans a1; clear hu hb) | (go_at_call 85; (with_reducible refine (r1cmp_any _ none none a.B a.m a.d A4 m4 c4 _ _ (HQ.out.below HB4.out).v HU4.out (by omega) (by omega)).mono ?_); rintro e w5 ⟨rfl, hb⟩; rw [HN.out]; have HB5 := hide (HB4.out.trans (hb.mono HB4.out.size)); have k0 := (HB5.out.cell (p := ⟨w.heap.size, 0, none⟩) (by simp; omega)).trans a0; have k1 := (HB5.out.cell (p := ⟨w.heap.size, 1, none⟩) (by simp; omega)).trans a1; clear hb))
      go_wp2_with fail
      refine bodyPost_ret (v := .bool (decide (cmpN r.den 1000 ≤ 0))) (by simp [results, Tryz.results46, go_sem, *]) rfl ⟨by rw [HE.out], HBV.out.trans (HB5.out.mono HBV.out.size)⟩
    · have d1 : decide (cmpQ r 1 ≤ 0) = false := decide_eq_false (fun h => h1 (cmpQ_le.1 h))
      have HE := hide (show chO (some r) = false by
        show (decide (r ≤ 1) && _) = _
        rw [decide_eq_false h1, Bool.false_and])
      clear h1
      go_enter Tryz.func46, Tryz.ntmps46
      go_upto_region 1 with (fail)
      generalize hW : World.alloc w _ = v
      have HBV := hide (show Below w.heap.size w v by rw [← hW]; exact (Below.refl _ _).alloc (Nat.le_refl _) _)
      have HQ := hide (show Fq v a l k by rw [← hW]; exact hq.alloc _)
      have a0 : v.cell? ⟨w.heap.size, 0, none⟩ = some (.slice a.A a.n a.c) := by rw [← hW]; clear hW; go_simp
      have a1 : v.cell? ⟨w.heap.size, 1, none⟩ = some (.slice a.B a.m a.d) := by rw [← hW]; clear hW; go_simp
      have rz : w.heap.size < v.heap.size := by rw [← hW]; simp
      clear hW hq
      have HQo := hide (show Fo v a (some r) from HQo0.below HBV.out)
      clear HQo0
      go_cut [2] from 2 to 18 (fun s2 wx => s2 = .bool false ∧ Hid (Below v.heap.size v wx))
      case first =>
        first | (go_region_with (first | (go_at_call 84; (with_reducible refine (r2check_any _ a l k (by first | exact HQ.out | exact HQ.out.drew)).mono ?_); rintro e w1 ⟨he, hb⟩; rw [HA.out] at he; subst he; have hb' : Below v.heap.size v w1 := (by first | exact hb | exact Below.of_drew hb); have HB1 := hide hb'; have e0 := (hb'.cell (p := ⟨w.heap.size, 0, none⟩) (by simp; omega)).trans a0; have e1 := (hb'.cell (p := ⟨w.heap.size, 1, none⟩) (by simp; omega)).trans a1; clear hb hb') | (go_at_call 48; (with_reducible refine (rzof_one _).mono ?_); rintro e w2 ⟨c1, rfl, ho, hb⟩; have HO1 := hide ho; have hb' : Below w1.heap.size w1 w2 := hb; have HB2 := hide (HB1.out.trans (hb'.mono HB1.out.size)); have g0 := (HB2.out.cell (p := ⟨w.heap.size, 0, none⟩) (by simp; omega)).trans a0; have g1 := (HB2.out.cell (p := ⟨w.heap.size, 1, none⟩) (by simp; omega)).trans a1; clear ho hb hb') | (go_at_call 83; (with_reducible refine (r2cmp_o _ a c1 (some r) (some 1) (HQo.out.below HB2.out) HO1.out).mono ?_); rintro e w3 ⟨he, hb⟩; rw [HCX.out] at he; subst he; have HB3 := hide (HB2.out.trans (hb.mono HB2.out.size)); have i0 := (HB3.out.cell (p := ⟨w.heap.size, 0, none⟩) (by simp; omega)).trans a0; have i1 := (HB3.out.cell (p := ⟨w.heap.size, 1, none⟩) (by simp; omega)).trans a1; clear hb))) | fail
        all_goals
          go_wp2_with fail
          go_meet
          case rel => exact ⟨rfl, HB3⟩
      case rest =>
        obtain ⟨rfl, HB3⟩ := hcut
        go_wp2_with fail
        refine bodyPost_ret (v := .bool false) (by simp [results, Tryz.results46, go_sem, *]) rfl ⟨by rw [HE.out], HBV.out.trans (HB3.out.mono HBV.out.size)⟩
end Go.Proofs.YtnokfhkcfebimaaGreat

/- Contracts: Check of a noise model, the program's and the reference's. -/
namespace Go.Proofs.YtnokfhkcfebimaaGreat
open Go.RowKit

/-- A right noise model. -/
def nzO : Option Rat → Option Rat → Bool
  | some r, some s => chO (some r) && chO (some s) && decide (0 < r) && decide (r < s) && decide (s < 1)
  | _, _ => false
/-- The box of two fractions. -/
structure FN (w0 v : World) (a b : Fa) (la ka lb kb : List Nat) : Prop where
  bw : Below w0.heap.size w0 v
  ca : v.cell? ⟨w0.heap.size, 0, none⟩ = some (.slice a.A a.n a.c) ∧ v.cell? ⟨w0.heap.size, 1, none⟩ = some (.slice a.B a.m a.d) ∧ v.cell? ⟨w0.heap.size, 2, none⟩ = some (.slice b.A b.n b.c) ∧ v.cell? ⟨w0.heap.size, 3, none⟩ = some (.slice b.B b.m b.d)
  sz : w0.heap.size < v.heap.size
  qa : Fq v a la ka
  qb : Fq v b lb kb
theorem chO_some {x : Option Rat} (h : chO x = true) : ∃ r, x = some r := by
  cases x with
  | none => cases h
  | some r => exact ⟨r, rfl⟩
theorem fo_of {w : World} {a : Fa} {l k : List Nat} {r : Rat} (h : Fq w a l k) (hA : fracOf l k = some r) : Fo w a (some r) := ⟨by have h1 := fracOf_some hA; rw [h1.1, h1.2.1] at h; exact h, (fracOf_some hA).2.2⟩
theorem fq_len {w : World} {a : Fa} {l k : List Nat} {r : Rat} (h : Fq w a l k) (hA : fracOf l k = some r) : (0 < a.n ↔ 0 < r) ∧ 0 ≤ r := by
  have h1 := fracOf_some hA
  have h2 := h.u.len
  rw [h1.1] at h2
  have h3 := rn_eq_zero h1.2.2.1
  refine ⟨?_, h1.2.2.1⟩
  rw [← h2, List.length_pos_iff, Ne, lm_eq_nil, h3]
  constructor
  · intro h4; exact Rat.lt_of_le_of_ne h1.2.2.1 (fun e => h4 e.symm)
  · intro h4 h5; rw [h5] at h4; exact absurd h4 (by decide)
end Go.Proofs.YtnokfhkcfebimaaGreat
