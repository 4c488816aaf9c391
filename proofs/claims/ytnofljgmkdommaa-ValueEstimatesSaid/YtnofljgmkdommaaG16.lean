/- Contracts of the functions that these laws reach: part 16: Contracts: Inner, Two; Words for the laws: a slice of ints that came in, the tape over it; Words for the laws on chances: boxes of fractions, the tape, folded numbers; Boxes of any number of cells; contract: Noise; Contracts: the reference's noise: Of, Rest; Contract: the reference's Chance; Contracts: Check of a noise model, the program's and the reference's; Words for specifications; contracts: sequential.inner, Check; Contracts: the reference's inner, Check of a specification; Contracts: sequential.power, ratio; Contracts: counts, the program's and the reference's; Contracts: sequential.Ratio, decide, Decide; Contracts: sequential.decide, Decide; Contract: sequential.Limits; Contracts: noise.Sequence; Contract: sequential.Run; A box whose cells are set; the tape's Chance beside limbs; contract: the law's spec. -/
import Derived.Test.YtnofljgmkdommaaG15
import Derived.Test.YtnofljgmkdommaaG8
import Derived.Test.YtnofljgmkdommaaG13
import Derived.Test.YtnofljgmkdommaaG14
set_option linter.unusedVariables false
set_option linter.unusedSimpArgs false

/- Contracts: Inner, Two. -/
namespace Go.Proofs.Ytnofljgmkdommaa
open Go.RowKit

theorem mem_nat2 (k : Nat) {v : Int} {l : List Int} (h : v ∈ l) (hl : (l.all fun i => decide ((k : Int) ≤ i) && decide (i ≤ 1000)) = true) : ∃ d : Nat, v = d ∧ k ≤ d ∧ d ≤ 1000 := by
  have := List.all_eq_true.1 hl v h
  simp at this
  exact ⟨v.toNat, by omega, by omega, by omega⟩
theorem tapeV_nat (l : List Int) (a : Nat) (N : Int) : ∃ x : Nat, tapeV l a N = (x : Int) ∧ ((x : Int) < N ∨ x = 0) := by
  have := tapeV_lo l a N
  exact ⟨(tapeV l a N).toNat, by omega, by omega⟩
theorem mk_le {x y d : Nat} (hd : 0 < d) (h : x ≤ y) : mkRat x d ≤ mkRat y d := by
  have hd0 : (0 : Rat) < (d : Rat) := by exact_mod_cast hd
  have hd1 : (d : Rat) ≠ 0 := fun e => by rw [e] at hd0; exact absurd hd0 (by decide)
  refine Rat.le_of_mul_le_mul_right (c := (d : Rat)) ?_ hd0
  rw [Rat.mkRat_eq_div, Rat.mkRat_eq_div]
  have e1 := Rat.div_mul_cancel (a := ((x : Int) : Rat)) hd1
  have e2 := Rat.div_mul_cancel (a := ((y : Int) : Rat)) hd1
  have : ((x : Int) : Rat) ≤ ((y : Int) : Rat) := by exact_mod_cast h
  calc _ = ((x : Int) : Rat) := e1
    _ ≤ ((y : Int) : Rat) := this
    _ = _ := e2.symm
theorem mk_lt {x y d : Nat} (hd : 0 < d) (h : x < y) : mkRat x d < mkRat y d := by
  refine Rat.lt_of_le_of_ne (mk_le hd (Nat.le_of_lt h)) (fun e => ?_)
  have hd0 : (d : Rat) ≠ 0 := fun e => by have : d = 0 := by exact_mod_cast e
                                          omega
  rw [Rat.mkRat_eq_div, Rat.mkRat_eq_div] at e
  have e1 := Rat.div_mul_cancel (a := ((x : Int) : Rat)) hd0
  have e2 := Rat.div_mul_cancel (a := ((y : Int) : Rat)) hd0
  rw [e, e2] at e1
  have : (y : Int) = (x : Int) := by exact_mod_cast e1
  omega
theorem mk_pos {x d : Nat} (hd : 0 < d) (h : 0 < x) : 0 < mkRat x d := by
  have := mk_lt (x := 0) (y := x) hd h
  rwa [show mkRat ((0 : Nat) : Int) d = 0 from Rat.zero_mkRat d] at this
theorem cast_ne0 {d : Nat} (hd : 0 < d) : (d : Rat) ≠ 0 := fun e => by
  have h1 : d = 0 := by exact_mod_cast e
  omega
theorem mk_lt1 {x d : Nat} (hd : 0 < d) (h : x < d) : mkRat x d < 1 := by
  have h1 := mk_lt (x := x) (y := d) hd h
  have e1 : mkRat ((d : Nat) : Int) d = 1 := by
    rw [Rat.mkRat_eq_div]
    have e2 : (((d : Nat) : Int) : Rat) = (d : Rat) := rfl
    rw [e2, Rat.div_def, Rat.mul_inv_cancel _ (cast_ne0 hd)]
  rwa [e1] at h1
/-- What a maker of inner chances returns. -/
def MkI (w : World) (T : Nat) (A : Option Addr) (n c : Nat) (l : List Int) (a : Nat) (e : Ending) (w' : World) : Prop :=
  ∃ (f : Fa) (r : Rat), e = .returned (.agg #[.slice f.A f.n f.c, .slice f.B f.m f.d]) ∧ Fo w' f (some r) ∧ Chn r ∧ (0 < r ∧ r < 1) ∧ Tp w' T A n c l a ∧ Fr w w' (fun b => b = T)
/-- What Two returns. -/
def Mk2 (w : World) (T : Nat) (A : Option Addr) (n c : Nat) (l : List Int) (a : Nat) (e : Ending) (w' : World) : Prop :=
  ∃ (f g : Fa) (r s : Rat), e = .returned (.tuple #[.agg #[.slice f.A f.n f.c, .slice f.B f.m f.d], .agg #[.slice g.A g.n g.c, .slice g.B g.m g.d]]) ∧ Fo w' f (some r) ∧ Fo w' g (some s) ∧ Chn r ∧ Chn s ∧ (0 < r ∧ r < s ∧ s < 1) ∧ Tp w' T A n c l a ∧ Fr w w' (fun b => b = T)
set_option maxRecDepth 100000 in
set_option maxHeartbeats 4000000 in
theorem twom_any (w : World) (T : Nat) (A : Option Addr) (n c : Nat) (l : List Int) (a : Nat) (hP : Tp w T A n c l a) (ha : a ≤ 4294967000) :
    Calls Try.prog 27 #[.pointer (some ⟨T, 0, none⟩)] w fun e w' => Mk2 w T A n c l (a + 3) e w' := by
  have HP0 := hide hP
  have hTl := hP.t.1
  go_enter Try.func27, Try.ntmps27
  go_upto_region 1 with (fail)
  generalize hW : World.alloc (World.alloc w _) _ = v
  have HR := hide (show Rb v w.heap.size by rw [← hW]; exact ((Rb.mk0 _ rfl).bq.alloc _).rb)
  have HS := hide (show Rb v (w.heap.size + 1) by rw [← hW]; exact Rb.mk0 _ (by simp))
  have HF := hide (show Fr w v (fun b => b = T) by rw [← hW]; exact ((Fr.refl _ _).alloc _).alloc _)
  have HP := hide (show Tp v T A n c l a by rw [← hW]; exact (hP.alloc _).alloc _)
  clear hW hP
  have hvz := HS.out.sz
  go_upto_region 2 with (go_at_call 44; refine (pickp_any _ T A n c l a _ 8 8 [3, 4, 5, 10, 20, 100, 1000, 997] (HP.out.alloc _) (by omega) (rs_new (by omega) [3, 4, 5, 10, 20, 100, 1000, 997] 3) rfl (by decide) (by decide)).mono ?_; rintro e w1 ⟨⟨v1, hv, rfl⟩, hp1, hf1⟩; have HV := hide (mem_nat2 3 hv (by decide)); have HP1 := hide hp1; have HR1 := hide (((HR.out.bq.alloc _).one hf1 (by omega)).rb); have HS1 := hide (((HS.out.bq.alloc _).one hf1 (by omega)).rb); have HF1 := hide ((HF.out.alloc _).trans hf1); clear hv hp1 hf1)
  obtain ⟨d, rfl, hd1, hd2⟩ := HV.out
  have hw : IntKind.i64.wrap ((d : Int) - 2) = (d : Int) - 2 := IntWalk.i64_in _ (by omega)
  go_upto_region 3 with (go_at_call 22; refine (nextp_any _ T A n c l (a + 1) ((d : Int) - 2) HP1.out (by omega) (by omega)).mono ?_; rintro e w2 ⟨rfl, hp2, hf2⟩; have HX := hide (tapeV_nat l (a + 1) ((d : Int) - 2)); have HP2 := hide hp2; have HR2 := hide ((HR1.out.bq.one hf2 (by omega)).rb); have HS2 := hide ((HS1.out.bq.one hf2 (by omega)).rb); have HF2 := hide (HF1.out.trans (hf2.mono (fun _ _ h => h))); clear hp2 hf2; obtain ⟨x, hx, hxd⟩ := HX.out; rw [hx]; have hx1 : (1 : Int) + (x : Int) = ((1 + x : Nat) : Int) := (by omega); clear hx HX)
  obtain ⟨y, hy⟩ : ∃ y, y = 1 + x := ⟨_, rfl⟩
  rw [← hy] at hx1
  have hy1 : 1 ≤ y := by omega
  have hyd : y ≤ d - 2 ∨ y = 1 := by omega
  have HY := hide hy
  clear hy
  go_wp2_with (first
    | (go_at_call 18; (with_reducible refine (small_any _ y d (by omega) (by omega) (by omega)).mono ?_); rintro e w3 ⟨f, rfl, ho, hb⟩; have HO := hide ho; have HP3 := hide (HP2.out.below hb); have HR3 := hide (HR2.out.below hb); have HS3 := hide (HS2.out.below hb); have HF3 := hide (HF2.out.below_ hb); clear ho hb)
    | (go_at_call 22; refine (nextp_any _ T A n c l (a + 1 + 1) ((d : Int) - 1 - (y : Int)) HP3.out (by omega) (by omega)).mono ?_; rintro e w4 ⟨rfl, hp2, hf2⟩; have HX := hide (tapeV_nat l (a + 1 + 1) ((d : Int) - 1 - (y : Int))); have HP4 := hide hp2; have HO4 := hide (HO.out.one hf2 HP3.out.nb); have HR4 := hide ((HR3.out.bq.one hf2 (by omega)).rb); have HS4 := hide ((HS3.out.bq.one hf2 (by omega)).rb); have HF4 := hide (HF3.out.trans (hf2.mono (fun _ _ h => h))); clear hp2 hf2; obtain ⟨z, hz, hzd⟩ := HX.out; rw [hz]; obtain ⟨u, hu⟩ : ∃ u : Nat, u = y + 1 + z := ⟨_, rfl⟩; have hu1 : (y : Int) + 1 + (z : Int) = (u : Int) := (by omega); have HU := hide hu; clear hu hz HX)
    | (go_at_call 18; (with_reducible refine (small_any _ u d (by omega) (by omega) (by omega)).mono ?_); rintro e w5 ⟨g, rfl, ho, hb⟩; have HO5 := hide (HO4.out.below hb); have HG := hide ho; have HP5 := hide (HP4.out.below hb); have HR5 := hide (HR4.out.below hb); have HS5 := hide (HS4.out.below hb); have HF5 := hide (HF4.out.below_ hb); obtain ⟨r0, r1, rf, rz, -⟩ := HR5.out; obtain ⟨t0, t1, tf, tz, -⟩ := HS5.out; clear ho hb))
  have hN := (HS5.out.bq.far (g' := w.heap.size) (by omega) (.slice f.A f.n f.c) (.slice f.B f.m f.d)).nb
  have hyu : y < u := by have := HU.out; omega
  have hud : u < d := by have := HU.out; omega
  refine bodyPost_ret (v := .tuple #[.agg #[.slice f.A f.n f.c, .slice f.B f.m f.d], .agg #[.slice g.A g.n g.c, .slice g.B g.m g.d]]) (by simp [results, Try.results27, go_sem, *]) rfl ⟨f, g, mkRat y d, mkRat u d, rfl, (HO5.out.put2 HR5.out.nb _ _ (by simp)).put2 hN _ _ (by simp), (HG.out.put2 HR5.out.nb _ _ (by simp)).put2 hN _ _ (by simp), mk_chn (by omega) (by omega) hd2, mk_chn (by omega) (by omega) hd2, ⟨mk_pos (by omega) hy1, mk_lt (by omega) hyu, mk_lt1 (by omega) hud⟩, HP0.out.one (HP0.out.one HP5.out (Nat.le_refl _) (fr_fill _ _)) (by omega) (fr_fill _ _), (((HF5.out.setCell (.inl (Nat.le_refl _)) _).setCell (.inl (Nat.le_refl _)) _).setCell (.inl (by show _ ≤ w.heap.size + 1; omega)) _).setCell (.inl (by show _ ≤ w.heap.size + 1; omega)) _⟩
end Go.Proofs.Ytnofljgmkdommaa

/- Words for the laws: a slice of ints that came in, the tape over it. -/
namespace Go.Proofs.Ytnofljgmkdommaa
open Go.RowKit

/-- A row of ints that came in reads as a list. -/
theorem came_ints {w : World} {a : Option Addr} {len cap : Nat} {zs : List Int}
    (h : (a = none ∧ len = 0 ∧ cap = 0 ∧ zs = []) ∨ ∃ x, a = some x ∧ len ≤ cap ∧ cap ≤ maxLen ∧ zs.length = cap ∧ (∀ i, i < zs.length → w.cell? (x.add i) = some (.int .i64 (zs.getD i 0))) ∧ ∀ n ∈ zs, (Lit.int .i64 n).wf = true) :
    ∃ l : List Int, l.length = len ∧ Rs w none 1 iv a l := by
  rcases h with ⟨rfl, rfl, rfl, rfl⟩ | ⟨x, rfl, hl, hm, hz, hcell, _⟩
  · exact ⟨[], rfl, Rs.nil⟩
  · refine ⟨zs.take len, by simp; omega, fun hne => ?_⟩
    have hpos : 0 < zs.length := by
      cases zs with
      | nil => simp at hne
      | cons z zs => simp
    obtain ⟨b, o, sp⟩ := x
    have h0 := hcell 0 hpos
    rw [Addr.add, if_pos rfl] at h0
    have hsp : sp = none := by
      cases sp with
      | none => rfl
      | some s =>
        simp only [World.cell?] at h0
        split at h0 <;> simp at h0
    subst hsp
    have hb : b < w.heap.size := by
      rcases Nat.lt_or_ge b w.heap.size with h | h
      · exact h
      · simp only [World.cell?, Array.getElem?_eq_none h] at h0
        cases h0
    refine ⟨b, o, rfl, by simp, hb, fun k z hk j u hu => ?_⟩
    match j with
    | 0 =>
      simp [iv] at hu
      subst hu
      rw [List.getElem?_take] at hk
      split at hk
      · have hk2 : k < zs.length := (List.getElem?_eq_some_iff.1 hk).1
        have := hcell k hk2
        rw [Addr.add_lit] at this
        simp only [Nat.mul_one, Nat.add_zero]
        rw [this]
        simp [List.getD_eq_getElem?_getD, hk]
      · cases hk
    | j + 1 => simp [iv] at hu

/-- The tape just made. -/
theorem tape_new {w : World} {A : Option Addr} {n c : Nat} {l : List Int} (h : Rs w none 1 iv A l) (hl : l.length = n) (t : TypeId) : TapeAt (w.alloc (.cells #[.slice A n c, .int .i64 0] t)) w.heap.size A n c l 0 := by
  refine ⟨by simp, by go_simp, by go_simp, fun j => by go_simp, fun hne => ?_, hl⟩
  obtain ⟨b, o, h1, _, h3, h4⟩ := h hne
  refine ⟨b, o, h1, by intro e; injection e with e; omega, by simp; omega, fun k a hk j u hu => ?_⟩
  have := h4 k a hk j u hu
  rw [← this]
  exact World.cell?_of_block (w := w) (a := ⟨b, o + k * 1 + j, none⟩) (((Below.refl w.heap.size w).alloc (Nat.le_refl _) _).block b h3)

end Go.Proofs.Ytnofljgmkdommaa

/- Words for the laws on chances: boxes of fractions, the tape, folded numbers. -/
namespace Go.Proofs.Ytnofljgmkdommaa
open Go.RowKit

/-- Boxes that hold fractions. -/
structure BX (w0 W : World) (bs : List (Nat × Fa × Option Rat)) : Prop where
  bw : Below w0.heap.size w0 W
  all : ∀ x ∈ bs, Fx W x.1 x.2.1 x.2.2
theorem BX.below {w0 W W' : World} {bs : List (Nat × Fa × Option Rat)} (h : BX w0 W bs) (hb : Below W.heap.size W W') : BX w0 W' bs := ⟨h.bw.trans (hb.mono h.bw.size), fun x hx => (h.all x hx).below hb⟩
theorem BX.alloc {w0 W : World} {bs : List (Nat × Fa × Option Rat)} (h : BX w0 W bs) (o : Obj) : BX w0 (W.alloc o) bs := h.below ((Below.refl _ _).alloc (Nat.le_refl _) _)
theorem BX.push {w0 W : World} {bs : List (Nat × Fa × Option Rat)} (h : BX w0 W bs) {c : Fa} {o : Option Rat} (ho : Fo W c o) (t : TypeId) {g : Nat} (hg : g = W.heap.size) : BX w0 (W.alloc (.cells #[.slice c.A c.n c.c, .slice c.B c.m c.d] t)) ((g, c, o) :: bs) :=
  ⟨h.bw.alloc h.bw.size _, fun x hx => by
    rcases List.mem_cons.1 hx with rfl | hx
    · exact Fx.mk0 ho t hg
    · exact (h.all x hx).alloc _⟩
theorem BX.get {w0 W : World} {bs : List (Nat × Fa × Option Rat)} (h : BX w0 W bs) (i : Nat) {g : Nat} {c : Fa} {o : Option Rat} (hx : bs[i]? = some (g, c, o)) : Fx W g c o := h.all (g, c, o) (List.mem_of_getElem? hx)
theorem BX.nil (w : World) : BX w w [] := ⟨Below.refl _ _, fun x hx => by simp at hx⟩
theorem fold_nat (v n : Int) (h : 1 ≤ n) (hn : n ≤ 4294967296) : ∃ m : Nat, (m : Int) < n ∧ ∀ w, Calls Try.prog 15 #[.int .i64 v, .int .i64 n] w fun e w' => e = .returned (.int .i64 (m : Int)) ∧ w = w' := by
  have h1 := foldV_lo v n
  obtain ⟨m, hm⟩ : ∃ m : Nat, foldV v n = (m : Int) := ⟨(foldV v n).toNat, by omega⟩
  refine ⟨m, by omega, fun w => ?_⟩
  have := fold_any v n w hn
  rwa [hm] at this
theorem fcmp_le (w : World) (a b : Fa) (r s : Rat) (ha : Fo w a (some r)) (hb : Fo w b (some s)) (h : r ≤ s) : Calls Try.prog 19 #[.agg #[.slice a.A a.n a.c, .slice a.B a.m a.d], .agg #[.slice b.A b.n b.c, .slice b.B b.m b.d]] w fun e w' => ∃ z : Int, e = .returned (.int .i64 z) ∧ z ≤ 0 ∧ Below w.heap.size w w' :=
  (fcmp_o w a b _ _ ha hb).mono fun e w' ⟨h1, h2⟩ => ⟨_, h1, cmpQ_le.2 h, h2⟩
/-- The tape just made, with no limbs in it. -/
theorem tp_new {w : World} {A : Option Addr} {n c : Nat} {l : List Int} (h : Rs w none 1 iv A l) (hl : l.length = n) (t : TypeId) : Tp (w.alloc (.cells #[.slice A n c, .int .i64 0] t)) w.heap.size A n c l 0 :=
  ⟨tape_new h hl t, box2n (Below.refl _ _) (by simp) (by simp)⟩
theorem fr_new {w w' : World} {o : Obj} {T : Nat} (hT : T = w.heap.size) (h : Fr (w.alloc o) w' (fun b => b = T)) : Below w.heap.size w w' := by
  subst hT
  exact (((Fr.refl w (fun b => b = w.heap.size)).alloc o).trans h).below (Nat.le_refl _) (fun k hk e => by omega)
end Go.Proofs.Ytnofljgmkdommaa

/- Boxes of any number of cells; contract: Noise. -/
namespace Go.Proofs.Ytnofljgmkdommaa
open Go.RowKit

/-- A box with these cells, no limbs among them. -/
structure Cb (v : World) (g : Nat) (cs : List Value) : Prop where
  cell : ∀ i x, cs[i]? = some x → v.cell? ⟨g, i, none⟩ = some x
  fz : ∀ j, v.frozen? ⟨g, j, none⟩ = false
  sz : g < v.heap.size
  nb : NB v g
theorem Cb.below {v v' : World} {g : Nat} {cs : List Value} (h : Cb v g cs) (hb : Below v.heap.size v v') : Cb v' g cs := by
  have h1 := h.sz
  refine ⟨fun i x hx => ?_, fun j => ?_, Nat.lt_of_lt_of_le h.sz hb.size, h.nb.below h.sz hb⟩
  · rw [hb.cell (by simp; omega)]; exact h.cell i x hx
  · rw [World.frozen?_of_block (w := v) (a := ⟨g, j, none⟩) (hb.block g h1)]; exact h.fz j
theorem Cb.one {v v' : World} {g g' : Nat} {cs : List Value} (h : Cb v g cs) (hf : Fr v v' (fun b => b = g')) (hn : g ≠ g') : Cb v' g cs := by
  have h1 := h.sz
  refine ⟨fun i x hx => ?_, fun j => ?_, Nat.lt_of_lt_of_le h.sz hf.size, h.nb.one hf h.sz hn⟩
  · rw [World.cell?_of_block (w := v) (a := ⟨g, i, none⟩) (hf.block g h1 hn)]; exact h.cell i x hx
  · rw [World.frozen?_of_block (w := v) (a := ⟨g, j, none⟩) (hf.block g h1 hn)]; exact h.fz j
theorem Cb.mk0 {w : World} (cs : List Value) (hc : ∀ x ∈ cs, ∀ i, x ≠ .int .u32 i) (t : TypeId) {g : Nat} (hg : g = w.heap.size) : Cb (w.alloc (.cells cs.toArray t)) g cs := by
  subst hg
  have hcell : ∀ i, (w.alloc (.cells cs.toArray t)).cell? ⟨w.heap.size, i, none⟩ = cs[i]? := by
    intro i
    rw [World.cell?_alloc_new]
    simp
  refine ⟨fun i x hx => by rw [hcell]; exact hx, fun j => by go_simp, by simp, fun j x h => ?_⟩
  rw [hcell] at h
  exact hc _ (List.mem_of_getElem? h) x rfl
theorem Cb.alloc {v : World} {g : Nat} {cs : List Value} (h : Cb v g cs) (o : Obj) : Cb (v.alloc o) g cs := h.below ((Below.refl _ _).alloc (Nat.le_refl _) _)
theorem Cb.drew {v : World} {g : Nat} {cs : List Value} (h : Cb v g cs) : Cb v.drew g cs := h.below (Dr.below ⟨1, rfl⟩)
/-- What a maker of noise models returns. -/
def MkN (w : World) (T : Nat) (A : Option Addr) (n c : Nat) (l : List Int) (a : Nat) (e : Ending) (w' : World) : Prop :=
  ∃ (f g : Fa) (r s : Rat), e = .returned (.agg #[.slice f.A f.n f.c, .slice f.B f.m f.d, .slice g.A g.n g.c, .slice g.B g.m g.d]) ∧ Fo w' f (some r) ∧ Fo w' g (some s) ∧ Chn r ∧ Chn s ∧ r ≤ s ∧ Tp w' T A n c l a ∧ Fr w w' (fun b => b = T)
theorem fr_four {w : World} {g : Nat} (a b c d : Value) : Fr w ((((w.setCell ⟨g, 0, none⟩ a).setCell ⟨g, 1, none⟩ b).setCell ⟨g, 2, none⟩ c).setCell ⟨g, 3, none⟩ d) (fun x => x = g) := by
  refine Fr.setCell (Fr.setCell (Fr.setCell (Fr.setCell (Fr.refl _ _) ?_ _) ?_ _) ?_ _) ?_ _ <;> exact Or.inr (by rfl)
end Go.Proofs.Ytnofljgmkdommaa

/- Contracts: the reference's noise: Of, Rest. -/
namespace Go.Proofs.Ytnofljgmkdommaa
open Go.RowKit

set_option maxRecDepth 100000 in
set_option maxHeartbeats 8000000 in
theorem rzof_any (w : World) (x y : Int) (X Y : Nat) (hx : x = (X : Int)) (hy : y = (Y : Int)) (hX : X < 9223372036854775808) (hY : Y < 9223372036854775808) (h0 : 0 < Y) :
    Calls Try.prog 33 #[.int .i64 x, .int .i64 y] w fun e w' => Ret1 w (some (mkRat X Y)) e w' := by
  subst hx
  subst hy
  go_enter Try.func33, Try.ntmps33
  go_upto_region 1 with (fail)
  generalize hW : World.alloc w _ = v
  have HRB := hide (show Rb v w.heap.size by rw [← hW]; exact Rb.mk0 _ rfl)
  have HBV := hide (show Below w.heap.size w v by rw [← hW]; exact (Below.refl _ _).alloc (Nat.le_refl _) _)
  clear hW
  go_upto_region 2 with (go_at_call 57; (with_reducible refine (r2of_any _ X Y hX hY h0).mono ?_); rintro e w1 ⟨q, rfl, ho, hb1⟩; have HO := hide ho; have HB1 := hide (HBV.out.trans (hb1.mono HBV.out.size)); have HR1 := hide (HRB.out.below hb1); clear ho hb1)
  generalize hW : World.alloc w1 _ = v2
  have hsz := HR1.out.sz
  have HQ2 := hide (show Bq v2 w1.heap.size q by rw [← hW]; exact Bq.mk0 _ q rfl)
  have HO2 := hide (show Fo v2 q (some (mkRat X Y)) by rw [← hW]; exact HO.out.alloc _)
  have HR2 := hide (show Rb v2 w.heap.size by rw [← hW]; exact (HR1.out.bq.alloc _).rb)
  have HB2 := hide (show Below w.heap.size w v2 by rw [← hW]; exact HB1.out.alloc HB1.out.size _)
  obtain ⟨c0, c1, cf, cz, -⟩ := HQ2.out
  obtain ⟨r0, r1, rf, rz, -⟩ := HR2.out
  clear hW
  go_wp2_with fail
  refine bodyPost_ret (v := .agg #[.slice q.A q.n q.c, .slice q.B q.m q.d]) (by simp [results, Try.results33, go_sem, *]) rfl ⟨q, rfl, HO2.out.put2 HR2.out.nb _ _ (by simp), Rb.end0 HB2.out (Nat.le_refl _) _ _⟩
theorem rzof_one (w : World) : Calls Try.prog 33 #[.int .i64 1, .int .i64 1] w fun e w' => Ret1 w (some 1) e w' :=
  rzof_any w 1 1 1 1 rfl rfl (by omega) (by omega) (by omega)
theorem rzof_zero (w : World) : Calls Try.prog 33 #[.int .i64 0, .int .i64 1] w fun e w' => Ret1 w (some 0) e w' :=
  rzof_any w 0 1 0 1 rfl rfl (by omega) (by omega) (by omega)
theorem r2add_o (w : World) (a b : Fa) (o o' : Option Rat) (ha : Fo w a o) (hb : Fo w b o') : Calls Try.prog 39 #[.agg #[.slice a.A a.n a.c, .slice a.B a.m a.d], .agg #[.slice b.A b.n b.c, .slice b.B b.m b.d]] w fun e w' => Ret w (addR o o') e w' := by
  have := r2add_any w a b _ _ _ _ ha.1 hb.1
  rwa [fracOf_self ha.2, fracOf_self hb.2] at this
theorem r2mul_o (w : World) (a b : Fa) (o o' : Option Rat) (ha : Fo w a o) (hb : Fo w b o') : Calls Try.prog 48 #[.agg #[.slice a.A a.n a.c, .slice a.B a.m a.d], .agg #[.slice b.A b.n b.c, .slice b.B b.m b.d]] w fun e w' => Ret w (mulR o o') e w' := by
  have := r2mul_any w a b _ _ _ _ ha.1 hb.1
  rwa [fracOf_self ha.2, fracOf_self hb.2] at this
theorem r2cmp_o (w : World) (a b : Fa) (o o' : Option Rat) (ha : Fo w a o) (hb : Fo w b o') : Calls Try.prog 47 #[.agg #[.slice a.A a.n a.c, .slice a.B a.m a.d], .agg #[.slice b.A b.n b.c, .slice b.B b.m b.d]] w fun e w' => e = .returned (.int .i64 (cmpO o o')) ∧ Below w.heap.size w w' := by
  have := r2cmp_any w a b _ _ _ _ ha.1 hb.1
  rwa [fracOf_self ha.2, fracOf_self hb.2] at this
theorem r2pow_o (w : World) (a : Fa) (o : Option Rat) (n : Int) (ha : Fo w a o) (hn : -9223372036854775808 ≤ n) (hn2 : n < 9223372036854775808) : Calls Try.prog 38 #[.agg #[.slice a.A a.n a.c, .slice a.B a.m a.d], .int .i64 n] w fun e w' => Ret w (powR o n) e w' := by
  have := r2pow_any w a _ _ n ha.1 hn hn2
  rwa [fracOf_self ha.2] at this
end Go.Proofs.Ytnofljgmkdommaa

/- Contract: the reference's Chance. -/
namespace Go.Proofs.Ytnofljgmkdommaa
open Go.RowKit

theorem r1of1000 (w : World) : Calls Try.prog 80 #[.int .u64 1000] w fun e w' => ∃ A m c, e = .returned (.slice A m c) ∧ m ≤ c ∧ m ≤ 2 ∧ Ul w' none A m (lm 1000) ∧ Below w.heap.size w w' := r1of_any w 1000 (by omega)
end Go.Proofs.Ytnofljgmkdommaa

/- Contracts: Check of a noise model, the program's and the reference's. -/
namespace Go.Proofs.Ytnofljgmkdommaa
open Go.RowKit

/-- A right noise model. -/
def nzO : Option Rat → Option Rat → Bool
  | some r, some s => chO (some r) && chO (some s) && decide (0 < r) && decide (r < s) && decide (s < 1)
  | _, _ => false
/-- The box of two fractions. -/
structure FN (w0 v : World) (a b : Fa) (la ka lb kb : List Nat) : Prop where
  bw : Below w0.heap.size w0 v
  ca : v.cell? ⟨w0.heap.size, 0, none⟩ = some (.slice a.A a.n a.c) ∧ v.cell? ⟨w0.heap.size, 1, none⟩ = some (.slice a.B a.m a.d) ∧ v.cell? ⟨w0.heap.size, 2, none⟩ = some (.slice b.A b.n b.c) ∧ v.cell? ⟨w0.heap.size, 3, none⟩ = some (.slice b.B b.m b.d)
  sz : w0.heap.size < v.heap.size
  qa : Fq v a la ka
  qb : Fq v b lb kb
theorem FN.below {w0 v v' : World} {a b : Fa} {la ka lb kb : List Nat} (h : FN w0 v a b la ka lb kb) (hb : Below v.heap.size v v') : FN w0 v' a b la ka lb kb := by
  have h1 := h.sz
  obtain ⟨c0, c1, c2, c3⟩ := h.ca
  refine ⟨h.bw.trans (hb.mono h.bw.size), ⟨?_, ?_, ?_, ?_⟩, Nat.lt_of_lt_of_le h.sz hb.size, h.qa.below hb, h.qb.below hb⟩
  · rw [hb.cell (by simp; omega)]; exact c0
  · rw [hb.cell (by simp; omega)]; exact c1
  · rw [hb.cell (by simp; omega)]; exact c2
  · rw [hb.cell (by simp; omega)]; exact c3
theorem FN.drew {w0 v : World} {a b : Fa} {la ka lb kb : List Nat} (h : FN w0 v a b la ka lb kb) : FN w0 v.drew a b la ka lb kb := h.below (Dr.below ⟨1, rfl⟩)
theorem FN.mk0 {w0 : World} {a b : Fa} {la ka lb kb : List Nat} (ha : Fq w0 a la ka) (hb : Fq w0 b lb kb) (t : TypeId) : FN w0 (w0.alloc (.cells #[.slice a.A a.n a.c, .slice a.B a.m a.d, .slice b.A b.n b.c, .slice b.B b.m b.d] t)) a b la ka lb kb :=
  ⟨(Below.refl _ _).alloc (Nat.le_refl _) _, ⟨by simp [go_sem], by simp [go_sem], by simp [go_sem], by simp [go_sem]⟩, by simp, ha.alloc _, hb.alloc _⟩
theorem nzO_no1 {x y : Option Rat} (h : chO x = false) : nzO x y = false := by
  cases x <;> cases y <;> first | rfl | (simp [nzO, h])
theorem nzO_no2 {x y : Option Rat} (h : chO y = false) : nzO x y = false := by
  cases x <;> cases y <;> first | rfl | (simp [nzO, h])
theorem chO_some {x : Option Rat} (h : chO x = true) : ∃ r, x = some r := by
  cases x with
  | none => cases h
  | some r => exact ⟨r, rfl⟩
theorem fo_of {w : World} {a : Fa} {l k : List Nat} {r : Rat} (h : Fq w a l k) (hA : fracOf l k = some r) : Fo w a (some r) := ⟨by have h1 := fracOf_some hA; rw [h1.1, h1.2.1] at h; exact h, (fracOf_some hA).2.2⟩
theorem fq_len {w : World} {a : Fa} {l k : List Nat} {r : Rat} (h : Fq w a l k) (hA : fracOf l k = some r) : (0 < a.n ↔ 0 < r) ∧ 0 ≤ r := by
  have h1 := fracOf_some hA
  have h2 := h.u.len
  rw [h1.1] at h2
  have h3 := rn_eq_zero h1.2.2.1
  refine ⟨?_, h1.2.2.1⟩
  rw [← h2, List.length_pos_iff, Ne, lm_eq_nil, h3]
  constructor
  · intro h4; exact Rat.lt_of_le_of_ne h1.2.2.1 (fun e => h4 e.symm)
  · intro h4 h5; rw [h5] at h4; exact absurd h4 (by decide)
theorem cmpQ_neg' {r s : Rat} : decide (cmpO (some r) (some s) < 0) = decide (r < s) := decide_eq_decide.2 cmpQ_neg
end Go.Proofs.Ytnofljgmkdommaa

/- Words for specifications; contracts: sequential.inner, Check. -/
namespace Go.Proofs.Ytnofljgmkdommaa
open Go.RowKit

/-- A specification: its fractions, their limbs, the most runs. -/
structure Sv where
  l : Fa
  h : Fa
  a : Fa
  b : Fa
  m : Int
  ll : List Nat
  lk : List Nat
  hl : List Nat
  hk : List Nat
  al : List Nat
  ak : List Nat
  bl : List Nat
  bk : List Nat
/-- Its cells. -/
def Sv.cs (s : Sv) : List Value := [.slice s.l.A s.l.n s.l.c, .slice s.l.B s.l.m s.l.d, .slice s.h.A s.h.n s.h.c, .slice s.h.B s.h.m s.h.d, .slice s.a.A s.a.n s.a.c, .slice s.a.B s.a.m s.a.d, .slice s.b.A s.b.n s.b.c, .slice s.b.B s.b.m s.b.d, .int .i64 s.m]
structure SQ (w : World) (s : Sv) : Prop where
  l : Fq w s.l s.ll s.lk
  h : Fq w s.h s.hl s.hk
  a : Fq w s.a s.al s.ak
  b : Fq w s.b s.bl s.bk
theorem SQ.below {w w' : World} {s : Sv} (h : SQ w s) (hb : Below w.heap.size w w') : SQ w' s := ⟨h.l.below hb, h.h.below hb, h.a.below hb, h.b.below hb⟩
theorem SQ.alloc {w : World} {s : Sv} (h : SQ w s) (o : Obj) : SQ (w.alloc o) s := ⟨h.l.alloc o, h.h.alloc o, h.a.alloc o, h.b.alloc o⟩
def Sv.ok (s : Sv) : Bool := okS (fracOf s.ll s.lk) (fracOf s.hl s.hk) (fracOf s.al s.ak) (fracOf s.bl s.bk) s.m
/-- The box of a specification. -/
structure FS (w0 v : World) (g : Nat) (s : Sv) : Prop where
  bw : Below w0.heap.size w0 v
  cb : Cb v g s.cs
  q : SQ v s
theorem FS.below {w0 v v' : World} {g : Nat} {s : Sv} (h : FS w0 v g s) (hb : Below v.heap.size v v') : FS w0 v' g s := ⟨h.bw.trans (hb.mono h.bw.size), h.cb.below hb, h.q.below hb⟩
theorem FS.alloc {w0 v : World} {g : Nat} {s : Sv} (h : FS w0 v g s) (o : Obj) : FS w0 (v.alloc o) g s := h.below ((Below.refl _ _).alloc (Nat.le_refl _) _)
theorem FS.mk0 {w : World} {s : Sv} (h : SQ w s) (t : TypeId) : FS w (w.alloc (.cells #[.slice s.l.A s.l.n s.l.c, .slice s.l.B s.l.m s.l.d, .slice s.h.A s.h.n s.h.c, .slice s.h.B s.h.m s.h.d, .slice s.a.A s.a.n s.a.c, .slice s.a.B s.a.m s.a.d, .slice s.b.A s.b.n s.b.c, .slice s.b.B s.b.m s.b.d, .int .i64 s.m] t)) w.heap.size s :=
  ⟨(Below.refl _ _).alloc (Nat.le_refl _) _, Cb.mk0 s.cs (by simp [Sv.cs]) t rfl, h.alloc _⟩
theorem FS.ca {w0 v : World} {g : Nat} {s : Sv} (h : FS w0 v g s) : v.cell? ⟨g, 0, none⟩ = some (.slice s.l.A s.l.n s.l.c) ∧ v.cell? ⟨g, 1, none⟩ = some (.slice s.l.B s.l.m s.l.d) ∧ v.cell? ⟨g, 2, none⟩ = some (.slice s.h.A s.h.n s.h.c) ∧ v.cell? ⟨g, 3, none⟩ = some (.slice s.h.B s.h.m s.h.d) ∧ v.cell? ⟨g, 4, none⟩ = some (.slice s.a.A s.a.n s.a.c) ∧ v.cell? ⟨g, 5, none⟩ = some (.slice s.a.B s.a.m s.a.d) ∧ v.cell? ⟨g, 6, none⟩ = some (.slice s.b.A s.b.n s.b.c) ∧ v.cell? ⟨g, 7, none⟩ = some (.slice s.b.B s.b.m s.b.d) ∧ v.cell? ⟨g, 8, none⟩ = some (.int .i64 s.m) ∧ g < v.heap.size :=
  ⟨h.cb.cell 0 _ rfl, h.cb.cell 1 _ rfl, h.cb.cell 2 _ rfl, h.cb.cell 3 _ rfl, h.cb.cell 4 _ rfl, h.cb.cell 5 _ rfl, h.cb.cell 6 _ rfl, h.cb.cell 7 _ rfl, h.cb.cell 8 _ rfl, h.cb.sz⟩
theorem cmp_lt (o o' : Option Rat) : decide (cmpO o o' < 0) = ltO o o' := by
  cases o with
  | none => cases o' <;> rfl
  | some r =>
    cases o' with
    | none => rfl
    | some s => exact decide_eq_decide.2 cmpQ_neg
theorem innO_no {o : Option Rat} (h : chO o = false) : innO o = false := by
  cases o with
  | none => rfl
  | some r => simp [innO, h]
theorem innO_some {r : Rat} (h : chO (some r) = true) : innO (some r) = (decide (0 < r) && decide (r < 1)) := by simp [innO, h]
end Go.Proofs.Ytnofljgmkdommaa

/- Contracts: the reference's inner, Check of a specification. -/
namespace Go.Proofs.Ytnofljgmkdommaa
open Go.RowKit

theorem cmpQ_pos {r s : Rat} : 0 < cmpQ r s ↔ s < r := by
  unfold cmpQ
  by_cases h1 : r < s
  · rw [if_pos h1]
    exact ⟨fun h => by omega, fun h => absurd h (Rat.not_lt.2 (Rat.le_of_lt h1))⟩
  · rw [if_neg h1]
    by_cases h2 : r = s
    · rw [if_pos h2]; subst h2; exact ⟨fun h => by omega, fun h => absurd h Rat.lt_irrefl⟩
    · rw [if_neg h2]
      exact ⟨fun _ => Rat.lt_of_le_of_ne (Rat.not_lt.1 h1) (fun e => h2 e.symm), fun _ => by omega⟩
end Go.Proofs.Ytnofljgmkdommaa

/- Contracts: sequential.power, ratio. -/
namespace Go.Proofs.Ytnofljgmkdommaa
open Go.RowKit

theorem cmpQ_ge {r s : Rat} : 0 ≤ cmpQ r s ↔ s ≤ r := by
  unfold cmpQ
  by_cases h1 : r < s
  · rw [if_pos h1]
    exact ⟨fun h => by omega, fun h => absurd h1 (Rat.not_lt.2 h)⟩
  · rw [if_neg h1]
    exact ⟨fun _ => Rat.not_lt.1 h1, fun _ => by split <;> omega⟩
/-- A right specification's numbers. -/
structure OKs (s : Sv) (l h a b : Rat) (M : Nat) : Prop where
  fl : fracOf s.ll s.lk = some l
  fh : fracOf s.hl s.hk = some h
  fa : fracOf s.al s.ak = some a
  fb : fracOf s.bl s.bk = some b
  il : Inn l
  ih : Inn h
  ia : Inn a
  ib : Inn b
  lt : l < h
  m : s.m = (M : Int)
  m1 : 1 ≤ M
  m2 : M ≤ 32
theorem Sv.ok_some {s : Sv} (hk : s.ok = true) : ∃ l h a b M, OKs s l h a b M := by
  simp only [Sv.ok, okS, Bool.and_eq_true, decide_eq_true_eq] at hk
  obtain ⟨⟨⟨⟨⟨⟨h1, h2⟩, h3⟩, h4⟩, h5⟩, h6⟩, h7⟩ := hk
  obtain ⟨l, e1, i1⟩ := innO_inn h1 (fracOf_ok _ _).1
  obtain ⟨h, e2, i2⟩ := innO_inn h2 (fracOf_ok _ _).1
  obtain ⟨a, e3, i3⟩ := innO_inn h3 (fracOf_ok _ _).1
  obtain ⟨b, e4, i4⟩ := innO_inn h4 (fracOf_ok _ _).1
  rw [e1, e2] at h5
  exact ⟨l, h, a, b, s.m.toNat, e1, e2, e3, e4, i1, i2, i3, i4, by simpa [ltO] using h5, by omega, by omega, by omega⟩
theorem Inn.ne {r : Rat} (h : Inn r) : r ≠ 0 := fun e => by have := h.p; rw [e] at this; exact absurd this (by decide)
theorem Inn.qne {r : Rat} (h : Inn r) : 1 - r ≠ 0 := fun e => by have := h.q0; rw [e] at this; exact absurd this (by decide)
theorem big32 : 1000000 ^ 32 < 4294967296 ^ 128 := by decide +kernel
theorem big64 : 1000000 ^ 64 < 4294967296 ^ 128 := by decide +kernel
theorem bd_fits {B : Nat} {r : Rat} (h : Bd B r) (hB : B ≤ 1000000 ^ 64) : fitsR r = true := h.fits (Nat.lt_of_le_of_lt hB big64)
theorem powR_nat {r : Rat} {n : Nat} (hn : n ≤ 32) (hf : fitsR (r ^ n) = true) : powR (some r) (n : Int) = (some (r ^ n), 0) := by
  show (if (n : Int) < 0 ∨ 65536 < (n : Int) then (none, 3) else limR (r ^ ((n : Int)).toNat)) = _
  rw [if_neg (by omega), Int.toNat_natCast, limR_fit hf]
theorem divR_some {r s : Rat} (hs : s ≠ 0) (hf : fitsR (r / s) = true) : divR (some r) (some s) = (some (r / s), 0) := by
  show (if s = 0 then (none, 4) else limR (r / s)) = _
  rw [if_neg hs, limR_fit hf]
theorem mulR_some {r s : Rat} (hf : fitsR (r * s) = true) : mulR (some r) (some s) = (some (r * s), 0) := limR_fit hf
end Go.Proofs.Ytnofljgmkdommaa

/- Contracts: counts, the program's and the reference's. -/
namespace Go.Proofs.Ytnofljgmkdommaa
open Go.RowKit

/-- The first error of counts. -/
def cntE (s : Sv) (p f : Int) : Int := if s.ok = false then 1 else if p < 0 ∨ f < 0 ∨ s.m < p ∨ s.m < f ∨ s.m < p + f then 3 else 0
end Go.Proofs.Ytnofljgmkdommaa

/- Contracts: sequential.Ratio, decide, Decide. -/
namespace Go.Proofs.Ytnofljgmkdommaa
open Go.RowKit

/-- What Ratio returns. -/
def ratR (s : Sv) (p f : Int) (r : Rat) : Option Rat × Int := if cntE s p f = 0 then (some r, 0) else (none, cntE s p f)
theorem cnt_ok {s : Sv} {p f : Int} (h : cntE s p f = 0) : s.ok = true ∧ 0 ≤ p ∧ 0 ≤ f ∧ p ≤ s.m ∧ f ≤ s.m ∧ p + f ≤ s.m := by
  unfold cntE at h
  cases hk : s.ok
  · rw [if_pos hk] at h; omega
  · rw [if_neg (by rw [hk]; simp)] at h
    split at h
    · omega
    · exact ⟨rfl, by omega⟩
theorem OKs.ok {s : Sv} {l h a b : Rat} {M : Nat} (hk' : OKs s l h a b M) : s.ok = true := by
  unfold Sv.ok okS
  rw [hk'.fl, hk'.fh, hk'.fa, hk'.fb]
  have e : ∀ {r : Rat}, Inn r → innO (some r) = true := fun {r} hi => by
    have hc : chO (some r) = true := by simp [chO, hi.c.h1, hi.c.hd]
    rw [innO_some hc, decide_eq_true hi.p, decide_eq_true hi.q]; rfl
  have h9 := hk'.m
  have h10 := hk'.m1
  have h11 := hk'.m2
  rw [e hk'.il, e hk'.ih, e hk'.ia, e hk'.ib]
  simp [ltO, hk'.lt]
  omega
theorem inv_bd {a : Rat} (h : Inn a) : Bd 1000 (1 / a) := by
  have := (⟨by decide, by decide, by decide⟩ : Bd 1 (1 : Rat)).div h.c.bd h.ne
  rwa [Nat.one_mul] at this
end Go.Proofs.Ytnofljgmkdommaa

/- Contracts: sequential.decide, Decide. -/
namespace Go.Proofs.Ytnofljgmkdommaa
open Go.RowKit

end Go.Proofs.Ytnofljgmkdommaa

/- Contract: sequential.Limits. -/
namespace Go.Proofs.Ytnofljgmkdommaa
open Go.RowKit

end Go.Proofs.Ytnofljgmkdommaa

/- Contracts: noise.Sequence. -/
namespace Go.Proofs.Ytnofljgmkdommaa
open Go.RowKit

def bv (b : Bool) : List Value := [.bool b]
theorem bools_at {w : World} {av : Option Nat} {A : Option Addr} {l : List Bool} (h : Rs w av 1 bv A l) {k : Nat} (hk : k < l.length) :
    ∃ b o, A = some ⟨b, o, none⟩ ∧ some b ≠ av ∧ b < w.heap.size ∧ w.cell? ⟨b, o + k, none⟩ = some (.bool l[k]) := by
  obtain ⟨b, o, h1, h2, h3, h4⟩ := h.at (List.getElem?_eq_getElem hk)
  refine ⟨b, o, h1, h2, h3, ?_⟩
  have := h4 0 (.bool l[k]) rfl
  simpa using this
/-- The chance of outcomes in an order. -/
def sqF (r acc : Rat) (l : List Bool) : Rat := l.foldl (fun acc b => acc * (if b then r else 1 - r)) acc
def sqL (r : Rat) (l : List Bool) : Rat := sqF r 1 l
theorem sqF_snoc (r acc : Rat) (l : List Bool) (b : Bool) : sqF r acc (l ++ [b]) = sqF r acc l * (if b then r else 1 - r) := by
  unfold sqF
  rw [List.foldl_append]
  rfl
theorem sqF_ok {r : Rat} (h : Chn r) : ∀ (l : List Bool) (acc : Rat) (n : Nat), Sc r.den n acc → 0 ≤ acc → acc ≤ 1 → Sc r.den (n + l.length) (sqF r acc l) ∧ 0 ≤ sqF r acc l ∧ sqF r acc l ≤ 1
  | [], acc, n, h1, h2, h3 => ⟨h1, h2, h3⟩
  | b :: l, acc, n, h1, h2, h3 => by
    have hx : Sc r.den 1 (if b then r else 1 - r) ∧ 0 ≤ (if b then r else 1 - r) ∧ (if b then r else 1 - r) ≤ 1 := by
      cases b
      · exact ⟨den_sc1 h.h0 h.h1, h.q0, h.q1⟩
      · exact ⟨den_sc h.h0, h.h0, h.h1⟩
    have := sqF_ok h l (acc * (if b then r else 1 - r)) (n + 1) (h1.mul hx.1) (Rat.mul_nonneg h2 hx.2.1) (mul_le_b h2 h3 hx.2.2 hx.2.1)
    rw [List.length_cons, show n + (l.length + 1) = n + 1 + l.length by omega]
    exact this
theorem Chn.fsq {r : Rat} (h : Chn r) {l : List Bool} (hl : l.length ≤ 128) : fitsR (sqL r l) = true := by
  obtain ⟨h1, -, h3⟩ := sqF_ok h l 1 0 (by simpa using Sc.nat r.den 1) (by decide) Rat.le_refl
  exact h.fit h1 (by omega) (Rat.le_trans h3 one32)
theorem sqL_take {r : Rat} {l : List Bool} {j : Nat} (h : j < l.length) : sqL r (l.take (j + 1)) = sqL r (l.take j) * (if l[j] then r else 1 - r) := by
  rw [List.take_add_one, List.getElem?_eq_getElem h]
  exact sqF_snoc r 1 (l.take j) l[j]
/-- The loop's state. -/
structure SS (w wr : World) (a : Fa) (l k : List Nat) (r : Rat) (b6 b7 : Nat) (c6 c7 : Fa) (acc : Rat) : Prop where
  f1 : F1 w wr a l k
  x6 : Fx wr b6 c6 (some acc)
  x7 : Fx wr b7 c7 (some (1 - r))
  d : b7 ≠ b6
  g : w.heap.size + 1 < b6
theorem SS.below {w wr wr' : World} {a : Fa} {l k : List Nat} {r : Rat} {b6 b7 : Nat} {c6 c7 : Fa} {acc : Rat} (h : SS w wr a l k r b6 b7 c6 c7 acc) (hb : Below wr.heap.size wr wr') : SS w wr' a l k r b6 b7 c6 c7 acc :=
  ⟨h.f1.below hb, h.x6.below hb, h.x7.below hb, h.d, h.g⟩
theorem SS.alloc {w wr : World} {a : Fa} {l k : List Nat} {r : Rat} {b6 b7 : Nat} {c6 c7 : Fa} {acc : Rat} (h : SS w wr a l k r b6 b7 c6 c7 acc) (o : Obj) : SS w (wr.alloc o) a l k r b6 b7 c6 c7 acc := h.below ((Below.refl _ _).alloc (Nat.le_refl _) _)
theorem SS.put {w wr : World} {a : Fa} {l k : List Nat} {r : Rat} {b6 b7 : Nat} {c6 c7 : Fa} {acc : Rat} (h : SS w wr a l k r b6 b7 c6 c7 acc) {c : Fa} {s : Rat} (ho : Fo wr c (some s)) :
    SS w ((wr.setCell ⟨b6, 0, none⟩ (.slice c.A c.n c.c)).setCell ⟨b6, 1, none⟩ (.slice c.B c.m c.d)) a l k r b6 b7 c c7 s :=
  ⟨h.f1.one (fr_fill _ _) h.x6.b.nb h.g, h.x6.put ho, h.x7.one (fr_fill _ _) h.x6.b.nb h.d, h.d, h.g⟩
theorem SS.far {w wr wr' : World} {a : Fa} {l k : List Nat} {r : Rat} {b6 b7 : Nat} {c6 c7 : Fa} {acc : Rat} (h : SS w wr a l k r b6 b7 c6 c7 acc) {g : Nat} (hf : Fr wr wr' (fun b => b = g)) (hg : NB wr g) (h6 : b6 ≠ g) (h7 : b7 ≠ g) (hgw : w.heap.size + 1 < g) :
    SS w wr' a l k r b6 b7 c6 c7 acc := ⟨h.f1.one hf hg hgw, h.x6.one hf hg h6, h.x7.one hf hg h7, h.d, h.g⟩
def RSq (B : Nat) (a : Fa) (r : Rat) : Nat → Value → World → Prop
  | 0, x, W => ∃ c : Fa, x = .agg #[.slice c.A c.n c.c, .slice c.B c.m c.d] ∧ Fo W c (some 1)
  | 1, x, _ => x = .agg #[.slice a.A a.n a.c, .slice a.B a.m a.d]
  | 2, x, W => ∃ c : Fa, x = .agg #[.slice c.A c.n c.c, .slice c.B c.m c.d] ∧ Fo W c (some (1 - r))
  | 3, x, W => ∃ b, x = .pointer (some ⟨b, 0, none⟩) ∧ B ≤ b ∧ Bq W b fa0
  | 4, x, W => ∃ b, x = .pointer (some ⟨b, 0, none⟩) ∧ B ≤ b ∧ Bq W b fa0
  | _, _, _ => True
theorem RSq.st (B : Nat) (a : Fa) (r : Rat) : ∀ i x w w', RSq B a r i x w → Below w.heap.size w w' → RSq B a r i x w'
  | 0, _, _, _, ⟨c, h1, h2⟩, hb => ⟨c, h1, h2.below hb⟩
  | 1, _, _, _, h, _ => h
  | 2, _, _, _, ⟨c, h1, h2⟩, hb => ⟨c, h1, h2.below hb⟩
  | 3, _, _, _, ⟨b, h1, h2, h3⟩, hb => ⟨b, h1, h2, h3.below hb⟩
  | 4, _, _, _, ⟨b, h1, h2, h3⟩, hb => ⟨b, h1, h2, h3.below hb⟩
  | _ + 5, _, _, _, _, _ => trivial
/-- What Sequence returns. -/
def seqR (o : Option Rat) (l : List Bool) : Option Rat × Int :=
  if chO o = true then (if 32 < l.length then (none, 2) else match o with | some r => (some (sqL r l), 0) | none => (none, 41)) else (none, 41)
end Go.Proofs.Ytnofljgmkdommaa

/- Contract: sequential.Run. -/
namespace Go.Proofs.Ytnofljgmkdommaa
open Go.RowKit

theorem dec00 {s : Sv} {l h a b : Rat} {M : Nat} (hk : OKs s l h a b M) : decQ l h a b 0 0 = 0 := by
  have e : ratQ l h 0 0 = 1 := by
    unfold ratQ
    rw [Rat.pow_zero, Rat.pow_zero]
    decide +kernel
  have h1 : ¬ 1 / a ≤ 1 := by
    intro h2
    have h3 := Rat.mul_le_mul_of_nonneg_right h2 (Rat.le_of_lt hk.ia.p)
    rw [Rat.div_mul_cancel hk.ia.ne, Rat.one_mul] at h3
    exact absurd hk.ia.q (Rat.not_lt.2 h3)
  have h2 : ¬ (1 : Rat) ≤ b := Rat.not_le.2 hk.ib.q
  unfold decQ
  rw [e, if_neg h1, if_neg h2]
/-- How many outcomes may be taken. -/
def cutL (outs : List Bool) (M : Nat) : List Bool := outs.take (min outs.length M)
end Go.Proofs.Ytnofljgmkdommaa

/- A box whose cells are set; the tape's Chance beside limbs; contract: the law's spec. -/
namespace Go.Proofs.Ytnofljgmkdommaa
open Go.RowKit

theorem Cb.put {v : World} {g : Nat} {cs : List Value} (h : Cb v g cs) (i : Nat) (x : Value) (hi : i < cs.length) (hx : ∀ k, x ≠ .int .u32 k) : Cb (v.setCell ⟨g, i, none⟩ x) g (cs.set i x) := by
  have hs := h.sz
  have hci := h.cell i _ (List.getElem?_eq_getElem hi)
  refine ⟨fun j y hy => ?_, fun j => by have := h.fz j; simp [go_sem, *], by simpa using hs, h.nb.put i hx⟩
  by_cases hj : j = i
  · subst hj
    rw [List.getElem?_set_self hi] at hy
    injection hy with hy
    subst hy
    simp [go_sem, hci]
  · rw [List.getElem?_set_ne (fun e => hj e.symm)] at hy
    rw [World.cell?_setCell_other _ _ _ _ (by intro h; injection h; omega)]
    exact h.cell j y hy
/-- The cells of a specification not yet filled. -/
def z9 : List Value := [.slice none 0 0, .slice none 0 0, .slice none 0 0, .slice none 0 0, .slice none 0 0, .slice none 0 0, .slice none 0 0, .slice none 0 0, .int .i64 0]
/-- A specification in the making: the tape, the result's box, its box. -/
structure SpS (w0 v : World) (T : Nat) (A : Option Addr) (n c : Nat) (l : List Int) (a g0 g1 : Nat) (s : Sv) : Prop where
  tp : Tp v T A n c l a
  r : Cb v g0 z9
  b : Cb v g1 s.cs
  q : SQ v s
  fr : Fr w0 v (fun b => b = T)
section
variable {w0 v v' : World} {T n c a g0 g1 : Nat} {A : Option Addr} {l : List Int} {s s' : Sv}
theorem SQ.one {g : Nat} (h : SQ v s) (hf : Fr v v' (fun b => b = g)) (hg : NB v g) : SQ v' s := ⟨h.l.one hf hg, h.h.one hf hg, h.a.one hf hg, h.b.one hf hg⟩
theorem SpS.below (h : SpS w0 v T A n c l a g0 g1 s) (hb : Below v.heap.size v v') : SpS w0 v' T A n c l a g0 g1 s := ⟨h.tp.below hb, h.r.below hb, h.b.below hb, h.q.below hb, h.fr.below_ hb⟩
theorem SpS.tape (h : SpS w0 v T A n c l a g0 g1 s) {a' : Nat} (hp : Tp v' T A n c l a') (hf : Fr v v' (fun b => b = T)) (h0 : g0 ≠ T) (h1 : g1 ≠ T) : SpS w0 v' T A n c l a' g0 g1 s :=
  ⟨hp, h.r.one hf h0, h.b.one hf h1, h.q.one hf h.tp.nb, h.fr.trans hf⟩
theorem SpS.put (h : SpS w0 v T A n c l a g0 g1 s) {t0 : World} {a0 : Nat} (hp0 : Tp t0 T A n c l a0) (hg1 : t0.heap.size ≤ g1) (h01 : g0 ≠ g1) (hf : Fr v v' (fun b => b = g1)) (hb : Cb v' g1 s'.cs) (hq : SQ v' s') (hw : w0.heap.size ≤ g1) : SpS w0 v' T A n c l a g0 g1 s' :=
  ⟨hp0.one h.tp hg1 hf, h.r.one hf h01, hb, hq, h.fr.step hf (fun i hi e => by omega)⟩
end
end Go.Proofs.Ytnofljgmkdommaa
