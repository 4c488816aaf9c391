/- Contracts of the functions that these laws reach: part 9: Contracts: fraction.exact, Make, Of; Contracts: fraction.Check, cross, Compare; Contracts: fraction.cross, Compare, Add, Sub, Mul; Contracts: fraction.Add, Mul, Sub, Div; Contracts: fraction.Sub. -/
import Derived.Test.YtnofljgmkdommaaG5
import Derived.Deep.RegionHeld3
set_option linter.unusedVariables false
set_option linter.unusedSimpArgs false

/- Contracts: fraction.exact, Make, Of. -/
namespace Go.Proofs.Ytnofljgmkdommaa
open Go.RowKit

/-- A fraction's two slices. -/
structure Fa where
  A : Option Addr
  n : Nat
  c : Nat
  B : Option Addr
  m : Nat
  d : Nat
/-- The slices read as two lists of limbs. -/
structure Fq (w : World) (a : Fa) (l k : List Nat) : Prop where
  u : Ul w none a.A a.n l
  v : Ul w none a.B a.m k
  c : a.n ≤ a.c
  d : a.m ≤ a.d
  n : a.n ≤ 9223372036854775807
  m : a.m ≤ 9223372036854775807
section
variable {w w' : World} {a : Fa} {l k : List Nat}
theorem Fq.below (h : Fq w a l k) (hb : Below w.heap.size w w') : Fq w' a l k := ⟨h.u.below hb, h.v.below hb, h.c, h.d, h.n, h.m⟩
theorem Fq.fr (h : Fq w a l k) (hf : Fr w w' (fun _ => False)) : Fq w' a l k := ⟨h.u.frF hf, h.v.frF hf, h.c, h.d, h.n, h.m⟩
theorem Fq.alloc (h : Fq w a l k) (o : Obj) : Fq (w.alloc o) a l k := h.below ((Below.refl _ _).alloc (Nat.le_refl _) _)
theorem Fq.drew (h : Fq w a l k) : Fq w.drew a l k := ⟨h.u.drew, h.v.drew, h.c, h.d, h.n, h.m⟩
theorem Fq.drewN (h : Fq w a l k) (n : Nat) : Fq (w.drewN n) a l k := ⟨h.u.drewN n, h.v.drewN n, h.c, h.d, h.n, h.m⟩
end
/-- The slices read as the fraction o. -/
def Fo (w : World) (a : Fa) (o : Option Rat) : Prop := Fq w a (numL o) (denL o) ∧ okR o
section
variable {w w' : World} {a : Fa} {o : Option Rat}
theorem Fo.below (h : Fo w a o) (hb : Below w.heap.size w w') : Fo w' a o := ⟨h.1.below hb, h.2⟩
theorem Fo.fr (h : Fo w a o) (hf : Fr w w' (fun _ => False)) : Fo w' a o := ⟨h.1.fr hf, h.2⟩
theorem Fo.alloc (h : Fo w a o) (x : Obj) : Fo (w.alloc x) a o := ⟨h.1.alloc x, h.2⟩
theorem Fo.drew (h : Fo w a o) : Fo w.drew a o := ⟨h.1.drew, h.2⟩
theorem Fo.drewN (h : Fo w a o) (n : Nat) : Fo (w.drewN n) a o := ⟨h.1.drewN n, h.2⟩
theorem Fq.small {r : Rat} (h : Fq w a (lm (rn r)) (lm r.den)) (h3 : fitsR r = true) : a.n ≤ 128 ∧ a.m ≤ 128 := by
  rw [← h.u.len, ← h.v.len]
  simp only [fitsR, Bool.and_eq_true, decide_eq_true_eq] at h3
  exact h3
theorem Fo.small (h : Fo w a o) : a.n ≤ 128 ∧ a.m ≤ 128 := by
  obtain ⟨h1, h2⟩ := h
  rw [← h1.u.len, ← h1.v.len]
  cases o with
  | none => exact ⟨Nat.zero_le _, Nat.zero_le _⟩
  | some r =>
    have h3 := h2.2
    simp only [fitsR, Bool.and_eq_true, decide_eq_true_eq] at h3
    exact h3
theorem Fo.nil (w : World) : Fo w ⟨none, 0, 0, none, 0, 0⟩ none := ⟨⟨Ul.nil, Ul.nil, Nat.le_refl _, Nat.le_refl _, by simp, by simp⟩, trivial⟩
end
/-- The cells of a box that was made first. -/
theorem box2 {w w' : World} {v0 v1 : Value} {t : TypeId} (hb : Below (w.alloc (.cells #[v0, v1] t)).heap.size (w.alloc (.cells #[v0, v1] t)) w') :
    w'.cell? ⟨w.heap.size, 0, none⟩ = some v0 ∧ w'.cell? ⟨w.heap.size, 1, none⟩ = some v1 ∧ (∀ j, w'.frozen? ⟨w.heap.size, j, none⟩ = false) ∧ w.heap.size < w'.heap.size := by
  refine ⟨?_, ?_, fun j => ?_, ?_⟩
  · rw [hb.cell (p := ⟨w.heap.size, 0, none⟩) (by simp)]; simp [go_sem]
  · rw [hb.cell (p := ⟨w.heap.size, 1, none⟩) (by simp)]; simp [go_sem]
  · rw [hb.frozen (p := ⟨w.heap.size, j, none⟩) (by simp)]; simp [go_sem]
  · have := hb.size; simp at this; omega
/-- No limbs lie in a box of two other cells. -/
theorem box2n {w w' : World} {v0 v1 : Value} {t : TypeId} (hb : Below (w.alloc (.cells #[v0, v1] t)).heap.size (w.alloc (.cells #[v0, v1] t)) w') (h0 : ∀ x, v0 ≠ .int .u32 x) (h1 : ∀ x, v1 ≠ .int .u32 x) :
    ∀ j x, w'.cell? ⟨w.heap.size, j, none⟩ ≠ some (.int .u32 x) := by
  intro j x h
  rw [hb.cell (p := ⟨w.heap.size, j, none⟩) (by simp)] at h
  rcases j with _ | _ | j
  · simp [go_sem] at h; exact h0 x h
  · simp [go_sem] at h; exact h1 x h
  · simp [go_sem] at h
theorem Ul.nbox {w : World} {av : Option Nat} {A : Option Addr} {n : Nat} {l : List Nat} (h : Ul w av A n l) (hl : l ≠ []) {b o : Nat} (hA : A = some ⟨b, o, none⟩) {g : Nat} (hg : ∀ j x, w.cell? ⟨g, j, none⟩ ≠ some (.int .u32 x)) : b ≠ g := by
  rintro rfl
  have hn : 0 < n := by
    have := h.len
    rcases l with _ | ⟨x, l⟩
    · exact absurd rfl hl
    · simp at this; omega
  obtain ⟨b', o', x, hA', -, -, -, -, hc⟩ := h.at hn
  rw [hA'] at hA
  injection hA with hA
  injection hA with hA
  subst hA
  exact hg _ _ hc
theorem gcd_pos' {x y : Nat} (hy : 0 < y) : 0 < Nat.gcd x y := Nat.gcd_pos_of_pos_right x hy
theorem fit_iff {x y : Nat} (hy : 0 < y) : fitsR (mkRat x y) = (decide ((lm (x / Nat.gcd x y)).length ≤ 128) && decide ((lm (y / Nat.gcd x y)).length ≤ 128)) := by
  unfold fitsR
  rw [mk_num x y hy, mk_den x y hy]
set_option maxRecDepth 100000 in
set_option maxHeartbeats 4000000 in
theorem fexact_any (w : World) (av av' : Option Nat) (A : Option Addr) (n c : Nat) (B : Option Addr) (m d : Nat) (x y : Nat) (hU : Ul w av A n (lm x)) (hV : Ul w av' B m (lm y)) (hn : n ≤ 1000) (hm : m ≤ 1000) (hy : 0 < y) :
    Calls Try.prog 60 #[.slice A n c, .slice B m d] w fun e w' => ∃ (a : Fa) (er : Int), e = .returned (.tuple #[.agg #[.slice a.A a.n a.c, .slice a.B a.m a.d], .int .i64 er]) ∧ Hid (er = (limR (mkRat x y)).2) ∧ Hid (Fo w' a (limR (mkRat x y)).1) ∧ Below w.heap.size w w' := by
  have HU := hide hU
  have HV := hide hV
  have hgp := gcd_pos' (x := x) hy
  have HF := hide (fit_iff (x := x) hy)
  clear hU hV
  go_enter Try.func60, Try.ntmps60
  go_wp2_with (first
    | (go_at_call 69; refine (lgcd_any _ av av' A n c B m d x y (HU.out.alloc _) (HV.out.alloc _) (by omega) (by omega)).mono ?_; rintro e w1 ⟨A1, m1, c1, rfl, hc1, hu1, hb1⟩; have hl1 := lm_length_mono (Nat.le_of_dvd hy (Nat.gcd_dvd_right x y)); rw [hu1.len, HV.out.len] at hl1; have HU1 := hide hu1; have HB1 := hide hb1; have HUa := hide ((HU.out.alloc _).below hb1); have HVa := hide ((HV.out.alloc _).below hb1); clear hu1 hb1)
    | (go_at_call 82; (with_reducible refine (ldiv_any _ av none A n c A1 m1 c1 x (Nat.gcd x y) HUa.out HU1.out (by omega) (by omega) hgp).mono ?_); rintro e w2 ⟨A2, m2, c2, A3, m3, c3, rfl, hc2, hc3, hu2, hu3, hb2⟩; have HU2 := hide hu2; have HB2 := hide hb2; have HVb := hide (HVa.out.below hb2); have HU1b := hide (HU1.out.below hb2); clear hu2 hu3 hb2)
    | (go_at_call 82; (with_reducible refine (ldiv_any _ av' none B m d A1 m1 c1 y (Nat.gcd x y) HVb.out HU1b.out (by omega) (by omega) hgp).mono ?_); rintro e w4 ⟨A4, m4, c4, A5, m5, c5, rfl, hc4, hc5, hu4, hu5, hb4⟩; have HU4 := hide hu4; have HU2b := hide (HU2.out.below hb4); have hbw := HB1.out.trans ((HB2.out.trans (hb4.mono HB2.out.size)).mono HB1.out.size); obtain ⟨f0, f1, f2, f3⟩ := box2 hbw; have f20 := f2 0; have f21 := f2 1; have HNB := hide (box2n hbw (by simp) (by simp)); have HBW := hide hbw; clear hu4 hu5 hb4 hbw f2))
  all_goals have HW0 := hide (((Below.refl _ _).alloc (Nat.le_refl _) _).trans (HBW.out.mono (by simp)) : Below w.heap.size w w4)
  all_goals have HL2 := hide HU2b.out.len
  all_goals have HL4 := hide HU4.out.len
  all_goals first
    | (have hf : fitsR (mkRat x y) = false := (by rw [HF.out, HL2.out, HL4.out]; simp; omega)
       have HN := hide (limR_no hf)
       clear hf
       refine bodyPost_ret (v := .tuple #[.agg #[.slice none 0 0, .slice none 0 0], .int .i64 2]) (by simp [results, Try.results60, go_sem, *]) rfl ⟨⟨none, 0, 0, none, 0, 0⟩, 2, rfl, hide (by rw [HN.out]), hide (by rw [HN.out]; exact Fo.nil _), ?_⟩
       exact (HW0.out.setCell (by simp) _).setCell (by simp) _)
    | (have hf : fitsR (mkRat x y) = true := (by rw [HF.out, HL2.out, HL4.out]; simp; omega)
       have HN := hide (limR_fit hf)
       have HNN := hide (mk_num x y hy)
       have HND := hide (mk_den x y hy)
       have HOK := hide (show okR (some (mkRat x y)) from ⟨mk_nonneg x y, hf⟩)
       clear hf
       refine bodyPost_ret (v := .tuple #[.agg #[.slice A2 m2 c2, .slice A4 m4 c4], .int .i64 0]) (by simp [results, Try.results60, go_sem, *]) rfl ⟨⟨A2, m2, c2, A4, m4, c4⟩, 0, rfl, hide (by rw [HN.out]), hide ?_, ?_⟩
       · rw [HN.out]
         refine ⟨⟨?_, ?_, hc2, hc4, by simp; omega, by simp; omega⟩, HOK.out⟩
         · show Ul _ none A2 m2 (lm (rn _))
           rw [HNN.out]
           exact HU2b.out.fr (Fr.setCell (Fr.setCell (S := fun b => b = w.heap.size) (Fr.refl _ _) (Or.inr rfl) _) (Or.inr rfl) _) (fun hl b o hA _ => HU2b.out.nbox hl hA HNB.out)
         · show Ul _ none A4 m4 (lm (Rat.den _))
           rw [HND.out]
           exact HU4.out.fr (Fr.setCell (Fr.setCell (S := fun b => b = w.heap.size) (Fr.refl _ _) (Or.inr rfl) _) (Or.inr rfl) _) (fun hl b o hA _ => HU4.out.nbox hl hA HNB.out)
       · exact (HW0.out.setCell (by simp) _).setCell (by simp) _)
end Go.Proofs.Ytnofljgmkdommaa

/- Contracts: fraction.Check, cross, Compare. -/
namespace Go.Proofs.Ytnofljgmkdommaa
open Go.RowKit

theorem fracOf_some {l k : List Nat} {r : Rat} (h : fracOf l k = some r) : l = lm (rn r) ∧ k = lm r.den ∧ 0 ≤ r ∧ fitsR r = true := by
  have h1 := fracOf_ok l k
  rw [h] at h1
  have h2 := h1.2 rfl
  exact ⟨h2.1.symm, h2.2.symm, h1.1.1, h1.1.2⟩
/-- The boxes of two fractions. -/
structure Fb (w0 v : World) (a b : Fa) (l k l' k' : List Nat) : Prop where
  bw : Below w0.heap.size w0 v
  ca : v.cell? ⟨w0.heap.size, 0, none⟩ = some (.slice a.A a.n a.c) ∧ v.cell? ⟨w0.heap.size, 1, none⟩ = some (.slice a.B a.m a.d) ∧ v.cell? ⟨w0.heap.size + 1, 0, none⟩ = some (.slice b.A b.n b.c) ∧ v.cell? ⟨w0.heap.size + 1, 1, none⟩ = some (.slice b.B b.m b.d)
  sz : w0.heap.size + 1 < v.heap.size
  qa : Fq v a l k
  qb : Fq v b l' k'
theorem Fb.below {w0 v v' : World} {a b : Fa} {l k l' k' : List Nat} (h : Fb w0 v a b l k l' k') (hb : Below v.heap.size v v') : Fb w0 v' a b l k l' k' := by
  have h1 := h.sz
  refine ⟨h.bw.trans (hb.mono h.bw.size), ⟨?_, ?_, ?_, ?_⟩, Nat.lt_of_lt_of_le h.sz hb.size, h.qa.below hb, h.qb.below hb⟩
  · rw [hb.cell (by simp; omega)]; exact h.ca.1
  · rw [hb.cell (by simp; omega)]; exact h.ca.2.1
  · rw [hb.cell (by simp; omega)]; exact h.ca.2.2.1
  · rw [hb.cell (by simp; omega)]; exact h.ca.2.2.2
theorem Fb.drewN {w0 v : World} {a b : Fa} {l k l' k' : List Nat} (h : Fb w0 v a b l k l' k') (n : Nat) : Fb w0 (v.drewN n) a b l k l' k' := ⟨h.bw.trans ((Dr.below ⟨n, rfl⟩).mono h.bw.size), h.ca, h.sz, h.qa.drewN n, h.qb.drewN n⟩
theorem Fb.mk0 {w0 : World} {a b : Fa} {l k l' k' : List Nat} (ha : Fq w0 a l k) (hb : Fq w0 b l' k') (t t' : TypeId) :
    Fb w0 ((w0.alloc (.cells #[.slice a.A a.n a.c, .slice a.B a.m a.d] t)).alloc (.cells #[.slice b.A b.n b.c, .slice b.B b.m b.d] t')) a b l k l' k' := by
  refine ⟨((Below.refl _ _).alloc (Nat.le_refl _) _).alloc (by simp) _, ⟨?_, ?_, ?_, ?_⟩, by simp, (ha.alloc _).alloc _, (hb.alloc _).alloc _⟩ <;> simp [go_sem]
/-- No limbs lie in the block g. -/
def NB (w : World) (g : Nat) : Prop := ∀ j x, w.cell? ⟨g, j, none⟩ ≠ some (.int .u32 x)
/-- The box of a result. -/
structure Rb (v : World) (g : Nat) : Prop where
  c0 : v.cell? ⟨g, 0, none⟩ = some (.slice none 0 0)
  c1 : v.cell? ⟨g, 1, none⟩ = some (.slice none 0 0)
  fz : ∀ j, v.frozen? ⟨g, j, none⟩ = false
  sz : g < v.heap.size
  nb : NB v g
theorem Rb.below {v v' : World} {g : Nat} (h : Rb v g) (hb : Below v.heap.size v v') : Rb v' g := by
  have h1 := h.sz
  refine ⟨?_, ?_, fun j => ?_, Nat.lt_of_lt_of_le h.sz hb.size, fun j x => ?_⟩
  · rw [hb.cell (by simp; omega)]; exact h.c0
  · rw [hb.cell (by simp; omega)]; exact h.c1
  · rw [hb.frozen (by simp; omega)]; exact h.fz j
  · rw [hb.cell (by simp; omega)]; exact h.nb j x
theorem Rb.drewN {v : World} {g : Nat} (h : Rb v g) (n : Nat) : Rb (v.drewN n) g := ⟨h.c0, h.c1, h.fz, h.sz, h.nb⟩
theorem Rb.mk0 {w : World} (t : TypeId) {g : Nat} (hg : g = w.heap.size) : Rb (w.alloc (.cells #[.slice none 0 0, .slice none 0 0] t)) g := by
  subst hg
  refine ⟨by simp [go_sem], by simp [go_sem], fun j => by simp [go_sem], by simp, fun j x h => ?_⟩
  rcases j with _ | _ | j <;> simp [go_sem] at h
theorem Fq.put {w : World} {a : Fa} {l k : List Nat} (h : Fq w a l k) {g : Nat} (hg : NB w g) (i : Nat) (v : Value) : Fq (w.setCell ⟨g, i, none⟩ v) a l k :=
  ⟨h.u.fr (Fr.setCell (S := fun b => b = g) (Fr.refl _ _) (Or.inr rfl) _) (fun hl b o hA _ => h.u.nbox hl hA hg), h.v.fr (Fr.setCell (S := fun b => b = g) (Fr.refl _ _) (Or.inr rfl) _) (fun hl b o hA _ => h.v.nbox hl hA hg), h.c, h.d, h.n, h.m⟩
theorem Fo.put {w : World} {a : Fa} {o : Option Rat} (h : Fo w a o) {g : Nat} (hg : NB w g) (i : Nat) (v : Value) : Fo (w.setCell ⟨g, i, none⟩ v) a o := ⟨h.1.put hg i v, h.2⟩
theorem NB.put {w : World} {g : Nat} (hg : NB w g) (i : Nat) {v : Value} (hv : ∀ x, v ≠ .int .u32 x) : NB (w.setCell ⟨g, i, none⟩ v) g := by
  intro j x h
  by_cases hji : j = i
  · subst hji
    have h2 := isSome_setCell w ⟨g, j, none⟩ ⟨g, j, none⟩ v
    rw [h] at h2
    obtain ⟨y, hy⟩ := Option.isSome_iff_exists.1 h2.symm
    rw [World.cell?_setCell_same _ _ _ hy] at h
    injection h with h
    exact hv _ h
  · rw [World.cell?_setCell_other _ _ _ _ (by intro h; injection h; omega)] at h
    exact hg j x h
theorem fracOf_false {l k : List Nat} (h : natB l = false ∨ natB k = false ∨ k = []) : fracOf l k = none := by
  unfold fracOf
  rw [if_neg]
  rintro ⟨h1, h2, h3, -⟩
  rcases h with h | h | h
  · rw [h] at h1; cases h1
  · rw [h] at h2; cases h2
  · subst h; exact h3 rfl
theorem len_one {y n : Nat} (h : (lm y).length = n) : (y = 1) ↔ n = 1 ∧ (lm y)[0]? = some 1 := by
  constructor
  · rintro rfl; rw [lm_one] at h ⊢; exact ⟨h.symm, rfl⟩
  · rintro ⟨rfl, h2⟩
    obtain ⟨h3, -, -⟩ := lm_len1 h
    rw [h3] at h2
    injection h2
theorem lm_pos_len {x n : Nat} (h : 0 < x) (hl : (lm x).length = n) : 0 < n := by
  rcases Nat.eq_zero_or_pos n with h0 | h0
  · rw [h0] at hl
    have := lm_eq_nil.1 (List.eq_nil_of_length_eq_zero hl)
    omega
  · exact h0
set_option maxRecDepth 100000 in
set_option maxHeartbeats 4000000 in
theorem fcheck_any (w : World) (a : Fa) (l k : List Nat) (hq : Fq w a l k) :
    Calls Try.prog 41 #[.agg #[.slice a.A a.n a.c, .slice a.B a.m a.d]] w fun e w' => e = .returned (.bool (fracOf l k).isSome) ∧ Below w.heap.size w w' := by
  have HU := hide hq.u
  have HV := hide hq.v
  have hn := hq.n
  have hm := hq.m
  clear hq
  by_cases h1 : natB l = false
  · have HF := hide (fracOf_false (k := k) (.inl h1))
    have HB := hide h1
    clear h1
    go_enter Try.func41, Try.ntmps41
    go_wp2_with (go_at_call 68; refine (ncheck_any _ none a.A a.n a.c l (HU.out.alloc _) (by omega)).mono ?_; rintro e w' ⟨rfl, rfl⟩; rw [HB.out])

    refine bodyPost_ret (v := .bool false) (by simp [results, Try.results41, go_sem, *]) rfl ⟨by rw [HF.out]; rfl, (Below.refl _ _).alloc (Nat.le_refl _) _⟩
  · have h1' : natB l = true := by simpa using h1
    by_cases h2 : natB k = false
    · have HF := hide (fracOf_false (l := l) (.inr (.inl h2)))
      have HB := hide h1'
      have HC := hide h2
      clear h1 h1' h2
      go_enter Try.func41, Try.ntmps41
      go_wp2_with (first
        | (go_at_call 68; (with_reducible refine (ncheck_any _ none a.A a.n a.c l (HU.out.alloc _) (by omega)).mono ?_); rintro e w' ⟨rfl, rfl⟩; rw [HB.out])
        | (go_at_call 68; (refine (ncheck_any _ none a.B a.m a.d k (HV.out.alloc _) (by omega)).mono ?_); rintro e w' ⟨rfl, rfl⟩; rw [HC.out]))
      refine bodyPost_ret (v := .bool false) (by simp [results, Try.results41, go_sem, *]) rfl ⟨by rw [HF.out]; rfl, (Below.refl _ _).alloc (Nat.le_refl _) _⟩
    · have h2' : natB k = true := by simpa using h2
      have HB := hide h1'
      have HC := hide h2'
      have hl := (natB_iff.1 h1').2
      have hk := (natB_iff.1 h2').2
      have HL := hide hl
      have HK := hide hk
      by_cases h0 : a.m = 0
      · have hk0 : k = [] := List.eq_nil_of_length_eq_zero (HV.out.len.trans h0)
        have HF := hide (fracOf_false (l := l) (.inr (.inr hk0)))
        have d0 : ((a.m : Int) == 0) = true := by simp [h0]
        clear h0
        clear h1 h1' h2 h2' hl hk
        go_enter Try.func41, Try.ntmps41
        go_wp2_with (first
          | (go_at_call 68; (with_reducible refine (ncheck_any _ none a.A a.n a.c l (HU.out.alloc _) (by omega)).mono ?_); rintro e w' ⟨rfl, rfl⟩; rw [HB.out])
          | (go_at_call 68; (with_reducible refine (ncheck_any _ none a.B a.m a.d k (HV.out.alloc _) (by omega)).mono ?_); rintro e w' ⟨rfl, rfl⟩; rw [HC.out]))
        refine bodyPost_ret (v := .bool false) (by simp [results, Try.results41, go_sem, *]) rfl ⟨by rw [HF.out]; rfl, (Below.refl _ _).alloc (Nat.le_refl _) _⟩
      · have hk0 : lv k ≠ 0 := by
          intro h
          apply h0
          have := HV.out.len
          rw [hk, h, lm_zero] at this
          exact this.symm
        have d0 : ((a.m : Int) == 0) = false := by simp; omega
        have HF := hide (show fracOf l k = if Nat.gcd (lv l) (lv k) = 1 then some (mkRat (lv l) (lv k)) else none by
          unfold fracOf
          by_cases hg : Nat.gcd (lv l) (lv k) = 1
          · rw [if_pos ⟨h1', h2', hk0, hg⟩, if_pos hg]
          · rw [if_neg (fun h => hg h.2.2.2), if_neg hg])
        have HKP := hide (Nat.gcd_pos_of_pos_right (lv l) (Nat.pos_of_ne_zero hk0))
        have hn128 : a.n ≤ 128 := by have h3 := (natB_iff.1 h1').1; have h4 := HU.out.len; omega
        have hm128 : a.m ≤ 128 := by have h3 := (natB_iff.1 h2').1; have h4 := HV.out.len; omega
        clear h1 h1' h2 h2' hl hk hk0
        go_enter Try.func41, Try.ntmps41
        go_wp2_with (first
          | (go_at_call 68; (with_reducible refine (ncheck_any _ none a.A a.n a.c l (HU.out.alloc _) (by omega)).mono ?_); rintro e w' ⟨rfl, rfl⟩; rw [HB.out])
          | (go_at_call 68; (with_reducible refine (ncheck_any _ none a.B a.m a.d k (HV.out.alloc _) (by omega)).mono ?_); rintro e w' ⟨rfl, rfl⟩; rw [HC.out])
          | (go_at_call 69; refine (lgcd_any _ none none a.A a.n a.c a.B a.m a.d (lv l) (lv k) (by rw [← HL.out]; exact HU.out.alloc _) (by rw [← HK.out]; exact HV.out.alloc _) (by omega) (by omega)).mono ?_; rintro e w1 ⟨A1, m1, c1, rfl, hc1, hu1, hb1⟩; obtain ⟨b1, o1, x1, rfl, -, -, hx1, -, hce1⟩ := hu1.at (k := 0) (lm_pos_len HKP.out hu1.len); rw [Nat.add_zero] at hce1; have HX1 := hide hx1; have HU1 := hide hu1.len; have HB1 := hide (((Below.refl _ _).alloc (Nat.le_refl _) _).trans (hb1.mono (by simp)) : Below w.heap.size w w1); clear hu1 hb1 hx1))
        all_goals have HE := hide (len_one HU1.out)
        all_goals rw [HX1.out] at HE
        all_goals first
          | (refine bodyPost_ret (v := .bool ((x1 : Int) == 1)) (by simp [results, Try.results41, go_sem, *]) rfl ⟨?_, HB1.out⟩
             rw [HF.out]
             by_cases hx : x1 = 1
             · rw [if_pos (HE.out.2 ⟨by omega, by rw [hx]⟩)]
               simp [hx]
             · rw [if_neg (fun h => hx (by have := (HE.out.1 h).2; injection this))]
               have : ((x1 : Int) == 1) = false := by simp; omega
               rw [this]
               rfl)
          | (refine bodyPost_ret (v := .bool false) (by simp [results, Try.results41, go_sem, *]) rfl ⟨?_, HB1.out⟩
             rw [HF.out, if_neg (fun h => by have := (HE.out.1 h).1; omega)]
             rfl)
end Go.Proofs.Ytnofljgmkdommaa

/- Contracts: fraction.cross, Compare, Add, Sub, Mul. -/
namespace Go.Proofs.Ytnofljgmkdommaa
open Go.RowKit

theorem Fb.drew {w0 v : World} {a b : Fa} {l k l' k' : List Nat} (h : Fb w0 v a b l k l' k') : Fb w0 v.drew a b l k l' k' := h.drewN 1
theorem Rb.drew {v : World} {g : Nat} (h : Rb v g) : Rb v.drew g := h.drewN 1
set_option maxRecDepth 100000 in
set_option maxHeartbeats 8000000 in
theorem fcross_any (w : World) (a b : Fa) (r s : Rat) (hr : fitsR r = true) (hs : fitsR s = true) (ha : Fq w a (lm (rn r)) (lm r.den)) (hb : Fq w b (lm (rn s)) (lm s.den)) :
    Calls Try.prog 43 #[.agg #[.slice a.A a.n a.c, .slice a.B a.m a.d], .agg #[.slice b.A b.n b.c, .slice b.B b.m b.d]] w fun e w' => ∃ A1 m1 c1 A2 m2 c2, e = .returned (.tuple #[.slice A1 m1 c1, .slice A2 m2 c2]) ∧ m1 ≤ c1 ∧ m2 ≤ c2 ∧ m1 ≤ 256 ∧ m2 ≤ 256 ∧ Ul w' none A1 m1 (lm (rn r * s.den)) ∧ Ul w' none A2 m2 (lm (rn s * r.den)) ∧ Below w.heap.size w w' := by
  obtain ⟨hn1, hn2⟩ := ha.small hr
  obtain ⟨hn3, hn4⟩ := hb.small hs
  go_enter Try.func43, Try.ntmps43
  go_upto_region 1 with (fail)
  generalize hW : World.alloc (World.alloc w _) _ = v
  have HFB := hide (show Fb w v a b _ _ _ _ by rw [← hW]; exact Fb.mk0 ha hb _ _)
  obtain ⟨a0, a1, b0, b1⟩ := HFB.out.ca
  have hz := HFB.out.sz
  clear hW ha hb
  go_region_held3 (fun W => (W.cell? ⟨w.heap.size, 0, none⟩ = some (.slice a.A a.n a.c) ∧ W.cell? ⟨w.heap.size, 1, none⟩ = some (.slice a.B a.m a.d) ∧ W.cell? ⟨w.heap.size + 1, 0, none⟩ = some (.slice b.A b.n b.c) ∧ W.cell? ⟨w.heap.size + 1, 1, none⟩ = some (.slice b.B b.m b.d))) (first | with_reducible exact k2 | with_reducible exact k1 | exact ⟨a0, a1, b0, b1⟩) (first
    | (go_at_call 62; (with_reducible refine (lmul_any _ none none a.A a.n a.c b.B b.m b.d (rn r) s.den (by first | exact HFB.out.qa.u | exact HFB.out.drew.qa.u) (by first | exact HFB.out.qb.v | exact HFB.out.drew.qb.v) (by omega) (by omega)).mono ?_); rintro e w1 ⟨A1, m1, c1, rfl, hc1, hu1, hb1⟩; have HU1 := hide hu1; have HF1 := hide ((by first | exact HFB.out.below hb1 | exact HFB.out.drew.below hb1) : Fb w w1 a b _ _ _ _); have k1 := HF1.out.ca; clear hu1 hb1)
    | (go_at_call 62; (with_reducible refine (lmul_any _ none none b.A b.n b.c a.B a.m a.d (rn s) r.den (by first | exact HF1.out.qb.u | exact HF1.out.drew.qb.u) (by first | exact HF1.out.qa.v | exact HF1.out.drew.qa.v) (by omega) (by omega)).mono ?_); rintro e w2 ⟨A2, m2, c2, rfl, hc2, hu2, hb2⟩; have HU2 := hide hu2; have HU1b := hide (HU1.out.below hb2); have HF2 := hide (HF1.out.below hb2); have k2 := HF2.out.ca; clear hu2 hb2))
  go_wp2_with fail
  have HB := hide ((HF2.out.bw) : Below w.heap.size w w2)
  have hl1 := lm_length_mul (rn r) s.den
  have hl2 := lm_length_mul (rn s) r.den
  rw [HU1.out.len] at hl1
  rw [HU2.out.len] at hl2
  simp only [fitsR, Bool.and_eq_true, decide_eq_true_eq] at hr hs
  go_ret2
  exact ⟨A1, m1, c1, A2, m2, c2, rfl, hc1, hc2, by omega, by omega, HU1b.out, HU2.out, HB.out⟩
theorem cmpO_none_l (o : Option Rat) : cmpO none o = 0 := rfl
theorem cmpO_none_r (o : Option Rat) : cmpO o none = 0 := by cases o <;> rfl
set_option maxRecDepth 100000 in
set_option maxHeartbeats 8000000 in
theorem fcmp_any (w : World) (a b : Fa) (l k l' k' : List Nat) (ha : Fq w a l k) (hb : Fq w b l' k') :
    Calls Try.prog 19 #[.agg #[.slice a.A a.n a.c, .slice a.B a.m a.d], .agg #[.slice b.A b.n b.c, .slice b.B b.m b.d]] w fun e w' => e = .returned (.int .i64 (cmpO (fracOf l k) (fracOf l' k'))) ∧ Below w.heap.size w w' := by
  have hn1 := ha.n
  have hn2 := ha.m
  have hn3 := hb.n
  have hn4 := hb.m
  rcases hA : fracOf l k with _ | r
  · have HA := hide hA
    clear hA
    go_enter Try.func19, Try.ntmps19
    go_upto_region 1 with (fail)
    generalize hW : World.alloc (World.alloc w _) _ = v
    have HFB := hide (show Fb w v a b _ _ _ _ by rw [← hW]; exact Fb.mk0 ha hb _ _)
    obtain ⟨a0, a1, b0, b1⟩ := HFB.out.ca
    have hz := HFB.out.sz
    clear hW ha hb
    go_wp2_with ((go_at_call 41; (with_reducible refine (fcheck_any _ a l k HFB.out.qa).mono ?_); rintro e w1 ⟨he, hb1⟩; rw [HA.out] at he; subst he; have HF1 := hide (HFB.out.below hb1); obtain ⟨c0, c1, c2, c3⟩ := HF1.out.ca; clear hb1))
    refine bodyPost_ret (v := .int .i64 0) (by simp [results, Try.results19, go_sem, *]) rfl ⟨by rw [cmpO_none_l], HF1.out.bw⟩
  · rcases hB : fracOf l' k' with _ | s
    · have HA := hide hA
      have HB := hide hB
      clear hA hB
      go_enter Try.func19, Try.ntmps19
      go_upto_region 1 with (fail)
      generalize hW : World.alloc (World.alloc w _) _ = v
      have HFB := hide (show Fb w v a b _ _ _ _ by rw [← hW]; exact Fb.mk0 ha hb _ _)
      obtain ⟨a0, a1, b0, b1⟩ := HFB.out.ca
      have hz := HFB.out.sz
      clear hW ha hb
      go_wp2_with (first | (go_at_call 41; (with_reducible refine (fcheck_any _ a l k HFB.out.qa).mono ?_); rintro e w1 ⟨he, hb1⟩; rw [HA.out] at he; subst he; have HF1 := hide (HFB.out.below hb1); obtain ⟨c0, c1, c2, c3⟩ := HF1.out.ca; clear hb1) | (go_at_call 41; (with_reducible refine (fcheck_any _ b l' k' HF1.out.qb).mono ?_); rintro e w2 ⟨he, hb2⟩; rw [HB.out] at he; subst he; have HF2 := hide (HF1.out.below hb2); obtain ⟨e0, e1, e2, e3⟩ := HF2.out.ca; clear hb2))
      refine bodyPost_ret (v := .int .i64 0) (by simp [results, Try.results19, go_sem, *]) rfl ⟨by rw [cmpO_none_r], HF2.out.bw⟩
    · have HA := hide hA
      have HB := hide hB
      obtain ⟨rfl, rfl, hr0, hr⟩ := fracOf_some hA
      obtain ⟨rfl, rfl, hs0, hs⟩ := fracOf_some hB
      obtain ⟨hz1, hz2⟩ := Fq.small ha hr
      obtain ⟨hz3, hz4⟩ := Fq.small hb hs
      clear hA hB
      have HC := hide (cmp_eq hr0 hs0)
      go_enter Try.func19, Try.ntmps19
      go_upto_region 1 with (fail)
      generalize hW : World.alloc (World.alloc w _) _ = v
      have HFB := hide (show Fb w v a b _ _ _ _ by rw [← hW]; exact Fb.mk0 ha hb _ _)
      obtain ⟨a0, a1, b0, b1⟩ := HFB.out.ca
      have hz := HFB.out.sz
      clear hW ha hb
      go_wp2_with (first
        | (go_at_call 41; (with_reducible refine (fcheck_any _ a _ _ HFB.out.qa).mono ?_); rintro e w1 ⟨he, hb1⟩; rw [HA.out] at he; subst he; have HF1 := hide (HFB.out.below hb1); obtain ⟨c0, c1, c2, c3⟩ := HF1.out.ca; clear hb1)
        | (go_at_call 41; (with_reducible refine (fcheck_any _ b _ _ HF1.out.qb).mono ?_); rintro e w2 ⟨he, hb2⟩; rw [HB.out] at he; subst he; have HF2 := hide (HF1.out.below hb2); obtain ⟨e0, e1, e2, e3⟩ := HF2.out.ca; clear hb2)
        | (go_at_call 43; refine (fcross_any _ a b r s hr hs HF2.out.qa HF2.out.qb).mono ?_; rintro e w3 ⟨A1, m1, d1, A2, m2, d2, rfl, h1, h2, h3, h4, hu1, hu2, hb3⟩; have HU1 := hide hu1; have HU2 := hide hu2; have HF3 := hide (HF2.out.below hb3); clear hu1 hu2 hb3)
        | (go_at_call 42; refine (lcmp_any _ none none A1 m1 d1 A2 m2 d2 _ _ HU1.out HU2.out (by omega) (by omega)).mono ?_; rintro e w4 ⟨he, hd⟩; rw [HC.out] at he; subst he; have HD := hide hd; clear hd))
      refine bodyPost_ret (v := .int .i64 (cmpQ r s)) (by simp [results, Try.results19, go_sem, *]) rfl ⟨rfl, HF3.out.bw.trans (HD.out.below.mono HF3.out.bw.size)⟩
end Go.Proofs.Ytnofljgmkdommaa

/- Contracts: fraction.Add, Mul, Sub, Div. -/
namespace Go.Proofs.Ytnofljgmkdommaa
open Go.RowKit

theorem keep_put {w W : World} {a b : Fa} {g : Nat} {x y : Value} (h1 : w.heap.size + 1 < g) (h : (W.cell? ⟨w.heap.size, 0, none⟩ = some (.slice a.A a.n a.c) ∧ W.cell? ⟨w.heap.size, 1, none⟩ = some (.slice a.B a.m a.d) ∧ W.cell? ⟨w.heap.size + 1, 0, none⟩ = some (.slice b.A b.n b.c) ∧ W.cell? ⟨w.heap.size + 1, 1, none⟩ = some (.slice b.B b.m b.d))) : (((W.setCell ⟨g, 0, none⟩ x).setCell ⟨g, 1, none⟩ y).cell? ⟨w.heap.size, 0, none⟩ = some (.slice a.A a.n a.c) ∧ ((W.setCell ⟨g, 0, none⟩ x).setCell ⟨g, 1, none⟩ y).cell? ⟨w.heap.size, 1, none⟩ = some (.slice a.B a.m a.d) ∧ ((W.setCell ⟨g, 0, none⟩ x).setCell ⟨g, 1, none⟩ y).cell? ⟨w.heap.size + 1, 0, none⟩ = some (.slice b.A b.n b.c) ∧ ((W.setCell ⟨g, 0, none⟩ x).setCell ⟨g, 1, none⟩ y).cell? ⟨w.heap.size + 1, 1, none⟩ = some (.slice b.B b.m b.d)) := by
  refine ⟨?_, ?_, ?_, ?_⟩ <;> rw [World.cell?_setCell_other _ _ _ _ (by intro h; injection h; omega), World.cell?_setCell_other _ _ _ _ (by intro h; injection h; omega)]
  · exact h.1
  · exact h.2.1
  · exact h.2.2.1
  · exact h.2.2.2
theorem opR_none_l (f : Rat → Rat → Option Rat × Int) (o : Option Rat) : opR f none o = (none, 1) := rfl
theorem opR_none_r (f : Rat → Rat → Option Rat × Int) (o : Option Rat) : opR f o none = (none, 1) := by cases o <;> rfl
/-- What an operation returns. -/
def Ret (w : World) (x : Option Rat × Int) (e : Ending) (w' : World) : Prop := ∃ c : Fa, e = .returned (.tuple #[.agg #[.slice c.A c.n c.c, .slice c.B c.m c.d], .int .i64 x.2]) ∧ Fo w' c x.1 ∧ Below w.heap.size w w'
theorem Rb.end0 {w v : World} {g : Nat} (h : Below w.heap.size w v) (hg : w.heap.size ≤ g) (x y : Value) : Below w.heap.size w ((v.setCell ⟨g, 0, none⟩ x).setCell ⟨g, 1, none⟩ y) := (h.setCell hg _).setCell hg _
theorem Fo.put2 {w : World} {a : Fa} {o : Option Rat} (h : Fo w a o) {g : Nat} (hg : NB w g) (x y : Value) (hx : ∀ i, x ≠ .int .u32 i) : Fo ((w.setCell ⟨g, 0, none⟩ x).setCell ⟨g, 1, none⟩ y) a o := (h.put hg _ _).put (hg.put _ hx) _ _
set_option maxRecDepth 100000 in
set_option maxHeartbeats 8000000 in
theorem fmul_any (w : World) (a b : Fa) (l k l' k' : List Nat) (ha : Fq w a l k) (hb : Fq w b l' k') :
    Calls Try.prog 45 #[.agg #[.slice a.A a.n a.c, .slice a.B a.m a.d], .agg #[.slice b.A b.n b.c, .slice b.B b.m b.d]] w fun e w' => Ret w (mulR (fracOf l k) (fracOf l' k')) e w' := by
  have hn1 := ha.n
  have hn2 := ha.m
  have hn3 := hb.n
  have hn4 := hb.m
  rcases hA : fracOf l k with _ | r
  · have HA := hide hA
    clear hA
    go_enter Try.func45, Try.ntmps45
    go_upto_region 1 with (fail)
    generalize hW : World.alloc (World.alloc (World.alloc w _) _) _ = v
    have HFB := hide (show Fb w v a b _ _ _ _ by rw [← hW]; exact (Fb.mk0 ha hb _ _).below ((Below.refl _ _).alloc (Nat.le_refl _) _))
    have HRB := hide (show Rb v (w.heap.size + 2) by rw [← hW]; exact Rb.mk0 _ (by simp))
    obtain ⟨a0, a1, b0, b1⟩ := HFB.out.ca
    obtain ⟨r0, r1, rf, rz, -⟩ := HRB.out
    have hz := HFB.out.sz
    clear hW ha hb
    go_wp2_with (go_at_call 41; (with_reducible refine (fcheck_any _ a l k HFB.out.qa).mono ?_); rintro e w1 ⟨he, hb1⟩; rw [HA.out] at he; subst he; have HF1 := hide (HFB.out.below hb1); have HR1 := hide (HRB.out.below hb1); obtain ⟨c0, c1, c2, c3⟩ := HF1.out.ca; obtain ⟨x0, x1, x2, x3, -⟩ := HR1.out; clear hb1)
    refine bodyPost_ret (v := .tuple #[.agg #[.slice none 0 0, .slice none 0 0], .int .i64 1]) (by simp [results, Try.results45, go_sem, *]) rfl ⟨⟨none, 0, 0, none, 0, 0⟩, by rw [mulR, opR_none_l], by rw [mulR, opR_none_l]; exact Fo.nil _, Rb.end0 HF1.out.bw (by omega) _ _⟩
  · rcases hB : fracOf l' k' with _ | s
    · have HA := hide hA
      have HB := hide hB
      clear hA hB
      go_enter Try.func45, Try.ntmps45
      go_upto_region 1 with (fail)
      generalize hW : World.alloc (World.alloc (World.alloc w _) _) _ = v
      have HFB := hide (show Fb w v a b _ _ _ _ by rw [← hW]; exact (Fb.mk0 ha hb _ _).below ((Below.refl _ _).alloc (Nat.le_refl _) _))
      have HRB := hide (show Rb v (w.heap.size + 2) by rw [← hW]; exact Rb.mk0 _ (by simp))
      obtain ⟨a0, a1, b0, b1⟩ := HFB.out.ca
      obtain ⟨r0, r1, rf, rz, -⟩ := HRB.out
      have hz := HFB.out.sz
      clear hW ha hb
      go_wp2_with (first | (go_at_call 41; (with_reducible refine (fcheck_any _ a l k HFB.out.qa).mono ?_); rintro e w1 ⟨he, hb1⟩; rw [HA.out] at he; subst he; have HF1 := hide (HFB.out.below hb1); have HR1 := hide (HRB.out.below hb1); obtain ⟨c0, c1, c2, c3⟩ := HF1.out.ca; obtain ⟨x0, x1, x2, x3, -⟩ := HR1.out; clear hb1) | (go_at_call 41; (with_reducible refine (fcheck_any _ b l' k' HF1.out.qb).mono ?_); rintro e w2 ⟨he, hb2⟩; rw [HB.out] at he; subst he; have HF2 := hide (HF1.out.below hb2); have HR2 := hide (HR1.out.below hb2); obtain ⟨e0, e1, e2, e3⟩ := HF2.out.ca; obtain ⟨y0, y1, y2, y3, -⟩ := HR2.out; clear hb2))
      refine bodyPost_ret (v := .tuple #[.agg #[.slice none 0 0, .slice none 0 0], .int .i64 1]) (by simp [results, Try.results45, go_sem, *]) rfl ⟨⟨none, 0, 0, none, 0, 0⟩, by rw [mulR, opR_none_r], by rw [mulR, opR_none_r]; exact Fo.nil _, Rb.end0 HF2.out.bw (by omega) _ _⟩
    · have HA := hide hA
      have HB := hide hB
      obtain ⟨rfl, rfl, hr0, hr⟩ := fracOf_some hA
      obtain ⟨rfl, rfl, hs0, hs⟩ := fracOf_some hB
      obtain ⟨hz1, hz2⟩ := Fq.small ha hr
      obtain ⟨hz3, hz4⟩ := Fq.small hb hs
      clear hA hB
      have HM := hide (mk_mul hr0 hs0)
      have hdp : 0 < r.den * s.den := Nat.mul_pos r.den_pos s.den_pos
      go_enter Try.func45, Try.ntmps45
      go_upto_region 1 with (fail)
      generalize hW : World.alloc (World.alloc (World.alloc w _) _) _ = v
      have HFB := hide (show Fb w v a b _ _ _ _ by rw [← hW]; exact (Fb.mk0 ha hb _ _).below ((Below.refl _ _).alloc (Nat.le_refl _) _))
      have HRB := hide (show Rb v (w.heap.size + 2) by rw [← hW]; exact Rb.mk0 _ (by simp))
      obtain ⟨a0, a1, b0, b1⟩ := HFB.out.ca
      obtain ⟨r0, r1, rf, rz, -⟩ := HRB.out
      have hz := HFB.out.sz
      clear hW ha hb
      go_upto_region 3 with (first | (go_at_call 41; (with_reducible refine (fcheck_any _ a _ _ HFB.out.qa).mono ?_); rintro e w1 ⟨he, hb1⟩; rw [HA.out] at he; subst he; have HF1 := hide (HFB.out.below hb1); have HR1 := hide (HRB.out.below hb1); obtain ⟨c0, c1, c2, c3⟩ := HF1.out.ca; obtain ⟨x0, x1, x2, x3, -⟩ := HR1.out; clear hb1) | (go_at_call 41; (with_reducible refine (fcheck_any _ b _ _ HF1.out.qb).mono ?_); rintro e w2 ⟨he, hb2⟩; rw [HB.out] at he; subst he; have HF2 := hide (HF1.out.below hb2); have HR2 := hide (HR1.out.below hb2); obtain ⟨e0, e1, e2, e3⟩ := HF2.out.ca; obtain ⟨y0, y1, y2, y3, -⟩ := HR2.out; clear hb2))
      go_region_held3 (fun W => (W.cell? ⟨w.heap.size, 0, none⟩ = some (.slice a.A a.n a.c) ∧ W.cell? ⟨w.heap.size, 1, none⟩ = some (.slice a.B a.m a.d) ∧ W.cell? ⟨w.heap.size + 1, 0, none⟩ = some (.slice b.A b.n b.c) ∧ W.cell? ⟨w.heap.size + 1, 1, none⟩ = some (.slice b.B b.m b.d))) (first | with_reducible exact keep_put (Nat.lt_succ_self _) k5 | with_reducible exact k5 | with_reducible exact k4 | with_reducible exact k3 | exact ⟨e0, e1, e2, e3⟩) (first
        | (go_at_call 62; (with_reducible refine (lmul_any _ none none a.A a.n a.c b.A b.n b.c (rn r) (rn s) (by first | exact HF2.out.qa.u | exact HF2.out.drew.qa.u) (by first | exact HF2.out.qb.u | exact HF2.out.drew.qb.u) (by omega) (by omega)).mono ?_); rintro e w3 ⟨A1, m1, d1, rfl, hd1, hu1, hb3⟩; have HU1 := hide hu1; have HF3 := hide ((by first | exact HF2.out.below hb3 | exact HF2.out.drew.below hb3) : Fb w w3 a b _ _ _ _); have HR3 := hide ((by first | exact HR2.out.below hb3 | exact HR2.out.drew.below hb3) : Rb w3 (w.heap.size + 2)); have k3 := HF3.out.ca; clear hu1 hb3)
        | (go_at_call 62; (with_reducible refine (lmul_any _ none none a.B a.m a.d b.B b.m b.d r.den s.den (by first | exact HF3.out.qa.v | exact HF3.out.drew.qa.v) (by first | exact HF3.out.qb.v | exact HF3.out.drew.qb.v) (by omega) (by omega)).mono ?_); rintro e w4 ⟨A2, m2, d2, rfl, hd2, hu2, hb4⟩; have HU2 := hide hu2; have HU1b := hide (HU1.out.below hb4); have HF4 := hide (HF3.out.below hb4); have HR4 := hide (HR3.out.below hb4); have k4 := HF4.out.ca; have hl1 := lm_length_mul (rn r) (rn s); have hl2 := lm_length_mul r.den s.den; rw [HU1b.out.len] at hl1; rw [hu2.len] at hl2; simp only [fitsR, Bool.and_eq_true, decide_eq_true_eq] at hr hs; have hm1 : m1 ≤ 1000 := (by omega); have hm2 : m2 ≤ 1000 := (by omega); clear hu2 hb4 hl1 hl2)
        | (go_at_call 60; (with_reducible refine (fexact_any _ none none A1 m1 d1 A2 m2 d2 _ _ HU1b.out HU2.out hm1 hm2 hdp).mono ?_); rintro e w5 ⟨c, er, rfl, her, ho, hb5⟩; rw [HM.out] at her ho; have HER := her; have HO := ho; have HF5 := hide (HF4.out.below hb5); have HR5 := hide (HR4.out.below hb5); have k5 := HF5.out.ca; obtain ⟨z0, z1, z2, z3, -⟩ := HR5.out; clear her ho hb5))
      have HX := hide (show mulR (some r) (some s) = limR (r * s) from rfl)
      go_wp2_with fail
      refine bodyPost_ret (v := .tuple #[.agg #[.slice c.A c.n c.c, .slice c.B c.m c.d], .int .i64 er]) (by simp [results, Try.results45, go_sem, *]) rfl ⟨c, by rw [HX.out, ← HER.out], by rw [HX.out]; exact HO.out.put2 HR5.out.nb _ _ (by simp), Rb.end0 HF5.out.bw (by omega) _ _⟩
set_option maxRecDepth 100000 in
set_option maxHeartbeats 8000000 in
theorem fadd_any (w : World) (a b : Fa) (l k l' k' : List Nat) (ha : Fq w a l k) (hb : Fq w b l' k') :
    Calls Try.prog 36 #[.agg #[.slice a.A a.n a.c, .slice a.B a.m a.d], .agg #[.slice b.A b.n b.c, .slice b.B b.m b.d]] w fun e w' => Ret w (addR (fracOf l k) (fracOf l' k')) e w' := by
  have hn1 := ha.n
  have hn2 := ha.m
  have hn3 := hb.n
  have hn4 := hb.m
  rcases hA : fracOf l k with _ | r
  · have HA := hide hA
    clear hA
    go_enter Try.func36, Try.ntmps36
    go_upto_region 1 with (fail)
    generalize hW : World.alloc (World.alloc (World.alloc w _) _) _ = v
    have HFB := hide (show Fb w v a b _ _ _ _ by rw [← hW]; exact (Fb.mk0 ha hb _ _).below ((Below.refl _ _).alloc (Nat.le_refl _) _))
    have HRB := hide (show Rb v (w.heap.size + 2) by rw [← hW]; exact Rb.mk0 _ (by simp))
    obtain ⟨a0, a1, b0, b1⟩ := HFB.out.ca
    obtain ⟨r0, r1, rf, rz, -⟩ := HRB.out
    have hz := HFB.out.sz
    clear hW ha hb
    go_wp2_with (go_at_call 41; (with_reducible refine (fcheck_any _ a l k HFB.out.qa).mono ?_); rintro e w1 ⟨he, hb1⟩; rw [HA.out] at he; subst he; have HF1 := hide (HFB.out.below hb1); have HR1 := hide (HRB.out.below hb1); obtain ⟨c0, c1, c2, c3⟩ := HF1.out.ca; obtain ⟨x0, x1, x2, x3, -⟩ := HR1.out; clear hb1)
    refine bodyPost_ret (v := .tuple #[.agg #[.slice none 0 0, .slice none 0 0], .int .i64 1]) (by simp [results, Try.results36, go_sem, *]) rfl ⟨⟨none, 0, 0, none, 0, 0⟩, by rw [addR, opR_none_l], by rw [addR, opR_none_l]; exact Fo.nil _, Rb.end0 HF1.out.bw (by omega) _ _⟩
  · rcases hB : fracOf l' k' with _ | s
    · have HA := hide hA
      have HB := hide hB
      clear hA hB
      go_enter Try.func36, Try.ntmps36
      go_upto_region 1 with (fail)
      generalize hW : World.alloc (World.alloc (World.alloc w _) _) _ = v
      have HFB := hide (show Fb w v a b _ _ _ _ by rw [← hW]; exact (Fb.mk0 ha hb _ _).below ((Below.refl _ _).alloc (Nat.le_refl _) _))
      have HRB := hide (show Rb v (w.heap.size + 2) by rw [← hW]; exact Rb.mk0 _ (by simp))
      obtain ⟨a0, a1, b0, b1⟩ := HFB.out.ca
      obtain ⟨r0, r1, rf, rz, -⟩ := HRB.out
      have hz := HFB.out.sz
      clear hW ha hb
      go_wp2_with (first | (go_at_call 41; (with_reducible refine (fcheck_any _ a l k HFB.out.qa).mono ?_); rintro e w1 ⟨he, hb1⟩; rw [HA.out] at he; subst he; have HF1 := hide (HFB.out.below hb1); have HR1 := hide (HRB.out.below hb1); obtain ⟨c0, c1, c2, c3⟩ := HF1.out.ca; obtain ⟨x0, x1, x2, x3, -⟩ := HR1.out; clear hb1) | (go_at_call 41; (with_reducible refine (fcheck_any _ b l' k' HF1.out.qb).mono ?_); rintro e w2 ⟨he, hb2⟩; rw [HB.out] at he; subst he; have HF2 := hide (HF1.out.below hb2); have HR2 := hide (HR1.out.below hb2); obtain ⟨e0, e1, e2, e3⟩ := HF2.out.ca; obtain ⟨y0, y1, y2, y3, -⟩ := HR2.out; clear hb2))
      refine bodyPost_ret (v := .tuple #[.agg #[.slice none 0 0, .slice none 0 0], .int .i64 1]) (by simp [results, Try.results36, go_sem, *]) rfl ⟨⟨none, 0, 0, none, 0, 0⟩, by rw [addR, opR_none_r], by rw [addR, opR_none_r]; exact Fo.nil _, Rb.end0 HF2.out.bw (by omega) _ _⟩
    · have HA := hide hA
      have HB := hide hB
      obtain ⟨rfl, rfl, hr0, hr⟩ := fracOf_some hA
      obtain ⟨rfl, rfl, hs0, hs⟩ := fracOf_some hB
      obtain ⟨hz1, hz2⟩ := Fq.small ha hr
      obtain ⟨hz3, hz4⟩ := Fq.small hb hs
      clear hA hB
      have HM := hide (mk_add hr0 hs0)
      have hdp : 0 < r.den * s.den := Nat.mul_pos r.den_pos s.den_pos
      go_enter Try.func36, Try.ntmps36
      go_upto_region 1 with (fail)
      generalize hW : World.alloc (World.alloc (World.alloc w _) _) _ = v
      have HFB := hide (show Fb w v a b _ _ _ _ by rw [← hW]; exact (Fb.mk0 ha hb _ _).below ((Below.refl _ _).alloc (Nat.le_refl _) _))
      have HRB := hide (show Rb v (w.heap.size + 2) by rw [← hW]; exact Rb.mk0 _ (by simp))
      obtain ⟨a0, a1, b0, b1⟩ := HFB.out.ca
      obtain ⟨r0, r1, rf, rz, -⟩ := HRB.out
      have hz := HFB.out.sz
      clear hW ha hb
      go_upto_region 3 with (first | (go_at_call 41; (with_reducible refine (fcheck_any _ a _ _ HFB.out.qa).mono ?_); rintro e w1 ⟨he, hb1⟩; rw [HA.out] at he; subst he; have HF1 := hide (HFB.out.below hb1); have HR1 := hide (HRB.out.below hb1); obtain ⟨c0, c1, c2, c3⟩ := HF1.out.ca; obtain ⟨x0, x1, x2, x3, -⟩ := HR1.out; clear hb1) | (go_at_call 41; (with_reducible refine (fcheck_any _ b _ _ HF1.out.qb).mono ?_); rintro e w2 ⟨he, hb2⟩; rw [HB.out] at he; subst he; have HF2 := hide (HF1.out.below hb2); have HR2 := hide (HR1.out.below hb2); obtain ⟨e0, e1, e2, e3⟩ := HF2.out.ca; obtain ⟨y0, y1, y2, y3, -⟩ := HR2.out; clear hb2))
      go_region_held3 (fun W => (W.cell? ⟨w.heap.size, 0, none⟩ = some (.slice a.A a.n a.c) ∧ W.cell? ⟨w.heap.size, 1, none⟩ = some (.slice a.B a.m a.d) ∧ W.cell? ⟨w.heap.size + 1, 0, none⟩ = some (.slice b.A b.n b.c) ∧ W.cell? ⟨w.heap.size + 1, 1, none⟩ = some (.slice b.B b.m b.d))) (first | with_reducible exact keep_put (Nat.lt_succ_self _) k5 | with_reducible exact k5 | with_reducible exact k4 | with_reducible exact k7 | with_reducible exact k3 | exact ⟨e0, e1, e2, e3⟩) (first
        | (go_at_call 43; (with_reducible refine (fcross_any _ a b r s hr hs (by first | exact HF2.out.qa | exact HF2.out.drew.qa) (by first | exact HF2.out.qb | exact HF2.out.drew.qb)).mono ?_); rintro e w3 ⟨A3, m3, d3, A4, m4, d4, rfl, h1, h2, h3, h4, hu3, hu4, hb3⟩; have HU3 := hide hu3; have HU4 := hide hu4; have HF3 := hide ((by first | exact HF2.out.below hb3 | exact HF2.out.drew.below hb3) : Fb w w3 a b _ _ _ _); have HR3 := hide ((by first | exact HR2.out.below hb3 | exact HR2.out.drew.below hb3) : Rb w3 (w.heap.size + 2)); have k3 := HF3.out.ca; clear hu3 hu4 hb3)
        | (go_at_call 61; (with_reducible refine (ladd_any _ none none A3 m3 d3 A4 m4 d4 _ _ HU3.out HU4.out (by omega) (by omega)).mono ?_); rintro e w7 ⟨A1, m1, d1, rfl, hd1, hu1, hb7⟩; have hl1 := lm_length_add (rn r * s.den) (rn s * r.den); rw [hu1.len, HU3.out.len, HU4.out.len] at hl1; have HU1 := hide hu1; have HF7 := hide (HF3.out.below hb7); have HR7 := hide (HR3.out.below hb7); have k7 := HF7.out.ca; have hm1 : m1 ≤ 1000 := (by omega); clear hu1 hb7 hl1)
        | (go_at_call 62; (with_reducible refine (lmul_any _ none none a.B a.m a.d b.B b.m b.d r.den s.den HF7.out.qa.v HF7.out.qb.v (by omega) (by omega)).mono ?_); rintro e w4 ⟨A2, m2, d2, rfl, hd2, hu2, hb4⟩; have HU2 := hide hu2; have HU1b := hide (HU1.out.below hb4); have HF4 := hide (HF7.out.below hb4); have HR4 := hide (HR7.out.below hb4); have k4 := HF4.out.ca; have hl2 := lm_length_mul r.den s.den; rw [hu2.len] at hl2; simp only [fitsR, Bool.and_eq_true, decide_eq_true_eq] at hr hs; have hm2 : m2 ≤ 1000 := (by omega); clear hu2 hb4 hl2)
        | (go_at_call 60; (with_reducible refine (fexact_any _ none none A1 m1 d1 A2 m2 d2 _ _ HU1b.out HU2.out hm1 hm2 hdp).mono ?_); rintro e w5 ⟨c, er, rfl, her, ho, hb5⟩; rw [HM.out] at her ho; have HER := her; have HO := ho; have HF5 := hide (HF4.out.below hb5); have HR5 := hide (HR4.out.below hb5); have k5 := HF5.out.ca; obtain ⟨z0, z1, z2, z3, -⟩ := HR5.out; clear her ho hb5))
      have HX := hide (show addR (some r) (some s) = limR (r + s) from rfl)
      go_wp2_with fail
      refine bodyPost_ret (v := .tuple #[.agg #[.slice c.A c.n c.c, .slice c.B c.m c.d], .int .i64 er]) (by simp [results, Try.results36, go_sem, *]) rfl ⟨c, by rw [HX.out, ← HER.out], by rw [HX.out]; exact HO.out.put2 HR5.out.nb _ _ (by simp), Rb.end0 HF5.out.bw (by omega) _ _⟩
end Go.Proofs.Ytnofljgmkdommaa

/- Contracts: fraction.Sub. -/
namespace Go.Proofs.Ytnofljgmkdommaa
open Go.RowKit

end Go.Proofs.Ytnofljgmkdommaa
