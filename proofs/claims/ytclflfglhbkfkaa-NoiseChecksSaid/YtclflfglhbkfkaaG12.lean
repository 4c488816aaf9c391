/- Contracts of the functions that these laws reach: part 12: Contracts: SameNat, SameFrac, and the law's one and known; Contracts: the tape beside limbs; Chance, Inner, Two; Contracts: Inner, Two; Words for the laws: a slice of ints that came in, the tape over it; Words for the laws on chances: boxes of fractions, the tape, folded numbers; Contracts: noise.Choose. -/
import Derived.Test.YtclflfglhbkfkaaG11
import Derived.Test.YtclflfglhbkfkaaG3
set_option linter.unusedVariables false
set_option linter.unusedSimpArgs false

/- Contracts: SameNat, SameFrac, and the law's one and known. -/
namespace Go.Proofs.Ytclflfglhbkfkaa
open Go.RowKit

theorem ul_at {w : World} {A : Option Addr} {n : Nat} {l : List Nat} (h : Ul w none A n l) {k : Nat} (hk : k < n) : ∃ b o x, A = some ⟨b, o, none⟩ ∧ b < w.heap.size ∧ l[k]? = some x ∧ w.cell? ⟨b, o + k, none⟩ = some (.int .u32 (x : Int)) := by
  obtain ⟨b, o, x, h1, -, h3, h4, -, h6⟩ := h.at hk
  exact ⟨b, o, x, h1, h3, h4, h6⟩
set_option maxRecDepth 100000 in
set_option maxHeartbeats 4000000 in
theorem samenat_eq (w : World) (A B : Option Addr) (n c d : Nat) (l : List Nat) (hA : Ul w none A n l) (hB : Ul w none B n l) (hn : n ≤ 4294967296) :
    Calls Try.prog 27 #[.slice A n c, .slice B n d] w fun e w' => e = .returned (.bool true) ∧ Below w.heap.size w w' := by
  have HA := hide hA
  have HB := hide hB
  clear hA hB
  go_enter Try.func27, Try.ntmps27
  go_wp2_with fail
  go_loopw [5] (fun x wr => ∃ k m : Nat, k ≤ n ∧ x = .int .i64 k ∧ wr = w.drewN m) (fun x _ => n - (intOf x).toNat)
  case atStart => exact ⟨0, 0, by omega, rfl, rfl⟩
  case round =>
    obtain ⟨k, m, hk, rfl, rfl⟩ := hrel
    by_cases hlt : k < n
    · obtain ⟨b, o, x, rfl, hb, hx, hc⟩ := ul_at HA.out hlt
      obtain ⟨b2, o2, x2, rfl, hb2, hx2, hc2⟩ := ul_at HB.out hlt
      rw [hx] at hx2
      injection hx2 with hx2
      subst hx2
      have hi1 : (0 : Int) ≤ (k : Int) := by omega
      have hi2 : (k : Int) < (n : Int) := by omega
      clear hx
      go_wp2_with fail
      go_region_held3 (fun W => W.cell? ⟨b, o + k, none⟩ = some (.int .u32 (x : Int)) ∧ W.cell? ⟨b2, o2 + k, none⟩ = some (.int .u32 (x : Int))) (first | (go_keep; done) | ((try dsimp only); (repeat' apply And.intro) <;> first | (go_keep; done) | ((repeat rw [World.cell?_setCell_other _ _ _ _ (by intro h; injection h; omega)]); go_keep; done))) (fail)
      go_wp2_with fail
      go_roundw
      case rel => exact ⟨k + 1, m + 1, by omega, by go_num, rfl⟩
      case measure => simp [intOf]; omega
    · have hkn : decide ((k : Int) < (n : Int)) = false := by simp; omega
      go_wp2_with fail
      go_ret
      exact ⟨rfl, Dr.below ⟨m, rfl⟩⟩
theorem samenat_eq2 (w : World) (A B : Option Addr) (n m c d : Nat) (h : n = m) (l : List Nat) (hA : Ul w none A n l) (hB : Ul w none B m l) (hn : n ≤ 4294967296) :
    Calls Try.prog 27 #[.slice A n c, .slice B m d] w fun e w' => e = .returned (.bool true) ∧ Below w.heap.size w w' := by
  subst h
  exact samenat_eq w A B n c d l hA hB hn
/-- Two boxes. -/
structure F2 (w0 v : World) (a b : Fa) : Prop where
  bw : Below w0.heap.size w0 v
  c0 : v.cell? ⟨w0.heap.size, 0, none⟩ = some (.slice a.A a.n a.c)
  c1 : v.cell? ⟨w0.heap.size, 1, none⟩ = some (.slice a.B a.m a.d)
  d0 : v.cell? ⟨w0.heap.size + 1, 0, none⟩ = some (.slice b.A b.n b.c)
  d1 : v.cell? ⟨w0.heap.size + 1, 1, none⟩ = some (.slice b.B b.m b.d)
  sz : w0.heap.size + 1 < v.heap.size
theorem F2.below {w0 v v' : World} {a b : Fa} (h : F2 w0 v a b) (hb : Below v.heap.size v v') : F2 w0 v' a b := by
  have h1 := h.sz
  refine ⟨h.bw.trans (hb.mono h.bw.size), ?_, ?_, ?_, ?_, Nat.lt_of_lt_of_le h.sz hb.size⟩
  · rw [hb.cell (by simp; omega)]; exact h.c0
  · rw [hb.cell (by simp; omega)]; exact h.c1
  · rw [hb.cell (by simp; omega)]; exact h.d0
  · rw [hb.cell (by simp; omega)]; exact h.d1
theorem F2.mk0 {w0 : World} (a b : Fa) (t t' : TypeId) : F2 w0 ((w0.alloc (.cells #[.slice a.A a.n a.c, .slice a.B a.m a.d] t)).alloc (.cells #[.slice b.A b.n b.c, .slice b.B b.m b.d] t')) a b :=
  ⟨((Below.refl _ _).alloc (Nat.le_refl _) _).alloc (by simp) _, by simp [go_sem], by simp [go_sem], by simp [go_sem], by simp [go_sem], by simp⟩
set_option maxRecDepth 100000 in
set_option maxHeartbeats 4000000 in
theorem samefrac_eq (w : World) (a b : Fa) (o : Option Rat) (ha : Fo w a o) (hb : Fo w b o) :
    Calls Try.prog 22 #[.agg #[.slice a.A a.n a.c, .slice a.B a.m a.d], .agg #[.slice b.A b.n b.c, .slice b.B b.m b.d]] w fun e w' => e = .returned (.bool true) ∧ Below w.heap.size w w' := by
  have e1 : a.n = b.n := ha.1.u.len.symm.trans hb.1.u.len
  have e2 : a.m = b.m := ha.1.v.len.symm.trans hb.1.v.len
  have hn := ha.small.1
  have hm := ha.small.2
  have HE1 := hide e1
  have HE2 := hide e2
  clear e1 e2
  go_enter Try.func22, Try.ntmps22
  go_upto_region 1 with (fail)
  generalize hW : World.alloc (World.alloc w _) _ = v
  have HF := hide (show F2 w v a b by rw [← hW]; exact F2.mk0 a b _ _)
  have HA := hide (show Fq v a (numL o) (denL o) by rw [← hW]; exact (ha.1.alloc _).alloc _)
  have HB := hide (show Fq v b (numL o) (denL o) by rw [← hW]; exact (hb.1.alloc _).alloc _)
  clear hW ha hb
  obtain ⟨-, c0, c1, d0, d1, sz⟩ := HF.out
  go_wp2_with (first
    | (go_at_call 27; (with_reducible refine (samenat_eq2 _ a.A b.A a.n b.n a.c b.c HE1.out _ HA.out.u HB.out.u (by omega)).mono ?_); rintro e w1 ⟨rfl, hb⟩; have HF1 := hide (HF.out.below hb); have HA1 := hide (HA.out.below hb); have HB1 := hide (HB.out.below hb); obtain ⟨-, g0, g1, h0, h1, gz⟩ := HF1.out; clear hb)
    | (go_at_call 27; (with_reducible refine (samenat_eq2 _ a.B b.B a.m b.m a.d b.d HE2.out _ HA1.out.v HB1.out.v (by omega)).mono ?_); rintro e w2 ⟨rfl, hb⟩; have HF2 := hide (HF1.out.below hb); clear hb))
  go_ret
  exact ⟨rfl, HF2.out.bw⟩
set_option maxRecDepth 100000 in
set_option maxHeartbeats 4000000 in
theorem small11 (w : World) : Calls Try.prog 43 #[.int .i64 1, .int .i64 1] w fun e w' => Ret1 w (some (mkRat 1 1)) e w' := small_any w 1 1 (by omega) (by omega) (by omega)
theorem small13 (w : World) : Calls Try.prog 43 #[.int .i64 1, .int .i64 3] w fun e w' => Ret1 w (some (mkRat 1 3)) e w' := small_any w 1 3 (by omega) (by omega) (by omega)
theorem small49 (w : World) : Calls Try.prog 43 #[.int .i64 4, .int .i64 9] w fun e w' => Ret1 w (some (mkRat 4 9)) e w' := small_any w 4 9 (by omega) (by omega) (by omega)
theorem small127 (w : World) : Calls Try.prog 43 #[.int .i64 1, .int .i64 27] w fun e w' => Ret1 w (some (mkRat 1 27)) e w' := small_any w 1 27 (by omega) (by omega) (by omega)
theorem one_any (w : World) : Calls Try.prog 24 #[] w fun e w' => Ret1 w (some 1) e w' := by
  have HE := hide (show mkRat 1 1 = 1 from rfl)
  go_enter Try.func24, Try.ntmps24
  go_upto_region 1 with (fail)
  generalize hW : World.alloc w _ = v
  have HRB := hide (show Rb v w.heap.size by rw [← hW]; exact Rb.mk0 _ rfl)
  have HBV := hide (show Below w.heap.size w v by rw [← hW]; exact (Below.refl _ _).alloc (Nat.le_refl _) _)
  clear hW
  go_wp2_with (go_at_call 43; (with_reducible refine (small11 _).mono ?_); rintro e w1 ⟨c, rfl, ho, hb⟩; rw [HE.out] at ho; have HO := hide ho; have HR := hide (HRB.out.below hb); have HB := hide (HBV.out.trans (hb.mono HBV.out.size)); obtain ⟨r0, r1, rf, rz, -⟩ := HR.out; clear ho hb)
  refine bodyPost_ret (v := .agg #[.slice c.A c.n c.c, .slice c.B c.m c.d]) (by simp [results, Try.results24, go_sem, *]) rfl ⟨c, rfl, HO.out.put2 HR.out.nb _ _ (by simp), Rb.end0 HB.out (Nat.le_refl _) _ _⟩
theorem exactly_ok (w : World) (a : Fa) (r : Rat) (n : Nat) (m : Int) (ha : Fo w a (some r)) (hc : Chn r) (hn : n ≤ 32) : Calls Try.prog 17 #[.agg #[.slice a.A a.n a.c, .slice a.B a.m a.d], .int .i64 (n : Int), .int .i64 m] w fun e w' => RetV w (tot r n (fun j => decide ((j : Int) = m))) e w' := by
  have h := exactly_any w a _ _ (n : Int) m ha.1
  rw [fracOf_self ha.2] at h
  exact h.mono fun e w' h => h.ok (totR_ok hc hn)
theorem atleast_ok (w : World) (a : Fa) (r : Rat) (n : Nat) (m : Int) (ha : Fo w a (some r)) (hc : Chn r) (hn : n ≤ 32) : Calls Try.prog 13 #[.agg #[.slice a.A a.n a.c, .slice a.B a.m a.d], .int .i64 (n : Int), .int .i64 m] w fun e w' => RetV w (tot r n (fun j => decide (m ≤ (j : Int)))) e w' := by
  have h := atleast_any w a _ _ (n : Int) m ha.1
  rw [fracOf_self ha.2] at h
  exact h.mono fun e w' h => h.ok (totR_ok hc hn)
theorem atmost_ok (w : World) (a : Fa) (r : Rat) (n : Nat) (m : Int) (ha : Fo w a (some r)) (hc : Chn r) (hn : n ≤ 32) : Calls Try.prog 20 #[.agg #[.slice a.A a.n a.c, .slice a.B a.m a.d], .int .i64 (n : Int), .int .i64 m] w fun e w' => RetV w (tot r n (fun j => decide ((j : Int) ≤ m))) e w' := by
  have h := atmost_any w a _ _ (n : Int) m ha.1
  rw [fracOf_self ha.2] at h
  exact h.mono fun e w' h => h.ok (totR_ok hc hn)
theorem chn13 : Chn (mkRat 1 3) := ⟨by decide +kernel, by decide +kernel, by decide +kernel⟩
theorem exactly31 (w : World) (a : Fa) (ha : Fo w a (some (mkRat 1 3))) : Calls Try.prog 17 #[.agg #[.slice a.A a.n a.c, .slice a.B a.m a.d], .int .i64 3, .int .i64 1] w fun e w' => RetV w (mkRat 4 9) e w' := by
  have h := exactly_ok w a _ 3 1 ha chn13 (by omega)
  rwa [show tot (mkRat 1 3) 3 (fun j => decide ((j : Int) = 1)) = mkRat 4 9 by decide +kernel] at h
theorem atleast33 (w : World) (a : Fa) (ha : Fo w a (some (mkRat 1 3))) : Calls Try.prog 13 #[.agg #[.slice a.A a.n a.c, .slice a.B a.m a.d], .int .i64 3, .int .i64 3] w fun e w' => RetV w (mkRat 1 27) e w' := by
  have h := atleast_ok w a _ 3 3 ha chn13 (by omega)
  rwa [show tot (mkRat 1 3) 3 (fun j => decide (3 ≤ (j : Int))) = mkRat 1 27 by decide +kernel] at h
set_option maxRecDepth 100000 in
set_option maxHeartbeats 8000000 in
theorem known_any (w : World) : Calls Try.prog 15 #[] w fun e w' => e = .returned (.bool true) ∧ Below w.heap.size w w' := by
  go_enter Try.func15, Try.ntmps15
  go_upto_region 4 with (first
    | (go_at_call 43; (with_reducible refine (small13 _).mono ?_); rintro e w1 ⟨c1, rfl, ho, hb⟩; have HO1 := hide ho; have HB1 := hide hb; clear ho hb)
    | (go_at_call 17; (with_reducible refine (exactly31 _ c1 (HO1.out.alloc _)).mono ?_); rintro e w2 ⟨c2, rfl, ho, hb⟩; have HO2 := hide ho; have HX1 := hide ((Fx.mk0 HO1.out 26 rfl).below hb); have HB2 := hide ((HB1.out.alloc HB1.out.size _).trans (hb.mono (by have := HB1.out.size; simp; omega))); obtain ⟨x0, x1, xf, xz, -⟩ := HX1.out.b; clear ho hb)
    | (go_at_call 13; (with_reducible refine (atleast33 _ c1 (HX1.out.o.alloc _)).mono ?_); rintro e w3 ⟨c3, rfl, ho, hb⟩; have HO3 := hide ho; have HX2 := hide ((Fx.mk0 HO2.out 26 rfl).below hb); have HB3 := hide ((HB2.out.alloc HB2.out.size _).trans (hb.mono (by have := HB2.out.size; simp; omega))); clear ho hb))
  generalize hW : World.alloc w3 _ = v
  have HX2v := hide (show Fx v w2.heap.size c2 (some (mkRat 4 9)) by rw [← hW]; exact HX2.out.alloc _)
  have HX3v := hide (show Fx v w3.heap.size c3 (some (mkRat 1 27)) by rw [← hW]; exact Fx.mk0 HO3.out 26 rfl)
  have HBV := hide (show Below w.heap.size w v by rw [← hW]; exact HB3.out.alloc HB3.out.size _)
  clear hW
  obtain ⟨p0, p1, -, pz, -⟩ := HX2v.out.b
  obtain ⟨q0, q1, -, qz, -⟩ := HX3v.out.b
  have k0 : (v.cell? ⟨w2.heap.size, 0, none⟩ = some (.slice c2.A c2.n c2.c) ∧ v.cell? ⟨w2.heap.size, 1, none⟩ = some (.slice c2.B c2.m c2.d) ∧ v.cell? ⟨w3.heap.size, 0, none⟩ = some (.slice c3.A c3.n c3.c) ∧ v.cell? ⟨w3.heap.size, 1, none⟩ = some (.slice c3.B c3.m c3.d)) := ⟨p0, p1, q0, q1⟩
  clear p0 p1 q0 q1
  go_region_held3 (fun W => (W.cell? ⟨w2.heap.size, 0, none⟩ = some (.slice c2.A c2.n c2.c) ∧ W.cell? ⟨w2.heap.size, 1, none⟩ = some (.slice c2.B c2.m c2.d) ∧ W.cell? ⟨w3.heap.size, 0, none⟩ = some (.slice c3.A c3.n c3.c) ∧ W.cell? ⟨w3.heap.size, 1, none⟩ = some (.slice c3.B c3.m c3.d))) (first | with_reducible exact k7 | with_reducible exact k6 | with_reducible exact k5 | with_reducible exact k4 | exact k0) (first
    | (go_at_call 43; (with_reducible refine (small49 _).mono ?_); rintro e w4 ⟨c4, rfl, ho, hb⟩; have hb' : Below v.heap.size v w4 := Below.of_drew hb; have HO4 := hide ho; have HB4 := hide (HBV.out.trans (hb'.mono HBV.out.size)); have HX24 := hide (HX2v.out.below hb'); have HX34 := hide (HX3v.out.below hb'); have k4 : (w4.cell? ⟨w2.heap.size, 0, none⟩ = some (.slice c2.A c2.n c2.c) ∧ w4.cell? ⟨w2.heap.size, 1, none⟩ = some (.slice c2.B c2.m c2.d) ∧ w4.cell? ⟨w3.heap.size, 0, none⟩ = some (.slice c3.A c3.n c3.c) ∧ w4.cell? ⟨w3.heap.size, 1, none⟩ = some (.slice c3.B c3.m c3.d)) := ⟨HX24.out.b.c0, HX24.out.b.c1, HX34.out.b.c0, HX34.out.b.c1⟩; clear ho hb hb')
    | (go_at_call 22; (with_reducible refine (samefrac_eq _ c2 c4 _ HX24.out.o HO4.out).mono ?_); rintro e w5 ⟨rfl, hb⟩; have HB5 := hide (HB4.out.trans (hb.mono HB4.out.size)); have HX25 := hide (HX24.out.below hb); have HX35 := hide (HX34.out.below hb); have k5 : (w5.cell? ⟨w2.heap.size, 0, none⟩ = some (.slice c2.A c2.n c2.c) ∧ w5.cell? ⟨w2.heap.size, 1, none⟩ = some (.slice c2.B c2.m c2.d) ∧ w5.cell? ⟨w3.heap.size, 0, none⟩ = some (.slice c3.A c3.n c3.c) ∧ w5.cell? ⟨w3.heap.size, 1, none⟩ = some (.slice c3.B c3.m c3.d)) := ⟨HX25.out.b.c0, HX25.out.b.c1, HX35.out.b.c0, HX35.out.b.c1⟩; clear hb)
    | (go_at_call 43; (with_reducible refine (small127 _).mono ?_); rintro e w6 ⟨c6, rfl, ho, hb⟩; have HO6 := hide ho; have HB6 := hide (HB5.out.trans (hb.mono HB5.out.size)); have HX26 := hide (HX25.out.below hb); have HX36 := hide (HX35.out.below hb); have k6 : (w6.cell? ⟨w2.heap.size, 0, none⟩ = some (.slice c2.A c2.n c2.c) ∧ w6.cell? ⟨w2.heap.size, 1, none⟩ = some (.slice c2.B c2.m c2.d) ∧ w6.cell? ⟨w3.heap.size, 0, none⟩ = some (.slice c3.A c3.n c3.c) ∧ w6.cell? ⟨w3.heap.size, 1, none⟩ = some (.slice c3.B c3.m c3.d)) := ⟨HX26.out.b.c0, HX26.out.b.c1, HX36.out.b.c0, HX36.out.b.c1⟩; clear ho hb)
    | (go_at_call 22; (with_reducible refine (samefrac_eq _ c3 c6 _ HX36.out.o HO6.out).mono ?_); rintro e w7 ⟨rfl, hb⟩; have HB7 := hide (HB6.out.trans (hb.mono HB6.out.size)); have HX27 := hide (HX26.out.below hb); have HX37 := hide (HX36.out.below hb); have k7 : (w7.cell? ⟨w2.heap.size, 0, none⟩ = some (.slice c2.A c2.n c2.c) ∧ w7.cell? ⟨w2.heap.size, 1, none⟩ = some (.slice c2.B c2.m c2.d) ∧ w7.cell? ⟨w3.heap.size, 0, none⟩ = some (.slice c3.A c3.n c3.c) ∧ w7.cell? ⟨w3.heap.size, 1, none⟩ = some (.slice c3.B c3.m c3.d)) := ⟨HX27.out.b.c0, HX27.out.b.c1, HX37.out.b.c0, HX37.out.b.c1⟩; clear hb))
  go_wp2_with fail
  go_ret
  exact ⟨rfl, HB7.out⟩
end Go.Proofs.Ytclflfglhbkfkaa

/- Contracts: the tape beside limbs; Chance, Inner, Two. -/
namespace Go.Proofs.Ytclflfglhbkfkaa
open Go.RowKit

/-- The tape, with no limbs in its block. -/
structure Tp (w : World) (T : Nat) (A : Option Addr) (n c : Nat) (l : List Int) (a : Nat) : Prop where
  t : TapeAt w T A n c l a
  nb : NB w T
theorem Tp.below {w w' : World} {T : Nat} {A : Option Addr} {n c : Nat} {l : List Int} {a : Nat} (h : Tp w T A n c l a) (hb : Below w.heap.size w w') : Tp w' T A n c l a := ⟨h.t.below hb, h.nb.below h.t.1 hb⟩
theorem Tp.alloc {w : World} {T : Nat} {A : Option Addr} {n c : Nat} {l : List Int} {a : Nat} (h : Tp w T A n c l a) (o : Obj) : Tp (w.alloc o) T A n c l a := h.below ((Below.refl _ _).alloc (Nat.le_refl _) _)
theorem NB.one {w w' : World} {g g' : Nat} (h : NB w g) (hf : Fr w w' (fun b => b = g')) (hs : g < w.heap.size) (hg : g ≠ g') : NB w' g := by
  intro j x
  rw [World.cell?_of_block (w := w) (a := ⟨g, j, none⟩) (hf.block g hs hg)]
  exact h j x
/-- A later block changes. -/
theorem Tp.one {w0 w w' : World} {T : Nat} {A : Option Addr} {n c : Nat} {l : List Int} {a0 a : Nat} (h0 : Tp w0 T A n c l a0) (h : Tp w T A n c l a) {g : Nat} (hg : w0.heap.size ≤ g) (hf : Fr w w' (fun b => b = g)) : Tp w' T A n c l a := by
  have hT := h0.t.1
  refine ⟨h.t.fr hf (by show ¬ T = g; omega) (fun b o hA hl => ?_), h.nb.one hf h.t.1 (by omega)⟩
  obtain ⟨b', o', h1, -, h3, -⟩ := h0.t.2.2.2.2.1 hl
  rw [hA] at h1
  injection h1 with h1
  injection h1 with h1
  show ¬ b = g
  omega
set_option maxHeartbeats 1000000 in
theorem nextp_any (w : World) (T : Nat) (A : Option Addr) (n c : Nat) (l : List Int) (a : Nat) (N : Int) (hP : Tp w T A n c l a) (ha : a ≤ 4294967296) (hN : N ≤ 4294967296) :
    Calls Try.prog 42 #[.pointer (some ⟨T, 0, none⟩), .int .i64 N] w fun e w' => e = .returned (.int .i64 (tapeV l a N)) ∧ Tp w' T A n c l (a + 1) ∧ Fr w w' (fun b => b = T) := by
  have hT := hP.t
  have HP := hide hP
  clear hP
  have HT := hide hT
  obtain ⟨h1, h2, h3, h4, h5, h6⟩ := hT
  by_cases hlt : a < n
  · obtain ⟨b, o, rfl, hne, hb, hc⟩ := ints_at h5 (k := a) (by omega)
    obtain ⟨x, hx⟩ : ∃ x, x = l[a]'(by omega) := ⟨_, rfl⟩
    rw [← hx] at hc
    have HV := hide (fold_next l a N x (by rw [dif_pos (by omega)]; exact hx))
    have ht : decide (a < n) = true := by simpa using hlt
    have hi1 : (0 : Int) ≤ (a : Int) := by omega
    have hi2 : (a : Int) < (n : Int) := by omega
    have hbT : ¬ b = T := fun e => hne (by rw [e])
    clear h5 h6 hx
    go_enter Try.func42, Try.ntmps42
    go_wp2_with fail
    go_region_held3 (fun W => W.cell? ⟨T, 0, none⟩ = some (.slice (some ⟨b, o, none⟩) n c) ∧ W.cell? ⟨T, 1, none⟩ = some (.int .i64 a)) (first | (go_keep; done) | ((try dsimp only); (repeat' apply And.intro) <;> first | (go_keep; done) | ((repeat rw [World.cell?_setCell_other _ _ _ _ (by intro h; injection h; omega)]); go_keep; done))) (fail)
    go_wp2_with fail
    go_region_held3 (fun W => W.cell? ⟨T, 0, none⟩ = some (.slice (some ⟨b, o, none⟩) n c) ∧ W.cell? ⟨T, 1, none⟩ = some (.int .i64 a) ∧ W.cell? ⟨b, o + a, none⟩ = some (.int .i64 x)) (first | (go_keep; done) | ((try dsimp only); (repeat' apply And.intro) <;> first | (go_keep; done) | ((repeat rw [World.cell?_setCell_other _ _ _ _ (by intro h; injection h; omega)]); go_keep; done))) (fail)
    go_wp2_with (go_at_call 12; refine (fold_any _ _ _ hN).mono ?_; rintro e w1 ⟨rfl, rfl⟩)
    go_ret
    exact ⟨ret_int HV.out, ⟨tape_put HT.out, HP.out.nb.put 1 (by simp)⟩, fr_put.drew.drew⟩
  · have HV := hide (fold_next l a N ((a : Int) * 7 % 11) (by rw [dif_neg (by omega)]))
    have ht : decide (a < n) = false := by simpa using hlt
    clear h5 h6
    go_enter Try.func42, Try.ntmps42
    go_wp2_with fail
    go_region_held3 (fun W => W.cell? ⟨T, 0, none⟩ = some (.slice A n c) ∧ W.cell? ⟨T, 1, none⟩ = some (.int .i64 a)) (first | (go_keep; done) | ((try dsimp only); (repeat' apply And.intro) <;> first | (go_keep; done) | ((repeat rw [World.cell?_setCell_other _ _ _ _ (by intro h; injection h; omega)]); go_keep; done))) (fail)
    go_wp2_with (go_at_call 12; refine (fold_any _ _ _ hN).mono ?_; rintro e w1 ⟨rfl, rfl⟩)
    go_ret
    exact ⟨ret_int HV.out, ⟨tape_put HT.out, HP.out.nb.put 1 (by simp)⟩, fr_put.drew⟩

set_option maxHeartbeats 400000 in
theorem pickp_any (w : World) (T : Nat) (A : Option Addr) (n c : Nat) (l : List Int) (a : Nat) (g m d : Nat) (xs : List Int) (hT : Tp w T A n c l a) (ha : a ≤ 4294967296)
    (hx : Rs w (some T) 1 iv (some ⟨g, 0, none⟩) xs) (hl : xs.length = m) (h0 : 0 < m) (hm : m ≤ 4294967296) :
    Calls Try.prog 41 #[.pointer (some ⟨T, 0, none⟩), .slice (some ⟨g, 0, none⟩) m d] w fun e w' => (∃ v, v ∈ xs ∧ e = .returned (.int .i64 v)) ∧ Tp w' T A n c l (a + 1) ∧ Fr w w' (fun b => b = T) := by
  have hv := tapeV_lo l a m
  obtain ⟨k, hk⟩ : ∃ k : Nat, tapeV l a m = k := ⟨(tapeV l a m).toNat, by omega⟩
  have hkm : k < m := by omega
  obtain ⟨b, o, hA, hne, hb, hc⟩ := ints_at hx (k := k) (by omega)
  obtain ⟨rfl, rfl⟩ : b = g ∧ o = 0 := by simp at hA; omega
  have hbT : ¬ b = T := fun e => hne (by rw [e])
  obtain ⟨x, hxx⟩ : ∃ x, x = xs[k]'(by omega) := ⟨_, rfl⟩
  rw [← hxx] at hc
  have HM := hide (show x ∈ xs from by rw [hxx]; exact List.getElem_mem _)
  have hmI : (0 : Int) < (m : Int) := by omega
  have hkI : (k : Int) < (m : Int) := by omega
  have hkJ : (0 : Int) ≤ (k : Int) := by omega
  have HK := hide hk
  have HX := hide hx
  clear hA hxx hl hv hk hx
  have hm0 : ((m : Int) == 0) = false := by simp; omega
  go_enter Try.func41, Try.ntmps41
  go_wp2_with (go_at_call 42; refine (nextp_any _ T A n c l a m hT ha (by omega)).mono ?_; rintro e w1 ⟨rfl, ht1, hf1⟩; rw [HK.out]; have hc1 : w1.cell? ⟨b, 0 + k, none⟩ = some (.int .i64 x) := (by rw [← hc]; exact World.cell?_of_block (w := w) (hf1.block b hb hbT)); simp only [Nat.zero_add] at hc1)
  go_ret
  exact ⟨⟨_, HM.out, rfl⟩, ht1, hf1⟩


theorem mk_den_le (x y : Nat) (hy : 0 < y) : (mkRat x y).den ≤ y := by rw [mk_den x y hy]; exact Nat.div_le_self _ _
theorem mk_le_one {x y : Nat} (hy : 0 < y) (h : x ≤ y) : mkRat x y ≤ 1 := by
  rw [le_iff_n (mk_nonneg x y) (by decide), mk_num x y hy, mk_den x y hy, show rn 1 = 1 from rfl, show (1 : Rat).den = 1 from rfl, Nat.mul_one, Nat.one_mul]
  exact Nat.div_le_div_right h
theorem mk_chn {x y : Nat} (hy : 0 < y) (h : x ≤ y) (hd : y ≤ 1000) : Chn (mkRat x y) := ⟨mk_nonneg x y, mk_le_one hy h, Nat.le_trans (mk_den_le x y hy) hd⟩
/-- What a maker of chances returns. -/
def Mk (w : World) (T : Nat) (A : Option Addr) (n c : Nat) (l : List Int) (a : Nat) (e : Ending) (w' : World) : Prop :=
  ∃ (f : Fa) (r : Rat), e = .returned (.agg #[.slice f.A f.n f.c, .slice f.B f.m f.d]) ∧ Fo w' f (some r) ∧ Chn r ∧ Tp w' T A n c l a ∧ Fr w w' (fun b => b = T)
theorem mem_nat {v : Int} {l : List Int} (h : v ∈ l) (hl : (l.all fun i => decide (1 ≤ i) && decide (i ≤ 1000)) = true) : ∃ d : Nat, v = d ∧ 1 ≤ d ∧ d ≤ 1000 := by
  have := List.all_eq_true.1 hl v h
  simp at this
  exact ⟨v.toNat, by omega, by omega, by omega⟩
set_option maxRecDepth 100000 in
set_option maxHeartbeats 4000000 in
theorem chancem_any (w : World) (T : Nat) (A : Option Addr) (n c : Nat) (l : List Int) (a : Nat) (hP : Tp w T A n c l a) (ha : a ≤ 4294967000) :
    Calls Try.prog 16 #[.pointer (some ⟨T, 0, none⟩)] w fun e w' => Mk w T A n c l (a + 2) e w' := by
  have HP0 := hide hP
  have hTl := hP.t.1
  go_enter Try.func16, Try.ntmps16
  go_upto_region 1 with (fail)
  generalize hW : World.alloc w _ = v
  have HR := hide (show Rb v w.heap.size by rw [← hW]; exact Rb.mk0 _ rfl)
  have HF := hide (show Fr w v (fun b => b = T) by rw [← hW]; exact (Fr.refl _ _).alloc _)
  have HP := hide (show Tp v T A n c l a by rw [← hW]; exact hP.alloc _)
  clear hW hP
  have hvz := HR.out.sz
  go_upto_region 2 with (go_at_call 41; refine (pickp_any _ T A n c l a _ 9 9 [1, 2, 3, 4, 10, 100, 1000, 997, 7] (HP.out.alloc _) (by omega) (rs_new (by omega) [1, 2, 3, 4, 10, 100, 1000, 997, 7] 3) rfl (by decide) (by decide)).mono ?_; rintro e w1 ⟨⟨v1, hv, rfl⟩, hp1, hf1⟩; have HV := hide (mem_nat hv (by decide)); have HP1 := hide hp1; have HR1 := hide (((HR.out.bq.alloc _).one hf1 (by omega)).rb); have HF1 := hide ((HF.out.alloc _).trans hf1); clear hv hp1 hf1)
  obtain ⟨d, rfl, hd1, hd2⟩ := HV.out
  have hw : IntKind.i64.wrap ((d : Int) + 1) = (d : Int) + 1 := IntWalk.i64_in _ (by omega)
  go_wp2_with (first
    | (go_at_call 42; refine (nextp_any _ T A n c l (a + 1) ((d : Int) + 1) HP1.out (by omega) (by omega)).mono ?_; rintro e w2 ⟨rfl, hp2, hf2⟩; have HX := hide (show ∃ x : Nat, tapeV l (a + 1) ((d : Int) + 1) = (x : Int) ∧ x ≤ d by have := tapeV_lo l (a + 1) ((d : Int) + 1); exact ⟨(tapeV l (a + 1) ((d : Int) + 1)).toNat, by omega, by omega⟩); have HP2 := hide hp2; have HR2 := hide ((HR1.out.bq.one hf2 (by omega)).rb); have HF2 := hide (HF1.out.trans (hf2.mono (fun _ _ h => h))); clear hp2 hf2; obtain ⟨x, hx, hxd⟩ := HX.out; rw [hx]; clear hx HX)
    | (go_at_call 43; (with_reducible refine (small_any _ x d (by omega) (by omega) (by omega)).mono ?_); rintro e w3 ⟨f, rfl, ho, hb⟩; have HO := hide ho; have HP3 := hide (HP2.out.below hb); have HR3 := hide (HR2.out.below hb); have HF3 := hide (HF2.out.below_ hb); obtain ⟨r0, r1, rf, rz, -⟩ := HR3.out; clear ho hb))
  refine bodyPost_ret (v := .agg #[.slice f.A f.n f.c, .slice f.B f.m f.d]) (by simp [results, Try.results16, go_sem, *]) rfl ⟨f, mkRat x d, rfl, HO.out.put2 HR3.out.nb _ _ (by simp), mk_chn (by omega) hxd hd2, HP0.out.one HP3.out (Nat.le_refl _) (fr_fill _ _), (HF3.out.setCell (.inl (Nat.le_refl _)) _).setCell (.inl (Nat.le_refl _)) _⟩
end Go.Proofs.Ytclflfglhbkfkaa

/- Contracts: Inner, Two. -/
namespace Go.Proofs.Ytclflfglhbkfkaa
open Go.RowKit

theorem mem_nat2 (k : Nat) {v : Int} {l : List Int} (h : v ∈ l) (hl : (l.all fun i => decide ((k : Int) ≤ i) && decide (i ≤ 1000)) = true) : ∃ d : Nat, v = d ∧ k ≤ d ∧ d ≤ 1000 := by
  have := List.all_eq_true.1 hl v h
  simp at this
  exact ⟨v.toNat, by omega, by omega, by omega⟩
theorem tapeV_nat (l : List Int) (a : Nat) (N : Int) : ∃ x : Nat, tapeV l a N = (x : Int) ∧ ((x : Int) < N ∨ x = 0) := by
  have := tapeV_lo l a N
  exact ⟨(tapeV l a N).toNat, by omega, by omega⟩
theorem mk_le {x y d : Nat} (hd : 0 < d) (h : x ≤ y) : mkRat x d ≤ mkRat y d := by
  have hd0 : (0 : Rat) < (d : Rat) := by exact_mod_cast hd
  have hd1 : (d : Rat) ≠ 0 := fun e => by rw [e] at hd0; exact absurd hd0 (by decide)
  refine Rat.le_of_mul_le_mul_right (c := (d : Rat)) ?_ hd0
  rw [Rat.mkRat_eq_div, Rat.mkRat_eq_div]
  have e1 := Rat.div_mul_cancel (a := ((x : Int) : Rat)) hd1
  have e2 := Rat.div_mul_cancel (a := ((y : Int) : Rat)) hd1
  have : ((x : Int) : Rat) ≤ ((y : Int) : Rat) := by exact_mod_cast h
  calc _ = ((x : Int) : Rat) := e1
    _ ≤ ((y : Int) : Rat) := this
    _ = _ := e2.symm
set_option maxRecDepth 100000 in
set_option maxHeartbeats 4000000 in
theorem innerm_any (w : World) (T : Nat) (A : Option Addr) (n c : Nat) (l : List Int) (a : Nat) (hP : Tp w T A n c l a) (ha : a ≤ 4294967000) :
    Calls Try.prog 29 #[.pointer (some ⟨T, 0, none⟩)] w fun e w' => Mk w T A n c l (a + 2) e w' := by
  have HP0 := hide hP
  have hTl := hP.t.1
  go_enter Try.func29, Try.ntmps29
  go_upto_region 1 with (fail)
  generalize hW : World.alloc w _ = v
  have HR := hide (show Rb v w.heap.size by rw [← hW]; exact Rb.mk0 _ rfl)
  have HF := hide (show Fr w v (fun b => b = T) by rw [← hW]; exact (Fr.refl _ _).alloc _)
  have HP := hide (show Tp v T A n c l a by rw [← hW]; exact hP.alloc _)
  clear hW hP
  have hvz := HR.out.sz
  go_upto_region 2 with (go_at_call 41; refine (pickp_any _ T A n c l a _ 9 9 [2, 3, 4, 5, 10, 20, 100, 1000, 997] (HP.out.alloc _) (by omega) (rs_new (by omega) [2, 3, 4, 5, 10, 20, 100, 1000, 997] 3) rfl (by decide) (by decide)).mono ?_; rintro e w1 ⟨⟨v1, hv, rfl⟩, hp1, hf1⟩; have HV := hide (mem_nat2 2 hv (by decide)); have HP1 := hide hp1; have HR1 := hide (((HR.out.bq.alloc _).one hf1 (by omega)).rb); have HF1 := hide ((HF.out.alloc _).trans hf1); clear hv hp1 hf1)
  obtain ⟨d, rfl, hd1, hd2⟩ := HV.out
  have hw : IntKind.i64.wrap ((d : Int) - 1) = (d : Int) - 1 := IntWalk.i64_in _ (by omega)
  go_wp2_with (first
    | (go_at_call 42; refine (nextp_any _ T A n c l (a + 1) ((d : Int) - 1) HP1.out (by omega) (by omega)).mono ?_; rintro e w2 ⟨rfl, hp2, hf2⟩; have HX := hide (tapeV_nat l (a + 1) ((d : Int) - 1)); have HP2 := hide hp2; have HR2 := hide ((HR1.out.bq.one hf2 (by omega)).rb); have HF2 := hide (HF1.out.trans (hf2.mono (fun _ _ h => h))); clear hp2 hf2; obtain ⟨x, hx, hxd⟩ := HX.out; rw [hx]; obtain ⟨u, hu⟩ : ∃ u : Nat, u = 1 + x := ⟨_, rfl⟩; have hu1 : (1 : Int) + (x : Int) = (u : Int) := (by omega); have HU := hide hu; clear hu hx HX)
    | (go_at_call 43; (with_reducible refine (small_any _ u d (by omega) (by omega) (by omega)).mono ?_); rintro e w3 ⟨f, rfl, ho, hb⟩; have HO := hide ho; have HP3 := hide (HP2.out.below hb); have HR3 := hide (HR2.out.below hb); have HF3 := hide (HF2.out.below_ hb); obtain ⟨r0, r1, rf, rz, -⟩ := HR3.out; clear ho hb))
  have hud : u ≤ d := by have := HU.out; omega
  refine bodyPost_ret (v := .agg #[.slice f.A f.n f.c, .slice f.B f.m f.d]) (by simp [results, Try.results29, go_sem, *]) rfl ⟨f, mkRat u d, rfl, HO.out.put2 HR3.out.nb _ _ (by simp), mk_chn (by omega) hud hd2, HP0.out.one HP3.out (Nat.le_refl _) (fr_fill _ _), (HF3.out.setCell (.inl (Nat.le_refl _)) _).setCell (.inl (Nat.le_refl _)) _⟩
/-- What Two returns. -/
def Mk2 (w : World) (T : Nat) (A : Option Addr) (n c : Nat) (l : List Int) (a : Nat) (e : Ending) (w' : World) : Prop :=
  ∃ (f g : Fa) (r s : Rat), e = .returned (.tuple #[.agg #[.slice f.A f.n f.c, .slice f.B f.m f.d], .agg #[.slice g.A g.n g.c, .slice g.B g.m g.d]]) ∧ Fo w' f (some r) ∧ Fo w' g (some s) ∧ Chn r ∧ Chn s ∧ r ≤ s ∧ Tp w' T A n c l a ∧ Fr w w' (fun b => b = T)
set_option maxRecDepth 100000 in
set_option maxHeartbeats 4000000 in
theorem twom_any (w : World) (T : Nat) (A : Option Addr) (n c : Nat) (l : List Int) (a : Nat) (hP : Tp w T A n c l a) (ha : a ≤ 4294967000) :
    Calls Try.prog 11 #[.pointer (some ⟨T, 0, none⟩)] w fun e w' => Mk2 w T A n c l (a + 3) e w' := by
  have HP0 := hide hP
  have hTl := hP.t.1
  go_enter Try.func11, Try.ntmps11
  go_upto_region 1 with (fail)
  generalize hW : World.alloc (World.alloc w _) _ = v
  have HR := hide (show Rb v w.heap.size by rw [← hW]; exact ((Rb.mk0 _ rfl).bq.alloc _).rb)
  have HS := hide (show Rb v (w.heap.size + 1) by rw [← hW]; exact Rb.mk0 _ (by simp))
  have HF := hide (show Fr w v (fun b => b = T) by rw [← hW]; exact ((Fr.refl _ _).alloc _).alloc _)
  have HP := hide (show Tp v T A n c l a by rw [← hW]; exact (hP.alloc _).alloc _)
  clear hW hP
  have hvz := HS.out.sz
  go_upto_region 2 with (go_at_call 41; refine (pickp_any _ T A n c l a _ 8 8 [3, 4, 5, 10, 20, 100, 1000, 997] (HP.out.alloc _) (by omega) (rs_new (by omega) [3, 4, 5, 10, 20, 100, 1000, 997] 3) rfl (by decide) (by decide)).mono ?_; rintro e w1 ⟨⟨v1, hv, rfl⟩, hp1, hf1⟩; have HV := hide (mem_nat2 3 hv (by decide)); have HP1 := hide hp1; have HR1 := hide (((HR.out.bq.alloc _).one hf1 (by omega)).rb); have HS1 := hide (((HS.out.bq.alloc _).one hf1 (by omega)).rb); have HF1 := hide ((HF.out.alloc _).trans hf1); clear hv hp1 hf1)
  obtain ⟨d, rfl, hd1, hd2⟩ := HV.out
  have hw : IntKind.i64.wrap ((d : Int) - 2) = (d : Int) - 2 := IntWalk.i64_in _ (by omega)
  go_upto_region 3 with (go_at_call 42; refine (nextp_any _ T A n c l (a + 1) ((d : Int) - 2) HP1.out (by omega) (by omega)).mono ?_; rintro e w2 ⟨rfl, hp2, hf2⟩; have HX := hide (tapeV_nat l (a + 1) ((d : Int) - 2)); have HP2 := hide hp2; have HR2 := hide ((HR1.out.bq.one hf2 (by omega)).rb); have HS2 := hide ((HS1.out.bq.one hf2 (by omega)).rb); have HF2 := hide (HF1.out.trans (hf2.mono (fun _ _ h => h))); clear hp2 hf2; obtain ⟨x, hx, hxd⟩ := HX.out; rw [hx]; have hx1 : (1 : Int) + (x : Int) = ((1 + x : Nat) : Int) := (by omega); clear hx HX)
  obtain ⟨y, hy⟩ : ∃ y, y = 1 + x := ⟨_, rfl⟩
  rw [← hy] at hx1
  have hy1 : 1 ≤ y := by omega
  have hyd : y ≤ d - 2 ∨ y = 1 := by omega
  have HY := hide hy
  clear hy
  go_wp2_with (first
    | (go_at_call 43; (with_reducible refine (small_any _ y d (by omega) (by omega) (by omega)).mono ?_); rintro e w3 ⟨f, rfl, ho, hb⟩; have HO := hide ho; have HP3 := hide (HP2.out.below hb); have HR3 := hide (HR2.out.below hb); have HS3 := hide (HS2.out.below hb); have HF3 := hide (HF2.out.below_ hb); clear ho hb)
    | (go_at_call 42; refine (nextp_any _ T A n c l (a + 1 + 1) ((d : Int) - 1 - (y : Int)) HP3.out (by omega) (by omega)).mono ?_; rintro e w4 ⟨rfl, hp2, hf2⟩; have HX := hide (tapeV_nat l (a + 1 + 1) ((d : Int) - 1 - (y : Int))); have HP4 := hide hp2; have HO4 := hide (HO.out.one hf2 HP3.out.nb); have HR4 := hide ((HR3.out.bq.one hf2 (by omega)).rb); have HS4 := hide ((HS3.out.bq.one hf2 (by omega)).rb); have HF4 := hide (HF3.out.trans (hf2.mono (fun _ _ h => h))); clear hp2 hf2; obtain ⟨z, hz, hzd⟩ := HX.out; rw [hz]; obtain ⟨u, hu⟩ : ∃ u : Nat, u = y + 1 + z := ⟨_, rfl⟩; have hu1 : (y : Int) + 1 + (z : Int) = (u : Int) := (by omega); have HU := hide hu; clear hu hz HX)
    | (go_at_call 43; (with_reducible refine (small_any _ u d (by omega) (by omega) (by omega)).mono ?_); rintro e w5 ⟨g, rfl, ho, hb⟩; have HO5 := hide (HO4.out.below hb); have HG := hide ho; have HP5 := hide (HP4.out.below hb); have HR5 := hide (HR4.out.below hb); have HS5 := hide (HS4.out.below hb); have HF5 := hide (HF4.out.below_ hb); obtain ⟨r0, r1, rf, rz, -⟩ := HR5.out; obtain ⟨t0, t1, tf, tz, -⟩ := HS5.out; clear ho hb))
  have hN := (HS5.out.bq.far (g' := w.heap.size) (by omega) (.slice f.A f.n f.c) (.slice f.B f.m f.d)).nb
  have hyu : y ≤ u := by have := HU.out; omega
  have hud : u ≤ d := by have := HU.out; omega
  refine bodyPost_ret (v := .tuple #[.agg #[.slice f.A f.n f.c, .slice f.B f.m f.d], .agg #[.slice g.A g.n g.c, .slice g.B g.m g.d]]) (by simp [results, Try.results11, go_sem, *]) rfl ⟨f, g, mkRat y d, mkRat u d, rfl, (HO5.out.put2 HR5.out.nb _ _ (by simp)).put2 hN _ _ (by simp), (HG.out.put2 HR5.out.nb _ _ (by simp)).put2 hN _ _ (by simp), mk_chn (by omega) (by omega) hd2, mk_chn (by omega) hud hd2, mk_le (by omega) hyu, HP0.out.one (HP0.out.one HP5.out (Nat.le_refl _) (fr_fill _ _)) (by omega) (fr_fill _ _), (((HF5.out.setCell (.inl (Nat.le_refl _)) _).setCell (.inl (Nat.le_refl _)) _).setCell (.inl (by show _ ≤ w.heap.size + 1; omega)) _).setCell (.inl (by show _ ≤ w.heap.size + 1; omega)) _⟩
end Go.Proofs.Ytclflfglhbkfkaa

/- Words for the laws: a slice of ints that came in, the tape over it. -/
namespace Go.Proofs.Ytclflfglhbkfkaa
open Go.RowKit

/-- A row of ints that came in reads as a list. -/
theorem came_ints {w : World} {a : Option Addr} {len cap : Nat} {zs : List Int}
    (h : (a = none ∧ len = 0 ∧ cap = 0 ∧ zs = []) ∨ ∃ x, a = some x ∧ len ≤ cap ∧ cap ≤ maxLen ∧ zs.length = cap ∧ (∀ i, i < zs.length → w.cell? (x.add i) = some (.int .i64 (zs.getD i 0))) ∧ ∀ n ∈ zs, (Lit.int .i64 n).wf = true) :
    ∃ l : List Int, l.length = len ∧ Rs w none 1 iv a l := by
  rcases h with ⟨rfl, rfl, rfl, rfl⟩ | ⟨x, rfl, hl, hm, hz, hcell, _⟩
  · exact ⟨[], rfl, Rs.nil⟩
  · refine ⟨zs.take len, by simp; omega, fun hne => ?_⟩
    have hpos : 0 < zs.length := by
      cases zs with
      | nil => simp at hne
      | cons z zs => simp
    obtain ⟨b, o, sp⟩ := x
    have h0 := hcell 0 hpos
    rw [Addr.add, if_pos rfl] at h0
    have hsp : sp = none := by
      cases sp with
      | none => rfl
      | some s =>
        simp only [World.cell?] at h0
        split at h0 <;> simp at h0
    subst hsp
    have hb : b < w.heap.size := by
      rcases Nat.lt_or_ge b w.heap.size with h | h
      · exact h
      · simp only [World.cell?, Array.getElem?_eq_none h] at h0
        cases h0
    refine ⟨b, o, rfl, by simp, hb, fun k z hk j u hu => ?_⟩
    match j with
    | 0 =>
      simp [iv] at hu
      subst hu
      rw [List.getElem?_take] at hk
      split at hk
      · have hk2 : k < zs.length := (List.getElem?_eq_some_iff.1 hk).1
        have := hcell k hk2
        rw [Addr.add_lit] at this
        simp only [Nat.mul_one, Nat.add_zero]
        rw [this]
        simp [List.getD_eq_getElem?_getD, hk]
      · cases hk
    | j + 1 => simp [iv] at hu

/-- The tape just made. -/
theorem tape_new {w : World} {A : Option Addr} {n c : Nat} {l : List Int} (h : Rs w none 1 iv A l) (hl : l.length = n) (t : TypeId) : TapeAt (w.alloc (.cells #[.slice A n c, .int .i64 0] t)) w.heap.size A n c l 0 := by
  refine ⟨by simp, by go_simp, by go_simp, fun j => by go_simp, fun hne => ?_, hl⟩
  obtain ⟨b, o, h1, _, h3, h4⟩ := h hne
  refine ⟨b, o, h1, by intro e; injection e with e; omega, by simp; omega, fun k a hk j u hu => ?_⟩
  have := h4 k a hk j u hu
  rw [← this]
  exact World.cell?_of_block (w := w) (a := ⟨b, o + k * 1 + j, none⟩) (((Below.refl w.heap.size w).alloc (Nat.le_refl _) _).block b h3)

end Go.Proofs.Ytclflfglhbkfkaa

/- Words for the laws on chances: boxes of fractions, the tape, folded numbers. -/
namespace Go.Proofs.Ytclflfglhbkfkaa
open Go.RowKit

/-- Boxes that hold fractions. -/
structure BX (w0 W : World) (bs : List (Nat × Fa × Option Rat)) : Prop where
  bw : Below w0.heap.size w0 W
  all : ∀ x ∈ bs, Fx W x.1 x.2.1 x.2.2
theorem BX.below {w0 W W' : World} {bs : List (Nat × Fa × Option Rat)} (h : BX w0 W bs) (hb : Below W.heap.size W W') : BX w0 W' bs := ⟨h.bw.trans (hb.mono h.bw.size), fun x hx => (h.all x hx).below hb⟩
theorem BX.alloc {w0 W : World} {bs : List (Nat × Fa × Option Rat)} (h : BX w0 W bs) (o : Obj) : BX w0 (W.alloc o) bs := h.below ((Below.refl _ _).alloc (Nat.le_refl _) _)
theorem BX.push {w0 W : World} {bs : List (Nat × Fa × Option Rat)} (h : BX w0 W bs) {c : Fa} {o : Option Rat} (ho : Fo W c o) (t : TypeId) {g : Nat} (hg : g = W.heap.size) : BX w0 (W.alloc (.cells #[.slice c.A c.n c.c, .slice c.B c.m c.d] t)) ((g, c, o) :: bs) :=
  ⟨h.bw.alloc h.bw.size _, fun x hx => by
    rcases List.mem_cons.1 hx with rfl | hx
    · exact Fx.mk0 ho t hg
    · exact (h.all x hx).alloc _⟩
theorem BX.get {w0 W : World} {bs : List (Nat × Fa × Option Rat)} (h : BX w0 W bs) (i : Nat) {g : Nat} {c : Fa} {o : Option Rat} (hx : bs[i]? = some (g, c, o)) : Fx W g c o := h.all (g, c, o) (List.mem_of_getElem? hx)
theorem BX.nil (w : World) : BX w w [] := ⟨Below.refl _ _, fun x hx => by simp at hx⟩
theorem fold_nat (v n : Int) (h : 1 ≤ n) (hn : n ≤ 4294967296) : ∃ m : Nat, (m : Int) < n ∧ ∀ w, Calls Try.prog 12 #[.int .i64 v, .int .i64 n] w fun e w' => e = .returned (.int .i64 (m : Int)) ∧ w = w' := by
  have h1 := foldV_lo v n
  obtain ⟨m, hm⟩ : ∃ m : Nat, foldV v n = (m : Int) := ⟨(foldV v n).toNat, by omega⟩
  refine ⟨m, by omega, fun w => ?_⟩
  have := fold_any v n w hn
  rwa [hm] at this
theorem fcmp_le (w : World) (a b : Fa) (r s : Rat) (ha : Fo w a (some r)) (hb : Fo w b (some s)) (h : r ≤ s) : Calls Try.prog 14 #[.agg #[.slice a.A a.n a.c, .slice a.B a.m a.d], .agg #[.slice b.A b.n b.c, .slice b.B b.m b.d]] w fun e w' => ∃ z : Int, e = .returned (.int .i64 z) ∧ z ≤ 0 ∧ Below w.heap.size w w' :=
  (fcmp_o w a b _ _ ha hb).mono fun e w' ⟨h1, h2⟩ => ⟨_, h1, cmpQ_le.2 h, h2⟩
theorem atleast_okI (w : World) (a : Fa) (r : Rat) (n : Nat) (N m : Int) (hN : N = n) (ha : Fo w a (some r)) (hc : Chn r) (hn : n ≤ 32) : Calls Try.prog 13 #[.agg #[.slice a.A a.n a.c, .slice a.B a.m a.d], .int .i64 N, .int .i64 m] w fun e w' => RetV w (tot r n (fun j => decide (m ≤ (j : Int)))) e w' := by
  subst hN
  exact atleast_ok w a r n m ha hc hn
/-- The tape just made, with no limbs in it. -/
theorem tp_new {w : World} {A : Option Addr} {n c : Nat} {l : List Int} (h : Rs w none 1 iv A l) (hl : l.length = n) (t : TypeId) : Tp (w.alloc (.cells #[.slice A n c, .int .i64 0] t)) w.heap.size A n c l 0 :=
  ⟨tape_new h hl t, box2n (Below.refl _ _) (by simp) (by simp)⟩
theorem fr_new {w w' : World} {o : Obj} {T : Nat} (hT : T = w.heap.size) (h : Fr (w.alloc o) w' (fun b => b = T)) : Below w.heap.size w w' := by
  subst hT
  exact (((Fr.refl w (fun b => b = w.heap.size)).alloc o).trans h).below (Nat.le_refl _) (fun k hk e => by omega)
end Go.Proofs.Ytclflfglhbkfkaa

/- Contracts: noise.Choose. -/
namespace Go.Proofs.Ytclflfglhbkfkaa
open Go.RowKit

def chooseL (n k : Int) : List Nat := if n < 0 ∨ 32 < n then [] else if k < 0 ∨ n < k then [] else lm (ch n.toNat k.toNat)
def chooseE (n : Int) : Int := if n < 0 ∨ 32 < n then 3 else 0
theorem nof_zero (w : World) : Calls Try.prog 61 #[.int .u64 0] w fun e w' => ∃ A m c, e = .returned (.slice A m c) ∧ m ≤ c ∧ m ≤ 2 ∧ Ul w' none A m (lm 0) ∧ Below w.heap.size w w' := nof_any w 0 (by omega)
theorem index_row {N K : Nat} (hK : K < 33) (W : World) : (Instr.index 81 (.agg (rowCells N).toArray) (.int .i64 (K : Int))).run Try.prog W = .ok (.int .u64 (ch N K : Int)) W := by
  have h1 : (underlying 81).run Try.prog W = .ok (.array 33 63) W := run_underlying Try.underlying81 W
  have h2 : (isAgg 63).run Try.prog W = .ok false W := by
    unfold isAgg
    rw [Sem.run_bind, run_underlying Try.underlying63]
    rfl
  have h3 : (sizeOf 63).run Try.prog W = .ok 1 W := by
    unfold sizeOf typeInfo
    have hi : (Try.prog.info? 63).map (·.size) = some 1 := by kernel_rfl
    cases h : Try.prog.info? 63 with
    | none => rw [h] at hi; simp at hi
    | some i =>
      rw [h] at hi
      simp at hi
      simp [go_sem, h, hi]
  have hget : (rowCells N)[K]? = some (.int .u64 (ch N K : Int)) := rowCells_get hK
  have hK2 : (K : Int) < 33 := by omega
  simp [Instr.index, asIntOf, part, Sem.run_bind, Sem.run_pure, Result.andThen_ok, h1, h2, h3, hget, hK2]
  intro h
  omega
set_option maxRecDepth 100000 in
set_option maxHeartbeats 4000000 in
theorem choose_any (w : World) (n k : Int) :
    Calls Try.prog 25 #[.int .i64 n, .int .i64 k] w fun e w' => ∃ A m c, e = .returned (.tuple #[.slice A m c, .int .i64 (chooseE n)]) ∧ m ≤ c ∧ m ≤ 2 ∧ Ul w' none A m (chooseL n k) ∧ Below w.heap.size w w' := by
  by_cases h0 : n < 0
  · have e1 := hide (show chooseE n = 3 from if_pos (.inl h0))
    have e2 := hide (show chooseL n k = [] from if_pos (.inl h0))
    go_enter Try.func25, Try.ntmps25
    go_wp2_with fail
    go_ret2
    exact ⟨none, 0, 0, by rw [e1.out]; rfl, by omega, by omega, by rw [e2.out]; exact Ul.nil, Below.refl _ _⟩
  · by_cases h1 : 32 < n
    · have e1 := hide (show chooseE n = 3 from if_pos (.inr h1))
      have e2 := hide (show chooseL n k = [] from if_pos (.inr h1))
      have d0 : decide (n < 0) = false := decide_eq_false h0
      have d1 : decide (n > 32) = true := decide_eq_true h1
      clear h0 h1
      go_enter Try.func25, Try.ntmps25
      go_wp2_with fail
      go_ret2
      exact ⟨none, 0, 0, by rw [e1.out]; rfl, by omega, by omega, by rw [e2.out]; exact Ul.nil, Below.refl _ _⟩
    · have e1 := hide (show chooseE n = 0 from if_neg (by omega))
      have d0 : decide (n < 0) = false := decide_eq_false h0
      have d1 : decide (n > 32) = false := decide_eq_false h1
      by_cases hk : k < 0 ∨ n < k
      · have e2 := hide (show chooseL n k = lm 0 by unfold chooseL; rw [if_neg (by omega), if_pos hk, lm_zero])
        by_cases hk0 : k < 0
        · have d2 : decide (k < 0) = true := decide_eq_true hk0
          clear h0 h1 hk hk0
          go_enter Try.func25, Try.ntmps25
          go_wp2_with (go_at_call 61; (with_reducible refine (nof_zero _).mono ?_); rintro e w1 ⟨A, m, c, rfl, hmc, hm2, hu, hb⟩; have HU := hide hu; have HB := hide hb; clear hu hb)
          go_ret2
          exact ⟨A, m, c, by rw [e1.out]; rfl, hmc, hm2, by rw [e2.out]; exact HU.out, HB.out⟩
        · have d2 : decide (k < 0) = false := decide_eq_false hk0
          have d3 : decide (k > n) = true := decide_eq_true (by omega)
          clear h0 h1 hk hk0
          go_enter Try.func25, Try.ntmps25
          go_wp2_with (go_at_call 61; (with_reducible refine (nof_zero _).mono ?_); rintro e w1 ⟨A, m, c, rfl, hmc, hm2, hu, hb⟩; have HU := hide hu; have HB := hide hb; clear hu hb)
          go_ret2
          exact ⟨A, m, c, by rw [e1.out]; rfl, hmc, hm2, by rw [e2.out]; exact HU.out, HB.out⟩
      · obtain ⟨N, rfl⟩ : ∃ N : Nat, n = N := ⟨n.toNat, by omega⟩
        obtain ⟨K, rfl⟩ : ∃ K : Nat, k = K := ⟨k.toNat, by omega⟩
        have e2 := hide (show chooseL (N : Int) (K : Int) = lm (ch N K) by unfold chooseL; rw [if_neg (by omega), if_neg hk]; rfl)
        have d2 : decide ((K : Int) < 0) = false := decide_eq_false (by omega)
        have d3 : decide ((K : Int) > (N : Int)) = false := decide_eq_false (by omega)
        have d4 : decide (N < K) = false := decide_eq_false (by omega)
        have hN : N ≤ 32 := by omega
        have g0 : (0 : Int) ≤ (K : Int) := by omega
        have g1 : (K : Int) < 33 := by omega
        have hK33 : K < 33 := by omega
        have hget : (rowCells N).toArray[K]? = some (.int .u64 (ch N K : Int)) := by simpa using rowCells_get (n := N) hK33
        have hsz : (rowCells N).toArray.size = 33 := by simp [rowCells_len]
        have hch : ch N K < 18446744073709551616 := by
          have h1 := ch_le N K
          have h2 : 2 ^ N ≤ 2 ^ 32 := Nat.pow_le_pow_right (by omega) hN
          omega
        have HCH := hide hch
        have hix := index_row (N := N) hK33
        clear h0 h1 hk hch hget hsz hK33
        go_enter Try.func25, Try.ntmps25
        go_wp2_with (first
          | (go_at_call 62; (with_reducible refine (row_any _ N hN).mono ?_); rintro e w1 ⟨rfl, hb⟩; have HB1 := hide hb; clear hb)
          | (go_at_call 61; (with_reducible refine (nof_any _ (ch N K) HCH.out).mono ?_); rintro e w2 ⟨A, m, c, rfl, hmc, hm2, hu, hb⟩; have HU := hide hu; have HB := hide (HB1.out.trans (hb.mono HB1.out.size)); clear hu hb))
        go_ret2
        exact ⟨A, m, c, by rw [e1.out]; rfl, hmc, hm2, by rw [e2.out]; exact HU.out, HB.out⟩
end Go.Proofs.Ytclflfglhbkfkaa
