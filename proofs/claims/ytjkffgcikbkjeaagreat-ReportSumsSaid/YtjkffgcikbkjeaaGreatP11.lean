/- Contracts of the functions that these laws reach: part 11: Contracts: Small; Contracts: SameNat, SameFrac, and the law's one and known; Contracts: the tape beside limbs; Chance, Inner, Two; Contracts: Inner, Two; Words for the laws: a slice of ints that came in, the tape over it; Words for the laws on chances: boxes of fractions, the tape, folded numbers; Contracts: noise.Sequence; What came in, whatever it is, reads as plain values: rows, fractions; Contracts: the reference's trim, Of; Contracts: the reference's Check, Order, Compare. -/
import Derived.Test.YtjkffgcikbkjeaaGreatP1
import Derived.Test.YtjkffgcikbkjeaaGreatP10
import Derived.DataReads
import Derived.WalkKit
import Derived.ProofKit
import Derived.OpenShut
import Derived.ChangeOld
import Derived.ChangeArms
import Derived.WideShapes
import Derived.Deep.Slices
import Derived.Test.YtjkffgcikbkjeaaGreatP3
import Derived.Deep.RegionHeld3
import Derived.Test.YtjkffgcikbkjeaaGreatP6
set_option linter.unusedVariables false
set_option linter.unusedSimpArgs false

/- Contracts: Small. -/
namespace Go.Proofs.YtjkffgcikbkjeaaGreat
open Go.RowKit

/-- A slice of one limb just built. -/
theorem ul_one {w : World} {x : Nat} (hx : x < 4294967296) (t : TypeId) {g : Nat} (hg : g = w.heap.size) : Ul (w.alloc (.cells #[.int .u32 (x : Int)] t)) none (some ⟨g, 0, none⟩) 1 [x] := by
  subst hg
  refine ⟨fun _ => ⟨w.heap.size, 0, rfl, by simp, by simp, fun k a hk j u hu => ?_⟩, rfl, fun y hy => by simp at hy; omega⟩
  match k, j with
  | 0, 0 =>
    simp [uv] at hk hu
    subst hk
    subst hu
    rw [World.cell?_alloc_new]
    rfl
  | k + 1, _ => simp at hk
  | 0, j + 1 => simp [uv] at hu
theorem tmod_nat (a b : Nat) : ((a : Int)).tmod (b : Int) = ((a % b : Nat) : Int) := rfl
set_option maxRecDepth 100000 in
set_option maxHeartbeats 8000000 in
theorem small_any (w : World) (x y : Nat) (hx : x < 2147483648) (hy : y < 2147483648) (h0 : 0 < y) :
    Calls Tryz.prog 20 #[.int .i64 (x : Int), .int .i64 (y : Int)] w fun e w' => Ret1 w (some (mkRat x y)) e w' := by
  go_enter Tryz.func20, Tryz.ntmps20
  go_upto_region 1 with (fail)
  generalize hW : World.alloc w _ = v
  have HRB := hide (show Rb v w.heap.size by rw [← hW]; exact Rb.mk0 _ rfl)
  have HBV := hide (show Below w.heap.size w v by rw [← hW]; exact (Below.refl _ _).alloc (Nat.le_refl _) _)
  clear hW
  go_wp2_with fail
  go_loopw [5, 6] (fun p q wr => ∃ a b : Nat, p = .int .i64 (a : Int) ∧ q = .int .i64 (b : Int) ∧ a < 2147483648 ∧ b < 2147483648 ∧ Hid (Nat.gcd a b = Nat.gcd x y) ∧ Hid (Below v.heap.size v wr)) (fun _ q _ => (intOf q).toNat)
  case atStart => exact ⟨x, y, rfl, rfl, hx, hy, hide rfl, hide (Below.refl _ _)⟩
  case round =>
    obtain ⟨a, b, rfl, rfl, ha, hb, HG, HB⟩ := hrel
    by_cases hb0 : b = 0
    · subst hb0
      rw [Nat.gcd_zero_right] at HG
      have hg : a = Nat.gcd x y := HG.out
      have hap : 0 < a := by rw [hg]; exact Nat.gcd_pos_of_pos_right _ h0
      have ha0 : ((a : Int) == 0) = false := by simp; omega
      have hden : (mkRat x y).den = y / a := by rw [hg]; exact mk_den x y h0
      have hrn : rn (mkRat x y) = x / a := by rw [hg]; exact mk_num x y h0
      have hyp : y / a ≠ 0 := by
        have := Nat.div_pos (Nat.le_of_dvd h0 (by rw [hg]; exact Nat.gcd_dvd_right x y)) hap
        omega
      have hxp' : x ≠ 0 → x / a ≠ 0 := fun hx0 => by
        have := Nat.div_pos (Nat.le_of_dvd (Nat.pos_of_ne_zero hx0) (by rw [hg]; exact Nat.gcd_dvd_left x y)) hap
        omega
      obtain ⟨qy, hqy⟩ : ∃ q, q = y / a := ⟨_, rfl⟩
      obtain ⟨qx, hqx⟩ : ∃ q, q = x / a := ⟨_, rfl⟩
      have hy1 : qy < 2147483648 := by rw [hqy]; exact Nat.lt_of_le_of_lt (Nat.div_le_self _ _) hy
      have hx1 : qx < 2147483648 := by rw [hqx]; exact Nat.lt_of_le_of_lt (Nat.div_le_self _ _) hx
      rw [← hqy] at hden hyp
      rw [← hqx] at hrn hxp'
      have HD := hide (show lm (mkRat x y).den = [qy] by rw [hden]; exact lm_small (by omega) hyp)
      have HN := hide (show x ≠ 0 → lm (rn (mkRat x y)) = [qx] from fun h => by rw [hrn]; exact lm_small (by omega) (hxp' h))
      have HN0 := hide (show x = 0 → lm (rn (mkRat x y)) = [] from fun h => by subst h; rw [hrn, hqx, Nat.zero_div, lm_zero])
      have HOK := hide (show okR (some (mkRat x y)) from ⟨mk_nonneg x y, fits64 (by omega) (by omega) h0⟩)
      have e1 : (y : Int) / (a : Int) = (qy : Int) := by rw [hqy]; rfl
      have e2 : (x : Int) / (a : Int) = (qx : Int) := by rw [hqx]; rfl
      have w1 : (qy : Int) % 4294967296 = (qy : Int) := by omega
      have w2 : (qx : Int) % 4294967296 = (qx : Int) := by omega
      have HR := hide (HRB.out.below HB.out)
      obtain ⟨r0, r1, rf, rz, -⟩ := HR.out
      have rz1 : w.heap.size < wr.heap.size + 1 := by omega
      have rz2 : w.heap.size < wr.heap.size + 1 + 1 := by omega
      have HBW := hide (HBV.out.trans (HB.out.mono HBV.out.size))
      clear hden hrn hyp hxp' hqy hqx hg HG HB
      by_cases hx0 : x = 0
      · have hN := HN0.out hx0
        subst hx0
        have HNN := hide hN
        clear hN HN HN0
        go_wp2_with fail
        refine bodyPost_ret (v := .agg #[.slice none 0 0, .slice (some ⟨wr.heap.size, 0, none⟩) 1 1]) (by simp [results, Tryz.results20, go_sem, *]) rfl ⟨⟨none, 0, 0, some ⟨wr.heap.size, 0, none⟩, 1, 1⟩, rfl, ?_, ?_⟩
        · refine ⟨⟨?_, ?_, Nat.le_refl _, Nat.le_refl _, by show 0 ≤ 9223372036854775807; omega, by show 1 ≤ 9223372036854775807; omega⟩, HOK.out⟩
          · show Ul _ none none 0 (lm (rn (mkRat _ y))); rw [HNN.out]; exact Ul.nil
          · show Ul _ none _ 1 (lm (mkRat _ y).den); rw [HD.out]; exact (ul_one (by omega) _ (by simp)).alloc _
        · exact ((Rb.end0 HBW.out (Nat.le_refl _) _ _).alloc (by simp; omega) _).alloc (by simp; omega) _
      · have HNN := hide (HN.out hx0)
        clear HN HN0
        have hxp : (0 : Int) < (x : Int) := by omega
        go_wp2_with fail
        refine bodyPost_ret (v := .agg #[.slice (some ⟨wr.heap.size + 1 + 1, 0, none⟩) 1 1, .slice (some ⟨wr.heap.size, 0, none⟩) 1 1]) (by simp [results, Tryz.results20, go_sem, *]) rfl ⟨⟨some ⟨wr.heap.size + 1 + 1, 0, none⟩, 1, 1, some ⟨wr.heap.size, 0, none⟩, 1, 1⟩, rfl, ?_, ?_⟩
        · refine ⟨⟨?_, ?_, Nat.le_refl _, Nat.le_refl _, by show 1 ≤ 9223372036854775807; omega, by show 1 ≤ 9223372036854775807; omega⟩, HOK.out⟩
          · show Ul _ none _ 1 (lm (rn (mkRat _ y))); rw [HNN.out]; exact ul_one (by omega) _ (by simp)
          · show Ul _ none _ 1 (lm (mkRat _ y).den); rw [HD.out]; exact ((ul_one (by omega) _ (by simp)).alloc _).alloc _
        · exact (((Rb.end0 HBW.out (Nat.le_refl _) _ _).alloc (by simp; omega) _).alloc (by simp; omega) _).alloc (by simp; omega) _
    · have e1 := tmod_nat a b
      have hm := Nat.mod_lt a (Nat.pos_of_ne_zero hb0)
      have hbI : ((b : Int) == 0) = false := by simp; omega
      go_wp2_with fail
      go_quiet (fail)
      go_wp2_with fail
      go_roundw
      case rel => exact ⟨b, a % b, rfl, by go_num, hb, by omega, hide (by rw [← HG.out]; exact gcd_step a b), hide (HB.out.trans ((Dr.below ⟨_, rfl⟩).mono HB.out.size))⟩
      case measure => simp [intOf]; omega
end Go.Proofs.YtjkffgcikbkjeaaGreat

/- Contracts: SameNat, SameFrac, and the law's one and known. -/
namespace Go.Proofs.YtjkffgcikbkjeaaGreat
open Go.RowKit

/-- Two boxes. -/
structure F2 (w0 v : World) (a b : Fa) : Prop where
  bw : Below w0.heap.size w0 v
  c0 : v.cell? ⟨w0.heap.size, 0, none⟩ = some (.slice a.A a.n a.c)
  c1 : v.cell? ⟨w0.heap.size, 1, none⟩ = some (.slice a.B a.m a.d)
  d0 : v.cell? ⟨w0.heap.size + 1, 0, none⟩ = some (.slice b.A b.n b.c)
  d1 : v.cell? ⟨w0.heap.size + 1, 1, none⟩ = some (.slice b.B b.m b.d)
  sz : w0.heap.size + 1 < v.heap.size
theorem atleast_ok (w : World) (a : Fa) (r : Rat) (n : Nat) (m : Int) (ha : Fo w a (some r)) (hc : Chn r) (hn : n ≤ 32) : Calls Tryz.prog 47 #[.agg #[.slice a.A a.n a.c, .slice a.B a.m a.d], .int .i64 (n : Int), .int .i64 m] w fun e w' => RetV w (tot r n (fun j => decide (m ≤ (j : Int)))) e w' := by
  have h := atleast_any w a _ _ (n : Int) m ha.1
  rw [fracOf_self ha.2] at h
  exact h.mono fun e w' h => h.ok (totR_ok hc hn)
theorem atmost_ok (w : World) (a : Fa) (r : Rat) (n : Nat) (m : Int) (ha : Fo w a (some r)) (hc : Chn r) (hn : n ≤ 32) : Calls Tryz.prog 39 #[.agg #[.slice a.A a.n a.c, .slice a.B a.m a.d], .int .i64 (n : Int), .int .i64 m] w fun e w' => RetV w (tot r n (fun j => decide ((j : Int) ≤ m))) e w' := by
  have h := atmost_any w a _ _ (n : Int) m ha.1
  rw [fracOf_self ha.2] at h
  exact h.mono fun e w' h => h.ok (totR_ok hc hn)
end Go.Proofs.YtjkffgcikbkjeaaGreat

/- Contracts: the tape beside limbs; Chance, Inner, Two. -/
namespace Go.Proofs.YtjkffgcikbkjeaaGreat
open Go.RowKit

/-- The tape, with no limbs in its block. -/
structure Tp (w : World) (T : Nat) (A : Option Addr) (n c : Nat) (l : List Int) (a : Nat) : Prop where
  t : TapeAt w T A n c l a
  nb : NB w T
theorem Tp.below {w w' : World} {T : Nat} {A : Option Addr} {n c : Nat} {l : List Int} {a : Nat} (h : Tp w T A n c l a) (hb : Below w.heap.size w w') : Tp w' T A n c l a := ⟨h.t.below hb, h.nb.below h.t.1 hb⟩
theorem Tp.alloc {w : World} {T : Nat} {A : Option Addr} {n c : Nat} {l : List Int} {a : Nat} (h : Tp w T A n c l a) (o : Obj) : Tp (w.alloc o) T A n c l a := h.below ((Below.refl _ _).alloc (Nat.le_refl _) _)
theorem NB.one {w w' : World} {g g' : Nat} (h : NB w g) (hf : Fr w w' (fun b => b = g')) (hs : g < w.heap.size) (hg : g ≠ g') : NB w' g := by
  intro j x
  rw [World.cell?_of_block (w := w) (a := ⟨g, j, none⟩) (hf.block g hs hg)]
  exact h j x
/-- A later block changes. -/
theorem Tp.one {w0 w w' : World} {T : Nat} {A : Option Addr} {n c : Nat} {l : List Int} {a0 a : Nat} (h0 : Tp w0 T A n c l a0) (h : Tp w T A n c l a) {g : Nat} (hg : w0.heap.size ≤ g) (hf : Fr w w' (fun b => b = g)) : Tp w' T A n c l a := by
  have hT := h0.t.1
  refine ⟨h.t.fr hf (by show ¬ T = g; omega) (fun b o hA hl => ?_), h.nb.one hf h.t.1 (by omega)⟩
  obtain ⟨b', o', h1, -, h3, -⟩ := h0.t.2.2.2.2.1 hl
  rw [hA] at h1
  injection h1 with h1
  injection h1 with h1
  show ¬ b = g
  omega
set_option maxHeartbeats 1000000 in
theorem nextp_any (w : World) (T : Nat) (A : Option Addr) (n c : Nat) (l : List Int) (a : Nat) (N : Int) (hP : Tp w T A n c l a) (ha : a ≤ 4294967296) (hN : N ≤ 4294967296) :
    Calls Tryz.prog 5 #[.pointer (some ⟨T, 0, none⟩), .int .i64 N] w fun e w' => e = .returned (.int .i64 (tapeV l a N)) ∧ Tp w' T A n c l (a + 1) ∧ Fr w w' (fun b => b = T) := by
  have hT := hP.t
  have HP := hide hP
  clear hP
  have HT := hide hT
  obtain ⟨h1, h2, h3, h4, h5, h6⟩ := hT
  by_cases hlt : a < n
  · obtain ⟨b, o, rfl, hne, hb, hc⟩ := ints_at h5 (k := a) (by omega)
    obtain ⟨x, hx⟩ : ∃ x, x = l[a]'(by omega) := ⟨_, rfl⟩
    rw [← hx] at hc
    have HV := hide (fold_next l a N x (by rw [dif_pos (by omega)]; exact hx))
    have ht : decide (a < n) = true := by simpa using hlt
    have hi1 : (0 : Int) ≤ (a : Int) := by omega
    have hi2 : (a : Int) < (n : Int) := by omega
    have hbT : ¬ b = T := fun e => hne (by rw [e])
    clear h5 h6 hx
    go_enter Tryz.func5, Tryz.ntmps5
    go_wp2_with fail
    go_region_held3 (fun W => W.cell? ⟨T, 0, none⟩ = some (.slice (some ⟨b, o, none⟩) n c) ∧ W.cell? ⟨T, 1, none⟩ = some (.int .i64 a)) (first | (go_keep; done) | ((try dsimp only); (repeat' apply And.intro) <;> first | (go_keep; done) | ((repeat rw [World.cell?_setCell_other _ _ _ _ (by intro h; injection h; omega)]); go_keep; done))) (fail)
    go_wp2_with fail
    go_region_held3 (fun W => W.cell? ⟨T, 0, none⟩ = some (.slice (some ⟨b, o, none⟩) n c) ∧ W.cell? ⟨T, 1, none⟩ = some (.int .i64 a) ∧ W.cell? ⟨b, o + a, none⟩ = some (.int .i64 x)) (first | (go_keep; done) | ((try dsimp only); (repeat' apply And.intro) <;> first | (go_keep; done) | ((repeat rw [World.cell?_setCell_other _ _ _ _ (by intro h; injection h; omega)]); go_keep; done))) (fail)
    go_wp2_with (go_at_call 8; refine (fold_any _ _ _ hN).mono ?_; rintro e w1 ⟨rfl, rfl⟩)
    go_ret
    exact ⟨ret_int HV.out, ⟨tape_put HT.out, HP.out.nb.put 1 (by simp)⟩, fr_put.drew.drew⟩
  · have HV := hide (fold_next l a N ((a : Int) * 7 % 11) (by rw [dif_neg (by omega)]))
    have ht : decide (a < n) = false := by simpa using hlt
    clear h5 h6
    go_enter Tryz.func5, Tryz.ntmps5
    go_wp2_with fail
    go_region_held3 (fun W => W.cell? ⟨T, 0, none⟩ = some (.slice A n c) ∧ W.cell? ⟨T, 1, none⟩ = some (.int .i64 a)) (first | (go_keep; done) | ((try dsimp only); (repeat' apply And.intro) <;> first | (go_keep; done) | ((repeat rw [World.cell?_setCell_other _ _ _ _ (by intro h; injection h; omega)]); go_keep; done))) (fail)
    go_wp2_with (go_at_call 8; refine (fold_any _ _ _ hN).mono ?_; rintro e w1 ⟨rfl, rfl⟩)
    go_ret
    exact ⟨ret_int HV.out, ⟨tape_put HT.out, HP.out.nb.put 1 (by simp)⟩, fr_put.drew⟩

set_option maxHeartbeats 400000 in
theorem pickp_any (w : World) (T : Nat) (A : Option Addr) (n c : Nat) (l : List Int) (a : Nat) (g m d : Nat) (xs : List Int) (hT : Tp w T A n c l a) (ha : a ≤ 4294967296)
    (hx : Rs w (some T) 1 iv (some ⟨g, 0, none⟩) xs) (hl : xs.length = m) (h0 : 0 < m) (hm : m ≤ 4294967296) :
    Calls Tryz.prog 21 #[.pointer (some ⟨T, 0, none⟩), .slice (some ⟨g, 0, none⟩) m d] w fun e w' => (∃ v, v ∈ xs ∧ e = .returned (.int .i64 v)) ∧ Tp w' T A n c l (a + 1) ∧ Fr w w' (fun b => b = T) := by
  have hv := tapeV_lo l a m
  obtain ⟨k, hk⟩ : ∃ k : Nat, tapeV l a m = k := ⟨(tapeV l a m).toNat, by omega⟩
  have hkm : k < m := by omega
  obtain ⟨b, o, hA, hne, hb, hc⟩ := ints_at hx (k := k) (by omega)
  obtain ⟨rfl, rfl⟩ : b = g ∧ o = 0 := by simp at hA; omega
  have hbT : ¬ b = T := fun e => hne (by rw [e])
  obtain ⟨x, hxx⟩ : ∃ x, x = xs[k]'(by omega) := ⟨_, rfl⟩
  rw [← hxx] at hc
  have HM := hide (show x ∈ xs from by rw [hxx]; exact List.getElem_mem _)
  have hmI : (0 : Int) < (m : Int) := by omega
  have hkI : (k : Int) < (m : Int) := by omega
  have hkJ : (0 : Int) ≤ (k : Int) := by omega
  have HK := hide hk
  have HX := hide hx
  clear hA hxx hl hv hk hx
  have hm0 : ((m : Int) == 0) = false := by simp; omega
  go_enter Tryz.func21, Tryz.ntmps21
  go_wp2_with (go_at_call 5; refine (nextp_any _ T A n c l a m hT ha (by omega)).mono ?_; rintro e w1 ⟨rfl, ht1, hf1⟩; rw [HK.out]; have hc1 : w1.cell? ⟨b, 0 + k, none⟩ = some (.int .i64 x) := (by rw [← hc]; exact World.cell?_of_block (w := w) (hf1.block b hb hbT)); simp only [Nat.zero_add] at hc1)
  go_ret
  exact ⟨⟨_, HM.out, rfl⟩, ht1, hf1⟩


theorem mk_den_le (x y : Nat) (hy : 0 < y) : (mkRat x y).den ≤ y := by rw [mk_den x y hy]; exact Nat.div_le_self _ _
theorem mk_le_one {x y : Nat} (hy : 0 < y) (h : x ≤ y) : mkRat x y ≤ 1 := by
  rw [le_iff_n (mk_nonneg x y) (by decide), mk_num x y hy, mk_den x y hy, show rn 1 = 1 from rfl, show (1 : Rat).den = 1 from rfl, Nat.mul_one, Nat.one_mul]
  exact Nat.div_le_div_right h
theorem mk_chn {x y : Nat} (hy : 0 < y) (h : x ≤ y) (hd : y ≤ 1000) : Chn (mkRat x y) := ⟨mk_nonneg x y, mk_le_one hy h, Nat.le_trans (mk_den_le x y hy) hd⟩
/-- What a maker of chances returns. -/
def Mk (w : World) (T : Nat) (A : Option Addr) (n c : Nat) (l : List Int) (a : Nat) (e : Ending) (w' : World) : Prop :=
  ∃ (f : Fa) (r : Rat), e = .returned (.agg #[.slice f.A f.n f.c, .slice f.B f.m f.d]) ∧ Fo w' f (some r) ∧ Chn r ∧ Tp w' T A n c l a ∧ Fr w w' (fun b => b = T)
end Go.Proofs.YtjkffgcikbkjeaaGreat

/- Contracts: Inner, Two. -/
namespace Go.Proofs.YtjkffgcikbkjeaaGreat
open Go.RowKit

theorem mem_nat2 (k : Nat) {v : Int} {l : List Int} (h : v ∈ l) (hl : (l.all fun i => decide ((k : Int) ≤ i) && decide (i ≤ 1000)) = true) : ∃ d : Nat, v = d ∧ k ≤ d ∧ d ≤ 1000 := by
  have := List.all_eq_true.1 hl v h
  simp at this
  exact ⟨v.toNat, by omega, by omega, by omega⟩
theorem tapeV_nat (l : List Int) (a : Nat) (N : Int) : ∃ x : Nat, tapeV l a N = (x : Int) ∧ ((x : Int) < N ∨ x = 0) := by
  have := tapeV_lo l a N
  exact ⟨(tapeV l a N).toNat, by omega, by omega⟩
theorem mk_le {x y d : Nat} (hd : 0 < d) (h : x ≤ y) : mkRat x d ≤ mkRat y d := by
  have hd0 : (0 : Rat) < (d : Rat) := by exact_mod_cast hd
  have hd1 : (d : Rat) ≠ 0 := fun e => by rw [e] at hd0; exact absurd hd0 (by decide)
  refine Rat.le_of_mul_le_mul_right (c := (d : Rat)) ?_ hd0
  rw [Rat.mkRat_eq_div, Rat.mkRat_eq_div]
  have e1 := Rat.div_mul_cancel (a := ((x : Int) : Rat)) hd1
  have e2 := Rat.div_mul_cancel (a := ((y : Int) : Rat)) hd1
  have : ((x : Int) : Rat) ≤ ((y : Int) : Rat) := by exact_mod_cast h
  calc _ = ((x : Int) : Rat) := e1
    _ ≤ ((y : Int) : Rat) := this
    _ = _ := e2.symm
theorem mk_lt {x y d : Nat} (hd : 0 < d) (h : x < y) : mkRat x d < mkRat y d := by
  refine Rat.lt_of_le_of_ne (mk_le hd (Nat.le_of_lt h)) (fun e => ?_)
  have hd0 : (d : Rat) ≠ 0 := fun e => by have : d = 0 := by exact_mod_cast e
                                          omega
  rw [Rat.mkRat_eq_div, Rat.mkRat_eq_div] at e
  have e1 := Rat.div_mul_cancel (a := ((x : Int) : Rat)) hd0
  have e2 := Rat.div_mul_cancel (a := ((y : Int) : Rat)) hd0
  rw [e, e2] at e1
  have : (y : Int) = (x : Int) := by exact_mod_cast e1
  omega
theorem mk_pos {x d : Nat} (hd : 0 < d) (h : 0 < x) : 0 < mkRat x d := by
  have := mk_lt (x := 0) (y := x) hd h
  rwa [show mkRat ((0 : Nat) : Int) d = 0 from Rat.zero_mkRat d] at this
theorem cast_ne0 {d : Nat} (hd : 0 < d) : (d : Rat) ≠ 0 := fun e => by
  have h1 : d = 0 := by exact_mod_cast e
  omega
theorem mk_lt1 {x d : Nat} (hd : 0 < d) (h : x < d) : mkRat x d < 1 := by
  have h1 := mk_lt (x := x) (y := d) hd h
  have e1 : mkRat ((d : Nat) : Int) d = 1 := by
    rw [Rat.mkRat_eq_div]
    have e2 : (((d : Nat) : Int) : Rat) = (d : Rat) := rfl
    rw [e2, Rat.div_def, Rat.mul_inv_cancel _ (cast_ne0 hd)]
  rwa [e1] at h1
/-- What a maker of inner chances returns. -/
def MkI (w : World) (T : Nat) (A : Option Addr) (n c : Nat) (l : List Int) (a : Nat) (e : Ending) (w' : World) : Prop :=
  ∃ (f : Fa) (r : Rat), e = .returned (.agg #[.slice f.A f.n f.c, .slice f.B f.m f.d]) ∧ Fo w' f (some r) ∧ Chn r ∧ (0 < r ∧ r < 1) ∧ Tp w' T A n c l a ∧ Fr w w' (fun b => b = T)
set_option maxRecDepth 100000 in
set_option maxHeartbeats 4000000 in
theorem innermi_any (w : World) (T : Nat) (A : Option Addr) (n c : Nat) (l : List Int) (a : Nat) (hP : Tp w T A n c l a) (ha : a ≤ 4294967000) :
    Calls Tryz.prog 19 #[.pointer (some ⟨T, 0, none⟩)] w fun e w' => MkI w T A n c l (a + 2) e w' := by
  have HP0 := hide hP
  have hTl := hP.t.1
  go_enter Tryz.func19, Tryz.ntmps19
  go_upto_region 1 with (fail)
  generalize hW : World.alloc w _ = v
  have HR := hide (show Rb v w.heap.size by rw [← hW]; exact Rb.mk0 _ rfl)
  have HF := hide (show Fr w v (fun b => b = T) by rw [← hW]; exact (Fr.refl _ _).alloc _)
  have HP := hide (show Tp v T A n c l a by rw [← hW]; exact hP.alloc _)
  clear hW hP
  have hvz := HR.out.sz
  go_upto_region 2 with (go_at_call 21; refine (pickp_any _ T A n c l a _ 9 9 [2, 3, 4, 5, 10, 20, 100, 1000, 997] (HP.out.alloc _) (by omega) (rs_new (by omega) [2, 3, 4, 5, 10, 20, 100, 1000, 997] 3) rfl (by decide) (by decide)).mono ?_; rintro e w1 ⟨⟨v1, hv, rfl⟩, hp1, hf1⟩; have HV := hide (mem_nat2 2 hv (by decide)); have HP1 := hide hp1; have HR1 := hide (((HR.out.bq.alloc _).one hf1 (by omega)).rb); have HF1 := hide ((HF.out.alloc _).trans hf1); clear hv hp1 hf1)
  obtain ⟨d, rfl, hd1, hd2⟩ := HV.out
  have hw : IntKind.i64.wrap ((d : Int) - 1) = (d : Int) - 1 := IntWalk.i64_in _ (by omega)
  go_wp2_with (first
    | (go_at_call 5; refine (nextp_any _ T A n c l (a + 1) ((d : Int) - 1) HP1.out (by omega) (by omega)).mono ?_; rintro e w2 ⟨rfl, hp2, hf2⟩; have HX := hide (tapeV_nat l (a + 1) ((d : Int) - 1)); have HP2 := hide hp2; have HR2 := hide ((HR1.out.bq.one hf2 (by omega)).rb); have HF2 := hide (HF1.out.trans (hf2.mono (fun _ _ h => h))); clear hp2 hf2; obtain ⟨x, hx, hxd⟩ := HX.out; rw [hx]; obtain ⟨u, hu⟩ : ∃ u : Nat, u = 1 + x := ⟨_, rfl⟩; have hu1 : (1 : Int) + (x : Int) = (u : Int) := (by omega); have HU := hide hu; clear hu hx HX)
    | (go_at_call 20; (with_reducible refine (small_any _ u d (by omega) (by omega) (by omega)).mono ?_); rintro e w3 ⟨f, rfl, ho, hb⟩; have HO := hide ho; have HP3 := hide (HP2.out.below hb); have HR3 := hide (HR2.out.below hb); have HF3 := hide (HF2.out.below_ hb); obtain ⟨r0, r1, rf, rz, -⟩ := HR3.out; clear ho hb))
  have hud : u < d := by have := HU.out; omega
  have hu0 : 0 < u := by have := HU.out; omega
  refine bodyPost_ret (v := .agg #[.slice f.A f.n f.c, .slice f.B f.m f.d]) (by simp [results, Tryz.results19, go_sem, *]) rfl ⟨f, mkRat u d, rfl, HO.out.put2 HR3.out.nb _ _ (by simp), mk_chn (by omega) (by omega) hd2, ⟨mk_pos (by omega) hu0, mk_lt1 (by omega) hud⟩, HP0.out.one HP3.out (Nat.le_refl _) (fr_fill _ _), (HF3.out.setCell (.inl (Nat.le_refl _)) _).setCell (.inl (Nat.le_refl _)) _⟩
/-- What Two returns. -/
def Mk2 (w : World) (T : Nat) (A : Option Addr) (n c : Nat) (l : List Int) (a : Nat) (e : Ending) (w' : World) : Prop :=
  ∃ (f g : Fa) (r s : Rat), e = .returned (.tuple #[.agg #[.slice f.A f.n f.c, .slice f.B f.m f.d], .agg #[.slice g.A g.n g.c, .slice g.B g.m g.d]]) ∧ Fo w' f (some r) ∧ Fo w' g (some s) ∧ Chn r ∧ Chn s ∧ (0 < r ∧ r < s ∧ s < 1) ∧ Tp w' T A n c l a ∧ Fr w w' (fun b => b = T)
end Go.Proofs.YtjkffgcikbkjeaaGreat

/- Words for the laws: a slice of ints that came in, the tape over it. -/
namespace Go.Proofs.YtjkffgcikbkjeaaGreat
open Go.RowKit

/-- The tape just made. -/
theorem tape_new {w : World} {A : Option Addr} {n c : Nat} {l : List Int} (h : Rs w none 1 iv A l) (hl : l.length = n) (t : TypeId) : TapeAt (w.alloc (.cells #[.slice A n c, .int .i64 0] t)) w.heap.size A n c l 0 := by
  refine ⟨by simp, by go_simp, by go_simp, fun j => by go_simp, fun hne => ?_, hl⟩
  obtain ⟨b, o, h1, _, h3, h4⟩ := h hne
  refine ⟨b, o, h1, by intro e; injection e with e; omega, by simp; omega, fun k a hk j u hu => ?_⟩
  have := h4 k a hk j u hu
  rw [← this]
  exact World.cell?_of_block (w := w) (a := ⟨b, o + k * 1 + j, none⟩) (((Below.refl w.heap.size w).alloc (Nat.le_refl _) _).block b h3)

end Go.Proofs.YtjkffgcikbkjeaaGreat

/- Words for the laws on chances: boxes of fractions, the tape, folded numbers. -/
namespace Go.Proofs.YtjkffgcikbkjeaaGreat
open Go.RowKit

/-- Boxes that hold fractions. -/
structure BX (w0 W : World) (bs : List (Nat × Fa × Option Rat)) : Prop where
  bw : Below w0.heap.size w0 W
  all : ∀ x ∈ bs, Fx W x.1 x.2.1 x.2.2
theorem fold_nat (v n : Int) (h : 1 ≤ n) (hn : n ≤ 4294967296) : ∃ m : Nat, (m : Int) < n ∧ ∀ w, Calls Tryz.prog 8 #[.int .i64 v, .int .i64 n] w fun e w' => e = .returned (.int .i64 (m : Int)) ∧ w = w' := by
  have h1 := foldV_lo v n
  obtain ⟨m, hm⟩ : ∃ m : Nat, foldV v n = (m : Int) := ⟨(foldV v n).toNat, by omega⟩
  refine ⟨m, by omega, fun w => ?_⟩
  have := fold_any v n w hn
  rwa [hm] at this
/-- The tape just made, with no limbs in it. -/
theorem tp_new {w : World} {A : Option Addr} {n c : Nat} {l : List Int} (h : Rs w none 1 iv A l) (hl : l.length = n) (t : TypeId) : Tp (w.alloc (.cells #[.slice A n c, .int .i64 0] t)) w.heap.size A n c l 0 :=
  ⟨tape_new h hl t, box2n (Below.refl _ _) (by simp) (by simp)⟩
theorem fr_new {w w' : World} {o : Obj} {T : Nat} (hT : T = w.heap.size) (h : Fr (w.alloc o) w' (fun b => b = T)) : Below w.heap.size w w' := by
  subst hT
  exact (((Fr.refl w (fun b => b = w.heap.size)).alloc o).trans h).below (Nat.le_refl _) (fun k hk e => by omega)
end Go.Proofs.YtjkffgcikbkjeaaGreat

/- Contracts: noise.Sequence. -/
namespace Go.Proofs.YtjkffgcikbkjeaaGreat
open Go.RowKit

def bv (b : Bool) : List Value := [.bool b]
/-- The chance of outcomes in an order. -/
def sqF (r acc : Rat) (l : List Bool) : Rat := l.foldl (fun acc b => acc * (if b then r else 1 - r)) acc
def sqL (r : Rat) (l : List Bool) : Rat := sqF r 1 l
/-- The loop's state. -/
structure SS (w wr : World) (a : Fa) (l k : List Nat) (r : Rat) (b6 b7 : Nat) (c6 c7 : Fa) (acc : Rat) : Prop where
  f1 : F1 w wr a l k
  x6 : Fx wr b6 c6 (some acc)
  x7 : Fx wr b7 c7 (some (1 - r))
  d : b7 ≠ b6
  g : w.heap.size + 1 < b6
def RSq (B : Nat) (a : Fa) (r : Rat) : Nat → Value → World → Prop
  | 0, x, W => ∃ c : Fa, x = .agg #[.slice c.A c.n c.c, .slice c.B c.m c.d] ∧ Fo W c (some 1)
  | 1, x, _ => x = .agg #[.slice a.A a.n a.c, .slice a.B a.m a.d]
  | 2, x, W => ∃ c : Fa, x = .agg #[.slice c.A c.n c.c, .slice c.B c.m c.d] ∧ Fo W c (some (1 - r))
  | 3, x, W => ∃ b, x = .pointer (some ⟨b, 0, none⟩) ∧ B ≤ b ∧ Bq W b fa0
  | 4, x, W => ∃ b, x = .pointer (some ⟨b, 0, none⟩) ∧ B ≤ b ∧ Bq W b fa0
  | _, _, _ => True
/-- What Sequence returns. -/
def seqR (o : Option Rat) (l : List Bool) : Option Rat × Int :=
  if chO o = true then (if 32 < l.length then (none, 2) else match o with | some r => (some (sqL r l), 0) | none => (none, 41)) else (none, 41)
end Go.Proofs.YtjkffgcikbkjeaaGreat

/- What came in, whatever it is, reads as plain values: rows, fractions. -/
namespace Go.Proofs.YtjkffgcikbkjeaaGreat
open Go.RowKit Go.WideShapes Go.Deep

theorem jcells3 : Tryz.prog.cellsOf 3 = 1 := by kernel_rfl
section
variable {H : Type} {enc : TypeId × Value → H} {w : World} {base : Nat} {spare : Nat → Bool} {held : Bool}

/-- A row whose elements read as f's. -/
theorem came_row {α : Type} (f : α → List Value) (s : Nat) (p : α → Prop) (x0 : α) {t e : TypeId} (ht : Tryz.prog.underlying t = some (.slice e)) (hc : Tryz.prog.cellsOf e = s) (hs : 0 < s) (hf : ∀ a, (f a).length = s)
    (hel : ∀ (n : Nat) (cs : List Value) (x : DataW H × List MemPlace), DataW.trod enc Tryz.prog w base spare held n e cs = some x → ∃ a, cs = f a ∧ p a)
    {fuel : Nat} {cs : List Value} {x : DataW H × List MemPlace} (h : DataW.trod enc Tryz.prog w base spare held fuel t cs = some x) :
    ∃ (A : Option Addr) (n c : Nat) (l : List α), cs = [.slice A n c] ∧ l.length = n ∧ n ≤ c ∧ c ≤ maxLen ∧ (∀ a ∈ l, p a) ∧ Rs w none s f A l := by
  rcases open_slice ht h with ⟨h2, -⟩ | ⟨a, len, cap, mm, nn, D, Pl, h2, -, h4, h5, h6, -, h8⟩
  · exact ⟨none, 0, 0, [], h2, rfl, Nat.le_refl _, Nat.zero_le _, by simp, Rs.nil⟩
  · have hle : len ≤ mm := by rw [h6]; split <;> omega
    rw [hc] at h8
    have tk : ∀ i, i < len → ∃ t : α, (∀ j u, (f t)[j]? = some u → w.cell? ((a.add (i * s)).add j) = some u) ∧ p t := by
      intro i hi
      obtain ⟨cs', h9, h10⟩ := h8 i (by omega)
      obtain ⟨t, rfl, hp⟩ := hel _ _ _ h10
      obtain ⟨-, -, h11⟩ := World.cells?_some h9
      exact ⟨t, fun j u hu => (h11 j (by have := (List.getElem?_eq_some_iff.1 hu).1; rwa [hf] at this)).trans hu, hp⟩
    let g : Nat → α := fun i => if hi : i < len then Classical.choose (tk i hi) else x0
    have hgp : ∀ i, i < len → (∀ j u, (f (g i))[j]? = some u → w.cell? ((a.add (i * s)).add j) = some u) ∧ p (g i) := by
      intro i hi
      have := Classical.choose_spec (tk i hi)
      simpa [g, hi] using this
    refine ⟨some a, len, cap, (List.range len).map g, h2, by simp, h4, h5, ?_, fun hne => ?_⟩
    · intro b hb
      obtain ⟨i, hi, rfl⟩ := List.mem_map.1 hb
      exact (hgp i (by simpa using hi)).2
    have hpos : 0 < len := by
      rcases Nat.eq_zero_or_pos len with h | h
      · subst h; simp at hne
      · exact h
    obtain ⟨b, o, sp⟩ := a
    have hlen0 := hf (g 0)
    have q0 := (hgp 0 hpos).1 0 _ (List.getElem?_eq_getElem (show 0 < (f (g 0)).length by omega))
    have hsp : sp = none := by
      cases sp with
      | none => rfl
      | some s =>
        simp [Addr.add] at q0
        simp only [World.cell?] at q0
        split at q0 <;> simp at q0
    subst hsp
    have hb : b < w.heap.size := by
      have := World.block_lt_of_cell? w _ q0
      simpa [Addr.add] using this
    refine ⟨b, o, rfl, by simp, hb, fun k z hk j u hu => ?_⟩
    simp only [List.getElem?_map] at hk
    rcases Nat.lt_or_ge k len with hkl | hkl
    · rw [List.getElem?_range hkl] at hk
      simp at hk
      subst hk
      have := (hgp k hkl).1 j u hu
      rwa [Addr.add_lit, Addr.add_lit] at this
    · rw [List.getElem?_eq_none (by simpa using hkl)] at hk
      simp at hk
theorem came_intsI {fuel : Nat} {cs : List Value} {x : DataW H × List MemPlace} (h : DataW.trod enc Tryz.prog w base spare held fuel 22 cs = some x) :
    ∃ (A : Option Addr) (n c : Nat) (l : List Int), cs = [.slice A n c] ∧ l.length = n ∧ n ≤ c ∧ c ≤ maxLen ∧ Rs w none 1 iv A l := by
  obtain ⟨A, n, c, l, h1, h2, h3, h4, -, h5⟩ := came_row iv 1 (fun _ => True) 0 Tryz.underlying22 jcells3 (by omega) (fun _ => rfl) (fun n cs x h => by
    obtain ⟨i, hi, -⟩ := DataW.trod_int Tryz.underlying3 h
    exact ⟨i, hi, trivial⟩) h
  exact ⟨A, n, c, l, h1, h2, h3, h4, h5⟩
/-- A fraction that came in. -/
structure CameF (w : World) (p : Fa) (l k : List Nat) : Prop where
  u : Ul w none p.A p.n l
  v : Ul w none p.B p.m k
  c : p.n ≤ p.c
  d : p.m ≤ p.d
  n : p.n ≤ 9223372036854775807
  m : p.m ≤ 9223372036854775807
end
end Go.Proofs.YtjkffgcikbkjeaaGreat

/- Contracts: the reference's trim, Of. -/
namespace Go.Proofs.YtjkffgcikbkjeaaGreat
open Go.RowKit

set_option maxRecDepth 100000 in
set_option maxHeartbeats 4000000 in
theorem r1trim_any (w : World) (av : Option Nat) (A : Option Addr) (n c : Nat) (l : List Nat) (hU : Ul w av A n l) (hc : n ≤ c) (hc63 : n ≤ 4294967296) :
    Calls Tryz.prog 116 #[.slice A n c] w fun e w' => ∃ A' m c', e = .returned (.slice A' m c') ∧ m ≤ n ∧ OF w w' A' m c' (lm (lv l)) := by
  have HU := hide hU
  have HE := hide (show lv (l.take n) = lv l by rw [List.take_of_length_le (by have := hU.len; omega)])
  clear hU
  go_enter Tryz.func116, Tryz.ntmps116
  go_wp2
  go_loop [3] (fun v => ∃ k : Nat, k ≤ n ∧ v = .int .i64 (k : Int) ∧ Hid (lv (l.take k) = lv l)) (fun v => (intOf v).toNat)
  case atStart => exact ⟨n, Nat.le_refl _, rfl, HE⟩
  case round =>
    obtain ⟨k, hk, rfl, HK⟩ := hrel
    by_cases hk0 : k = 0
    · subst hk0
      have e : lm (lv l) = [] := by rw [← HK.out]; simp [lv, lm_zero]
      have HEE := hide e
      clear e
      go_wp2_with (at_builtin; refine wl_appall_u32 (w0 := w) rfl _ _ _ Tryz.underlying50 rfl none 0 0 [] av _ 0 c [] rfl rfl (OF.nil (Fr.refl w _)) Ul.nil (by omega) ?_; intro A' c' w' ho; have HO := hide ho; clear ho)
      go_ret
      exact ⟨A', 0, c', rfl, by omega, by rw [HEE.out]; exact HO.out⟩
    · obtain ⟨j, rfl⟩ : ∃ j, k = j + 1 := ⟨k - 1, by omega⟩
      obtain ⟨b, o, x, rfl, -, -, hx, hxl, hcell⟩ := HU.out.at (k := j) (by omega)
      have HX := hide hx
      clear hx
      have g1 : (0 : Int) ≤ (j : Int) := by omega
      have g2 : decide ((0 : Int) < (j : Int) + 1) = true := decide_eq_true (by omega)
      have g3 : (j : Int) < (n : Int) := by omega
      by_cases hx0 : x = 0
      · subst hx0
        go_wp2
        go_round
        case rel => exact ⟨j, by omega, by go_num, hide ((lv_take_zero HX.out).symm.trans HK.out)⟩
        case measure => simp [intOf] <;> omega
      · have hxd : ((x : Int) == 0) = false := by simp; omega
        have e := take_eq_lm HU.out.ok (by have := HU.out.len; omega) HK.out (.inr ⟨x, HX.out, hx0⟩)
        have HEE := hide e
        have HT := hide (HU.out.take (k := j + 1) (by omega))
        clear e
        go_wp2_with (at_builtin; refine wl_appall_u32 (w0 := w) rfl _ _ _ Tryz.underlying50 rfl none 0 0 [] av _ (j + 1) c (l.take (j + 1)) rfl rfl (OF.nil (Fr.refl w _)) HT.out (by omega) ?_; intro A' c' w' ho; have HO := hide ho; clear ho)
        go_ret
        have ho := HO.out
        rw [Nat.zero_add, List.nil_append] at ho
        exact ⟨A', j + 1, c', rfl, by omega, by rw [← HEE.out]; exact ho⟩
set_option maxHeartbeats 1000000 in
theorem r1of_any (w : World) (n : Nat) (hn : n < 18446744073709551616) :
    Calls Tryz.prog 100 #[.int .u64 (n : Int)] w fun e w' => ∃ A m c, e = .returned (.slice A m c) ∧ m ≤ c ∧ m ≤ 2 ∧ Ul w' none A m (lm n) ∧ Below w.heap.size w w' := by
  have HT := hide (ul_two (w := w) n hn)
  go_enter Tryz.func100, Tryz.ntmps100
  go_wp2_with (go_at_call 116; refine (r1trim_any _ none _ 2 2 _ HT.out (by omega) (by omega)).mono ?_; rintro e w' ⟨A, m, c, rfl, hm2, ho⟩; rw [lv_two] at ho)
  go_ret
  exact ⟨_, m, _, by rfl, ho.cap, hm2, ho.ul, ((Below.refl _ _).alloc (Nat.le_refl _) _).trans ((ho.fr.below (Nat.le_refl _) (fun _ _ h => h)).mono (by simp))⟩
end Go.Proofs.YtjkffgcikbkjeaaGreat

/- Contracts: the reference's Check, Order, Compare. -/
namespace Go.Proofs.YtjkffgcikbkjeaaGreat
open Go.RowKit

set_option maxRecDepth 100000 in
set_option maxHeartbeats 4000000 in
theorem r1check_any (w : World) (av : Option Nat) (A : Option Addr) (n c : Nat) (l : List Nat) (hU : Ul w av A n l) (hn : n ≤ 9223372036854775807) :
    Calls Tryz.prog 104 #[.slice A n c] w fun e w' => e = .returned (.bool (natB l)) ∧ w' = w := by
  by_cases h1 : 128 < n
  · have hb := hide (natB_big (l := l) (by rw [hU.len]; exact h1))
    have d1 : decide ((n : Int) ≤ 128) = false := decide_eq_false (by omega)
    clear hU
    go_enter Tryz.func104, Tryz.ntmps104
    go_wp2
    go_ret
    exact ⟨by rw [hb.out]; rfl, rfl⟩
  · have d1 : decide ((n : Int) ≤ 128) = true := decide_eq_true (by omega)
    by_cases h0 : n = 0
    · subst h0
      have hl : l = [] := List.eq_nil_of_length_eq_zero hU.len
      subst hl
      go_enter Tryz.func104, Tryz.ntmps104
      go_wp2
      go_ret
      exact ⟨by rw [natB_nil]; rfl, rfl⟩
    · obtain ⟨k, rfl⟩ : ∃ k, n = k + 1 := ⟨n - 1, by omega⟩
      obtain ⟨b, o, x, rfl, -, -, hx, hxl, hcell⟩ := hU.at (k := k) (by omega)
      have hb := natB_last hU.ok hU.len (by omega) hx
      have g1 : (0 : Int) ≤ (k : Int) := by omega
      have d2 : ((k : Int) + 1 == 0) = false := by simp; omega
      by_cases hx0 : x = 0
      · subst hx0
        have HB := hide (show natB l = false by rw [hb]; rfl)
        clear hU hx hb
        go_enter Tryz.func104, Tryz.ntmps104
        go_wp2
        go_ret
        exact ⟨by rw [HB.out]; rfl, rfl⟩
      · have HB := hide (show natB l = true by rw [hb]; simp [hx0])
        have d3 : ((x : Int) != 0) = true := by simp; omega
        clear hU hx hb
        go_enter Tryz.func104, Tryz.ntmps104
        go_wp2
        go_ret
        exact ⟨by rw [HB.out]; rfl, rfl⟩
set_option maxRecDepth 100000 in
set_option maxHeartbeats 4000000 in
theorem r1order_any (w : World) (av av' : Option Nat) (A : Option Addr) (n c : Nat) (A' : Option Addr) (n' c' : Nat) (x y : Nat) (hU : Ul w av A n (lm x)) (hV : Ul w av' A' n' (lm y)) (hn : n ≤ 4294967296) (hn' : n' ≤ 4294967296) :
    Calls Tryz.prog 105 #[.slice A n c, .slice A' n' c'] w fun e w' => e = .returned (.int .i64 (cmpN x y)) ∧ Dr w w' := by
  have HU := hide hU
  have HV := hide hV
  clear hU hV
  by_cases hne : n = n'
  · subst hne
    go_enter Tryz.func105, Tryz.ntmps105
    go_wp2
    go_loopw [5] (fun i wr => ∃ k : Nat, k ≤ n ∧ i = .int .i64 ((k : Int) - 1) ∧ Hid ((lm x).drop k = (lm y).drop k) ∧ Hid (Dr w wr)) (fun i _ => (intOf i + 1).toNat)
    case atStart => exact ⟨n, Nat.le_refl _, rfl, hide (by rw [List.drop_eq_nil_of_le (by have := HU.out.len; omega), List.drop_eq_nil_of_le (by have := HV.out.len; omega)]), hide (Dr.refl w)⟩
    case round =>
      obtain ⟨k, hk, rfl, HK, HD⟩ := hrel
      by_cases hk0 : k = 0
      · subst hk0
        go_wp2
        go_ret
        have e : x = y := lm_inj (by simpa using HK.out)
        exact ⟨by rw [e, cmpN_eq]; rfl, HD.out⟩
      · obtain ⟨j, rfl⟩ : ∃ j, k = j + 1 := ⟨k - 1, by omega⟩
        obtain ⟨b, o, p, rfl, -, -, hp, hpl, hcell⟩ := (HU.out.dr HD.out).at (k := j) (by omega)
        obtain ⟨b', o', q, rfl, -, -, hq, hql, hcell'⟩ := (HV.out.dr HD.out).at (k := j) (by omega)
        have HP := hide hp
        have HQ := hide hq
        clear hp hq
        have g1 : (0 : Int) ≤ (j : Int) := by omega
        have g2 : (j : Int) < (n : Int) := by omega
        rcases Nat.lt_trichotomy p q with hlt | heq | hlt
        · have h := lt_of_limb (okL_lm x) HP.out HQ.out HK.out hlt
          rw [lv_lm, lv_lm] at h
          have HC := hide (cmpN_lt h)
          clear h
          have d1 : ((p : Int) == (q : Int)) = false := by simp; omega
          have d2 : decide ((p : Int) < (q : Int)) = true := decide_eq_true (by omega)
          go_wp2
          go_quiet (fail)
          go_wp2
          go_quiet (fail)
          go_wp2
          go_ret
          exact ⟨by rw [HC.out]; rfl, (HD.out.drewN _).drewN _⟩
        · subst heq
          go_wp2
          go_quiet (fail)
          go_wp2
          go_roundw
          case rel => exact ⟨j, by omega, by go_num, hide (by rw [drop_cons HP.out, drop_cons HQ.out, HK.out]), hide (HD.out.drewN _)⟩
          case measure => simp [intOf] <;> omega
        · have h := lt_of_limb (okL_lm y) HQ.out HP.out HK.out.symm hlt
          rw [lv_lm, lv_lm] at h
          have HC := hide (cmpN_gt h)
          clear h
          have d1 : ((p : Int) == (q : Int)) = false := by simp; omega
          have d2 : decide ((p : Int) < (q : Int)) = false := decide_eq_false (by omega)
          go_wp2
          go_quiet (fail)
          go_wp2
          go_quiet (fail)
          go_wp2
          go_ret
          exact ⟨by rw [HC.out]; rfl, (HD.out.drewN _).drewN _⟩
  · by_cases hlt : n < n'
    · have h : x < y := lt_of_length (by rw [HU.out.len, HV.out.len]; exact hlt)
      go_enter Tryz.func105, Tryz.ntmps105
      go_wp2
      go_ret
      exact ⟨by rw [cmpN_lt h]; rfl, Dr.refl w⟩
    · have h : y < x := lt_of_length (by rw [HU.out.len, HV.out.len]; omega)
      go_enter Tryz.func105, Tryz.ntmps105
      go_wp2
      go_ret
      exact ⟨by rw [cmpN_gt h]; rfl, Dr.refl w⟩
set_option maxRecDepth 100000 in
set_option maxHeartbeats 4000000 in
theorem r1cmp_any (w : World) (av av' : Option Nat) (A : Option Addr) (n c : Nat) (B : Option Addr) (m d : Nat) (l k : List Nat) (hU : Ul w av A n l) (hV : Ul w av' B m k) (hn : n ≤ 4294967296) (hm : m ≤ 4294967296) :
    Calls Tryz.prog 99 #[.slice A n c, .slice B m d] w fun e w' => e = .returned (.int .i64 (if natB l && natB k then cmpN (lv l) (lv k) else 0)) ∧ Below w.heap.size w w' := by
  have HU := hide hU
  have HV := hide hV
  clear hU hV
  cases h1 : natB l
  · have H1 := hide h1
    clear h1
    go_enter Tryz.func99, Tryz.ntmps99
    go_wp2_with (go_at_call 104; (with_reducible refine (r1check_any _ av A n c l HU.out (by omega)).mono ?_); rintro e w' ⟨rfl, rfl⟩; rw [H1.out])
    go_ret
    exact ⟨rfl, Below.refl _ _⟩
  · cases h2 : natB k
    · have H1 := hide h1
      have H2 := hide h2
      clear h1 h2
      go_enter Tryz.func99, Tryz.ntmps99
      go_wp2_with (first
        | (go_at_call 104; (with_reducible refine (r1check_any _ av A n c l HU.out (by omega)).mono ?_); rintro e w' ⟨rfl, rfl⟩; rw [H1.out])
        | (go_at_call 104; (with_reducible refine (r1check_any _ av' B m d k HV.out (by omega)).mono ?_); rintro e w' ⟨rfl, rfl⟩; rw [H2.out]))
      go_ret
      exact ⟨rfl, Below.refl _ _⟩
    · have H1 := hide h1
      have H2 := hide h2
      have e1 := hide (natB_iff.1 h1).2
      have e2 := hide (natB_iff.1 h2).2
      clear h1 h2
      have HU2 := hide (show Ul w av A n (lm (lv l)) by rw [← e1.out]; exact HU.out)
      have HV2 := hide (show Ul w av' B m (lm (lv k)) by rw [← e2.out]; exact HV.out)
      go_enter Tryz.func99, Tryz.ntmps99
      go_wp2_with (first
        | (go_at_call 104; (with_reducible refine (r1check_any _ av A n c l HU.out (by omega)).mono ?_); rintro e w' ⟨rfl, rfl⟩; rw [H1.out])
        | (go_at_call 104; (with_reducible refine (r1check_any _ av' B m d k HV.out (by omega)).mono ?_); rintro e w' ⟨rfl, rfl⟩; rw [H2.out])
        | (go_at_call 105; (with_reducible refine (r1order_any _ av av' A n c B m d (lv l) (lv k) HU2.out HV2.out hn hm).mono ?_); rintro e w' ⟨rfl, hd⟩; have HD := hide hd; clear hd))
      go_ret
      exact ⟨rfl, HD.out.below⟩
end Go.Proofs.YtjkffgcikbkjeaaGreat
