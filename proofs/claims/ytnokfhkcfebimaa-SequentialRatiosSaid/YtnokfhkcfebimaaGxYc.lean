/- The walk of the law SequentialRatios. -/
import Derived.Test.YtnokfhkcfebimaaG26
import Derived.Test.YtnokfhkcfebimaaG24
import Derived.Test.YtnokfhkcfebimaaG25
import Derived.IntWalk
set_option linter.unusedVariables false
set_option linter.unusedSimpArgs false

/- The walk of the law SequentialRatios. -/
namespace Go.Proofs.Ytnokfhkcfebimaa
open Go.RowKit

theorem ratios_pair {s : Sv} {l h a b : Rat} {M : Nat} (hk : OKs s l h a b M) (x y : Int) : ∃ (o : Option Rat) (E D : Int),
    (∀ W, SQ W s → Calls Try.prog 25 #[.agg #[.slice s.l.A s.l.n s.l.c, .slice s.l.B s.l.m s.l.d, .slice s.h.A s.h.n s.h.c, .slice s.h.B s.h.m s.h.d, .slice s.a.A s.a.n s.a.c, .slice s.a.B s.a.m s.a.d, .slice s.b.A s.b.n s.b.c, .slice s.b.B s.b.m s.b.d, .int .i64 s.m], .int .i64 x, .int .i64 y] W fun e w' => ∃ c : Fa, e = .returned (.tuple #[.agg #[.slice c.A c.n c.c, .slice c.B c.m c.d], .int .i64 E]) ∧ Fo w' c o ∧ Below W.heap.size W w') ∧
    (∀ W, SQ W s → Calls Try.prog 26 #[.agg #[.slice s.l.A s.l.n s.l.c, .slice s.l.B s.l.m s.l.d, .slice s.h.A s.h.n s.h.c, .slice s.h.B s.h.m s.h.d, .slice s.a.A s.a.n s.a.c, .slice s.a.B s.a.m s.a.d, .slice s.b.A s.b.n s.b.c, .slice s.b.B s.b.m s.b.d, .int .i64 s.m], .int .i64 x, .int .i64 y] W fun e w' => ∃ c : Fa, e = .returned (.tuple #[.agg #[.slice c.A c.n c.c, .slice c.B c.m c.d], .int .i64 E]) ∧ Fo w' c o ∧ Below W.heap.size W w') ∧
    (∀ W, SQ W s → Calls Try.prog 23 #[.agg #[.slice s.l.A s.l.n s.l.c, .slice s.l.B s.l.m s.l.d, .slice s.h.A s.h.n s.h.c, .slice s.h.B s.h.m s.h.d, .slice s.a.A s.a.n s.a.c, .slice s.a.B s.a.m s.a.d, .slice s.b.A s.b.n s.b.c, .slice s.b.B s.b.m s.b.d, .int .i64 s.m], .int .i64 x, .int .i64 y] W fun e w' => e = .returned (.tuple #[.int .i64 D, .int .i64 E]) ∧ Below W.heap.size W w') ∧
    (∀ W, SQ W s → Calls Try.prog 27 #[.agg #[.slice s.l.A s.l.n s.l.c, .slice s.l.B s.l.m s.l.d, .slice s.h.A s.h.n s.h.c, .slice s.h.B s.h.m s.h.d, .slice s.a.A s.a.n s.a.c, .slice s.a.B s.a.m s.a.d, .slice s.b.A s.b.n s.b.c, .slice s.b.B s.b.m s.b.d, .int .i64 s.m], .int .i64 x, .int .i64 y] W fun e w' => e = .returned (.tuple #[.int .i64 D, .int .i64 E]) ∧ Below W.heap.size W w') := by
  by_cases hc : cntE s x y = 0
  · obtain ⟨h1, h2, h3, h4, h5, h6⟩ := cnt_ok hc
    obtain ⟨P, rfl⟩ : ∃ P : Nat, x = P := ⟨x.toNat, by omega⟩
    obtain ⟨G, rfl⟩ : ∃ G : Nat, y = G := ⟨y.toNat, by omega⟩
    have hpf : P + G ≤ M := by have := hk.m; omega
    refine ⟨some (ratQ l h P G), 0, decQ l h a b P G, fun W hW => ?_, fun W hW => qratiox_ok W s l h a b M P G hW hk hpf, fun W hW => sdecide_ok W s l h a b M P G hW hk hpf, fun W hW => qdecide_ok W s l h a b M P G hW hk hpf⟩
    obtain ⟨r, hr, hC⟩ := sratiox_any W s P G hW
    have e1 := hr l h a b M hk
    rw [Int.toNat_natCast, Int.toNat_natCast] at e1
    subst e1
    rw [show ratR s P G (ratQ l h P G) = (some (ratQ l h P G), 0) from if_pos hc] at hC
    exact hC
  · refine ⟨none, cntE s x y, 0, fun W hW => ?_, fun W hW => qratiox_bad W s x y hW hc, fun W hW => sdecide_bad W s x y hW hc, fun W hW => qdecide_bad W s x y hW hc⟩
    obtain ⟨r, -, hC⟩ := sratiox_any W s x y hW
    rw [show ratR s x y r = (none, cntE s x y) from if_neg hc] at hC
    exact hC
theorem pairs_at {w v : World} {x0 y0 x1 y1 : Int} {t : TypeId} (hv : Below (w.heap.size + 1) (w.alloc (.cells #[.int .i64 x0, .int .i64 y0, .int .i64 x1, .int .i64 y1] t)) v) {j : Nat} (hj : j < 2) :
    ∃ x y : Int, v.cell? ⟨w.heap.size, j * 2, none⟩ = some (.int .i64 x) ∧ v.cell? ⟨w.heap.size, j * 2 + 1, none⟩ = some (.int .i64 y) := by
  match j, hj with
  | 0, _ => exact ⟨x0, y0, by rw [hv.cell (by simp)]; simp [go_sem], by rw [hv.cell (by simp)]; simp [go_sem]⟩
  | 1, _ => exact ⟨x1, y1, by rw [hv.cell (by simp)]; simp [go_sem], by rw [hv.cell (by simp)]; simp [go_sem]⟩
set_option maxRecDepth 100000 in
set_option maxHeartbeats 16000000 in
theorem ratios_walk (w : World) (A : Option Addr) (n c : Nat) (l : List Int) (X Y : Int) (hA : Rs w none 1 iv A l) (hl : l.length = n) :
    Calls Try.prog 4 #[.slice A n c, .int .i64 X, .int .i64 Y] w fun e w' => e = .returned (.bool true) ∧ Below w.heap.size w w' := by
  have HP := hide (tp_new (w := w) (c := c) hA hl 32)
  clear hA hl
  go_enter Try.func4, Try.ntmps4
  go_upto_region 2 with (go_at_call 19; refine (yspec_any _ w.heap.size A n c l 0 32 HP.out (by omega) (by omega) (by omega)).mono ?_; rintro e w1 ⟨s, lo, hi, al, be, M, b, rfl, hq, hk, hM, -, -, hf⟩; have HB1 := hide (fr_new rfl hf); have HQ1 := hide hq; have HK := hide hk; clear hq hk hf)
  generalize hW : World.alloc w1 _ = v
  have HF := hide (show FS w v w1.heap.size s by rw [← hW]; exact ⟨HB1.out.trans (((Below.refl _ _).alloc (Nat.le_refl _) _ : Below w1.heap.size w1 _).mono HB1.out.size), (FS.mk0 HQ1.out _).cb, HQ1.out.alloc _⟩)
  obtain ⟨g, hg⟩ : ∃ g, g = w1.heap.size := ⟨_, rfl⟩
  rw [← hg] at HF ⊢
  have hm1 : 1 ≤ s.m ∧ s.m ≤ 32 := ⟨by have := HK.out.m; have := HK.out.m1; omega, by have := HK.out.m; have := HK.out.m2; omega⟩
  have hm2 := hm1.1
  have hm3 := hm1.2
  clear hm1
  obtain ⟨q, hq, hF⟩ := fold_nat X (s.m + 1) (by omega) (by omega)
  obtain ⟨r, hr, hG⟩ := fold_nat Y (s.m + 1) (by omega) (by omega)
  have HFX := hide hF
  have HFY := hide hG
  obtain ⟨a0, a1, a2, a3, a4, a5, a6, a7, a8, a9⟩ := HF.out.ca
  clear hW hg hF hG
  have hwr : IntKind.i64.wrap (s.m + 1) = s.m + 1 := IntWalk.i64_in _ (by omega)
  go_region_held3 (fun W => W.cell? ⟨g, 8, none⟩ = some (.int .i64 s.m)) (first | (go_keep; done) | ((try dsimp only); (repeat' apply And.intro) <;> first | (go_keep; done) | ((repeat rw [World.cell?_setCell_other _ _ _ _ (by intro h; injection h; omega)]); go_keep; done))) (first | (go_at_call 20; (with_reducible refine (HFX.out _).mono ?_); rintro e w' ⟨rfl, rfl⟩) | (go_at_call 20; (with_reducible refine (HFY.out _).mono ?_); rintro e w' ⟨rfl, rfl⟩))
  clear hwr
  generalize hW : World.drew (World.alloc v _) = v2
  have HV := hide (show Below v.heap.size v v2 by rw [← hW]; exact ((Below.refl _ _).alloc (Nat.le_refl _) _).drew)
  have HR := hide (show ∀ (W : World), Below v2.heap.size v2 W → ∀ j : Nat, j < 2 → ∃ x y : Int, W.cell? ⟨v.heap.size, j * 2, none⟩ = some (.int .i64 x) ∧ W.cell? ⟨v.heap.size, j * 2 + 1, none⟩ = some (.int .i64 y) from fun W hb j hj => by
    have hz : v.heap.size < v2.heap.size := by rw [← hW]; simp
    match j, hj with
    | 0, _ => exact ⟨X, Y, by rw [hb.cell (by simpa using hz), ← hW]; simp [go_sem], by rw [hb.cell (by simpa using hz), ← hW]; simp [go_sem]⟩
    | 1, _ => exact ⟨q, r, by rw [hb.cell (by simpa using hz), ← hW]; simp [go_sem], by rw [hb.cell (by simpa using hz), ← hW]; simp [go_sem]⟩)
  have HF2 := hide (HF.out.below HV.out)
  have hvz := HF.out.cb.sz
  have hvz2 : v.heap.size < v2.heap.size := by rw [← hW]; simp
  obtain ⟨h, hh⟩ : ∃ h, h = v.heap.size := ⟨_, rfl⟩
  rw [← hh] at HR hvz hvz2 ⊢
  clear hW a0 a1 a2 a3 a4 a5 a6 a7 a8 a9 hh
  go_wp2_with fail
  go_loopw [38] (fun i wr => ∃ j : Nat, i = .int .i64 (j : Int) ∧ j ≤ 2 ∧ Hid (Below v2.heap.size v2 wr)) (fun i _ => 2 - (intOf i).toNat)
  case atStart => exact ⟨0, rfl, by omega, hide (Below.refl _ _)⟩
  case round =>
    obtain ⟨j, rfl, hj, HBr⟩ := hrel
    have HF3 := hide (HF2.out.below HBr.out)
    by_cases hj2 : j = 2
    · subst hj2
      go_wp2_with (go_at_call 24; (with_reducible refine (yknown_any _).mono ?_); rintro e w9 ⟨rfl, hb⟩; have HB9 := hide (HF3.out.bw.trans (hb.mono HF3.out.bw.size)); clear hb)
      go_ret
      exact ⟨rfl, HB9.out⟩
    · have hj0 : (0 : Int) ≤ (j : Int) := by omega
      have hjlt : (j : Int) < 2 := by omega
      obtain ⟨x, y, hc0, hc1⟩ := HR.out _ HBr.out j (by omega)
      have hrz : h < wr.heap.size := Nat.lt_of_lt_of_le hvz2 HBr.out.size
      obtain ⟨o, E, D, h1, h2, h3, h4⟩ := ratios_pair HK.out x y
      have H1 := hide h1
      have H2 := hide h2
      have H3 := hide h3
      have H4 := hide h4
      clear h1 h2 h3 h4
      go_upto_region 5 with (fail)
      generalize hW : World.alloc wr _ = w3
      have HC := hide (show Cb w3 wr.heap.size [.int .i64 x, .int .i64 y] by rw [← hW]; exact Cb.mk0 _ (by simp) _ rfl)
      have HF4 := hide (show FS w w3 g s by rw [← hW]; exact HF3.out.alloc _)
      have HB4 := hide (show Below v2.heap.size v2 w3 by rw [← hW]; exact HBr.out.alloc HBr.out.size _)
      have k0 := HC.out.cell 0 _ rfl
      have k1 := HC.out.cell 1 _ rfl
      have kz := HC.out.sz
      obtain ⟨a0, a1, a2, a3, a4, a5, a6, a7, a8, a9⟩ := HF4.out.ca
      clear hW hc0 hc1
      go_upto_region 6 with (go_at_call 25; (with_reducible refine (H1.out _ HF4.out.q).mono ?_); rintro e w4 ⟨ca, rfl, ho, hb⟩; have HO1 := hide ho; have HF5 := hide (HF4.out.below hb); have HB5 := hide (HB4.out.trans (hb.mono HB4.out.size)); have HC5 := hide (HC.out.below hb); clear ho hb)
      generalize hW : World.alloc w4 _ = w5
      have HX5 := hide (show Bq w5 w4.heap.size ca by rw [← hW]; exact Bq.mk0 _ ca rfl)
      have HO5 := hide (show Fo w5 ca o by rw [← hW]; exact HO1.out.alloc _)
      have HF6 := hide (show FS w w5 g s by rw [← hW]; exact HF5.out.alloc _)
      have HB6 := hide (show Below v2.heap.size v2 w5 by rw [← hW]; exact HB5.out.alloc HB5.out.size _)
      have HC6 := hide (show Cb w5 wr.heap.size [.int .i64 x, .int .i64 y] by rw [← hW]; exact HC5.out.below ((Below.refl _ _).alloc (Nat.le_refl _) _))
      have m0 := HC6.out.cell 0 _ rfl
      have m1 := HC6.out.cell 1 _ rfl
      have mz := HC6.out.sz
      obtain ⟨b0, b1, b2, b3, b4, b5, b6, b7, b8, b9⟩ := HF6.out.ca
      clear hW a0 a1 a2 a3 a4 a5 a6 a7 a8 a9 k0 k1 kz
      go_upto_region 7 with (go_at_call 26; (with_reducible refine (H2.out _ HF6.out.q).mono ?_); rintro e w6 ⟨cb, rfl, ho, hb⟩; have HO6 := hide ho; have HF7 := hide (HF6.out.below hb); have HB7 := hide (HB6.out.trans (hb.mono HB6.out.size)); have HC7 := hide (HC6.out.below hb); have HX7 := hide (HX5.out.below hb); have HO7 := hide (HO5.out.below hb); clear ho hb)
      generalize hW : World.alloc w6 _ = w7
      have HY8 := hide (show Bq w7 w6.heap.size cb by rw [← hW]; exact Bq.mk0 _ cb rfl)
      have HP8 := hide (show Fo w7 cb o by rw [← hW]; exact HO6.out.alloc _)
      have HX8 := hide (show Bq w7 w4.heap.size ca by rw [← hW]; exact HX7.out.below ((Below.refl _ _).alloc (Nat.le_refl _) _))
      have HO8 := hide (show Fo w7 ca o by rw [← hW]; exact HO7.out.alloc _)
      have HF8 := hide (show FS w w7 g s by rw [← hW]; exact HF7.out.alloc _)
      have HB8 := hide (show Below v2.heap.size v2 w7 by rw [← hW]; exact HB7.out.alloc HB7.out.size _)
      have HC8 := hide (show Cb w7 wr.heap.size [.int .i64 x, .int .i64 y] by rw [← hW]; exact HC7.out.below ((Below.refl _ _).alloc (Nat.le_refl _) _))
      have p0 := HC8.out.cell 0 _ rfl
      have p1 := HC8.out.cell 1 _ rfl
      have pz := HC8.out.sz
      obtain ⟨c0, c1, c2, c3, c4, c5, c6, c7, c8, c9⟩ := HF8.out.ca
      clear hW b0 b1 b2 b3 b4 b5 b6 b7 b8 b9 m0 m1 mz
      go_wp2_with (first
        | (go_at_call 27; (with_reducible refine (H4.out _ HF9.out.q).mono ?_); rintro e wb ⟨rfl, hb⟩; have HBb := hide (HB9.out.trans (hb.mono HB9.out.size)); have HXb := hide (HX9.out.below hb); have HOb := hide (HO9.out.below hb); have HYb := hide (HY9.out.below hb); have HPb := hide (HP9.out.below hb); obtain ⟨n0, n1, -⟩ := HXb.out; obtain ⟨r0, r1, -⟩ := HYb.out; clear hb)
        | (go_at_call 23; (with_reducible refine (H3.out _ HF8.out.q).mono ?_); rintro e wa ⟨rfl, hb⟩; have HF9 := hide (HF8.out.below hb); have HB9 := hide (HB8.out.trans (hb.mono HB8.out.size)); have HX9 := hide (HX8.out.below hb); have HO9 := hide (HO8.out.below hb); have HY9 := hide (HY8.out.below hb); have HP9 := hide (HP8.out.below hb); have HC9 := hide (HC8.out.below hb); have l0 := HC9.out.cell 0 _ rfl; have l1 := HC9.out.cell 1 _ rfl; have lz := HC9.out.sz; obtain ⟨d0, d1, d2, d3, d4, d5, d6, d7, d8, d9⟩ := HF9.out.ca; clear hb)
        | (go_at_call 28; (with_reducible refine (samefrac_eq _ ca cb _ HOb.out HPb.out).mono ?_); rintro e wc ⟨rfl, hb⟩; have HBc := hide (HBb.out.trans (hb.mono HBb.out.size)); clear hb))
      go_roundw
      case rel => exact ⟨j + 1, by go_num, by omega, HBc⟩
      case measure => simp [intOf]; omega
end Go.Proofs.Ytnokfhkcfebimaa
