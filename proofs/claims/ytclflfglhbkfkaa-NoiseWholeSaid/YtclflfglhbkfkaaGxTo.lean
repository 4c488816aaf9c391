/- The walk of the law NoiseWhole. -/
import Derived.Test.YtclflfglhbkfkaaG14
set_option linter.unusedVariables false
set_option linter.unusedSimpArgs false

/- The walk of the law NoiseWhole: the statement with two calls. -/
namespace Go.Proofs.Ytclflfglhbkfkaa
open Go.RowKit

theorem Fx.fr0 {w w' : World} {g : Nat} {c : Fa} {o : Option Rat} (h : Fx w g c o) (hf : Fr w w' (fun _ => False)) : Fx w' g c o := h.below (hf.below (Nat.le_refl _) (fun _ _ h => h))
def RWh (B x n : Nat) (a : Fa) (r : Rat) : Nat → Value → World → Prop
  | 0, v, _ => v = .agg #[.slice a.A a.n a.c, .slice a.B a.m a.d]
  | 1, v, _ => v = .int .i64 (x : Int)
  | 2, v, _ => v = .int .i64 (n : Int)
  | 3, v, W => ∃ A c, v = .slice A n c ∧ Rs W none 1 bv A (bitL x n)
  | 4, v, W => ∃ c : Fa, v = .tuple #[.agg #[.slice c.A c.n c.c, .slice c.B c.m c.d], .int .i64 0] ∧ Fo W c (some (sqL r (bitL x n)))
  | 5, v, W => ∃ c : Fa, v = .tuple #[.agg #[.slice c.A c.n c.c, .slice c.B c.m c.d], .int .i64 0] ∧ Fo W c (some (sqL r (bitL x n)))
  | 6, v, W => ∃ c : Fa, v = .agg #[.slice c.A c.n c.c, .slice c.B c.m c.d] ∧ Fo W c (some (sqL r (bitL x n)))
  | 7, v, _ => v = .int .i64 0
  | 8, v, W => ∃ b, v = .pointer (some ⟨b, 0, none⟩) ∧ B ≤ b ∧ Bq W b fa0
  | _, _, _ => True
theorem RWh.st (B x n : Nat) (a : Fa) (r : Rat) : ∀ i v w w', RWh B x n a r i v w → Below w.heap.size w w' → RWh B x n a r i v w'
  | 0, _, _, _, h, _ => h
  | 1, _, _, _, h, _ => h
  | 2, _, _, _, h, _ => h
  | 3, _, _, _, ⟨A, c, h1, h2⟩, hb => ⟨A, c, h1, h2.below hb⟩
  | 4, _, _, _, ⟨c, h1, h2⟩, hb => ⟨c, h1, h2.below hb⟩
  | 5, _, _, _, ⟨c, h1, h2⟩, hb => ⟨c, h1, h2.below hb⟩
  | 6, _, _, _, ⟨c, h1, h2⟩, hb => ⟨c, h1, h2.below hb⟩
  | 7, _, _, _, h, _ => h
  | 8, _, _, _, ⟨b, h1, h2, h3⟩, hb => ⟨b, h1, h2, h3.below hb⟩
  | _ + 9, _, _, _, _, _ => trivial
theorem seq_ok (w : World) (a : Fa) (r : Rat) (A : Option Addr) (n c : Nat) (outs : List Bool) (ha : Fo w a (some r)) (hO : Rs w none 1 bv A outs) (hl : outs.length = n) (hn : n ≤ 32) (hc : Chn r) :
    Calls Try.prog 36 #[.agg #[.slice a.A a.n a.c, .slice a.B a.m a.d], .slice A n c] w fun e w' => RetV w (sqL r outs) e w' := by
  have h := seq_any w a _ _ A n c outs ha.1 hO hl (by omega)
  rw [fracOf_self ha.2] at h
  refine h.mono fun e w' h => h.ok ?_
  have : chO (some r) = true := by simp [chO, hc.h1, hc.hd]
  unfold seqR
  rw [if_pos this, if_neg (by omega)]
def regOf (n : Nat) : Code → Option Code
  | .region i ops b => if i = n then some (.region i ops b) else none
  | .block _ c => regOf n c
  | .seq x y => match regOf n x with
    | some c => some c
    | none => regOf n y
  | .cond _ x y => match regOf n x with
    | some c => some c
    | none => regOf n y
  | .loop c => regOf n c
  | .scope c => regOf n c
  | _ => none
noncomputable def zwCode : Code := (Try.f9.body.bind (regOf 6)).getD .skip
set_option maxRecDepth 100000 in
set_option maxHeartbeats 16000000 in
theorem zw_region (m x b5 : Nat) (c1 : Fa) (r : Rat) (wr : World) (Q : Exit → Act → World → Prop) (a0 : Act) (hd0 : a0.defers = []) (hsz : a0.tmps.size = 53) (hm32 : m ≤ 32) (hx64 : x < 4294967296) (HC1 : Hid (Chn r)) (H5 : Hid (Fx wr b5 c1 (some r)))
    (h1 : a0.tmps.getD 1 undef = .int .i64 (m : Int)) (h5 : a0.tmps.getD 5 undef = .pointer (some ⟨b5, 0, none⟩)) (h7 : a0.tmps.getD 7 undef = .int .i64 (x : Int))
    (HM : Hid (∀ (b8 : Nat) (c8 : Fa) (w2 : World) (y0 y1 y2 y3 y4 y5 y6 y7 : Value), Hid (Below wr.heap.size wr w2) → wr.heap.size ≤ b8 → Hid (Bq w2 b8 fa0) → Hid (Fo w2 c8 (some (sqL r (bitL x m)))) →
      Q .normal ⟨((fillT [25, 26, 27, 28, 29, 24, 30, 31, 8] [some y0, some y1, some y2, some y3, some y4, some y5, some y6, some y7, some (.pointer (some ⟨b8, 0, none⟩))] a0.tmps).setIfInBounds 9 (.int .i64 0)), []⟩ ((w2.setCell ⟨b8, 0, none⟩ (.slice c8.A c8.n c8.c)).setCell ⟨b8, 1, none⟩ (.slice c8.B c8.m c8.d)))) :
    Code.wp Try.prog zwCode Q a0 wr := by
  refine Code.wp_mono (Q := Exit.then (fun a w => Q .normal a w) (fun _ _ _ => False)) (fun e a w h => by cases e <;> first | exact h | exact (h : False).elim) ?_
  conv => arg 2; whnf
  refine region_first_opt 9 [25, 26, 27, 28, 29, 24, 30, 31, 8] (a0 := a0) (v := wr) (RWh wr.heap.size x m c1 r) (fun i => decide (i = 8)) (fun i => decide (i = 7)) (by kernel_rfl) (by decide) rfl (by decide) (by simp [hsz]) (by kernel_rfl) (RWh.st _ _ _ _ _) ?_ ?_
  · intro i hi a' w' hbw hdf hoff hdep K hK
    have o1 : a'.tmps.getD 1 undef = .int .i64 (m : Int) := (hoff 1 rfl).trans h1
    have o5 : a'.tmps.getD 5 undef = .pointer (some ⟨b5, 0, none⟩) := (hoff 5 rfl).trans h5
    have o7 : a'.tmps.getD 7 undef = .int .i64 (x : Int) := (hoff 7 rfl).trans h7
    have H5' := hide (H5.out.below hbw)
    obtain ⟨g0, g1, gf, gz, -⟩ := H5'.out.b
    have sw := hbw.size
    clear hoff hdf hbw
    match i, hi with
    | 0, _ =>
      refine rg_in rfl (fun K' hKK => ?_)
      go_wp2_with fail
      exact hK _ _ rfl (Below.refl _ _) (by simp)
    | 1, _ =>
      refine rg_in rfl (fun K' hKK => ?_)
      go_wp2_with fail
      exact hK _ _ rfl (Below.refl _ _) (by simp)
    | 2, _ =>
      refine rg_in rfl (fun K' hKK => ?_)
      go_wp2_with fail
      exact hK _ _ rfl (Below.refl _ _) (by simp)
    | 3, _ =>
      have o26 : a'.tmps.getD 26 undef = .int .i64 (x : Int) := hdep _ rfl ⟨1, Ground.data⟩ (by simp) rfl
      have o27 : a'.tmps.getD 27 undef = .int .i64 (m : Int) := hdep _ rfl ⟨2, Ground.data⟩ (by simp) rfl
      refine rg_in rfl (fun K' hKK => ?_)
      go_wp2_with (go_at_call 38; (with_reducible refine (bits_any _ x m (by omega) (by omega)).mono ?_); rintro e w2 ⟨A2, c2, rfl, hr, hb⟩; have HB := hide hb; have HR := hide hr; clear hb hr)
      exact hK _ _ ⟨A2, c2, rfl, HR.out⟩ HB.out (by simp)
    | 4, _ =>
      have o25 : a'.tmps.getD 25 undef = .agg #[.slice c1.A c1.n c1.c, .slice c1.B c1.m c1.d] := hdep _ rfl ⟨0, Ground.data⟩ (by simp) rfl
      obtain ⟨A2, c2, o28, hr2⟩ : ∃ A c, a'.tmps.getD 28 undef = .slice A m c ∧ Rs w' none 1 bv A (bitL x m) := hdep _ rfl ⟨3, Ground.data⟩ (by simp) rfl
      have HR2 := hide hr2
      clear hr2
      refine rg_in rfl (fun K' hKK => ?_)
      go_wp2_with (go_at_call 36; (with_reducible refine (seq_ok _ c1 r A2 m c2 _ H5'.out.o HR2.out (bitL_len x m) hm32 HC1.out).mono ?_); rintro e w2 ⟨c, rfl, ho, hb⟩; have HB := hide hb; have HO := hide ho; clear hb ho)
      exact hK _ _ ⟨c, rfl, HO.out⟩ HB.out (by simp)
    | 5, _ =>
      obtain ⟨c2, o29, ho2⟩ : ∃ c : Fa, a'.tmps.getD 29 undef = .tuple #[.agg #[.slice c.A c.n c.c, .slice c.B c.m c.d], .int .i64 0] ∧ Fo w' c (some (sqL r (bitL x m))) := hdep _ rfl ⟨4, Ground.data⟩ (by simp) rfl
      have HO2 := hide ho2
      clear ho2
      refine rg_in rfl (fun K' hKK => ?_)
      go_wp2_with fail
      exact hK _ _ ⟨c2, rfl, HO2.out⟩ (Below.refl _ _) (by simp)
    | 6, _ =>
      obtain ⟨c2, o24, ho2⟩ : ∃ c : Fa, a'.tmps.getD 24 undef = .tuple #[.agg #[.slice c.A c.n c.c, .slice c.B c.m c.d], .int .i64 0] ∧ Fo w' c (some (sqL r (bitL x m))) := hdep _ rfl ⟨5, Ground.data⟩ (by simp) rfl
      have HO2 := hide ho2
      clear ho2
      refine rg_in rfl (fun K' hKK => ?_)
      go_wp2_with fail
      exact hK _ _ ⟨c2, rfl, HO2.out⟩ (Below.refl _ _) (by simp)
    | 7, _ =>
      obtain ⟨c2, o24, ho2⟩ : ∃ c : Fa, a'.tmps.getD 24 undef = .tuple #[.agg #[.slice c.A c.n c.c, .slice c.B c.m c.d], .int .i64 0] ∧ Fo w' c (some (sqL r (bitL x m))) := hdep _ rfl ⟨5, Ground.data⟩ (by simp) rfl
      clear ho2
      refine rg_in rfl (fun K' hKK => ?_)
      go_wp2_with fail
      exact hK _ _ rfl (Below.refl _ _) (by simp)
    | 8, _ =>
      refine rg_in rfl (fun K' hKK => ?_)
      go_wp2_with fail
      exact hK _ _ ⟨_, rfl, sw, Bq.mk0 _ fa0 rfl⟩ ((Below.refl _ _).alloc (Nat.le_refl _) _) (fun _ => ⟨_, rfl, Nat.le_refl _, by simp⟩)
  · intro y o kk w2 hbw hy hne hk
    obtain ⟨b8, e8, h8, q8⟩ := hy 8 (by decide) (.inl rfl)
    obtain ⟨c8, e30, o30⟩ := hy 6 (by decide) (.inl rfl)
    obtain ⟨c24, e24, -⟩ := hy 5 (by decide) (.inl rfl)
    have HBW := hide hbw
    have HQ8 := hide q8
    have HO30 := hide o30
    obtain ⟨c80, c81, cf8, cz8, -⟩ := HQ8.out
    have hat : ∀ (xs : List (Option Value)) (i : Nat) (v : Value), i < 9 → xs[i]? = some (some v) → (fillT [25, 26, 27, 28, 29, 24, 30, 31, 8] xs a0.tmps).getD ([25, 26, 27, 28, 29, 24, 30, 31, 8].getD i 0) undef = v := fun xs i v hi hx =>
      fillT_at _ xs a0.tmps (by decide) hi hx (by rw [hsz]; match i, hi with | 0, _ => decide | 1, _ => decide | 2, _ => decide | 3, _ => decide | 4, _ => decide | 5, _ => decide | 6, _ => decide | 7, _ => decide | 8, _ => decide)
    have HTH := hide (show w2.there b8 0 2 from fun j hj => by
      match j, hj with
      | 0, _ => exact ⟨by rw [Nat.add_zero, c80]; rfl, cf8 _⟩
      | 1, _ => exact ⟨by rw [Nat.zero_add, c81]; rfl, cf8 _⟩)
    cases ho : o 7
    · simp only [show ((List.range 9).map fun i => !decide (i = 7) || o i) = [true, true, true, true, true, true, true, false, true] by simp [List.range, List.range.loop, ho]] at hk ⊢
      obtain rfl : kk = 1 := by rw [← hk]; rfl
      simp only [show ((List.range 9).map fun i => if (!decide (i = 7) || o i) = true then some (y i) else none) = [some (y 0), some (y 1), some (y 2), some (y 3), some (y 4), some (y 5), some (y 6), none, some (y 8)] by simp [List.range, List.range.loop, ho], e8, e30, e24]
      generalize y 0 = y0
      generalize y 1 = y1
      generalize y 2 = y2
      generalize y 3 = y3
      generalize y 4 = y4
      clear hy hne hbw e8 e30 e24 q8 o30 hk ho
      have o8 := hat [some y0, some y1, some y2, some y3, some y4, some (.tuple #[.agg #[.slice c24.A c24.n c24.c, .slice c24.B c24.m c24.d], .int .i64 0]), some (.agg #[.slice c8.A c8.n c8.c, .slice c8.B c8.m c8.d]), none, some (.pointer (some ⟨b8, 0, none⟩))] 8 _ (by decide) rfl
      have o30 := hat [some y0, some y1, some y2, some y3, some y4, some (.tuple #[.agg #[.slice c24.A c24.n c24.c, .slice c24.B c24.m c24.d], .int .i64 0]), some (.agg #[.slice c8.A c8.n c8.c, .slice c8.B c8.m c8.d]), none, some (.pointer (some ⟨b8, 0, none⟩))] 6 _ (by decide) rfl
      have o24 := hat [some y0, some y1, some y2, some y3, some y4, some (.tuple #[.agg #[.slice c24.A c24.n c24.c, .slice c24.B c24.m c24.d], .int .i64 0]), some (.agg #[.slice c8.A c8.n c8.c, .slice c8.B c8.m c8.d]), none, some (.pointer (some ⟨b8, 0, none⟩))] 5 _ (by decide) rfl
      have hset := fillT_set [25, 26, 27, 28, 29, 24, 30, 31, 8] [some y0, some y1, some y2, some y3, some y4, some (.tuple #[.agg #[.slice c24.A c24.n c24.c, .slice c24.B c24.m c24.d], .int .i64 0]), some (.agg #[.slice c8.A c8.n c8.c, .slice c8.B c8.m c8.d]), none, some (.pointer (some ⟨b8, 0, none⟩))] a0.tmps (i := 7) (.int .i64 0) (by decide) (by decide) rfl
      have hsz2 := fillT_size [25, 26, 27, 28, 29, 24, 30, 31, 8] [some y0, some y1, some y2, some y3, some y4, some (.tuple #[.agg #[.slice c24.A c24.n c24.c, .slice c24.B c24.m c24.d], .int .i64 0]), some (.agg #[.slice c8.A c8.n c8.c, .slice c8.B c8.m c8.d]), none, some (.pointer (some ⟨b8, 0, none⟩))] a0.tmps
      rw [hsz] at hsz2
      generalize hT : fillT [25, 26, 27, 28, 29, 24, 30, 31, 8] [some y0, some y1, some y2, some y3, some y4, some (.tuple #[.agg #[.slice c24.A c24.n c24.c, .slice c24.B c24.m c24.d], .int .i64 0]), some (.agg #[.slice c8.A c8.n c8.c, .slice c8.B c8.m c8.d]), none, some (.pointer (some ⟨b8, 0, none⟩))] a0.tmps = T at o8 o30 o24 hset hsz2 ⊢
      have g8 : T.getD 8 undef = .pointer (some ⟨b8, 0, none⟩) := o8
      have g30 : T.getD 30 undef = .agg #[.slice c8.A c8.n c8.c, .slice c8.B c8.m c8.d] := o30
      have g24 : T.getD 24 undef = .tuple #[.agg #[.slice c24.A c24.n c24.c, .slice c24.B c24.m c24.d], .int .i64 0] := o24
      have t8 : (T.setIfInBounds 31 (.int .i64 0)).getD 8 undef = .pointer (some ⟨b8, 0, none⟩) := by
        rw [Array.getD_eq_getD_getElem?, Array.getElem?_setIfInBounds_ne (by decide), ← Array.getD_eq_getD_getElem?]; exact g8
      have t30 : (T.setIfInBounds 31 (.int .i64 0)).getD 30 undef = .agg #[.slice c8.A c8.n c8.c, .slice c8.B c8.m c8.d] := by
        rw [Array.getD_eq_getD_getElem?, Array.getElem?_setIfInBounds_ne (by decide), ← Array.getD_eq_getD_getElem?]; exact g30
      have t31 : (T.setIfInBounds 31 (.int .i64 0)).getD 31 undef = .int .i64 0 := by
        simp [hsz2]
      have HE := hide (show fillT [25, 26, 27, 28, 29, 24, 30, 31, 8] [some y0, some y1, some y2, some y3, some y4, some (.tuple #[.agg #[.slice c24.A c24.n c24.c, .slice c24.B c24.m c24.d], .int .i64 0]), some (.agg #[.slice c8.A c8.n c8.c, .slice c8.B c8.m c8.d]), some (.int .i64 0), some (.pointer (some ⟨b8, 0, none⟩))] a0.tmps = T.setIfInBounds 31 (.int .i64 0) from hset)
      clear hT o8 o30 o24 hset hat
      refine wpAny_two (i := 7) (j := 9) (by kernel_rfl) ?_ ?_
      · refine rg_extract (.tmp 24) 1 31 rfl rfl rfl rfl (hx := g24) (hv := rfl) ?_
        refine wpAny_one (i := 9) (by kernel_rfl) ?_
        refine rg_store_mid 26 (.tmp 8) (.tmp 30) rfl rfl rfl rfl b8 0 #[.slice c8.A c8.n c8.c, .slice c8.B c8.m c8.d] t8 t30 HTH.out (by kernel_rfl) (all_oneCell_toArray (fvv_one c8)) ?_
        refine wpAny_one (i := 10) (by kernel_rfl) ?_
        refine rg_assign (.tmp 31) 9 rfl rfl rfl rfl (hx := t31) ?_
        refine wpAny_done (by kernel_rfl) ?_ _
        have := HM.out b8 c8 w2 y0 y1 y2 y3 y4 (.tuple #[.agg #[.slice c24.A c24.n c24.c, .slice c24.B c24.m c24.d], .int .i64 0]) (.agg #[.slice c8.A c8.n c8.c, .slice c8.B c8.m c8.d]) (.int .i64 0) HBW h8 HQ8 HO30
        rw [HE.out, ← hd0] at this
        exact this
      · refine rg_store_mid 26 (.tmp 8) (.tmp 30) rfl rfl rfl rfl b8 0 #[.slice c8.A c8.n c8.c, .slice c8.B c8.m c8.d] g8 g30 HTH.out (by kernel_rfl) (all_oneCell_toArray (fvv_one c8)) ?_
        refine wpAny_one (i := 7) (by kernel_rfl) ?_
        refine rg_extract (.tmp 24) 1 31 rfl rfl rfl rfl (hx := g24) (hv := rfl) ?_
        refine wpAny_one (i := 10) (by kernel_rfl) ?_
        refine rg_assign (.tmp 31) 9 rfl rfl rfl rfl (hx := t31) ?_
        refine wpAny_done (by kernel_rfl) ?_ _
        have := HM.out b8 c8 w2 y0 y1 y2 y3 y4 (.tuple #[.agg #[.slice c24.A c24.n c24.c, .slice c24.B c24.m c24.d], .int .i64 0]) (.agg #[.slice c8.A c8.n c8.c, .slice c8.B c8.m c8.d]) (.int .i64 0) HBW h8 HQ8 HO30
        rw [HE.out, ← hd0] at this
        exact this
    · have e31 : y 7 = .int .i64 0 := hy 7 (by decide) (.inr ho)
      simp only [show ((List.range 9).map fun i => !decide (i = 7) || o i) = [true, true, true, true, true, true, true, true, true] by simp [List.range, List.range.loop, ho]] at hk ⊢
      obtain rfl : kk = 0 := by rw [← hk]; rfl
      simp only [show ((List.range 9).map fun i => if (!decide (i = 7) || o i) = true then some (y i) else none) = [some (y 0), some (y 1), some (y 2), some (y 3), some (y 4), some (y 5), some (y 6), some (y 7), some (y 8)] by simp [List.range, List.range.loop, ho], e8, e30, e24, e31]
      generalize y 0 = y0
      generalize y 1 = y1
      generalize y 2 = y2
      generalize y 3 = y3
      generalize y 4 = y4
      clear hy hne hbw e8 e30 e24 e31 q8 o30 hk ho
      have o8 := hat [some y0, some y1, some y2, some y3, some y4, some (.tuple #[.agg #[.slice c24.A c24.n c24.c, .slice c24.B c24.m c24.d], .int .i64 0]), some (.agg #[.slice c8.A c8.n c8.c, .slice c8.B c8.m c8.d]), some (.int .i64 0), some (.pointer (some ⟨b8, 0, none⟩))] 8 _ (by decide) rfl
      have o30 := hat [some y0, some y1, some y2, some y3, some y4, some (.tuple #[.agg #[.slice c24.A c24.n c24.c, .slice c24.B c24.m c24.d], .int .i64 0]), some (.agg #[.slice c8.A c8.n c8.c, .slice c8.B c8.m c8.d]), some (.int .i64 0), some (.pointer (some ⟨b8, 0, none⟩))] 6 _ (by decide) rfl
      have o31 := hat [some y0, some y1, some y2, some y3, some y4, some (.tuple #[.agg #[.slice c24.A c24.n c24.c, .slice c24.B c24.m c24.d], .int .i64 0]), some (.agg #[.slice c8.A c8.n c8.c, .slice c8.B c8.m c8.d]), some (.int .i64 0), some (.pointer (some ⟨b8, 0, none⟩))] 7 _ (by decide) rfl
      generalize hT : fillT [25, 26, 27, 28, 29, 24, 30, 31, 8] [some y0, some y1, some y2, some y3, some y4, some (.tuple #[.agg #[.slice c24.A c24.n c24.c, .slice c24.B c24.m c24.d], .int .i64 0]), some (.agg #[.slice c8.A c8.n c8.c, .slice c8.B c8.m c8.d]), some (.int .i64 0), some (.pointer (some ⟨b8, 0, none⟩))] a0.tmps = T at o8 o30 o31 ⊢
      have g8 : T.getD 8 undef = .pointer (some ⟨b8, 0, none⟩) := o8
      have g30 : T.getD 30 undef = .agg #[.slice c8.A c8.n c8.c, .slice c8.B c8.m c8.d] := o30
      have g31 : T.getD 31 undef = .int .i64 0 := o31
      have HE := hide hT
      clear hT o8 o30 o31 hat
      refine wpAny_one (i := 9) (by kernel_rfl) ?_
      refine rg_store_mid 26 (.tmp 8) (.tmp 30) rfl rfl rfl rfl b8 0 #[.slice c8.A c8.n c8.c, .slice c8.B c8.m c8.d] g8 g30 HTH.out (by kernel_rfl) (all_oneCell_toArray (fvv_one c8)) ?_
      refine wpAny_one (i := 10) (by kernel_rfl) ?_
      refine rg_assign (.tmp 31) 9 rfl rfl rfl rfl (hx := g31) ?_
      refine wpAny_done (by kernel_rfl) ?_ _
      have := HM.out b8 c8 w2 y0 y1 y2 y3 y4 (.tuple #[.agg #[.slice c24.A c24.n c24.c, .slice c24.B c24.m c24.d], .int .i64 0]) (.agg #[.slice c8.A c8.n c8.c, .slice c8.B c8.m c8.d]) (.int .i64 0) HBW h8 HQ8 HO30
      rw [HE.out, ← hd0] at this
      exact this
end Go.Proofs.Ytclflfglhbkfkaa

/- The walk of the law NoiseWhole. -/
namespace Go.Proofs.Ytclflfglhbkfkaa
open Go.RowKit

set_option maxRecDepth 100000 in
set_option maxHeartbeats 16000000 in
theorem whole_walk (w : World) (A : Option Addr) (n c : Nat) (l : List Int) (hA : Rs w none 1 iv A l) (hl : l.length = n) (N : Int) :
    Calls Try.prog 9 #[.slice A n c, .int .i64 N] w fun e w' => e = .returned (.bool true) ∧ Below w.heap.size w w' := by
  have HP := hide (tp_new (w := w) (c := c) hA hl 31)
  obtain ⟨m, hm, hF⟩ := fold_nat N 7 (by omega) (by omega)
  have HF := hide hF
  clear hA hl hF
  have hm32 : m ≤ 32 := by omega
  have hm6 : m ≤ 6 := by omega
  have hm63 : (m : Int) < 64 := by omega
  have hm0 : (0 : Int) ≤ (m : Int) := by omega
  obtain ⟨S, hS⟩ : ∃ S : Nat, S = 2 ^ m := ⟨_, rfl⟩
  have hS64 : S ≤ 64 := by rw [hS]; exact Nat.pow_le_pow_right (n := 2) (by omega) hm6
  have hwS : wrap64 ((2 : Int) ^ m) = (S : Int) := by
    have e : ((2 : Int) ^ m) = (S : Int) := by rw [hS]; push_cast; rfl
    rw [e]
    exact IntWalk.wrap64_in _ ⟨by omega, by omega⟩
  have HSS := hide hS
  clear hS
  go_enter Try.func9, Try.ntmps9
  go_upto_region 2 with (first
    | (go_at_call 16; refine (chancem_any _ w.heap.size A n c l 0 HP.out (by omega)).mono ?_; rintro e w1 ⟨c1, r, rfl, ho1, hc1, -, hf⟩; have HB1 := hide (fr_new rfl hf); have HO1 := hide ho1; have HC1 := hide hc1; clear ho1 hc1 hf)
    | (go_at_call 12; (with_reducible refine (HF.out _).mono ?_); rintro e w' ⟨rfl, rfl⟩))
  generalize hW : World.alloc w1 _ = v1
  have HX1 := hide (show BX w v1 [(w1.heap.size, c1, some r)] by rw [← hW]; exact (BX.push ⟨HB1.out, by simp⟩ HO1.out 26 rfl))
  clear hW HO1 HB1
  have hvz := (HX1.out.get 0 rfl).b.sz
  go_wp2_with fail
  go_loopw [6, 7] (fun s i wr => ∃ (x k cc : Nat) (A : Option Addr) (fs : List Fa), s = .slice A k cc ∧ i = .int .i64 (x : Int) ∧ x ≤ S ∧ Hid (OFr v1 wr A k cc fs (trm r m (fun _ => true) x))) (fun _ i _ => S - (intOf i).toNat)
  case atStart => exact ⟨0, 0, 0, none, [], rfl, rfl, by omega, hide (OFr.nil (Fr.refl _ _))⟩
  case round =>
    obtain ⟨x, k, cc, A, fs, rfl, rfl, hx, HO⟩ := hrel
    have H5 := hide ((HX1.out.get 0 rfl).fr0 HO.out.fr)
    obtain ⟨p0, p1, pf, pz, -⟩ := H5.out.b
    have hkx := trm_len r m (fun _ => true) x
    rw [HO.out.lo] at hkx
    by_cases hxn : x = S
    · subst hxn
      have HE := hide (show sumQ (trm r m (fun _ => true) x) = 1 by rw [HSS.out, trm_tot, tot_all])
      have HFT := hide (show ∀ j, j ≤ k → fitsR (sumQ ((trm r m (fun _ => true) x).take j)) = true from fun j _ => by rw [HSS.out]; exact trm_fit HC1.out hm32 _ j)
      have HBW := hide (HX1.out.bw.trans ((HO.out.fr.below (Nat.le_refl _) (fun _ _ h => h)).mono HX1.out.bw.size))
      go_upto_region 11 with (go_at_call 39; (with_reducible refine (fsum_ok _ A k cc fs _ HO.out.sl (by omega) HFT.out).mono ?_); rintro e w4 ⟨c4, rfl, ho, hb⟩; rw [HE.out] at ho; have HO4 := hide ho; have HB4 := hide (HBW.out.trans (hb.mono HBW.out.size)); clear ho hb)
      generalize hW : World.alloc w4 _ = v4
      have HX5 := hide (show BX w v4 [(w4.heap.size, c4, some 1)] by rw [← hW]; exact BX.push ⟨HB4.out, by simp⟩ HO4.out 26 rfl)
      clear hW HO4 HB4 HBW HFT HE
      have k0 : (v4.cell? ⟨w4.heap.size, 0, none⟩ = some (.slice c4.A c4.n c4.c) ∧ v4.cell? ⟨w4.heap.size, 1, none⟩ = some (.slice c4.B c4.m c4.d)) := ⟨(HX5.out.get 0 rfl).b.c0, (HX5.out.get 0 rfl).b.c1⟩
      go_region_held3 (fun W => (W.cell? ⟨w4.heap.size, 0, none⟩ = some (.slice c4.A c4.n c4.c) ∧ W.cell? ⟨w4.heap.size, 1, none⟩ = some (.slice c4.B c4.m c4.d))) (first | with_reducible exact k7 | with_reducible exact k6 | with_reducible exact k5 | exact k0) (first
        | (go_at_call 24; (with_reducible refine (one_any _).mono ?_); rintro e w5 ⟨c5, rfl, ho, hb⟩; have hb' : Below v4.heap.size v4 w5 := Below.of_drew hb; have HO5 := hide ho; have HX6 := hide (HX5.out.below hb'); have k5 : (w5.cell? ⟨w4.heap.size, 0, none⟩ = some (.slice c4.A c4.n c4.c) ∧ w5.cell? ⟨w4.heap.size, 1, none⟩ = some (.slice c4.B c4.m c4.d)) := ⟨(HX6.out.get 0 rfl).b.c0, (HX6.out.get 0 rfl).b.c1⟩; clear ho hb hb')
        | (go_at_call 22; (with_reducible refine (samefrac_eq _ c4 c5 _ (HX6.out.get 0 rfl).o HO5.out).mono ?_); rintro e w6 ⟨rfl, hb⟩; have HX7 := hide (HX6.out.below hb); have k6 : (w6.cell? ⟨w4.heap.size, 0, none⟩ = some (.slice c4.A c4.n c4.c) ∧ w6.cell? ⟨w4.heap.size, 1, none⟩ = some (.slice c4.B c4.m c4.d)) := ⟨(HX7.out.get 0 rfl).b.c0, (HX7.out.get 0 rfl).b.c1⟩; clear hb)
        | (go_at_call 15; (with_reducible refine (known_any _).mono ?_); rintro e w7 ⟨rfl, hb⟩; have HX8 := hide (HX7.out.below hb); have k7 : (w7.cell? ⟨w4.heap.size, 0, none⟩ = some (.slice c4.A c4.n c4.c) ∧ w7.cell? ⟨w4.heap.size, 1, none⟩ = some (.slice c4.B c4.m c4.d)) := ⟨(HX8.out.get 0 rfl).b.c0, (HX8.out.get 0 rfl).b.c1⟩; clear hb))
      go_wp2_with fail
      go_ret
      exact ⟨rfl, HX8.out.bw⟩
    · have hxS : x < S := by omega
      have hlt : (x : Int) < (S : Int) := by omega
      go_upto_region 6 with (fail)
      refine zw_region m x w1.heap.size c1 r wr _ _ rfl rfl hm32 (by omega) HC1 H5 rfl rfl rfl (hide ?_)
      intro b8 c8 w2 y0 y1 y2 y3 y4 y5 y6 y7 HBW h8 HQ8 HO30
      have HO2 := hide (HO.out.below HBW.out)
      have HO3 := hide (HO2.out.far (fr_fill (.slice c8.A c8.n c8.c) (.slice c8.B c8.m c8.d)) HQ8.out.nb h8 (fun b hb => HO.out.gsz hb) HO.out.fr.size)
      have H8 := hide (Fx.put ⟨HQ8.out, fo_none⟩ HO30.out)
      generalize hW : (w2.setCell ⟨b8, 0, none⟩ (.slice c8.A c8.n c8.c)).setCell ⟨b8, 1, none⟩ (.slice c8.B c8.m c8.d) = w3 at HO3 H8 ⊢
      clear hW HO2 HQ8 HO30
      simp only [fillT, List.setIfInBounds_toArray, List.set_cons_succ, List.set_cons_zero]
      obtain ⟨g0, g1, gf, gz, -⟩ := H8.out.b
      go_wp2_with (at_builtin; refine wl_app_frac (w0 := v1) rfl _ _ _ Try.underlying40 rfl A k cc fs _ c8 (sqL r (bitL x m)) rfl rfl HO3.out H8.out.o (by omega) ?_; intro A2 c2 w4 ho2 _ _; have HO4 := hide ho2; clear ho2)
      go_roundw
      case rel => exact ⟨x + 1, k + 1, c2, A2, _, rfl, by go_num, by omega, hide (by rw [trm_succ, if_pos rfl]; exact HO4.out)⟩
      case measure => simp [intOf]; omega
end Go.Proofs.Ytclflfglhbkfkaa
