/- Contracts of the functions that these laws reach: part 13: Contracts: noise.Sequence; Contracts: the law's bits; Rows of fractions that a call owns; append onto them; Contracts: fraction.fold with Add, Sum. -/
import Derived.Test.YtclflfglhbkfkaaG12
import Derived.Test.YtclflfglhbkfkaaG2
set_option linter.unusedVariables false
set_option linter.unusedSimpArgs false

/- Contracts: noise.Sequence. -/
namespace Go.Proofs.Ytclflfglhbkfkaa
open Go.RowKit

def bv (b : Bool) : List Value := [.bool b]
theorem bools_at {w : World} {av : Option Nat} {A : Option Addr} {l : List Bool} (h : Rs w av 1 bv A l) {k : Nat} (hk : k < l.length) :
    ∃ b o, A = some ⟨b, o, none⟩ ∧ some b ≠ av ∧ b < w.heap.size ∧ w.cell? ⟨b, o + k, none⟩ = some (.bool l[k]) := by
  obtain ⟨b, o, h1, h2, h3, h4⟩ := h.at (List.getElem?_eq_getElem hk)
  refine ⟨b, o, h1, h2, h3, ?_⟩
  have := h4 0 (.bool l[k]) rfl
  simpa using this
/-- The chance of outcomes in an order. -/
def sqF (r acc : Rat) (l : List Bool) : Rat := l.foldl (fun acc b => acc * (if b then r else 1 - r)) acc
def sqL (r : Rat) (l : List Bool) : Rat := sqF r 1 l
theorem sqF_snoc (r acc : Rat) (l : List Bool) (b : Bool) : sqF r acc (l ++ [b]) = sqF r acc l * (if b then r else 1 - r) := by
  unfold sqF
  rw [List.foldl_append]
  rfl
theorem sqF_ok {r : Rat} (h : Chn r) : ∀ (l : List Bool) (acc : Rat) (n : Nat), Sc r.den n acc → 0 ≤ acc → acc ≤ 1 → Sc r.den (n + l.length) (sqF r acc l) ∧ 0 ≤ sqF r acc l ∧ sqF r acc l ≤ 1
  | [], acc, n, h1, h2, h3 => ⟨h1, h2, h3⟩
  | b :: l, acc, n, h1, h2, h3 => by
    have hx : Sc r.den 1 (if b then r else 1 - r) ∧ 0 ≤ (if b then r else 1 - r) ∧ (if b then r else 1 - r) ≤ 1 := by
      cases b
      · exact ⟨den_sc1 h.h0 h.h1, h.q0, h.q1⟩
      · exact ⟨den_sc h.h0, h.h0, h.h1⟩
    have := sqF_ok h l (acc * (if b then r else 1 - r)) (n + 1) (h1.mul hx.1) (Rat.mul_nonneg h2 hx.2.1) (mul_le_b h2 h3 hx.2.2 hx.2.1)
    rw [List.length_cons, show n + (l.length + 1) = n + 1 + l.length by omega]
    exact this
theorem Chn.fsq {r : Rat} (h : Chn r) {l : List Bool} (hl : l.length ≤ 128) : fitsR (sqL r l) = true := by
  obtain ⟨h1, -, h3⟩ := sqF_ok h l 1 0 (by simpa using Sc.nat r.den 1) (by decide) Rat.le_refl
  exact h.fit h1 (by omega) (Rat.le_trans h3 one32)
theorem sqL_take {r : Rat} {l : List Bool} {j : Nat} (h : j < l.length) : sqL r (l.take (j + 1)) = sqL r (l.take j) * (if l[j] then r else 1 - r) := by
  rw [List.take_add_one, List.getElem?_eq_getElem h]
  exact sqF_snoc r 1 (l.take j) l[j]
/-- The loop's state. -/
structure SS (w wr : World) (a : Fa) (l k : List Nat) (r : Rat) (b6 b7 : Nat) (c6 c7 : Fa) (acc : Rat) : Prop where
  f1 : F1 w wr a l k
  x6 : Fx wr b6 c6 (some acc)
  x7 : Fx wr b7 c7 (some (1 - r))
  d : b7 ≠ b6
  g : w.heap.size + 1 < b6
theorem SS.below {w wr wr' : World} {a : Fa} {l k : List Nat} {r : Rat} {b6 b7 : Nat} {c6 c7 : Fa} {acc : Rat} (h : SS w wr a l k r b6 b7 c6 c7 acc) (hb : Below wr.heap.size wr wr') : SS w wr' a l k r b6 b7 c6 c7 acc :=
  ⟨h.f1.below hb, h.x6.below hb, h.x7.below hb, h.d, h.g⟩
theorem SS.alloc {w wr : World} {a : Fa} {l k : List Nat} {r : Rat} {b6 b7 : Nat} {c6 c7 : Fa} {acc : Rat} (h : SS w wr a l k r b6 b7 c6 c7 acc) (o : Obj) : SS w (wr.alloc o) a l k r b6 b7 c6 c7 acc := h.below ((Below.refl _ _).alloc (Nat.le_refl _) _)
theorem SS.put {w wr : World} {a : Fa} {l k : List Nat} {r : Rat} {b6 b7 : Nat} {c6 c7 : Fa} {acc : Rat} (h : SS w wr a l k r b6 b7 c6 c7 acc) {c : Fa} {s : Rat} (ho : Fo wr c (some s)) :
    SS w ((wr.setCell ⟨b6, 0, none⟩ (.slice c.A c.n c.c)).setCell ⟨b6, 1, none⟩ (.slice c.B c.m c.d)) a l k r b6 b7 c c7 s :=
  ⟨h.f1.one (fr_fill _ _) h.x6.b.nb h.g, h.x6.put ho, h.x7.one (fr_fill _ _) h.x6.b.nb h.d, h.d, h.g⟩
theorem SS.far {w wr wr' : World} {a : Fa} {l k : List Nat} {r : Rat} {b6 b7 : Nat} {c6 c7 : Fa} {acc : Rat} (h : SS w wr a l k r b6 b7 c6 c7 acc) {g : Nat} (hf : Fr wr wr' (fun b => b = g)) (hg : NB wr g) (h6 : b6 ≠ g) (h7 : b7 ≠ g) (hgw : w.heap.size + 1 < g) :
    SS w wr' a l k r b6 b7 c6 c7 acc := ⟨h.f1.one hf hg hgw, h.x6.one hf hg h6, h.x7.one hf hg h7, h.d, h.g⟩
def RSq (B : Nat) (a : Fa) (r : Rat) : Nat → Value → World → Prop
  | 0, x, W => ∃ c : Fa, x = .agg #[.slice c.A c.n c.c, .slice c.B c.m c.d] ∧ Fo W c (some 1)
  | 1, x, _ => x = .agg #[.slice a.A a.n a.c, .slice a.B a.m a.d]
  | 2, x, W => ∃ c : Fa, x = .agg #[.slice c.A c.n c.c, .slice c.B c.m c.d] ∧ Fo W c (some (1 - r))
  | 3, x, W => ∃ b, x = .pointer (some ⟨b, 0, none⟩) ∧ B ≤ b ∧ Bq W b fa0
  | 4, x, W => ∃ b, x = .pointer (some ⟨b, 0, none⟩) ∧ B ≤ b ∧ Bq W b fa0
  | _, _, _ => True
theorem RSq.st (B : Nat) (a : Fa) (r : Rat) : ∀ i x w w', RSq B a r i x w → Below w.heap.size w w' → RSq B a r i x w'
  | 0, _, _, _, ⟨c, h1, h2⟩, hb => ⟨c, h1, h2.below hb⟩
  | 1, _, _, _, h, _ => h
  | 2, _, _, _, ⟨c, h1, h2⟩, hb => ⟨c, h1, h2.below hb⟩
  | 3, _, _, _, ⟨b, h1, h2, h3⟩, hb => ⟨b, h1, h2, h3.below hb⟩
  | 4, _, _, _, ⟨b, h1, h2, h3⟩, hb => ⟨b, h1, h2, h3.below hb⟩
  | _ + 5, _, _, _, _, _ => trivial
set_option maxRecDepth 100000 in
set_option maxHeartbeats 16000000 in
theorem seq_main (w : World) (a : Fa) (r : Rat) (A : Option Addr) (n c : Nat) (outs : List Bool) (hq : Fq w a (lm (rn r)) (lm r.den)) (hO : Rs w none 1 bv A outs) (hl : outs.length = n) (hn2 : n ≤ 32) (hc : Chn r) (hr : fitsR r = true) (hch : chO (fracOf (lm (rn r)) (lm r.den)) = true) :
    Calls Try.prog 36 #[.agg #[.slice a.A a.n a.c, .slice a.B a.m a.d], .slice A n c] w fun e w' => Ret w (some (sqL r outs), 0) e w' := by
  have hr0 := hc.h0
  have hr1 := hc.h1
  have hfr := hc.fq
  have HCH := hide hch
  have HC := hide hc
  have HOK := hide (show okR (some r) from ⟨hr0, hr⟩)
  have HO := hide hO
  have HL := hide hl
  have hn : decide ((n : Int) > 32) = false := decide_eq_false (by omega)
  have HN := hide hn2
  clear hch hc hO hl
  go_enter Try.func36, Try.ntmps36
  go_upto_region 1 with (fail)
  generalize hW : World.alloc (World.alloc w _) _ = v
  have HF := hide (show F1 w v a (lm (rn r)) (lm r.den) by rw [← hW]; exact F1.mk0 hq _ _)
  obtain ⟨a0, a1, az, r0, r1, rf⟩ := HF.out.ca
  clear hW hq
  go_upto_region 5 with (go_at_call 34; (with_reducible refine (chance_any _ a _ _ HF.out.q).mono ?_); rintro e w1 ⟨rfl, hb⟩; rw [HCH.out]; have HF1 := hide (HF.out.below hb); obtain ⟨e0, e1, ez, s0, s1, sf⟩ := HF1.out.ca; clear hb)
  go_cut [6, 7] from 6 to 24 (fun s6 s7 wx => ∃ b6 b7 c6 c7, s6 = .pointer (some ⟨b6, 0, none⟩) ∧ s7 = .pointer (some ⟨b7, 0, none⟩) ∧ Hid (SS w wx a (lm (rn r)) (lm r.den) r b6 b7 c6 c7 1))
  case first =>
    refine region_first_many 5 [21, 22, 23, 6, 7] (RSq w1.heap.size a r) (fun i => decide (3 ≤ i)) (by kernel_rfl) (by decide) rfl (by decide) (by kernel_rfl) (by kernel_rfl) (RSq.st _ _ _) ?_ ?_
    · intro i hi a' w' hbw hdf hoff hdep K hK
      have o2 : a'.tmps.getD 2 undef = .pointer (some ⟨w.heap.size, 0, none⟩) := hoff 2 rfl
      have HF2 := hide (HF1.out.below hbw)
      obtain ⟨g0, g1, gz, -⟩ := HF2.out.ca
      have HFO := hide (show Fo w' a (some r) from ⟨HF2.out.q, HOK.out⟩)
      have sw := hbw.size
      clear hoff hdf hbw
      match i, hi with
      | 0, _ =>
        refine rg_in rfl (fun K' hKK => ?_)
        go_wp2_with (go_at_call 64; (with_reducible refine (whole1_any _).mono ?_); rintro e w2 ⟨c, rfl, ho, hb⟩; have HB := hide hb; have HO := hide ho; clear hb ho)
        exact (hK _ _ ⟨c, rfl, HO.out⟩ HB.out (by simp))
      | 1, _ =>
        refine rg_in rfl (fun K' hKK => ?_)
        go_wp2_with fail
        exact (hK _ _ rfl (Below.refl _ _) (by simp))
      | 2, _ =>
        have o22 : a'.tmps.getD 22 undef = .agg #[.slice a.A a.n a.c, .slice a.B a.m a.d] := hdep _ rfl ⟨1, Ground.data⟩ (by simp) rfl
        refine rg_in rfl (fun K' hKK => ?_)
        go_wp2_with (go_at_call 69; (with_reducible refine (other_any _ a r HFO.out hr1 hfr).mono ?_); rintro e w2 ⟨c, rfl, ho, hb⟩; have HB := hide hb; have HO := hide ho; clear hb ho)
        exact (hK _ _ ⟨c, rfl, HO.out⟩ HB.out (by simp))
      | 3, _ =>
        refine rg_in rfl (fun K' hKK => ?_)
        go_wp2_with fail
        exact (hK _ _ ⟨_, rfl, sw, Bq.mk0 _ fa0 rfl⟩ ((Below.refl _ _).alloc (Nat.le_refl _) _) (fun _ => ⟨_, rfl, Nat.le_refl _, by simp⟩))
      | 4, _ =>
        refine rg_in rfl (fun K' hKK => ?_)
        go_wp2_with fail
        exact (hK _ _ ⟨_, rfl, sw, Bq.mk0 _ fa0 rfl⟩ ((Below.refl _ _).alloc (Nat.le_refl _) _) (fun _ => ⟨_, rfl, Nat.le_refl _, by simp⟩))
    · intro x w2 hbw hx hne
      obtain ⟨b6, e6, h6, q6⟩ := hx 3 (by decide)
      obtain ⟨b7, e7, h7, q7⟩ := hx 4 (by decide)
      obtain ⟨c6, e21, o21⟩ := hx 0 (by decide)
      obtain ⟨c7, e23, o23⟩ := hx 2 (by decide)
      have d67 : b6 ≠ b7 := fun h => hne 3 4 (by decide) (by decide) (by decide) rfl rfl (by rw [e6, e7, h])
      simp only [show (List.range 5).map (fun i => some (x i)) = [some (x 0), some (x 1), some (x 2), some (x 3), some (x 4)] from rfl, e6, e7, e21, e23]
      generalize x 1 = x1
      have HF2 := hide (HF1.out.below hbw)
      have HQ6 := hide q6
      have HQ7 := hide q7
      have HO21 := hide o21
      have HO23 := hide o23
      clear hx hne hbw e6 e7 e21 e23 q6 q7 o21 o23
      simp only [fillT, List.setIfInBounds_toArray, List.set_cons_succ, List.set_cons_zero]
      obtain ⟨c60, c61, cf6, cz6, -⟩ := HQ6.out
      obtain ⟨c70, c71, cf7, cz7, -⟩ := HQ7.out
      refine wpAny_one (i := 5) (by kernel_rfl) ?_
      refine rg_in rfl (fun K' hKK => ?_)
      go_wp2_with fail
      refine wpAny_one (i := 6) (by kernel_rfl) ?_
      refine rg_in rfl (fun K' hKK => ?_)
      go_wp2_with fail
      refine wpAny_done (by kernel_rfl) ?_ _
      go_wp2_with fail
      go_meet
      case rel =>
        have hf6 := fr_fill (w := w2) (g := b6) (.slice c6.A c6.n c6.c) (.slice c6.B c6.m c6.d)
        have hn6 := HQ6.out.nb
        have g1 := HF2.out.one hf6 hn6 (by omega)
        have g2 := Fx.put ⟨HQ6.out, (⟨⟨Ul.nil, Ul.nil, Nat.le_refl _, Nat.le_refl _, by simp, by simp⟩, trivial⟩ : Fo w2 fa0 none)⟩ HO21.out
        have g3 := HQ7.out.one hf6 (Ne.symm d67)
        have g4 := HO23.out.one hf6 hn6
        have hf7 := fr_fill (w := ((w2.setCell ⟨b6, 0, none⟩ (.slice c6.A c6.n c6.c)).setCell ⟨b6, 1, none⟩ (.slice c6.B c6.m c6.d))) (g := b7) (.slice c7.A c7.n c7.c) (.slice c7.B c7.m c7.d)
        exact ⟨b6, b7, c6, c7, rfl, rfl, hide ⟨g1.one hf7 g3.nb (by omega), g2.one hf7 g3.nb d67, ⟨g3.fill c7, g4.one hf7 g3.nb⟩, Ne.symm d67, by omega⟩⟩
  case rest =>
    obtain ⟨b6, b7, c6, c7, rfl, rfl, HT⟩ := hcut
    clear HF HF1 e0 e1 ez s0 s1 sf a0 a1 az r0 r1 rf
    go_wp2_with fail
    go_loopw [26] (fun i wr => ∃ (j : Nat) (c6 : Fa), i = .int .i64 (j : Int) ∧ j ≤ n ∧ Hid (SS w wr a (lm (rn r)) (lm r.den) r b6 b7 c6 c7 (sqL r (outs.take j)))) (fun i _ => n - (intOf i).toNat)
    case atStart => exact ⟨0, c6, rfl, by omega, HT⟩
    case round =>
      obtain ⟨j, c6, rfl, hj, HT⟩ := hrel
      obtain ⟨a0, a1, az, r0, r1, rf⟩ := HT.out.f1.ca
      have x60 := HT.out.x6.b.c0
      have x61 := HT.out.x6.b.c1
      by_cases hjn : j = n
      · subst hjn
        have HE := hide (show sqL r (outs.take j) = sqL r outs by rw [List.take_of_length_le (by have := HL.out; omega)])
        go_wp2_with fail
        refine bodyPost_ret (v := .tuple #[.agg #[.slice c6.A c6.n c6.c, .slice c6.B c6.m c6.d], .int .i64 0]) (by simp [results, Try.results36, go_sem, *]) rfl (HT.out.f1.end rfl (by rw [← HE.out]; exact HT.out.x6.o))
      · have hlt : (j : Int) < (n : Int) := by omega
        have hj0 : (0 : Int) ≤ (j : Int) := by omega
        have hjl : j < outs.length := by have := HL.out; omega
        obtain ⟨b, o, rfl, -, hb, hcell⟩ := bools_at (HO.out.below HT.out.f1.bw) hjl
        have HSQ := hide (sqL_take (r := r) hjl)
        have HFIT := hide (show fitsR (sqL r (outs.take (j + 1))) = true from HC.out.fsq (by simp; omega))
        obtain ⟨bb, hbb⟩ : ∃ bb, bb = outs[j] := ⟨_, rfl⟩
        rw [← hbb] at hcell HSQ
        clear hbb
        have y0 := HT.out.x7.b.c0
        have y1 := HT.out.x7.b.c1
        have yz := HT.out.x7.b.sz
        have xz6 := HT.out.x6.b.sz
        have hgw := HT.out.g
        cases bb
        · have HSQ2 := hide (show sqL r (outs.take (j + 1)) = sqL r (outs.take j) * (1 - r) from HSQ.out)
          clear HSQ
          rw [HSQ2.out] at HFIT
          go_wp2_with (go_at_call 70; (with_reducible refine (fmul_ok _ c6 c7 _ _ (HT.out.x6.o.alloc _) (HT.out.x7.o.alloc _) HFIT.out).mono ?_); rintro e w2 ⟨c8, rfl, ho, hb⟩; have HO8 := hide ho; have HT2 := hide ((HT.out.alloc _).below hb); obtain ⟨z0, z1, zf, zz, -⟩ := HT2.out.x6.b; clear ho hb)
          go_roundw
          case rel => exact ⟨j + 1, c8, by go_num, by omega, hide (by rw [HSQ2.out]; exact HT2.out.put HO8.out)⟩
          case measure => simp [intOf]; omega
        · have HSQ2 := hide (show sqL r (outs.take (j + 1)) = sqL r (outs.take j) * r from HSQ.out)
          clear HSQ
          rw [HSQ2.out] at HFIT
          have az0 : w.heap.size < wr.heap.size := by omega
          have HA := hide (show Fo wr a (some r) from ⟨HT.out.f1.q, HOK.out⟩)
          go_wp2_with (go_at_call 70; (with_reducible refine (fmul_ok _ c6 a _ _ (HT.out.x6.o.alloc _) (HA.out.alloc _) HFIT.out).mono ?_); rintro e w2 ⟨c8, rfl, ho, hb⟩; have HO8 := hide ho; have HT2 := hide ((HT.out.alloc _).below hb); obtain ⟨z0, z1, zf, zz, -⟩ := HT2.out.x6.b; clear ho hb)
          go_roundw
          case rel => exact ⟨j + 1, c8, by go_num, by omega, hide (by rw [HSQ2.out]; exact HT2.out.put HO8.out)⟩
          case measure => simp [intOf]; omega
/-- What Sequence returns. -/
def seqR (o : Option Rat) (l : List Bool) : Option Rat × Int :=
  if chO o = true then (if 32 < l.length then (none, 2) else match o with | some r => (some (sqL r l), 0) | none => (none, 41)) else (none, 41)
set_option maxRecDepth 100000 in
set_option maxHeartbeats 8000000 in
theorem seq_any (w : World) (a : Fa) (l k : List Nat) (A : Option Addr) (n c : Nat) (outs : List Bool) (hq : Fq w a l k) (hO : Rs w none 1 bv A outs) (hl : outs.length = n) (hn : n ≤ 9223372036854775807) :
    Calls Try.prog 36 #[.agg #[.slice a.A a.n a.c, .slice a.B a.m a.d], .slice A n c] w fun e w' => Ret w (seqR (fracOf l k) outs) e w' := by
  cases hch : chO (fracOf l k)
  · have HCH := hide hch
    have HX := hide (show seqR (fracOf l k) outs = (none, 41) by unfold seqR; rw [if_neg (by rw [hch]; simp)])
    clear hch hO
    go_enter Try.func36, Try.ntmps36
    go_upto_region 1 with (fail)
    generalize hW : World.alloc (World.alloc w _) _ = v
    have HF := hide (show F1 w v a (l) (k) by rw [← hW]; exact F1.mk0 hq _ _)
    obtain ⟨a0, a1, az, r0, r1, rf⟩ := HF.out.ca
    clear hW hq
    go_wp2_with (go_at_call 34; (with_reducible refine (chance_any _ a _ _ HF.out.q).mono ?_); rintro e w1 ⟨rfl, hb⟩; rw [HCH.out]; have HF1 := hide (HF.out.below hb); obtain ⟨e0, e1, ez, s0, s1, sf⟩ := HF1.out.ca; clear hb)
    refine bodyPost_ret (v := .tuple #[.agg #[.slice none 0 0, .slice none 0 0], .int .i64 41]) (by simp [results, Try.results36, go_sem, *]) rfl (HF1.out.err HX.out)
  · by_cases h2 : 32 < n
    · have HCH := hide hch
      have HX := hide (show seqR (fracOf l k) outs = (none, 2) by unfold seqR; rw [if_pos hch, if_pos (by omega)])
      have d1 : decide ((n : Int) > 32) = true := decide_eq_true (by omega)
      clear hch hO h2
      go_enter Try.func36, Try.ntmps36
      go_upto_region 1 with (fail)
      generalize hW : World.alloc (World.alloc w _) _ = v
      have HF := hide (show F1 w v a (l) (k) by rw [← hW]; exact F1.mk0 hq _ _)
      obtain ⟨a0, a1, az, r0, r1, rf⟩ := HF.out.ca
      clear hW hq
      go_wp2_with (go_at_call 34; (with_reducible refine (chance_any _ a _ _ HF.out.q).mono ?_); rintro e w1 ⟨rfl, hb⟩; rw [HCH.out]; have HF1 := hide (HF.out.below hb); obtain ⟨e0, e1, ez, s0, s1, sf⟩ := HF1.out.ca; clear hb)
      refine bodyPost_ret (v := .tuple #[.agg #[.slice none 0 0, .slice none 0 0], .int .i64 2]) (by simp [results, Try.results36, go_sem, *]) rfl (HF1.out.err HX.out)
    · cases hA : fracOf l k with
      | none => rw [hA] at hch; simp [chO] at hch
      | some r =>
        obtain ⟨rfl, rfl, hr0, hr⟩ := fracOf_some hA
        rw [hA] at hch
        have hc := chO_chn rfl hr0 hch
        have hX : seqR (some r) outs = (some (sqL r outs), 0) := by
          unfold seqR
          rw [if_pos hch, if_neg (by omega)]
        rw [hX]
        exact seq_main w a r A n c outs hq hO hl (by omega) hc hr (by rw [hA]; exact hch)
end Go.Proofs.Ytclflfglhbkfkaa

/- Contracts: the law's bits. -/
namespace Go.Proofs.Ytclflfglhbkfkaa
open Go.RowKit

theorem info4 : (Try.prog.info? 4).map (fun i => (i.zero, i.size, i.bytes)) = some (some (.bool false), 1, 1) := by kernel_rfl
theorem bv_len (b : Bool) : (bv b).length = 1 := rfl
theorem bv_one (b : Bool) : ∀ u ∈ bv b, u.oneCell' = true := by
  intro u hu
  simp [bv] at hu
  subst hu
  rfl
/-- A slice of bools of a call's own. -/
structure OBl (w0 w : World) (A : Option Addr) (m c : Nat) (l : List Bool) : Prop where
  own : w.ownsRow w0.heap.size 4 1 (.slice A m c) m (l.flatMap bv)
  len : l.length = m
  fr : Fr w0 w (fun _ => False)
theorem OBl.rs {w0 w : World} {A : Option Addr} {m c : Nat} {l : List Bool} (h : OBl w0 w A m c l) : Rs w none 1 bv A l := Rs.of_own h.own bv_len h.len (by simp)
theorem OBl.cap {w0 w : World} {A : Option Addr} {m c : Nat} {l : List Bool} (h : OBl w0 w A m c l) : m ≤ c := own_slice_cap h.own (by omega)
theorem OBl.nil (w : World) : OBl w w none 0 0 [] := ⟨World.ownsRow_nil _ _ _ _, rfl, Fr.refl _ _⟩
theorem wl_app_bool {w0 w : World} {ops : Array Oper} {rest : List Oper} {o : Oper} {a : Act} {Q : Exit → Act → World → Prop} (hgd : o.guard = none) (s x : Operand) (t : TypeId) (ht : Try.prog.underlying t = some (.slice 4))
    (ho : o.op = .call { callee := .builtin .append, args := #[s, x], argTypes := #[t, t] })
    (A : Option Addr) (m c : Nat) (l : List Bool) (X : Bool) (hs : a.eval s = .slice A m c) (hx : a.eval x = .slice (some ⟨w.heap.size, 0, none⟩) 1 1) (hO : OBl w0 w A m c l) (h63 : m + 1 ≤ 4294967296)
    (h : ∀ A' c' w', OBl w0 w' A' (m + 1) c' (l ++ [X]) → wpList Try.prog ops Q rest (a.put o.dst (.slice A' (m + 1) c')) w') :
    wpList Try.prog ops Q (o :: rest) a (w.alloc (.cells #[.bool X] 4)) := by
  have hO1 : OBl w0 (w.alloc (.cells #[.bool X] 4)) A m c l := ⟨hO.own.kept (grown_of_below ((Below.refl _ _).alloc (Nat.le_refl _) _) none) (Classical.em _), hO.len, hO.fr.alloc _⟩
  refine wl_append _ hgd s x t ho w0.heap.size 4 _ 1 1 ht info4 rfl (by omega) (.slice A m c) m l hs hO1.own _ 1 1 [X] hx
    (rs_one (av := none) (by simp) (by simp) (by intro j u hu; match j with | 0 => simp [bv] at hu; subst hu; simp [go_sem] | j + 1 => simp [bv] at hu)) rfl bv_len bv_one h63 (by omega) hO1.fr.size ?_
  intro A' c' w' hown hgr _
  refine h A' c' w' ⟨hown, by simp [hO.len], hO1.fr.grown hgr ?_⟩
  intro g hg
  left
  rcases hO1.own.2 with ⟨h1, _⟩ | ⟨g', cap, cur, hv, hb, _⟩
  · rw [h1] at hg; simp [Value.ownBlock] at hg
  · rw [hv] at hg
    simp [Value.ownBlock] at hg
    omega
/-- The bits of a number, the least first. -/
def bitL (x n : Nat) : List Bool := (List.range n).map fun i => decide (x / 2 ^ i % 2 = 1)
theorem bitL_succ (x n : Nat) : bitL x (n + 1) = bitL x n ++ [decide (x / 2 ^ n % 2 = 1)] := by
  unfold bitL
  rw [List.range_succ, List.map_append]
  rfl
theorem bitL_len (x n : Nat) : (bitL x n).length = n := by simp [bitL]
set_option maxRecDepth 100000 in
set_option maxHeartbeats 4000000 in
theorem bits_any (w : World) (x n : Nat) (hx : x < 4294967296) (hn : n ≤ 40) :
    Calls Try.prog 38 #[.int .i64 (x : Int), .int .i64 (n : Int)] w fun e w' => ∃ A c, e = .returned (.slice A n c) ∧ Rs w' none 1 bv A (bitL x n) ∧ Below w.heap.size w w' := by
  go_enter Try.func38, Try.ntmps38
  go_wp2_with fail
  go_loopw [5, 6] (fun s i wr => ∃ (k : Nat) (A : Option Addr) (c : Nat), s = .slice A k c ∧ i = .int .i64 (k : Int) ∧ k ≤ n ∧ Hid (OBl w wr A k c (bitL x k))) (fun _ i _ => n - (intOf i).toNat)
  case atStart => exact ⟨0, none, 0, rfl, rfl, by omega, hide (OBl.nil w)⟩
  case round =>
    obtain ⟨k, A, c, rfl, rfl, hk, HO⟩ := hrel
    by_cases hkn : k = n
    · subst hkn
      go_wp2_with fail
      go_ret
      exact ⟨A, c, rfl, HO.out.rs, HO.out.fr.below (Nat.le_refl _) (fun _ _ h => h)⟩
    · have hlt : (k : Int) < (n : Int) := by omega
      have hk0 : (0 : Int) ≤ (k : Int) := by omega
      have hk40 : (k : Int) < 64 := by omega
      have hand : bits BinOp.and IntKind.i64 ((x : Int) / 2 ^ k) 1 = ((x / 2 ^ k % 2 : Nat) : Int) := by
        rw [← natCast_div2]; exact i64_and_one _ (by have := Nat.div_le_self x (2 ^ k); omega)
      obtain ⟨b, hb⟩ : ∃ b : Nat, b = x / 2 ^ k % 2 := ⟨_, rfl⟩
      have HBL := hide (show bitL x (k + 1) = bitL x k ++ [((b : Int) == 1)] by
        rw [bitL_succ, ← hb]
        have e : decide (b = 1) = ((b : Int) == 1) := by
          rw [Bool.eq_iff_iff, decide_eq_true_eq, beq_iff_eq]
          omega
        rw [e])
      rw [← hb] at hand
      clear hb
      go_wp2_with (at_builtin; refine wl_app_bool (w0 := w) rfl _ _ _ Try.underlying57 rfl A k c (bitL x k) ((b : Int) == 1) rfl rfl HO.out (by omega) ?_; intro A2 c2 w2 ho2; have HO2 := hide ho2; clear ho2)
      go_roundw
      case rel => exact ⟨k + 1, A2, c2, rfl, by go_num, by omega, hide (by rw [HBL.out]; exact HO2.out)⟩
      case measure => simp [intOf]; omega
end Go.Proofs.Ytclflfglhbkfkaa

/- Rows of fractions that a call owns; append onto them. -/
namespace Go.Proofs.Ytclflfglhbkfkaa
open Go.RowKit

section
variable {P : Program}
/-- Each cell of a block is such a one. -/
def CellsP (w : World) (g : Nat) (Pr : Value → Prop) : Prop := ∀ j u, w.cell? ⟨g, j, none⟩ = some u → Pr u
theorem zero_mem {cs : Array Value} {n j : Nat} {u : Value} (h : (Builtin.zeroCells cs n)[j]? = some u) : u ∈ cs.toList := by
  unfold Builtin.zeroCells at h
  rw [Array.getElem?_map] at h
  obtain ⟨i, hi, rfl⟩ := Option.map_eq_some_iff.1 h
  have hlt : i < n * cs.size := by
    have := Array.mem_of_getElem? hi
    simpa using this
  have hp : 0 < cs.size := by
    rcases Nat.eq_zero_or_pos cs.size with h0 | h0
    · rw [h0, Nat.mul_zero] at hlt; omega
    · exact h0
  have hm := Nat.mod_lt i hp
  rw [getElem!_pos cs (i % cs.size) hm]
  simp
theorem cell_of_heap {w : World} {g j : Nat} {cs : Array Value} {e : TypeId} {f : Nat × Nat} (h : w.heap[g]? = some (.cells cs e f)) : w.cell? ⟨g, j, none⟩ = cs[j]? := by
  simp [World.cell?, h]
theorem run_append_p (w : World) (base : Nat) (t ty e : TypeId) (i : TypeInfo) (z : Value) (size bytes : Nat) (ht : P.underlying t = some (.slice e)) (hi : P.info? e = some i) (hz : i.zero = some z)
    (hsize : i.size = size) (hby : i.bytes = bytes) (hzs : z.cells.size = size) (hsz : 0 < size)
    (v : Value) (n : Nat) (xs : List Value) (hown : w.ownsRow base e size v n xs)
    (a : Addr) (m c : Nat) (news : List Value) (hl : news.length = m * size) (hnews : ∀ j u, news[j]? = some u → w.cell? (a.add j) = some u) (h1 : ∀ u ∈ news, u.oneCell' = true)
    (h63 : n + m ≤ maxLen) (hbytes : (n + m) * bytes ≤ 140737488355328) (hbase : base ≤ w.heap.size) (Pr : Value → Prop) (hzP : ∀ u ∈ z.cells.toList, Pr u) (hnP : ∀ u ∈ news, Pr u) (hP : ∀ g, v.ownBlock = some g → CellsP w g Pr) (hm : 0 < m) :
    ∃ v' w', (Builtin.append_ #[t, t] ty #[v, .slice (some a) m c]).run P w = .ok v' w' ∧ w'.ownsRow base e size v' (n + m) (xs ++ news) ∧ w.grownBy w' v.ownBlock ∧ (∀ g, v'.ownBlock = some g → CellsP w' g Pr) ∧ (∃ g cap, v' = .slice (some ⟨g, 0, none⟩) (n + m) cap ∧ base ≤ g) := by
  subst hsize
  subst hby
  have hsmall : n + m ≤ 9223372036854775807 := by simp only [maxLen] at h63; omega
  have hlen : (xs ++ news).length = (n + m) * i.size := by rw [List.length_append, hown.1, hl, Nat.add_mul]
  have grown : ∀ (old : Nat), old < n + m → (∀ u ∈ xs, Pr u) → ∀ (row : Option Nat),
      (w.drew.alloc (.cells (xs.toArray ++ news.toArray ++ Builtin.zeroCells z.cells (grownCap w (n + m) old e - (n + m))) e)).ownsRow base e i.size
        (.slice (some ⟨w.heap.size, 0, none⟩) (n + m) (grownCap w (n + m) old e)) (n + m) (xs ++ news) ∧
      w.grownBy (w.drew.alloc (.cells (xs.toArray ++ news.toArray ++ Builtin.zeroCells z.cells (grownCap w (n + m) old e - (n + m))) e)) row ∧
      CellsP (w.drew.alloc (.cells (xs.toArray ++ news.toArray ++ Builtin.zeroCells z.cells (grownCap w (n + m) old e - (n + m))) e)) w.heap.size Pr := by
    intro old ho hxs row
    have hge := grownCap_ge w (n + m) old e
    have hcm : grownCap w (n + m) old e ≤ maxLen := grownCap_le_maxLen w (n + m) old e h63
    refine ⟨⟨hlen, .inr ⟨w.heap.size, _, _, rfl, hbase, heap_alloc_new w.drew _, hge, hcm, ?_, ?_⟩⟩, ⟨rfl, rfl, rfl, by simp, fun k hk _ => by first | exact heap_alloc_old w.drew _ k hk | exact heap_alloc_old w.drew _ hk⟩, fun j u hu => ?_⟩
    · simp only [Array.size_append, List.size_toArray, size_zeroCells, hzs, hown.1, hl, ← Nat.add_mul]
      congr 1
      omega
    · simp only [Array.toList_append, List.append_assoc]
      rw [← List.append_assoc, ← hlen]
      exact List.take_left
    · have hh := cell_of_heap (w := w.drew.alloc _) (j := j) (heap_alloc_new w.drew (.cells (xs.toArray ++ news.toArray ++ Builtin.zeroCells z.cells (grownCap w (n + m) old e - (n + m))) e))
      rw [show w.drew.heap.size = w.heap.size from rfl] at hh
      rw [hh] at hu
      rw [Array.getElem?_append] at hu
      split at hu
      · rw [Array.getElem?_append] at hu
        split at hu
        · exact hxs u (by have := Array.mem_of_getElem? hu; simpa using this)
        · exact hnP u (by have := Array.mem_of_getElem? hu; simpa using this)
      · exact hzP u (zero_mem hu)
  rcases hown.2 with ⟨rfl, rfl⟩ | ⟨g, cap, cur, rfl, hbg, hg, hnc, hcm, hcs, htake⟩
  · have hx : xs = [] := List.eq_nil_of_length_eq_zero (by simpa using hown.1)
    subst hx
    have hr := run_append_nil (P := P) w t ty e i z ht hi hz a m c news hl hnews (by omega) (by omega) (by have hb := hbytes; simp only [Nat.zero_add] at hb; omega)
    have hgr := grown 0 (by omega) (by simp) (Value.ownBlock (.slice none 0 0))
    simp only [Nat.zero_add, List.nil_append, Array.empty_append] at hgr ⊢
    exact ⟨_, _, hr, hgr.1, hgr.2.1, fun g hg => by simp [Value.ownBlock] at hg; subst hg; exact hgr.2.2, ⟨_, _, rfl, hbase⟩⟩
  · have hcur : CellsP w g Pr := hP g rfl
    have hcurP : ∀ u ∈ cur.toList, Pr u := fun u hu => by
      obtain ⟨j, hj⟩ := List.mem_iff_getElem?.1 hu
      exact hcur j u (by rw [cell_of_heap hg]; simpa using hj)
    by_cases hroom : n + m ≤ cap
    · have hfit : n * i.size + news.length ≤ cur.size := by rw [hl, hcs, ← Nat.add_mul]; exact Nat.mul_le_mul_right _ hroom
      have hr := run_append_room (P := P) w t ty e i ht hi g n cap cur hg a m c news hl hnews h1 hroom hfit
      refine ⟨_, _, hr, ⟨hlen, .inr ⟨g, cap, _, rfl, hbg, setRow_heap w g cur _ e _ hg, hroom, hcm, ?_, ?_⟩⟩, ⟨rfl, rfl, rfl, by simp, fun k _ hk => setRow_other w g k _ (fun e => hk (by simp [Value.ownBlock, e]))⟩, fun g' hg' j u hu => ?_, ⟨_, _, rfl, hbg⟩⟩
      · simp only [List.size_toArray, List.length_append, List.length_take, List.length_drop, Array.length_toList]
        omega
      · rw [htake, ← hlen]
        exact List.take_left
      · simp [Value.ownBlock] at hg'
        subst hg'
        rw [cell_of_heap (setRow_heap w g cur _ e _ hg)] at hu
        have hmem : u ∈ (cur.toList.take (n * i.size) ++ news ++ cur.toList.drop (n * i.size + news.length)) := by
          have := Array.mem_of_getElem? hu
          simpa using this
        rcases List.mem_append.1 hmem with hmem | hmem
        · rcases List.mem_append.1 hmem with hmem | hmem
          · exact hcurP u (List.mem_of_mem_take hmem)
          · exact hnP u hmem
        · exact hcurP u (List.mem_of_mem_drop hmem)
    · have holds : ∀ j u, xs[j]? = some u → w.cell? ((⟨g, 0, none⟩ : Addr).add j) = some u := hown.cells (g := g) rfl
      have hr := run_append_grow (P := P) w t ty e i z ht hi hz ⟨g, 0, none⟩ n cap xs hown.1 holds a m c news hl hnews (by omega) (by omega) (growslice_fits (by omega) hbytes)
      have hgr := grown cap (by omega) (fun u hu => hcurP u (by rw [← htake] at hu; exact List.mem_of_mem_take hu)) (Value.ownBlock (.slice (some ⟨g, 0, none⟩) n cap))
      exact ⟨_, _, hr, hgr.1, hgr.2.1, fun g' hg' => by simp [Value.ownBlock] at hg'; subst hg'; exact hgr.2.2, ⟨_, _, rfl, hbase⟩⟩
end
theorem info26 : (Try.prog.info? 26).map (fun i => (i.zero, i.size, i.bytes)) = some (some (.agg #[.slice none 0 0, .slice none 0 0]), 2, 48) := by kernel_rfl
def fvv (c : Fa) : List Value := [.slice c.A c.n c.c, .slice c.B c.m c.d]
theorem fvv_len (c : Fa) : (fvv c).length = 2 := rfl
theorem fvv_one (c : Fa) : ∀ u ∈ fvv c, u.oneCell' = true := by
  intro u hu
  simp [fvv] at hu
  rcases hu with rfl | rfl <;> rfl
theorem fvv_nb (c : Fa) : ∀ u ∈ fvv c, ∀ x, u ≠ .int .u32 x := by
  intro u hu x
  simp [fvv] at hu
  rcases hu with rfl | rfl <;> simp
/-- A slice of fractions of a call's own. -/
structure OFr (w0 w : World) (A : Option Addr) (m c : Nat) (fs : List Fa) (os : List Rat) : Prop where
  own : w.ownsRow w0.heap.size 26 2 (.slice A m c) m (fs.flatMap fvv)
  nb : ∀ g, (Value.slice A m c).ownBlock = some g → NB w g
  len : fs.length = m
  lo : os.length = m
  el : ∀ (i : Nat) (x : Fa) (r : Rat), fs[i]? = some x → os[i]? = some r → Fo w x (some r)
  fr : Fr w0 w (fun _ => False)
section
variable {w0 w w' : World} {A : Option Addr} {m c : Nat} {fs : List Fa} {os : List Rat}
theorem OFr.nil (hf : Fr w0 w (fun _ => False)) : OFr w0 w none 0 0 [] [] := ⟨World.ownsRow_nil _ _ _ _, by simp [Value.ownBlock], rfl, rfl, by simp, hf⟩
theorem OFr.gsz (h : OFr w0 w A m c fs os) {g : Nat} (hg : (Value.slice A m c).ownBlock = some g) : g < w.heap.size := by
  rcases h.own.2 with ⟨h1, _⟩ | ⟨g', cap, cur, hv, _, hh, _⟩
  · rw [h1] at hg; simp [Value.ownBlock] at hg
  · rw [hv] at hg
    simp [Value.ownBlock] at hg
    subst hg
    exact (Array.getElem?_eq_some_iff.1 hh).1
theorem OFr.below (h : OFr w0 w A m c fs os) (hb : Below w.heap.size w w') : OFr w0 w' A m c fs os :=
  ⟨h.own.kept (grown_of_below hb none) (Classical.em _), fun g hg => (h.nb g hg).below (h.gsz hg) hb, h.len, h.lo, fun i x r hx hr => (h.el i x r hx hr).below hb, h.fr.below_ hb⟩
theorem OFr.alloc (h : OFr w0 w A m c fs os) (o : Obj) : OFr w0 (w.alloc o) A m c fs os := h.below ((Below.refl _ _).alloc (Nat.le_refl _) _)
end
theorem OFr.far {w0 w w' : World} {A : Option Addr} {m c : Nat} {fs : List Fa} {os : List Rat} (h : OFr w0 w A m c fs os) {g B : Nat} (hf : Fr w w' (fun b => b = g)) (hg : NB w g) (hB : B ≤ g) (hr : ∀ b, (Value.slice A m c).ownBlock = some b → b < B) (hw : w0.heap.size ≤ B) : OFr w0 w' A m c fs os :=
  ⟨h.own.kept (row := some g) ⟨hf.os, hf.tape, hf.output, hf.size, fun k hk hne => hf.block k hk (fun e => hne (by rw [e]))⟩ (by
      cases hob : (Value.slice A m c).ownBlock with
      | none => exact .inl rfl
      | some b => right; intro e; injection e with e; have := hr b hob; omega),
    fun b hb => (h.nb b hb).one hf (h.gsz hb) (by have := hr b hb; omega), h.len, h.lo, fun i x r hx hr' => (h.el i x r hx hr').one hf hg, h.fr.step hf (fun k hk e => by omega)⟩
theorem fo_none {w : World} : Fo w fa0 none := ⟨⟨Ul.nil, Ul.nil, Nat.le_refl _, Nat.le_refl _, by simp, by simp⟩, trivial⟩
theorem wl_app_frac {w0 w : World} {ops : Array Oper} {rest : List Oper} {o : Oper} {a : Act} {Q : Exit → Act → World → Prop} (hgd : o.guard = none) (s x : Operand) (t : TypeId) (ht : Try.prog.underlying t = some (.slice 26))
    (ho : o.op = .call { callee := .builtin .append, args := #[s, x], argTypes := #[t, t] })
    (A : Option Addr) (m c : Nat) (fs : List Fa) (os : List Rat) (X : Fa) (r : Rat) (hs : a.eval s = .slice A m c) (hx : a.eval x = .slice (some ⟨w.heap.size, 0, none⟩) 1 1) (hO : OFr w0 w A m c fs os) (hX : Fo w X (some r)) (h63 : m + 1 ≤ 4294967296)
    (h : ∀ A' c' w', OFr w0 w' A' (m + 1) c' (fs ++ [X]) (os ++ [r]) → w.heap.size ≤ w'.heap.size → Fr w w' (fun b => (Value.slice A m c).ownBlock = some b) → wpList Try.prog ops Q rest (a.put o.dst (.slice A' (m + 1) c')) w') :
    wpList Try.prog ops Q (o :: rest) a (w.alloc (.cells #[.slice X.A X.n X.c, .slice X.B X.m X.d] 26)) := by
  have hO1 := hO.alloc (.cells #[.slice X.A X.n X.c, .slice X.B X.m X.d] 26)
  have hX1 := hX.alloc (.cells #[.slice X.A X.n X.c, .slice X.B X.m X.d] 26)
  obtain ⟨i, hi, hz, hsize, hbyt⟩ := info_parts info26
  obtain ⟨v', w', hr, h2, h3, h4, g, cap, rfl, hbg⟩ := run_append_p (P := Try.prog) (w.alloc (.cells #[.slice X.A X.n X.c, .slice X.B X.m X.d] 26)) w0.heap.size t o.type 26 i _ 2 _ ht hi hz hsize hbyt rfl (by omega) (.slice A m c) m (fs.flatMap fvv) hO1.own ⟨w.heap.size, 0, none⟩ 1 1 (fvv X) rfl
    (by intro j u hu; match j with | 0 => simp [fvv] at hu; subst hu; simp [go_sem, Addr.add] | 1 => simp [fvv] at hu; subst hu; simp [go_sem, Addr.add] | j + 2 => simp [fvv] at hu) (fvv_one X)
    (by simp only [maxLen]; omega) (by omega) hO1.fr.size (fun u => ∀ x, u ≠ .int .u32 x) (by intro u hu; simp [Value.cells] at hu; subst hu; simp) (fvv_nb X) (fun g hg j u hu x e => (hO1.nb g hg) j x (by rw [hu, e])) (by omega)
  refine wpList_plain hgd fun K hK => ?_
  unfold Oper.wp execOp
  simp only [ho, resolve, invoke, builtin, Sem.run_bind, Sem.run_pure, Result.andThen_ok, List.map_toArray, List.map_cons, List.map_nil, hs, hx, hr]
  have hfr1 : Fr (w.alloc (.cells #[.slice X.A X.n X.c, .slice X.B X.m X.d] 26)) w' (fun b => (Value.slice A m c).ownBlock = some b) := ⟨h3.os, h3.tape, h3.output, h3.size, fun k hk hS => h3.block k hk (fun e => hS e.symm)⟩
  have keep : ∀ {y : Fa} {q : Rat}, Fo (w.alloc (.cells #[.slice X.A X.n X.c, .slice X.B X.m X.d] 26)) y (some q) → Fo w' y (some q) := fun {y q} hy => by
    cases hob : (Value.slice A m c).ownBlock with
    | none => exact hy.fr (hfr1.mono (fun k hk e => by rw [hob] at e; simp at e))
    | some g0 => exact hy.one (hfr1.mono (fun k hk e => by rw [hob] at e; simp at e; exact e.symm)) (hO1.nb g0 hob)
  refine hK _ _ (h _ _ _ ⟨by simpa using h2, fun g' hg' j x e => ?_, by simp [hO.len], by simp [hO.lo], fun j y q hy hq => ?_, hO1.fr.step hfr1 (fun k hk e => ?_)⟩ ?_ ?_)
  · exact h4 g' hg' j _ e x rfl
  · by_cases hj : j < m
    · rw [List.getElem?_append_left (by have := hO.len; omega)] at hy
      rw [List.getElem?_append_left (by have := hO.lo; omega)] at hq
      exact keep (hO1.el j y q hy hq)
    · rw [List.getElem?_append_right (by have := hO.len; omega)] at hy
      rw [List.getElem?_append_right (by have := hO.lo; omega)] at hq
      rw [hO.len] at hy
      rw [hO.lo] at hq
      match hjm : j - m with
      | 0 =>
        rw [hjm] at hy hq
        simp at hy hq
        subst hy
        subst hq
        exact keep hX1
      | k + 1 => rw [hjm] at hy; simp at hy
  · rcases hO.own.2 with ⟨h1, _⟩ | ⟨g', cap', cur', hv, hbg', _⟩
    · rw [h1] at e; simp [Value.ownBlock] at e
    · rw [hv] at e
      simp [Value.ownBlock] at e
      omega
  · have := h3.size; simp at this; omega
  · exact ((Fr.refl w _).alloc _).trans hfr1
end Go.Proofs.Ytclflfglhbkfkaa

/- Contracts: fraction.fold with Add, Sum. -/
namespace Go.Proofs.Ytclflfglhbkfkaa
open Go.RowKit

/-- A slice of fractions. -/
structure FSl (w : World) (A : Option Addr) (n : Nat) (fs : List Fa) (os : List Rat) : Prop where
  rs : Rs w none 2 fvv A fs
  len : fs.length = n
  lo : os.length = n
  el : ∀ (i : Nat) (x : Fa) (r : Rat), fs[i]? = some x → os[i]? = some r → Fo w x (some r)
theorem FSl.below {w w' : World} {A : Option Addr} {n : Nat} {fs : List Fa} {os : List Rat} (h : FSl w A n fs os) (hb : Below w.heap.size w w') : FSl w' A n fs os := ⟨h.rs.below hb, h.len, h.lo, fun i x r hx hr => (h.el i x r hx hr).below hb⟩
theorem FSl.alloc {w : World} {A : Option Addr} {n : Nat} {fs : List Fa} {os : List Rat} (h : FSl w A n fs os) (o : Obj) : FSl (w.alloc o) A n fs os := h.below ((Below.refl _ _).alloc (Nat.le_refl _) _)
theorem OFr.sl {w0 w : World} {A : Option Addr} {m c : Nat} {fs : List Fa} {os : List Rat} (h : OFr w0 w A m c fs os) : FSl w A m fs os := ⟨Rs.of_own h.own fvv_len h.len (by simp), h.len, h.lo, h.el⟩
theorem FSl.at {w : World} {A : Option Addr} {n : Nat} {fs : List Fa} {os : List Rat} (h : FSl w A n fs os) {k : Nat} (hk : k < n) :
    ∃ b o x r, A = some ⟨b, o, none⟩ ∧ b < w.heap.size ∧ fs[k]? = some x ∧ os[k]? = some r ∧ Fo w x (some r) ∧ w.cell? ⟨b, o + k * 2, none⟩ = some (.slice x.A x.n x.c) ∧ w.cell? ⟨b, o + k * 2 + 1, none⟩ = some (.slice x.B x.m x.d) := by
  have h1 := List.getElem?_eq_getElem (l := fs) (i := k) (by have := h.len; omega)
  have h2 := List.getElem?_eq_getElem (l := os) (i := k) (by have := h.lo; omega)
  obtain ⟨b, o, g1, -, g3, g4⟩ := h.rs.at h1
  have a0 := g4 0 (.slice _ _ _) rfl
  have a1 := g4 1 (.slice _ _ _) rfl
  exact ⟨b, o, _, _, g1, g3, h1, h2, h.el k _ _ h1 h2, by simpa using a0, a1⟩
def sumQ (l : List Rat) : Rat := l.foldl (· + ·) 0
theorem sumQ_snoc (l : List Rat) (r : Rat) : sumQ (l ++ [r]) = sumQ l + r := by
  unfold sumQ
  rw [List.foldl_append]
  rfl
theorem sumQ_take {l : List Rat} {j : Nat} {r : Rat} (h : l[j]? = some r) : sumQ (l.take (j + 1)) = sumQ (l.take j) + r := by
  rw [List.take_add_one, h]
  exact sumQ_snoc _ _
set_option maxRecDepth 100000 in
set_option maxHeartbeats 4000000 in
theorem fsum1_ok (w : World) (a b : Fa) (r s : Rat) (ha : Fo w a (some r)) (hb : Fo w b (some s)) (hf : fitsR (r + s) = true) :
    Calls Try.prog 72 #[.agg #[.slice a.A a.n a.c, .slice a.B a.m a.d], .agg #[.slice b.A b.n b.c, .slice b.B b.m b.d]] w fun e w' => RetV w (r + s) e w' := by
  have HFIT := hide hf
  clear hf
  go_enter Try.func72, Try.ntmps72
  go_upto_region 1 with (fail)
  generalize hW : World.alloc (World.alloc (World.alloc w _) _) _ = v
  have HA := hide (show Fo v a (some r) by rw [← hW]; exact ((ha.alloc _).alloc _).alloc _)
  have HB := hide (show Fo v b (some s) by rw [← hW]; exact ((hb.alloc _).alloc _).alloc _)
  have a0 : v.cell? ⟨w.heap.size, 0, none⟩ = some (.slice a.A a.n a.c) := by rw [← hW]; clear hW; go_simp
  have a1 : v.cell? ⟨w.heap.size, 1, none⟩ = some (.slice a.B a.m a.d) := by rw [← hW]; clear hW; go_simp
  have b0 : v.cell? ⟨w.heap.size + 1, 0, none⟩ = some (.slice b.A b.n b.c) := by rw [← hW]; clear hW; go_simp
  have b1 : v.cell? ⟨w.heap.size + 1, 1, none⟩ = some (.slice b.B b.m b.d) := by rw [← hW]; clear hW; go_simp
  have HR := hide (show Rb v (w.heap.size + 2) by rw [← hW]; exact Rb.mk0 _ (by simp))
  have HBV := hide (show Below w.heap.size w v by rw [← hW]; exact (((Below.refl _ _).alloc (Nat.le_refl _) _).alloc (by simp) _).alloc (by simp; omega) _)
  clear hW ha hb
  go_wp2_with (go_at_call 23; (with_reducible refine (fadd_ok _ a b _ _ HA.out HB.out HFIT.out).mono ?_); rintro e w1 ⟨c, rfl, ho, hb⟩; have HO := hide ho; have HB1 := hide (HBV.out.trans (hb.mono HBV.out.size)); have HR1 := hide (HR.out.below hb); obtain ⟨z0, z1, zf, zz, -⟩ := HR1.out; clear ho hb)
  refine bodyPost_ret (v := .tuple #[.agg #[.slice c.A c.n c.c, .slice c.B c.m c.d], .int .i64 0]) (by simp [results, Try.results72, go_sem, *]) rfl ⟨c, rfl, HO.out.put2 HR1.out.nb _ _ (by simp), Rb.end0 HB1.out (by omega) _ _⟩
structure GS (w wr : World) (b6 : Nat) (c6 : Fa) (sv : Rat) : Prop where
  bw : Below w.heap.size w wr
  rb : Rb wr w.heap.size
  x6 : Fx wr b6 c6 (some sv)
  g : w.heap.size < b6
theorem GS.below {w wr wr' : World} {b6 : Nat} {c6 : Fa} {s : Rat} (h : GS w wr b6 c6 s) (hb : Below wr.heap.size wr wr') : GS w wr' b6 c6 s := ⟨h.bw.trans (hb.mono h.bw.size), h.rb.below hb, h.x6.below hb, h.g⟩
theorem GS.alloc {w wr : World} {b6 : Nat} {c6 : Fa} {s : Rat} (h : GS w wr b6 c6 s) (o : Obj) : GS w (wr.alloc o) b6 c6 s := h.below ((Below.refl _ _).alloc (Nat.le_refl _) _)
theorem GS.put {w wr : World} {b6 : Nat} {c6 : Fa} {s : Rat} (h : GS w wr b6 c6 s) {c : Fa} {s' : Rat} (ho : Fo wr c (some s')) :
    GS w ((wr.setCell ⟨b6, 0, none⟩ (.slice c.A c.n c.c)).setCell ⟨b6, 1, none⟩ (.slice c.B c.m c.d)) b6 c s' :=
  ⟨Rb.end0 h.bw (by have := h.g; omega) _ _, (h.rb.bq.one (fr_fill _ _) (by have := h.g; omega)).rb, h.x6.put ho, h.g⟩
theorem fo_zero {w : World} {A : Option Addr} {m d : Nat} (hU : Ul w none A m (lm 1)) (h1 : m ≤ d) (h2 : m ≤ 2) : Fo w ⟨none, 0, 0, A, m, d⟩ (some 0) :=
  ⟨⟨by show Ul w none none 0 (lm (rn 0)); rw [rn_zero, lm_zero]; exact Ul.nil, hU, Nat.le_refl _, h1, by show 0 ≤ 1000; omega, by show m ≤ 1000; omega⟩, Rat.le_refl, by decide +kernel⟩
set_option maxRecDepth 100000 in
set_option maxHeartbeats 8000000 in
theorem ffold_ok (w : World) (A : Option Addr) (n c : Nat) (fs : List Fa) (os : List Rat) (hS : FSl w A n fs os) (hn : n ≤ 4294967296) (hfit : ∀ j, j ≤ n → fitsR (sumQ (os.take j)) = true) :
    Calls Try.prog 71 #[.slice A n c, .func (Fn.func 72) #[] #[]] w fun e w' => RetV w (sumQ os) e w' := by
  have HS := hide hS
  have HFT := hide hfit
  have HLO := hide hS.lo
  clear hS hfit
  go_enter Try.func71, Try.ntmps71
  go_upto_region 1 with (fail)
  generalize hW : World.alloc w _ = v
  have HR := hide (show Rb v w.heap.size by rw [← hW]; exact Rb.mk0 _ rfl)
  have HBV := hide (show Below w.heap.size w v by rw [← hW]; exact (Below.refl _ _).alloc (Nat.le_refl _) _)
  have hvz := HR.out.sz
  clear hW
  go_upto_region 2 with (go_at_call 61; (with_reducible refine (nof_one _).mono ?_); rintro e w1 ⟨A1, m1, d1, rfl, hd1, hm1, hu, hb⟩; have HU1 := hide hu; have HB1 := hide (HBV.out.trans (hb.mono HBV.out.size)); have HR1 := hide (HR.out.below hb); clear hu hb)
  generalize hW : World.alloc w1 _ = v1
  have HG := hide (show GS w v1 w1.heap.size ⟨none, 0, 0, A1, m1, d1⟩ 0 by
    rw [← hW]
    exact ⟨HB1.out.alloc HB1.out.size _, (HR1.out.bq.alloc _).rb, Fx.mk0 (fo_zero HU1.out hd1 hm1) 26 rfl, HR1.out.sz⟩)
  clear hW HU1 HB1 HR1
  go_wp2_with fail
  go_loopw [15] (fun i wr => ∃ (j : Nat) (c6 : Fa), i = .int .i64 (j : Int) ∧ j ≤ n ∧ Hid (GS w wr w1.heap.size c6 (sumQ (os.take j)))) (fun i _ => n - (intOf i).toNat)
  case atStart => exact ⟨0, _, rfl, by omega, HG⟩
  case round =>
    obtain ⟨j, c6, rfl, hj, HG⟩ := hrel
    obtain ⟨r0, r1, rf, rz, -⟩ := HG.out.rb
    obtain ⟨x0, x1, xf, xz, -⟩ := HG.out.x6.b
    by_cases hjn : j = n
    · subst hjn
      have HE := hide (show sumQ (os.take j) = sumQ os by rw [List.take_of_length_le (by have := HLO.out; omega)])
      go_wp2_with fail
      refine bodyPost_ret (v := .tuple #[.agg #[.slice c6.A c6.n c6.c, .slice c6.B c6.m c6.d], .int .i64 0]) (by simp [results, Try.results71, go_sem, *]) rfl ⟨c6, rfl, by rw [← HE.out]; exact HG.out.x6.o.put2 HG.out.rb.nb _ _ (by simp), Rb.end0 HG.out.bw (Nat.le_refl _) _ _⟩
    · have hjl : j < n := by omega
      have hlt : (j : Int) < (n : Int) := by omega
      have hj0 : (0 : Int) ≤ (j : Int) := by omega
      obtain ⟨b, o, x, r, rfl, hb, -, hr, hox, cx0, cx1⟩ := (HS.out.below HG.out.bw).at hjl
      have HOX := hide hox
      have HSQ := hide (sumQ_take hr)
      have HFIT := hide (show fitsR (sumQ (os.take j) + r) = true by rw [← sumQ_take hr]; exact HFT.out (j + 1) (by omega))
      clear hr hox
      go_wp2_with (go_at_call 72; (with_reducible refine (fsum1_ok _ c6 x _ _ (HG.out.x6.o.alloc _) (HOX.out.alloc _) HFIT.out).mono ?_); rintro e w2 ⟨c7, rfl, ho, hb⟩; rw [← HSQ.out] at ho; have HO7 := hide ho; have HG2 := hide ((HG.out.alloc _).below hb); obtain ⟨y0, y1, yf, yz, -⟩ := HG2.out.x6.b; clear ho hb)
      go_roundw
      case rel => exact ⟨j + 1, c7, by go_num, by omega, hide (by first | exact (HG2.out.put HO7.out).alloc _ | exact (HG2.out.alloc _).put (HO7.out.alloc _))⟩
      case measure => simp [intOf]; omega
end Go.Proofs.Ytclflfglhbkfkaa
