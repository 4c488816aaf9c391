/- Contracts of the functions that these laws reach: part 20: Contracts: the reference's AtLeast, AtMost; Contracts: noise.Sequence; Contract: the reference's Sequence; A region that draws its order, all of whose operations only read or make memory: each operation once, in whatever order. -/
import Derived.Test.YtclflfglhbkfkaaG19
import Derived.Test.YtclflfglhbkfkaaG12
import Derived.Test.YtclflfglhbkfkaaG10
set_option linter.unusedVariables false
set_option linter.unusedSimpArgs false

/- Contracts: the reference's AtLeast, AtMost. -/
namespace Go.Proofs.Ytclflfglhbkfkaa
open Go.RowKit

set_option maxRecDepth 100000 in
set_option maxHeartbeats 4000000 in
theorem rzatleast_any (w : World) (a : Fa) (l k : List Nat) (n m : Int) (hq : Fq w a l k) (hm : m < 9223372036854775808) :
    Calls Try.prog 19 #[.agg #[.slice a.A a.n a.c, .slice a.B a.m a.d], .int .i64 n, .int .i64 m] w fun e w' => Ret w (totR (fracOf l k) n (btw m n)) e w' := by
  go_enter Try.func19, Try.ntmps19
  go_upto_region 1 with (fail)
  generalize hW : World.alloc (World.alloc w _) _ = v
  have HF := hide (show F1 w v a (l) (k) by rw [← hW]; exact F1.mk0 hq _ _)
  obtain ⟨a0, a1, az, r0, r1, rf⟩ := HF.out.ca
  clear hW hq
  go_wp2_with (go_at_call 56; (with_reducible refine (rzbetween_any _ a l k n (m) (n) HF.out.q hm).mono ?_); rintro e w1 ⟨q, rfl, ho, hb⟩; have HO := hide ho; have HF1 := hide (HF.out.below hb); obtain ⟨e0, e1, ez, s0, s1, sf⟩ := HF1.out.ca; clear ho hb)
  refine bodyPost_ret (v := .tuple #[.agg #[.slice q.A q.n q.c, .slice q.B q.m q.d], .int .i64 (totR (fracOf l k) n (btw m n)).2]) (by simp [results, Try.results19, go_sem, *]) rfl (HF1.out.end rfl HO.out)
set_option maxRecDepth 100000 in
set_option maxHeartbeats 4000000 in
theorem rzatmost_any (w : World) (a : Fa) (l k : List Nat) (n m : Int) (hq : Fq w a l k) :
    Calls Try.prog 21 #[.agg #[.slice a.A a.n a.c, .slice a.B a.m a.d], .int .i64 n, .int .i64 m] w fun e w' => Ret w (totR (fracOf l k) n (btw 0 m)) e w' := by
  go_enter Try.func21, Try.ntmps21
  go_upto_region 1 with (fail)
  generalize hW : World.alloc (World.alloc w _) _ = v
  have HF := hide (show F1 w v a (l) (k) by rw [← hW]; exact F1.mk0 hq _ _)
  obtain ⟨a0, a1, az, r0, r1, rf⟩ := HF.out.ca
  clear hW hq
  go_wp2_with (go_at_call 56; (with_reducible refine (rzbetween_any _ a l k n (0) (m) HF.out.q (by omega)).mono ?_); rintro e w1 ⟨q, rfl, ho, hb⟩; have HO := hide ho; have HF1 := hide (HF.out.below hb); obtain ⟨e0, e1, ez, s0, s1, sf⟩ := HF1.out.ca; clear ho hb)
  refine bodyPost_ret (v := .tuple #[.agg #[.slice q.A q.n q.c, .slice q.B q.m q.d], .int .i64 (totR (fracOf l k) n (btw 0 m)).2]) (by simp [results, Try.results21, go_sem, *]) rfl (HF1.out.end rfl HO.out)
end Go.Proofs.Ytclflfglhbkfkaa

/- Contracts: noise.Sequence. -/
namespace Go.Proofs.Ytclflfglhbkfkaa
open Go.RowKit

def bv (b : Bool) : List Value := [.bool b]
theorem bools_at {w : World} {av : Option Nat} {A : Option Addr} {l : List Bool} (h : Rs w av 1 bv A l) {k : Nat} (hk : k < l.length) :
    ∃ b o, A = some ⟨b, o, none⟩ ∧ some b ≠ av ∧ b < w.heap.size ∧ w.cell? ⟨b, o + k, none⟩ = some (.bool l[k]) := by
  obtain ⟨b, o, h1, h2, h3, h4⟩ := h.at (List.getElem?_eq_getElem hk)
  refine ⟨b, o, h1, h2, h3, ?_⟩
  have := h4 0 (.bool l[k]) rfl
  simpa using this
/-- The chance of outcomes in an order. -/
def sqF (r acc : Rat) (l : List Bool) : Rat := l.foldl (fun acc b => acc * (if b then r else 1 - r)) acc
def sqL (r : Rat) (l : List Bool) : Rat := sqF r 1 l
theorem sqF_snoc (r acc : Rat) (l : List Bool) (b : Bool) : sqF r acc (l ++ [b]) = sqF r acc l * (if b then r else 1 - r) := by
  unfold sqF
  rw [List.foldl_append]
  rfl
theorem sqF_ok {r : Rat} (h : Chn r) : ∀ (l : List Bool) (acc : Rat) (n : Nat), Sc r.den n acc → 0 ≤ acc → acc ≤ 1 → Sc r.den (n + l.length) (sqF r acc l) ∧ 0 ≤ sqF r acc l ∧ sqF r acc l ≤ 1
  | [], acc, n, h1, h2, h3 => ⟨h1, h2, h3⟩
  | b :: l, acc, n, h1, h2, h3 => by
    have hx : Sc r.den 1 (if b then r else 1 - r) ∧ 0 ≤ (if b then r else 1 - r) ∧ (if b then r else 1 - r) ≤ 1 := by
      cases b
      · exact ⟨den_sc1 h.h0 h.h1, h.q0, h.q1⟩
      · exact ⟨den_sc h.h0, h.h0, h.h1⟩
    have := sqF_ok h l (acc * (if b then r else 1 - r)) (n + 1) (h1.mul hx.1) (Rat.mul_nonneg h2 hx.2.1) (mul_le_b h2 h3 hx.2.2 hx.2.1)
    rw [List.length_cons, show n + (l.length + 1) = n + 1 + l.length by omega]
    exact this
theorem Chn.fsq {r : Rat} (h : Chn r) {l : List Bool} (hl : l.length ≤ 128) : fitsR (sqL r l) = true := by
  obtain ⟨h1, -, h3⟩ := sqF_ok h l 1 0 (by simpa using Sc.nat r.den 1) (by decide) Rat.le_refl
  exact h.fit h1 (by omega) (Rat.le_trans h3 one32)
theorem sqL_take {r : Rat} {l : List Bool} {j : Nat} (h : j < l.length) : sqL r (l.take (j + 1)) = sqL r (l.take j) * (if l[j] then r else 1 - r) := by
  rw [List.take_add_one, List.getElem?_eq_getElem h]
  exact sqF_snoc r 1 (l.take j) l[j]
/-- The loop's state. -/
structure SS (w wr : World) (a : Fa) (l k : List Nat) (r : Rat) (b6 b7 : Nat) (c6 c7 : Fa) (acc : Rat) : Prop where
  f1 : F1 w wr a l k
  x6 : Fx wr b6 c6 (some acc)
  x7 : Fx wr b7 c7 (some (1 - r))
  d : b7 ≠ b6
  g : w.heap.size + 1 < b6
theorem SS.below {w wr wr' : World} {a : Fa} {l k : List Nat} {r : Rat} {b6 b7 : Nat} {c6 c7 : Fa} {acc : Rat} (h : SS w wr a l k r b6 b7 c6 c7 acc) (hb : Below wr.heap.size wr wr') : SS w wr' a l k r b6 b7 c6 c7 acc :=
  ⟨h.f1.below hb, h.x6.below hb, h.x7.below hb, h.d, h.g⟩
theorem SS.alloc {w wr : World} {a : Fa} {l k : List Nat} {r : Rat} {b6 b7 : Nat} {c6 c7 : Fa} {acc : Rat} (h : SS w wr a l k r b6 b7 c6 c7 acc) (o : Obj) : SS w (wr.alloc o) a l k r b6 b7 c6 c7 acc := h.below ((Below.refl _ _).alloc (Nat.le_refl _) _)
theorem SS.put {w wr : World} {a : Fa} {l k : List Nat} {r : Rat} {b6 b7 : Nat} {c6 c7 : Fa} {acc : Rat} (h : SS w wr a l k r b6 b7 c6 c7 acc) {c : Fa} {s : Rat} (ho : Fo wr c (some s)) :
    SS w ((wr.setCell ⟨b6, 0, none⟩ (.slice c.A c.n c.c)).setCell ⟨b6, 1, none⟩ (.slice c.B c.m c.d)) a l k r b6 b7 c c7 s :=
  ⟨h.f1.one (fr_fill _ _) h.x6.b.nb h.g, h.x6.put ho, h.x7.one (fr_fill _ _) h.x6.b.nb h.d, h.d, h.g⟩
theorem SS.far {w wr wr' : World} {a : Fa} {l k : List Nat} {r : Rat} {b6 b7 : Nat} {c6 c7 : Fa} {acc : Rat} (h : SS w wr a l k r b6 b7 c6 c7 acc) {g : Nat} (hf : Fr wr wr' (fun b => b = g)) (hg : NB wr g) (h6 : b6 ≠ g) (h7 : b7 ≠ g) (hgw : w.heap.size + 1 < g) :
    SS w wr' a l k r b6 b7 c6 c7 acc := ⟨h.f1.one hf hg hgw, h.x6.one hf hg h6, h.x7.one hf hg h7, h.d, h.g⟩
def RSq (B : Nat) (a : Fa) (r : Rat) : Nat → Value → World → Prop
  | 0, x, W => ∃ c : Fa, x = .agg #[.slice c.A c.n c.c, .slice c.B c.m c.d] ∧ Fo W c (some 1)
  | 1, x, _ => x = .agg #[.slice a.A a.n a.c, .slice a.B a.m a.d]
  | 2, x, W => ∃ c : Fa, x = .agg #[.slice c.A c.n c.c, .slice c.B c.m c.d] ∧ Fo W c (some (1 - r))
  | 3, x, W => ∃ b, x = .pointer (some ⟨b, 0, none⟩) ∧ B ≤ b ∧ Bq W b fa0
  | 4, x, W => ∃ b, x = .pointer (some ⟨b, 0, none⟩) ∧ B ≤ b ∧ Bq W b fa0
  | _, _, _ => True
theorem RSq.st (B : Nat) (a : Fa) (r : Rat) : ∀ i x w w', RSq B a r i x w → Below w.heap.size w w' → RSq B a r i x w'
  | 0, _, _, _, ⟨c, h1, h2⟩, hb => ⟨c, h1, h2.below hb⟩
  | 1, _, _, _, h, _ => h
  | 2, _, _, _, ⟨c, h1, h2⟩, hb => ⟨c, h1, h2.below hb⟩
  | 3, _, _, _, ⟨b, h1, h2, h3⟩, hb => ⟨b, h1, h2, h3.below hb⟩
  | 4, _, _, _, ⟨b, h1, h2, h3⟩, hb => ⟨b, h1, h2, h3.below hb⟩
  | _ + 5, _, _, _, _, _ => trivial
set_option maxRecDepth 100000 in
set_option maxHeartbeats 16000000 in
theorem seq_main (w : World) (a : Fa) (r : Rat) (A : Option Addr) (n c : Nat) (outs : List Bool) (hq : Fq w a (lm (rn r)) (lm r.den)) (hO : Rs w none 1 bv A outs) (hl : outs.length = n) (hn2 : n ≤ 32) (hc : Chn r) (hr : fitsR r = true) (hch : chO (fracOf (lm (rn r)) (lm r.den)) = true) :
    Calls Try.prog 36 #[.agg #[.slice a.A a.n a.c, .slice a.B a.m a.d], .slice A n c] w fun e w' => Ret w (some (sqL r outs), 0) e w' := by
  have hr0 := hc.h0
  have hr1 := hc.h1
  have hfr := hc.fq
  have HCH := hide hch
  have HC := hide hc
  have HOK := hide (show okR (some r) from ⟨hr0, hr⟩)
  have HO := hide hO
  have HL := hide hl
  have hn : decide ((n : Int) > 32) = false := decide_eq_false (by omega)
  have HN := hide hn2
  clear hch hc hO hl
  go_enter Try.func36, Try.ntmps36
  go_upto_region 1 with (fail)
  generalize hW : World.alloc (World.alloc w _) _ = v
  have HF := hide (show F1 w v a (lm (rn r)) (lm r.den) by rw [← hW]; exact F1.mk0 hq _ _)
  obtain ⟨a0, a1, az, r0, r1, rf⟩ := HF.out.ca
  clear hW hq
  go_upto_region 5 with (go_at_call 34; (with_reducible refine (chance_any _ a _ _ HF.out.q).mono ?_); rintro e w1 ⟨rfl, hb⟩; rw [HCH.out]; have HF1 := hide (HF.out.below hb); obtain ⟨e0, e1, ez, s0, s1, sf⟩ := HF1.out.ca; clear hb)
  go_cut [6, 7] from 6 to 24 (fun s6 s7 wx => ∃ b6 b7 c6 c7, s6 = .pointer (some ⟨b6, 0, none⟩) ∧ s7 = .pointer (some ⟨b7, 0, none⟩) ∧ Hid (SS w wx a (lm (rn r)) (lm r.den) r b6 b7 c6 c7 1))
  case first =>
    refine region_first_many 5 [21, 22, 23, 6, 7] (RSq w1.heap.size a r) (fun i => decide (3 ≤ i)) (by kernel_rfl) (by decide) rfl (by decide) (by kernel_rfl) (by kernel_rfl) (RSq.st _ _ _) ?_ ?_
    · intro i hi a' w' hbw hdf hoff hdep K hK
      have o2 : a'.tmps.getD 2 undef = .pointer (some ⟨w.heap.size, 0, none⟩) := hoff 2 rfl
      have HF2 := hide (HF1.out.below hbw)
      obtain ⟨g0, g1, gz, -⟩ := HF2.out.ca
      have HFO := hide (show Fo w' a (some r) from ⟨HF2.out.q, HOK.out⟩)
      have sw := hbw.size
      clear hoff hdf hbw
      match i, hi with
      | 0, _ =>
        refine rg_in rfl (fun K' hKK => ?_)
        go_wp2_with (go_at_call 64; (with_reducible refine (whole1_any _).mono ?_); rintro e w2 ⟨c, rfl, ho, hb⟩; have HB := hide hb; have HO := hide ho; clear hb ho)
        exact (hK _ _ ⟨c, rfl, HO.out⟩ HB.out (by simp))
      | 1, _ =>
        refine rg_in rfl (fun K' hKK => ?_)
        go_wp2_with fail
        exact (hK _ _ rfl (Below.refl _ _) (by simp))
      | 2, _ =>
        have o22 : a'.tmps.getD 22 undef = .agg #[.slice a.A a.n a.c, .slice a.B a.m a.d] := hdep _ rfl ⟨1, Ground.data⟩ (by simp) rfl
        refine rg_in rfl (fun K' hKK => ?_)
        go_wp2_with (go_at_call 69; (with_reducible refine (other_any _ a r HFO.out hr1 hfr).mono ?_); rintro e w2 ⟨c, rfl, ho, hb⟩; have HB := hide hb; have HO := hide ho; clear hb ho)
        exact (hK _ _ ⟨c, rfl, HO.out⟩ HB.out (by simp))
      | 3, _ =>
        refine rg_in rfl (fun K' hKK => ?_)
        go_wp2_with fail
        exact (hK _ _ ⟨_, rfl, sw, Bq.mk0 _ fa0 rfl⟩ ((Below.refl _ _).alloc (Nat.le_refl _) _) (fun _ => ⟨_, rfl, Nat.le_refl _, by simp⟩))
      | 4, _ =>
        refine rg_in rfl (fun K' hKK => ?_)
        go_wp2_with fail
        exact (hK _ _ ⟨_, rfl, sw, Bq.mk0 _ fa0 rfl⟩ ((Below.refl _ _).alloc (Nat.le_refl _) _) (fun _ => ⟨_, rfl, Nat.le_refl _, by simp⟩))
    · intro x w2 hbw hx hne
      obtain ⟨b6, e6, h6, q6⟩ := hx 3 (by decide)
      obtain ⟨b7, e7, h7, q7⟩ := hx 4 (by decide)
      obtain ⟨c6, e21, o21⟩ := hx 0 (by decide)
      obtain ⟨c7, e23, o23⟩ := hx 2 (by decide)
      have d67 : b6 ≠ b7 := fun h => hne 3 4 (by decide) (by decide) (by decide) rfl rfl (by rw [e6, e7, h])
      simp only [show (List.range 5).map (fun i => some (x i)) = [some (x 0), some (x 1), some (x 2), some (x 3), some (x 4)] from rfl, e6, e7, e21, e23]
      generalize x 1 = x1
      have HF2 := hide (HF1.out.below hbw)
      have HQ6 := hide q6
      have HQ7 := hide q7
      have HO21 := hide o21
      have HO23 := hide o23
      clear hx hne hbw e6 e7 e21 e23 q6 q7 o21 o23
      simp only [fillT, List.setIfInBounds_toArray, List.set_cons_succ, List.set_cons_zero]
      obtain ⟨c60, c61, cf6, cz6, -⟩ := HQ6.out
      obtain ⟨c70, c71, cf7, cz7, -⟩ := HQ7.out
      refine wpAny_one (i := 5) (by kernel_rfl) ?_
      refine rg_in rfl (fun K' hKK => ?_)
      go_wp2_with fail
      refine wpAny_one (i := 6) (by kernel_rfl) ?_
      refine rg_in rfl (fun K' hKK => ?_)
      go_wp2_with fail
      refine wpAny_done (by kernel_rfl) ?_ _
      go_wp2_with fail
      go_meet
      case rel =>
        have hf6 := fr_fill (w := w2) (g := b6) (.slice c6.A c6.n c6.c) (.slice c6.B c6.m c6.d)
        have hn6 := HQ6.out.nb
        have g1 := HF2.out.one hf6 hn6 (by omega)
        have g2 := Fx.put ⟨HQ6.out, (⟨⟨Ul.nil, Ul.nil, Nat.le_refl _, Nat.le_refl _, by simp, by simp⟩, trivial⟩ : Fo w2 fa0 none)⟩ HO21.out
        have g3 := HQ7.out.one hf6 (Ne.symm d67)
        have g4 := HO23.out.one hf6 hn6
        have hf7 := fr_fill (w := ((w2.setCell ⟨b6, 0, none⟩ (.slice c6.A c6.n c6.c)).setCell ⟨b6, 1, none⟩ (.slice c6.B c6.m c6.d))) (g := b7) (.slice c7.A c7.n c7.c) (.slice c7.B c7.m c7.d)
        exact ⟨b6, b7, c6, c7, rfl, rfl, hide ⟨g1.one hf7 g3.nb (by omega), g2.one hf7 g3.nb d67, ⟨g3.fill c7, g4.one hf7 g3.nb⟩, Ne.symm d67, by omega⟩⟩
  case rest =>
    obtain ⟨b6, b7, c6, c7, rfl, rfl, HT⟩ := hcut
    clear HF HF1 e0 e1 ez s0 s1 sf a0 a1 az r0 r1 rf
    go_wp2_with fail
    go_loopw [26] (fun i wr => ∃ (j : Nat) (c6 : Fa), i = .int .i64 (j : Int) ∧ j ≤ n ∧ Hid (SS w wr a (lm (rn r)) (lm r.den) r b6 b7 c6 c7 (sqL r (outs.take j)))) (fun i _ => n - (intOf i).toNat)
    case atStart => exact ⟨0, c6, rfl, by omega, HT⟩
    case round =>
      obtain ⟨j, c6, rfl, hj, HT⟩ := hrel
      obtain ⟨a0, a1, az, r0, r1, rf⟩ := HT.out.f1.ca
      have x60 := HT.out.x6.b.c0
      have x61 := HT.out.x6.b.c1
      by_cases hjn : j = n
      · subst hjn
        have HE := hide (show sqL r (outs.take j) = sqL r outs by rw [List.take_of_length_le (by have := HL.out; omega)])
        go_wp2_with fail
        refine bodyPost_ret (v := .tuple #[.agg #[.slice c6.A c6.n c6.c, .slice c6.B c6.m c6.d], .int .i64 0]) (by simp [results, Try.results36, go_sem, *]) rfl (HT.out.f1.end rfl (by rw [← HE.out]; exact HT.out.x6.o))
      · have hlt : (j : Int) < (n : Int) := by omega
        have hj0 : (0 : Int) ≤ (j : Int) := by omega
        have hjl : j < outs.length := by have := HL.out; omega
        obtain ⟨b, o, rfl, -, hb, hcell⟩ := bools_at (HO.out.below HT.out.f1.bw) hjl
        have HSQ := hide (sqL_take (r := r) hjl)
        have HFIT := hide (show fitsR (sqL r (outs.take (j + 1))) = true from HC.out.fsq (by simp; omega))
        obtain ⟨bb, hbb⟩ : ∃ bb, bb = outs[j] := ⟨_, rfl⟩
        rw [← hbb] at hcell HSQ
        clear hbb
        have y0 := HT.out.x7.b.c0
        have y1 := HT.out.x7.b.c1
        have yz := HT.out.x7.b.sz
        have xz6 := HT.out.x6.b.sz
        have hgw := HT.out.g
        cases bb
        · have HSQ2 := hide (show sqL r (outs.take (j + 1)) = sqL r (outs.take j) * (1 - r) from HSQ.out)
          clear HSQ
          rw [HSQ2.out] at HFIT
          go_wp2_with (go_at_call 70; (with_reducible refine (fmul_ok _ c6 c7 _ _ (HT.out.x6.o.alloc _) (HT.out.x7.o.alloc _) HFIT.out).mono ?_); rintro e w2 ⟨c8, rfl, ho, hb⟩; have HO8 := hide ho; have HT2 := hide ((HT.out.alloc _).below hb); obtain ⟨z0, z1, zf, zz, -⟩ := HT2.out.x6.b; clear ho hb)
          go_roundw
          case rel => exact ⟨j + 1, c8, by go_num, by omega, hide (by rw [HSQ2.out]; exact HT2.out.put HO8.out)⟩
          case measure => simp [intOf]; omega
        · have HSQ2 := hide (show sqL r (outs.take (j + 1)) = sqL r (outs.take j) * r from HSQ.out)
          clear HSQ
          rw [HSQ2.out] at HFIT
          have az0 : w.heap.size < wr.heap.size := by omega
          have HA := hide (show Fo wr a (some r) from ⟨HT.out.f1.q, HOK.out⟩)
          go_wp2_with (go_at_call 70; (with_reducible refine (fmul_ok _ c6 a _ _ (HT.out.x6.o.alloc _) (HA.out.alloc _) HFIT.out).mono ?_); rintro e w2 ⟨c8, rfl, ho, hb⟩; have HO8 := hide ho; have HT2 := hide ((HT.out.alloc _).below hb); obtain ⟨z0, z1, zf, zz, -⟩ := HT2.out.x6.b; clear ho hb)
          go_roundw
          case rel => exact ⟨j + 1, c8, by go_num, by omega, hide (by rw [HSQ2.out]; exact HT2.out.put HO8.out)⟩
          case measure => simp [intOf]; omega
/-- What Sequence returns. -/
def seqR (o : Option Rat) (l : List Bool) : Option Rat × Int :=
  if chO o = true then (if 32 < l.length then (none, 2) else match o with | some r => (some (sqL r l), 0) | none => (none, 41)) else (none, 41)
set_option maxRecDepth 100000 in
set_option maxHeartbeats 8000000 in
theorem seq_any (w : World) (a : Fa) (l k : List Nat) (A : Option Addr) (n c : Nat) (outs : List Bool) (hq : Fq w a l k) (hO : Rs w none 1 bv A outs) (hl : outs.length = n) (hn : n ≤ 9223372036854775807) :
    Calls Try.prog 36 #[.agg #[.slice a.A a.n a.c, .slice a.B a.m a.d], .slice A n c] w fun e w' => Ret w (seqR (fracOf l k) outs) e w' := by
  cases hch : chO (fracOf l k)
  · have HCH := hide hch
    have HX := hide (show seqR (fracOf l k) outs = (none, 41) by unfold seqR; rw [if_neg (by rw [hch]; simp)])
    clear hch hO
    go_enter Try.func36, Try.ntmps36
    go_upto_region 1 with (fail)
    generalize hW : World.alloc (World.alloc w _) _ = v
    have HF := hide (show F1 w v a (l) (k) by rw [← hW]; exact F1.mk0 hq _ _)
    obtain ⟨a0, a1, az, r0, r1, rf⟩ := HF.out.ca
    clear hW hq
    go_wp2_with (go_at_call 34; (with_reducible refine (chance_any _ a _ _ HF.out.q).mono ?_); rintro e w1 ⟨rfl, hb⟩; rw [HCH.out]; have HF1 := hide (HF.out.below hb); obtain ⟨e0, e1, ez, s0, s1, sf⟩ := HF1.out.ca; clear hb)
    refine bodyPost_ret (v := .tuple #[.agg #[.slice none 0 0, .slice none 0 0], .int .i64 41]) (by simp [results, Try.results36, go_sem, *]) rfl (HF1.out.err HX.out)
  · by_cases h2 : 32 < n
    · have HCH := hide hch
      have HX := hide (show seqR (fracOf l k) outs = (none, 2) by unfold seqR; rw [if_pos hch, if_pos (by omega)])
      have d1 : decide ((n : Int) > 32) = true := decide_eq_true (by omega)
      clear hch hO h2
      go_enter Try.func36, Try.ntmps36
      go_upto_region 1 with (fail)
      generalize hW : World.alloc (World.alloc w _) _ = v
      have HF := hide (show F1 w v a (l) (k) by rw [← hW]; exact F1.mk0 hq _ _)
      obtain ⟨a0, a1, az, r0, r1, rf⟩ := HF.out.ca
      clear hW hq
      go_wp2_with (go_at_call 34; (with_reducible refine (chance_any _ a _ _ HF.out.q).mono ?_); rintro e w1 ⟨rfl, hb⟩; rw [HCH.out]; have HF1 := hide (HF.out.below hb); obtain ⟨e0, e1, ez, s0, s1, sf⟩ := HF1.out.ca; clear hb)
      refine bodyPost_ret (v := .tuple #[.agg #[.slice none 0 0, .slice none 0 0], .int .i64 2]) (by simp [results, Try.results36, go_sem, *]) rfl (HF1.out.err HX.out)
    · cases hA : fracOf l k with
      | none => rw [hA] at hch; simp [chO] at hch
      | some r =>
        obtain ⟨rfl, rfl, hr0, hr⟩ := fracOf_some hA
        rw [hA] at hch
        have hc := chO_chn rfl hr0 hch
        have hX : seqR (some r) outs = (some (sqL r outs), 0) := by
          unfold seqR
          rw [if_pos hch, if_neg (by omega)]
        rw [hX]
        exact seq_main w a r A n c outs hq hO hl (by omega) hc hr (by rw [hA]; exact hch)
end Go.Proofs.Ytclflfglhbkfkaa

/- Contract: the reference's Sequence. -/
namespace Go.Proofs.Ytclflfglhbkfkaa
open Go.RowKit

set_option maxRecDepth 100000 in
set_option maxHeartbeats 8000000 in
theorem rzseq_any (w : World) (a : Fa) (l k : List Nat) (A : Option Addr) (n c : Nat) (outs : List Bool) (hq : Fq w a l k) (hO : Rs w none 1 bv A outs) (hl : outs.length = n) (hn : n ≤ 9223372036854775807) :
    Calls Try.prog 37 #[.agg #[.slice a.A a.n a.c, .slice a.B a.m a.d], .slice A n c] w fun e w' => Ret w (seqR (fracOf l k) outs) e w' := by
  cases hch : chO (fracOf l k)
  · have HCH := hide hch
    have HX := hide (show seqR (fracOf l k) outs = (none, 41) by unfold seqR; rw [if_neg (by rw [hch]; simp)])
    clear hch hO
    go_enter Try.func37, Try.ntmps37
    go_upto_region 1 with (fail)
    generalize hW : World.alloc (World.alloc w _) _ = v
    have HF := hide (show F1 w v a (l) (k) by rw [← hW]; exact F1.mk0 hq _ _)
    obtain ⟨a0, a1, az, r0, r1, rf⟩ := HF.out.ca
    clear hW hq
    go_wp2_with (go_at_call 35; (with_reducible refine (rzchance_any _ a l k HF.out.q).mono ?_); rintro e w1 ⟨rfl, hb⟩; rw [HCH.out]; have HF1 := hide (HF.out.below hb); obtain ⟨e0, e1, ez, s0, s1, sf⟩ := HF1.out.ca; clear hb)
    refine bodyPost_ret (v := .tuple #[.agg #[.slice none 0 0, .slice none 0 0], .int .i64 41]) (by simp [results, Try.results37, go_sem, *]) rfl (HF1.out.err HX.out)
  · by_cases h2 : 32 < n
    · have HCH := hide hch
      have HX := hide (show seqR (fracOf l k) outs = (none, 2) by unfold seqR; rw [if_pos hch, if_pos (by omega)])
      have d1 : decide ((32 : Int) < (n : Int)) = true := decide_eq_true (by omega)
      clear hch hO h2
      go_enter Try.func37, Try.ntmps37
      go_upto_region 1 with (fail)
      generalize hW : World.alloc (World.alloc w _) _ = v
      have HF := hide (show F1 w v a (l) (k) by rw [← hW]; exact F1.mk0 hq _ _)
      obtain ⟨a0, a1, az, r0, r1, rf⟩ := HF.out.ca
      clear hW hq
      go_wp2_with (go_at_call 35; (with_reducible refine (rzchance_any _ a l k HF.out.q).mono ?_); rintro e w1 ⟨rfl, hb⟩; rw [HCH.out]; have HF1 := hide (HF.out.below hb); obtain ⟨e0, e1, ez, s0, s1, sf⟩ := HF1.out.ca; clear hb)
      refine bodyPost_ret (v := .tuple #[.agg #[.slice none 0 0, .slice none 0 0], .int .i64 2]) (by simp [results, Try.results37, go_sem, *]) rfl (HF1.out.err HX.out)
    · have HCH := hide hch
      rcases hA : fracOf l k with _ | r
      · rw [hA] at hch; exact absurd hch (by simp [chO])
      have hA2 := fracOf_some hA
      have hc : Chn r := chO_chn rfl hA2.2.2.1 (by rw [← hA]; exact hch)
      have HXX := hide (show seqR (some r) outs = (some (sqL r outs), 0) by
        unfold seqR
        rw [if_pos (by rw [← hA]; exact hch), if_neg (by omega)])
      have HFA := hide (show Fo w a (some r) from ⟨by have h := hq; rw [hA2.1, hA2.2.1] at h; exact h, hA2.2.2⟩)
      have d1 : decide ((32 : Int) < (n : Int)) = false := decide_eq_false (by omega)
      have hn32 : n ≤ 32 := by omega
      have hr1 := hc.h1
      have hfr := hc.fq
      have HO := hide hO
      have HL := hide hl
      clear hch hO hl h2 hn
      go_enter Try.func37, Try.ntmps37
      go_upto_region 1 with (fail)
      generalize hW : World.alloc (World.alloc w _) _ = v
      have HF := hide (show F1 w v a (l) (k) by rw [← hW]; exact F1.mk0 hq _ _)
      obtain ⟨a0, a1, az, r0, r1, rf⟩ := HF.out.ca
      clear hW hq
      go_upto_region 6 with (first | go_at_call 35; (with_reducible refine (rzchance_any _ a l k HF.out.q).mono ?_); rintro e w1 ⟨rfl, hb⟩; rw [HCH.out]; have HF1 := hide (HF.out.below hb); obtain ⟨e0, e1, ez, s0, s1, sf⟩ := HF1.out.ca; clear hb | go_at_call 50; (with_reducible refine (rzof_one _).mono ?_); rintro e w3 ⟨q, rfl, ho, hb⟩; have HQ := hide ho; have HF3 := hide (HF1.out.below hb); clear ho hb)
      generalize hW : World.alloc w3 _ = v5
      have hz3 := HF3.out.sz
      have HX5 := hide (show Fx v5 w3.heap.size q (some 1) by rw [← hW]; exact Fx.mk0 HQ.out _ rfl)
      have HF5 := hide (show F1 w v5 a l k by rw [← hW]; exact HF3.out.below ((Below.refl _ _).alloc (Nat.le_refl _) _))
      obtain ⟨b6, hb6⟩ : ∃ b, b = w3.heap.size := ⟨_, rfl⟩
      rw [← hb6] at HX5 hz3 ⊢
      clear hW hb6
      go_upto_region 7 with (fail)
      go_loopw [7, 8] (fun iv xv wr => ∃ (j : Nat) (c6 : Fa), iv = .int .i64 (j : Int) ∧ j ≤ n ∧ Hid (Fx wr b6 c6 (some (sqL r (outs.take j)))) ∧ Hid (F1 w wr a l k)) (fun iv _ _ => n - (intOf iv).toNat)
      case atStart => exact ⟨0, q, rfl, by omega, HX5, HF5⟩
      case round =>
        obtain ⟨j, c6, rfl, hj, HX, HFr⟩ := hrel
        clear HX5 HF5
        obtain ⟨d0, d1', df, dz, -⟩ := HX.out.b
        obtain ⟨e0, e1, ez, s0, s1, sf⟩ := HFr.out.ca
        by_cases hjn : j = n
        · subst hjn
          have HE := hide (show sqL r (outs.take j) = sqL r outs by rw [List.take_of_length_le (by have := HL.out; omega)])
          rw [HE.out] at HX
          go_wp2_with fail
          refine bodyPost_ret (v := .tuple #[.agg #[.slice c6.A c6.n c6.c, .slice c6.B c6.m c6.d], .int .i64 0]) (by simp [results, Try.results37, go_sem, *]) rfl (HFr.out.end (by rw [HXX.out]) (by rw [HXX.out]; exact HX.out.o))
        · have hlt : (j : Int) < (n : Int) := by omega
          have hj0 : (0 : Int) ≤ (j : Int) := by omega
          have hjl : j < outs.length := by have := HL.out; omega
          have HA := hide (HFA.out.below HFr.out.bw)
          have HSQ := hide (sqL_take (r := r) hjl)
          have HFT := hide (show fitsR (sqL r (outs.take (j + 1))) = true from hc.fsq (by simp; omega))
          go_upto_region 10 with (go_at_call 54; (with_reducible refine (rzrest_any _ a r HA.out hr1 hfr).mono ?_); rintro e w6 ⟨y, rfl, ho, hb⟩; have HO6 := hide ho; have HF6 := hide (HFr.out.below hb); have HX6 := hide (HX.out.below hb); have HR6 := hide (HO.out.below HF6.out.bw); clear ho hb)
          generalize hW : World.alloc w6 _ = v7
          have hz6 := HX6.out.b.sz
          have HX7 := hide (show Fx v7 b6 c6 (some (sqL r (outs.take j))) by rw [← hW]; exact HX6.out.alloc _)
          have HY7 := hide (show Fx v7 w6.heap.size y (some (1 - r)) by rw [← hW]; exact Fx.mk0 HO6.out _ rfl)
          have HF7 := hide (show F1 w v7 a l k by rw [← hW]; exact HF6.out.below ((Below.refl _ _).alloc (Nat.le_refl _) _))
          obtain ⟨f0, f1, ff, fz, -⟩ := HX7.out.b
          obtain ⟨h0, h1, hf, hz, -⟩ := HY7.out.b
          obtain ⟨k0, k1, kz, -⟩ := HF7.out.ca
          obtain ⟨b, o, hAA, -, hb, hcell⟩ := bools_at (HO.out.below HF7.out.bw) hjl
          subst hAA
          obtain ⟨bb, hbb⟩ : ∃ bb, bb = outs[j] := ⟨_, rfl⟩
          rw [← hbb] at hcell HSQ
          clear hW hbb
          cases bb
          · have HSQ2 := hide (show sqL r (outs.take (j + 1)) = sqL r (outs.take j) * (1 - r) from HSQ.out)
            clear HSQ
            have HFIT := hide (show fitsR (sqL r (outs.take j) * (1 - r)) = true by rw [← HSQ2.out]; exact HFT.out)
            have HYo := hide HY7.out.o
            go_wp2_with (go_at_call 55; (with_reducible refine (r2mul_ok _ c6 y _ _ HX7.out.o HYo.out HFIT.out).mono ?_); rintro e w11 ⟨c11, rfl, ho, hb⟩; have HO11 := hide ho; have HF11 := hide (HF7.out.below hb); have HX11 := hide (HX7.out.below hb); obtain ⟨g0, g1, gf, gz, -⟩ := HX11.out.b; clear ho hb)
            exact ⟨⟨j + 1, c11, by go_num, by omega, hide (by rw [HSQ2.out]; exact HX11.out.put HO11.out), hide (HF11.out.one (fr_fill _ _) HX11.out.b.nb (by omega))⟩, by simp [intOf] <;> omega⟩
          · have HSQ2 := hide (show sqL r (outs.take (j + 1)) = sqL r (outs.take j) * r from HSQ.out)
            clear HSQ
            have HFIT := hide (show fitsR (sqL r (outs.take j) * r) = true by rw [← HSQ2.out]; exact HFT.out)
            go_upto_region 12 with (fail)
            have HA7 := hide (HFA.out.below HF7.out.bw)
            generalize hW : World.setCell (World.setCell v7 _ _) _ _ = v8
            have HY8 := hide (show Fx v8 w6.heap.size a (some r) by rw [← hW]; exact HY7.out.put HA7.out)
            have HX7 := hide (show Fx v8 b6 c6 (some (sqL r (outs.take j))) by rw [← hW]; exact HX7.out.one (fr_fill _ _) HY7.out.b.nb (by omega))
            have HF8 := hide (show F1 w v8 a l k by rw [← hW]; exact HF7.out.one (fr_fill _ _) HY7.out.b.nb (by omega))
            obtain ⟨p0, p1, pf, pz, -⟩ := HX7.out.b
            obtain ⟨q0, q1, qf, qz, -⟩ := HY8.out.b
            have HYo := hide HY8.out.o
            clear hW
            go_wp2_with (go_at_call 55; (with_reducible refine (r2mul_ok _ c6 a _ _ HX7.out.o HYo.out HFIT.out).mono ?_); rintro e w11 ⟨c11, rfl, ho, hb⟩; have HO11 := hide ho; have HF11 := hide (HF8.out.below hb); have HX11 := hide (HX7.out.below hb); obtain ⟨g0, g1, gf, gz, -⟩ := HX11.out.b; clear ho hb)
            exact ⟨⟨j + 1, c11, by go_num, by omega, hide (by rw [HSQ2.out]; exact HX11.out.put HO11.out), hide (HF11.out.one (fr_fill _ _) HX11.out.b.nb (by omega))⟩, by simp [intOf] <;> omega⟩
end Go.Proofs.Ytclflfglhbkfkaa

/- A region that draws its order, all of whose operations only read or make memory: each operation once, in whatever order. -/
namespace Go.Proofs.Ytclflfglhbkfkaa
open Go.RowKit

section
variable {P : Program} {md : Region.Mode} {ops : Array Oper} {Q : Exit → Act → World → Prop}

/-- Each operation waits for earlier ones alone; those behind the first m wait for all of these. -/
def lowB (md : Region.Mode) (ops : Array Oper) (m : Nat) : Bool :=
  (List.range ops.size).all fun i => match ops[i]? with
    | some o => (o.after.all fun e => decide (e.on < i)) && (decide (i < m) || (o.after.any fun e => Region.binds md e && decide (m ≤ e.on)) || (List.range m).all fun j => o.after.any fun e => Region.binds md e && decide (e.on = j))
    | none => true
theorem masks_len : ∀ {m : Nat} {l : List Bool}, l ∈ masks m → l.length = m
  | 0, l, h => by simp [masks] at h; subst h; rfl
  | m + 1, l, h => by
    have h2 : ∃ a ∈ masks m, l = true :: a ∨ l = false :: a := by simpa [masks] using h
    obtain ⟨a, ha, h3⟩ := h2
    have := masks_len ha
    rcases h3 with rfl | rfl <;> simp [this]
theorem least_false : ∀ {m : Nat} {l : List Bool}, (List.range m).all (fun i => l.getD i false) = false → ∃ i, i < m ∧ l.getD i false = false ∧ ∀ j, j < i → l.getD j false = true
  | 0, l, h => by simp at h
  | m + 1, l, h => by
    by_cases h1 : (List.range m).all (fun i => l.getD i false) = false
    · obtain ⟨i, h2, h3, h4⟩ := least_false h1
      exact ⟨i, by omega, h3, h4⟩
    · have h1 : (List.range m).all (fun i => l.getD i false) = true := by simpa using h1
      rw [List.range_succ, List.all_append, h1] at h
      refine ⟨m, by omega, by simpa using h, fun j hj => ?_⟩
      exact List.all_eq_true.1 h1 j (by simpa using hj)
theorem live_low {m : Nat} (hm : m ≤ ops.size) (h : lowB md ops m = true) : liveB md ops m = true := by
  unfold liveB
  rw [List.all_eq_true]
  intro l hl
  have hlen := masks_len hl
  have hlo : l.length ≤ ops.size := by omega
  cases hall : (List.range m).all (fun i => (fun _ : Nat => false) i || l.getD i false) with
  | true => rfl
  | false =>
    rw [Bool.false_or]
    cases hcl : closedB md ops l with
    | false => rfl
    | true =>
      rw [Bool.not_true, Bool.false_or]
      have hall' : (List.range m).all (fun i => l.getD i false) = false := by simpa using hall
      obtain ⟨i, him, hif, hil⟩ := least_false hall'
      have hlow : ∀ j o, ops[j]? = some o → (∀ e ∈ o.after, e.on < j) ∧ (j < m ∨ (∃ e ∈ o.after, Region.binds md e = true ∧ m ≤ e.on) ∨ ∀ k, k < m → ∃ e ∈ o.after, Region.binds md e = true ∧ e.on = k) := by
        intro j o ho
        have hj : j < ops.size := (Array.getElem?_eq_some_iff.1 ho).1
        have := List.all_eq_true.1 h j (by simpa using hj)
        rw [ho] at this
        simp only [Bool.and_eq_true, Bool.or_eq_true, decide_eq_true_eq, Array.all_eq_true_iff_forall_mem, Array.any_eq_true', List.all_eq_true, List.mem_range] at this
        exact ⟨this.1, by
          rcases this.2 with (h1 | h1) | h1
          · exact .inl h1
          · exact .inr (.inl h1)
          · exact .inr (.inr h1)⟩
      have hr : i ∈ Region.ready md ops (lst ops l) := by
        refine mem_ready.2 ⟨?_, ops[i]'(by omega), by simp, fun e he hb => ?_⟩
        · rw [Array.getD_eq_getD_getElem?, lst_get (by omega) hlo]; exact hif
        · have h1 := (hlow i _ (by simp : ops[i]? = some (ops[i]'(by omega)))).1 e he
          rw [Array.getD_eq_getD_getElem?, lst_get (by omega) hlo]; exact hil _ h1
      have hne : (Region.ready md ops (lst ops l)).isEmpty = false := by
        cases he : Region.ready md ops (lst ops l) with
        | nil => rw [he] at hr; simp at hr
        | cons a b => rfl
      rw [hne]
      simp only [Bool.not_false, Bool.true_and, List.all_eq_true, decide_eq_true_eq]
      intro j hj
      obtain ⟨hun, o, ho, hdep⟩ := mem_ready.1 hj
      rcases (hlow j o ho).2 with h1 | ⟨e, he, hb, hme⟩ | h1
      · exact h1
      · exfalso
        have h2 := hdep e he hb
        rw [Array.getD_eq_getD_getElem?] at h2
        by_cases hlo2 : e.on < ops.size
        · rw [lst_get hlo2 hlo, List.getD_eq_getElem?_getD, List.getElem?_eq_none (by omega)] at h2
          simp at h2
        · have : (lst ops l)[e.on]? = none := by
            unfold lst
            rw [List.getElem?_toArray, List.getElem?_eq_none (by simp; omega)]
          rw [this] at h2; simp at h2
      · exfalso
        obtain ⟨e, he, hb, hei⟩ := h1 i him
        have h2 := hdep e he hb
        rw [Array.getD_eq_getD_getElem?, lst_get (by omega) hlo, hei, Option.getD_some, hif] at h2
        exact absurd h2 (by simp)

/-- A value that is known. -/
def eqV (u : Value) : Value → World → Prop := fun x _ => x = u
def getR (Rs : List (Value → World → Prop)) (i : Nat) : Value → World → Prop := Rs.getD i (fun _ _ => True)
def Stb (R : Value → World → Prop) : Prop := ∀ x w w', R x w → Below w.heap.size w w' → R x w'
theorem stb_eq (u : Value) : Stb (eqV u) := fun _ _ _ h _ => h
def allStb : List (Value → World → Prop) → Prop
  | [] => True
  | R :: l => Stb R ∧ allStb l
theorem allStb.get : ∀ {Rs : List (Value → World → Prop)}, allStb Rs → ∀ i, Stb (getR Rs i)
  | [], _, i => fun _ _ _ _ _ => trivial
  | R :: l, h, 0 => h.1
  | R :: l, h, i + 1 => h.2.get i
/-- What is known of those that an operation waits for. -/
def depAll (Rs : List (Value → World → Prop)) (ds : List Nat) (a : Act) (w : World) : List Edge → Prop
  | [] => True
  | e :: l => getR Rs e.on (a.tmps.getD (ds.getD e.on 0) undef) w ∧ depAll Rs ds a w l
/-- One operation of such a region. -/
def StepAt (P : Program) (ops : Array Oper) (Q : Exit → Act → World → Prop) (a0 : Act) (v : World) (ds : List Nat) (Rs : List (Value → World → Prop)) (al : Nat → Bool) (i : Nat) : Prop :=
  ∀ (a : Act) (w : World), Below v.heap.size v w → a.defers = a0.defers → (∀ t, ds.contains t = false → a.tmps.getD t undef = a0.tmps.getD t undef) →
    (∀ o, ops[i]? = some o → (o.after.toList.all (Region.binds .any)) = true → depAll Rs ds a w o.after.toList) →
    ∀ K : Act → World → Prop, (∀ x w', getR Rs i x w' → Below w.heap.size w w' → (al i = true → ∃ b, x = .pointer (some ⟨b, 0, none⟩) ∧ w.heap.size ≤ b ∧ b < w'.heap.size) → K (a.put (some (ds.getD i 0)) x) w') → wpOp P ops Q i K a w
def stepsFrom (P : Program) (ops : Array Oper) (Q : Exit → Act → World → Prop) (a0 : Act) (v : World) (ds : List Nat) (Rs : List (Value → World → Prop)) (al : Nat → Bool) : Nat → Nat → Prop
  | 0, _ => True
  | n + 1, i => StepAt P ops Q a0 v ds Rs al i ∧ stepsFrom P ops Q a0 v ds Rs al n (i + 1)
theorem stepsFrom.get {a0 : Act} {v : World} {ds : List Nat} {Rs : List (Value → World → Prop)} {al : Nat → Bool} : ∀ {n i : Nat}, stepsFrom P ops Q a0 v ds Rs al n i → ∀ j, i ≤ j → j < i + n → StepAt P ops Q a0 v ds Rs al j
  | 0, i, _, j, h1, h2 => by omega
  | n + 1, i, h, j, h1, h2 => by
    by_cases hj : j = i
    · subst hj; exact h.1
    · exact h.2.get j (by omega) (by omega)
theorem depAll_of {Rs : List (Value → World → Prop)} {ds : List Nat} {a : Act} {w : World} : ∀ {l : List Edge}, (∀ e ∈ l, getR Rs e.on (a.tmps.getD (ds.getD e.on 0) undef) w) → depAll Rs ds a w l
  | [], _ => trivial
  | e :: l, h => ⟨h e (by simp), depAll_of (fun e he => h e (by simp [he]))⟩
/-- What comes behind: each value with what is known of it; new variables differ. -/
def finFrom (w : World) (G : Array Value → Prop) : List Nat → List (Value → World → Prop) → List Bool → List Value → Array Value → Prop
  | d :: ds, R :: Rs, b :: bs, acc, t => ∀ x, R x w → (b = true → ∀ p ∈ acc, p ≠ x) → finFrom w G ds Rs bs (if b = true then x :: acc else acc) (t.setIfInBounds d x)
  | _, _, _, _, t => G t
theorem fin_eq {w : World} {G : Array Value → Prop} {d : Nat} {ds : List Nat} {u : Value} {Rs : List (Value → World → Prop)} {bs : List Bool} {acc : List Value} {t : Array Value} (h : finFrom w G ds Rs bs acc (t.setIfInBounds d u)) : finFrom w G (d :: ds) (eqV u :: Rs) (false :: bs) acc t := by
  intro x hx _
  have hx : x = u := hx
  subst hx
  exact h
theorem fin_any {w : World} {G : Array Value → Prop} {d : Nat} {ds : List Nat} {R : Value → World → Prop} {Rs : List (Value → World → Prop)} {bs : List Bool} {acc : List Value} {t : Array Value} (h : ∀ x, R x w → finFrom w G ds Rs bs acc (t.setIfInBounds d x)) : finFrom w G (d :: ds) (R :: Rs) (false :: bs) acc t :=
  fun x hx _ => h x hx
theorem fin_new {w : World} {G : Array Value → Prop} {d : Nat} {ds : List Nat} {R : Value → World → Prop} {Rs : List (Value → World → Prop)} {bs : List Bool} {acc : List Value} {t : Array Value} (h : ∀ x, R x w → (∀ p ∈ acc, p ≠ x) → finFrom w G ds Rs bs (x :: acc) (t.setIfInBounds d x)) : finFrom w G (d :: ds) (R :: Rs) (true :: bs) acc t :=
  fun x hx hne => h x hx (hne rfl)
theorem fin_nil {w : World} {G : Array Value → Prop} {Rs : List (Value → World → Prop)} {bs : List Bool} {acc : List Value} {t : Array Value} (h : G t) : finFrom w G [] Rs bs acc t := h
theorem fin_of {w : World} {G : Array Value → Prop} {Rs0 : List (Value → World → Prop)} {x : Nat → Value} {al : Nat → Bool} : ∀ (n i : Nat) (ds : List Nat) (Rs : List (Value → World → Prop)) (bs : List Bool) (acc : List Value) (t : Array Value),
    ds.length = n → Rs.length = n → bs.length = n → (∀ j, j < n → getR Rs j (x (i + j)) w) → (∀ j, j < n → bs.getD j false = true → (∀ p ∈ acc, p ≠ x (i + j))) →
    (∀ j k, j < k → k < n → bs.getD j false = true → bs.getD k false = true → x (i + j) ≠ x (i + k)) →
    finFrom w G ds Rs bs acc t → G (fillT ds ((List.range' i n).map fun j => some (x j)) t)
  | 0, i, ds, Rs, bs, acc, t, h1, h2, h3, _, _, _, hf => by
    have e1 := List.eq_nil_of_length_eq_zero h1
    have e2 := List.eq_nil_of_length_eq_zero h2
    have e3 := List.eq_nil_of_length_eq_zero h3
    subst e1 e2 e3
    exact hf
  | n + 1, i, ds, Rs, bs, acc, t, h1, h2, h3, hR, hacc, hne, hf => by
    match ds, Rs, bs, h1, h2, h3 with
    | d :: ds, R :: Rs, b :: bs, h1, h2, h3 =>
      have hf1 := hf (x i) (hR 0 (by omega)) (fun hb => hacc 0 (by omega) hb)
      show G (fillT ds ((List.range' (i + 1) n).map fun j => some (x j)) (t.setIfInBounds d (x i)))
      refine fin_of (Rs0 := Rs0) (al := al) n (i + 1) ds Rs bs _ _ (by simpa using h1) (by simpa using h2) (by simpa using h3) (fun j hj => ?_) (fun j hj hb p hp => ?_) (fun j k hjk hk h4 h5 => ?_) hf1
      · have := hR (j + 1) (by omega)
        rw [show i + 1 + j = i + (j + 1) by omega]
        exact this
      · rw [show i + 1 + j = i + (j + 1) by omega]
        split at hp
        · rename_i hb0
          rcases List.mem_cons.1 hp with rfl | hp
          · have := hne 0 (j + 1) (by omega) (by omega) hb0 hb
            simpa using this
          · exact hacc (j + 1) (by omega) hb p hp
        · exact hacc (j + 1) (by omega) hb p hp
      · rw [show i + 1 + j = i + (j + 1) by omega, show i + 1 + k = i + (k + 1) by omega]
        exact hne (j + 1) (k + 1) (by omega) (by omega) h4 h5
theorem region_seq {id : Nat} (m : Nat) (ds : List Nat) (Rs : List (Value → World → Prop)) (bs : List Bool) {a0 : Act} {v : World}
    (hmo : P.follows .mixedOrders = true) (hm : m ≤ ops.size) (hds : ds.length = m) (hRs : Rs.length = m) (hbs : bs.length = m) (hnd : ds.Nodup) (hsz : (ds.all fun d => decide (d < a0.tmps.size)) = true) (hlow : lowB .any ops m = true)
    (hst : allStb Rs) (hstep : stepsFrom P ops Q a0 v ds Rs (fun i => bs.getD i false) m 0)
    (hfin : ∀ (w' : World), Below v.heap.size v w' → finFrom w' (fun t => wpAny P .any ops Q (ops.size - m) (lst ops (List.replicate m true)) ⟨t, a0.defers⟩ w') ds Rs bs [] a0.tmps) :
    (Code.region id ops true).wp P Q a0 v := by
  refine region_first_many m ds (getR Rs) (fun i => bs.getD i false) hmo hm hds hnd hsz (live_low hm hlow) (fun i x w w' h hb => (hst.get i) x w w' h hb) (fun i hi a w hb hd hoff hdep K hK => ?_) (fun x w' hb hR hne => ?_)
  · exact hstep.get i (by omega) (by omega) a w hb hd hoff (fun o ho hbd => depAll_of (fun e he => hdep o ho e (by simpa using he) (List.all_eq_true.1 hbd e he))) K hK
  · have := fin_of (Rs0 := Rs) (al := fun _ => false) (G := fun t => wpAny P .any ops Q (ops.size - m) (lst ops (List.replicate m true)) ⟨t, a0.defers⟩ w') (x := x) m 0 ds Rs bs [] a0.tmps hds hRs hbs (fun j hj => by rw [Nat.zero_add]; exact hR j hj) (fun j _ _ p hp => by simp at hp) (fun j k hjk hk h1 h2 => by rw [Nat.zero_add, Nat.zero_add]; exact hne j k (by omega) hk hjk h1 h2) (hfin w' hb)
    rwa [← List.range_eq_range'] at this
theorem undef_bool {b : Bool} : undef ≠ .bool b := by intro h; cases h
theorem yielded_of {tmps : Array Value} {j d : Nat} {b : Bool} (h : ((ops[j]?).bind (·.dst)) = some d) (hd : tmps.getD d undef = .bool b) : yielded ops tmps j = some b := by
  unfold yielded
  rw [h]
  rw [Array.getD_eq_getD_getElem?] at hd
  cases h2 : tmps[d]? with
  | none => rw [h2] at hd; exact absurd hd undef_bool
  | some x => rw [h2] at hd; simp only [Option.getD_some] at hd; simp [h2, hd]
/-- An operation whose guard asks for what came up. -/
theorem rg_wanted {i j d : Nat} {b b' : Bool} {o : Oper} {K : Act → World → Prop} {a : Act} {w : World} (ho : ops[i]? = some o) (hg : o.guard = some (j, b)) (hj : ((ops[j]?).bind (·.dst)) = some d) (hd : a.tmps.getD d undef = .bool b') (hb : b' = b)
    (h : ∀ K' : Act → World → Prop, (∀ a w, K a w → K' a w) → Oper.wp P o a w K' Q) : wpOp P ops Q i K a w := by
  subst hb
  refine rg_in ho (fun K' hK => ?_)
  have : Region.wanted o (yielded ops a.tmps) = true := by simp [Region.wanted, hg, yielded_of hj hd]
  rw [if_pos this]
  exact h K' hK
theorem rg_unwanted {i j d : Nat} {b b' : Bool} {o : Oper} {K : Act → World → Prop} {a : Act} {w : World} (ho : ops[i]? = some o) (hg : o.guard = some (j, b)) (hj : ((ops[j]?).bind (·.dst)) = some d) (hd : a.tmps.getD d undef = .bool b') (hb : b' ≠ b)
    (h : K (a.put o.dst undef) w) : wpOp P ops Q i K a w := by
  unfold wpOp
  have hw : Region.wanted o (yielded ops a.tmps) = false := by simp [Region.wanted, hg, yielded_of hj hd, hb]
  simp only [ho, hw]
  exact h
theorem rg_free {i : Nat} {o : Oper} {K : Act → World → Prop} {a : Act} {w : World} (ho : ops[i]? = some o) (hg : o.guard = none)
    (h : ∀ K' : Act → World → Prop, (∀ a w, K a w → K' a w) → Oper.wp P o a w K' Q) : wpOp P ops Q i K a w := by
  refine rg_in ho (fun K' hK => ?_)
  rw [if_pos (by simp [Region.wanted, hg])]
  exact h K' hK
end
end Go.Proofs.Ytclflfglhbkfkaa
