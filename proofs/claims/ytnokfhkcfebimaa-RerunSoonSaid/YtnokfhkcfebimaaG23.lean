/- Contracts of the functions that these laws reach: part 23: Contract: sequential.Limits; Contracts: noise.Sequence; Contract: sequential.Run; A box whose cells are set; the tape's Chance beside limbs; contract: the law's spec. -/
import Derived.Test.YtnokfhkcfebimaaG22
import Derived.Test.YtnokfhkcfebimaaG19
set_option linter.unusedVariables false
set_option linter.unusedSimpArgs false

/- Contract: sequential.Limits. -/
namespace Go.Proofs.Ytnokfhkcfebimaa
open Go.RowKit

set_option maxRecDepth 100000 in
set_option maxHeartbeats 16000000 in
theorem slimits_ok (w : World) (s : Sv) (l h a b : Rat) (M n : Nat) (hq : SQ w s) (hk : OKs s l h a b M) (hn : n ≤ M) :
    Calls Try.prog 21 #[.agg #[.slice s.l.A s.l.n s.l.c, .slice s.l.B s.l.m s.l.d, .slice s.h.A s.h.n s.h.c, .slice s.h.B s.h.m s.h.d, .slice s.a.A s.a.n s.a.c, .slice s.a.B s.a.m s.a.d, .slice s.b.A s.b.n s.b.c, .slice s.b.B s.b.m s.b.d, .int .i64 s.m], .int .i64 (n : Int)] w fun e w' => ∃ x y : Int, e = .returned (.tuple #[.int .i64 x, .int .i64 y, .int .i64 0]) ∧ IsStab (fun f => decQ l h a b (n - f) f) 0 n x ∧ IsFlak (fun f => decQ l h a b (n - f) f) 0 n y ∧ Below w.heap.size w w' := by
  have hm := hk.m
  have hm2 := hk.m2
  have HOK := hide hk.ok
  have HK := hide hk
  have g1 : decide ((n : Int) < 0) = false := decide_eq_false (by omega)
  have g2 : decide (s.m < (n : Int)) = false := decide_eq_false (by omega)
  have hn32 : n ≤ 32 := by omega
  clear hk hm hm2 hn
  go_enter Try.func21, Try.ntmps21
  go_upto_region 1 with (fail)
  generalize hW : World.alloc w _ = v
  have HF := hide (show FS w v w.heap.size s by rw [← hW]; exact FS.mk0 hq _)
  obtain ⟨a0, a1, a2, a3, a4, a5, a6, a7, a8, a9⟩ := HF.out.ca
  clear hW hq
  go_wp2_with (go_at_call 35; (with_reducible refine (scheckv_any _ s HF.out.q).mono ?_); rintro e w1 ⟨rfl, hb⟩; rw [HOK.out]; have HF1 := hide (HF.out.below hb); obtain ⟨b0, b1, b2, b3, b4, b5, b6, b7, b8, b9⟩ := HF1.out.ca; clear hb)
  go_loopw [7, 4, 5] (fun fv sv kv wr => ∃ (k : Nat) (x y : Int), fv = .int .i64 ((k : Int) - 1) ∧ sv = .int .i64 x ∧ kv = .int .i64 y ∧ k ≤ n + 1 ∧ (-1 ≤ x ∧ x ≤ 32) ∧ Hid (IsStab (fun f => decQ l h a b (n - f) f) k n x) ∧ Hid (IsFlak (fun f => decQ l h a b (n - f) f) k n y) ∧ Hid (FS w wr w.heap.size s)) (fun fv _ _ _ => ((intOf fv) + 1).toNat)
  case atStart => exact ⟨n + 1, -1, -1, by go_num, rfl, rfl, by omega, by omega, hide (IsStab.start _ _), hide (IsFlak.start _ _), HF1⟩
  case round =>
    obtain ⟨k, x, y, rfl, rfl, rfl, hk1, hx, HS, HKK, HFr⟩ := hrel
    obtain ⟨c0, c1, c2, c3, c4, c5, c6, c7, c8, c9⟩ := HFr.out.ca
    rcases k with _ | j
    · go_wp2_with fail
      refine bodyPost_ret (v := .tuple #[.int .i64 x, .int .i64 y, .int .i64 0]) (by simp [results, Try.results21, go_sem, *]) rfl ⟨x, y, rfl, HS.out, HKK.out, HFr.out.bw⟩
    · have e1 : ((j + 1 : Nat) : Int) - 1 = (j : Int) := by omega
      rw [e1]
      clear e1
      have hjn : j ≤ n := by omega
      have hj0 : (0 : Int) ≤ (j : Int) := by omega
      have e2 : ((n - j : Nat) : Int) = (n : Int) - (j : Int) := by omega
      rcases decQ_range l h a b (n - j) j with hd | hd | hd
      · have HC := hide (show ∀ W, SQ W s → Calls Try.prog 60 #[.agg #[.slice s.l.A s.l.n s.l.c, .slice s.l.B s.l.m s.l.d, .slice s.h.A s.h.n s.h.c, .slice s.h.B s.h.m s.h.d, .slice s.a.A s.a.n s.a.c, .slice s.a.B s.a.m s.a.d, .slice s.b.A s.b.n s.b.c, .slice s.b.B s.b.m s.b.d, .int .i64 s.m], .int .i64 ((n : Int) - (j : Int)), .int .i64 (j : Int)] W fun e w' => e = .returned (.int .i64 0) ∧ Below W.heap.size W w' from fun W hW => by
          have := sdec_any W s l h a b M (n - j) j hW HK.out (by omega) (by omega)
          rwa [hd, e2] at this)
        have H1 := hide (HS.out.down hjn)
        have H2 := hide (HKK.out.down hjn)
        simp only [hd] at H1 H2
        clear hd e2
        go_wp2_with (go_at_call 60; (with_reducible refine (HC.out _ HFr.out.q).mono ?_); rintro e w2 ⟨rfl, hb⟩; have HF2 := hide (HFr.out.below hb); obtain ⟨d0, d1, d2, d3, d4, d5, d6, d7, d8, d9⟩ := HF2.out.ca; clear hb)
        go_roundw
        case rel => exact ⟨j, x, y, by go_num, rfl, rfl, by omega, by omega, hide (by simpa using H1.out), hide (by simpa using H2.out), HF2⟩
        case measure => simp [intOf] <;> omega
      · have HC := hide (show ∀ W, SQ W s → Calls Try.prog 60 #[.agg #[.slice s.l.A s.l.n s.l.c, .slice s.l.B s.l.m s.l.d, .slice s.h.A s.h.n s.h.c, .slice s.h.B s.h.m s.h.d, .slice s.a.A s.a.n s.a.c, .slice s.a.B s.a.m s.a.d, .slice s.b.A s.b.n s.b.c, .slice s.b.B s.b.m s.b.d, .int .i64 s.m], .int .i64 ((n : Int) - (j : Int)), .int .i64 (j : Int)] W fun e w' => e = .returned (.int .i64 1) ∧ Below W.heap.size W w' from fun W hW => by
          have := sdec_any W s l h a b M (n - j) j hW HK.out (by omega) (by omega)
          rwa [hd, e2] at this)
        have H1 := hide (HS.out.down hjn)
        have H2 := hide (HKK.out.down hjn)
        simp only [hd] at H1 H2
        clear hd e2
        go_wp2_with (go_at_call 60; (with_reducible refine (HC.out _ HFr.out.q).mono ?_); rintro e w2 ⟨rfl, hb⟩; have HF2 := hide (HFr.out.below hb); obtain ⟨d0, d1, d2, d3, d4, d5, d6, d7, d8, d9⟩ := HF2.out.ca; clear hb)
        go_roundw
        case rel => exact ⟨j, if x < (j : Int) then (j : Int) else x, y, by go_num, rfl, rfl, by omega, by split <;> omega, hide (by have h9 := H1.out; have e9 : (if x < (j : Int) then (j : Int) else x) = max x (j : Int) := (by split <;> omega); rw [e9]; simpa using h9), hide (by simpa using H2.out), HF2⟩
        case measure => simp [intOf] <;> omega
      · have HC := hide (show ∀ W, SQ W s → Calls Try.prog 60 #[.agg #[.slice s.l.A s.l.n s.l.c, .slice s.l.B s.l.m s.l.d, .slice s.h.A s.h.n s.h.c, .slice s.h.B s.h.m s.h.d, .slice s.a.A s.a.n s.a.c, .slice s.a.B s.a.m s.a.d, .slice s.b.A s.b.n s.b.c, .slice s.b.B s.b.m s.b.d, .int .i64 s.m], .int .i64 ((n : Int) - (j : Int)), .int .i64 (j : Int)] W fun e w' => e = .returned (.int .i64 2) ∧ Below W.heap.size W w' from fun W hW => by
          have := sdec_any W s l h a b M (n - j) j hW HK.out (by omega) (by omega)
          rwa [hd, e2] at this)
        have H1 := hide (HS.out.down hjn)
        have H2 := hide (HKK.out.down hjn)
        simp only [hd] at H1 H2
        clear hd e2
        go_wp2_with (go_at_call 60; (with_reducible refine (HC.out _ HFr.out.q).mono ?_); rintro e w2 ⟨rfl, hb⟩; have HF2 := hide (HFr.out.below hb); obtain ⟨d0, d1, d2, d3, d4, d5, d6, d7, d8, d9⟩ := HF2.out.ca; clear hb)
        go_roundw
        case rel => exact ⟨j, x, (j : Int), by go_num, rfl, rfl, by omega, by omega, hide (by simpa using H1.out), hide (by simpa using H2.out), HF2⟩
        case measure => simp [intOf] <;> omega
set_option maxRecDepth 100000 in
set_option maxHeartbeats 8000000 in
theorem slimits_bad (w : World) (s : Sv) (n : Int) (hq : SQ w s) (hc : s.ok = false ∨ n < 0 ∨ s.m < n) :
    Calls Try.prog 21 #[.agg #[.slice s.l.A s.l.n s.l.c, .slice s.l.B s.l.m s.l.d, .slice s.h.A s.h.n s.h.c, .slice s.h.B s.h.m s.h.d, .slice s.a.A s.a.n s.a.c, .slice s.a.B s.a.m s.a.d, .slice s.b.A s.b.n s.b.c, .slice s.b.B s.b.m s.b.d, .int .i64 s.m], .int .i64 n] w fun e w' => e = .returned (.tuple #[.int .i64 0, .int .i64 0, .int .i64 (if s.ok = false then 1 else 3)]) ∧ Below w.heap.size w w' := by
  rcases hk : s.ok
  · have HOK := hide hk
    clear hk hc
    go_enter Try.func21, Try.ntmps21
    go_upto_region 1 with (fail)
    generalize hW : World.alloc w _ = v
    have HF := hide (show FS w v w.heap.size s by rw [← hW]; exact FS.mk0 hq _)
    obtain ⟨a0, a1, a2, a3, a4, a5, a6, a7, a8, a9⟩ := HF.out.ca
    clear hW hq
    go_wp2_with (go_at_call 35; (with_reducible refine (scheckv_any _ s HF.out.q).mono ?_); rintro e w1 ⟨rfl, hb⟩; rw [HOK.out]; have HF1 := hide (HF.out.below hb); obtain ⟨b0, b1, b2, b3, b4, b5, b6, b7, b8, b9⟩ := HF1.out.ca; clear hb)
    refine bodyPost_ret (v := .tuple #[.int .i64 0, .int .i64 0, .int .i64 1]) (by simp [results, Try.results21, go_sem, *]) rfl ⟨rfl, HF1.out.bw⟩
  · have HOK := hide hk
    rw [hk] at hc
    have hc : n < 0 ∨ s.m < n := by simpa using hc
    clear hk
    by_cases h1 : n < 0
    · have g1 : decide (n < 0) = true := decide_eq_true h1
      clear hc h1
      go_enter Try.func21, Try.ntmps21
      go_upto_region 1 with (fail)
      generalize hW : World.alloc w _ = v
      have HF := hide (show FS w v w.heap.size s by rw [← hW]; exact FS.mk0 hq _)
      obtain ⟨a0, a1, a2, a3, a4, a5, a6, a7, a8, a9⟩ := HF.out.ca
      clear hW hq
      go_wp2_with (go_at_call 35; (with_reducible refine (scheckv_any _ s HF.out.q).mono ?_); rintro e w1 ⟨rfl, hb⟩; rw [HOK.out]; have HF1 := hide (HF.out.below hb); obtain ⟨b0, b1, b2, b3, b4, b5, b6, b7, b8, b9⟩ := HF1.out.ca; clear hb)
      refine bodyPost_ret (v := .tuple #[.int .i64 0, .int .i64 0, .int .i64 3]) (by simp [results, Try.results21, go_sem, *]) rfl ⟨rfl, HF1.out.bw⟩
    · have g1 : decide (n < 0) = false := decide_eq_false h1
      have g2 : decide (s.m < n) = true := decide_eq_true (by omega)
      clear hc h1
      go_enter Try.func21, Try.ntmps21
      go_upto_region 1 with (fail)
      generalize hW : World.alloc w _ = v
      have HF := hide (show FS w v w.heap.size s by rw [← hW]; exact FS.mk0 hq _)
      obtain ⟨a0, a1, a2, a3, a4, a5, a6, a7, a8, a9⟩ := HF.out.ca
      clear hW hq
      go_wp2_with (go_at_call 35; (with_reducible refine (scheckv_any _ s HF.out.q).mono ?_); rintro e w1 ⟨rfl, hb⟩; rw [HOK.out]; have HF1 := hide (HF.out.below hb); obtain ⟨b0, b1, b2, b3, b4, b5, b6, b7, b8, b9⟩ := HF1.out.ca; clear hb)
      refine bodyPost_ret (v := .tuple #[.int .i64 0, .int .i64 0, .int .i64 3]) (by simp [results, Try.results21, go_sem, *]) rfl ⟨rfl, HF1.out.bw⟩
end Go.Proofs.Ytnokfhkcfebimaa

/- Contracts: noise.Sequence. -/
namespace Go.Proofs.Ytnokfhkcfebimaa
open Go.RowKit

def bv (b : Bool) : List Value := [.bool b]
theorem bools_at {w : World} {av : Option Nat} {A : Option Addr} {l : List Bool} (h : Rs w av 1 bv A l) {k : Nat} (hk : k < l.length) :
    ∃ b o, A = some ⟨b, o, none⟩ ∧ some b ≠ av ∧ b < w.heap.size ∧ w.cell? ⟨b, o + k, none⟩ = some (.bool l[k]) := by
  obtain ⟨b, o, h1, h2, h3, h4⟩ := h.at (List.getElem?_eq_getElem hk)
  refine ⟨b, o, h1, h2, h3, ?_⟩
  have := h4 0 (.bool l[k]) rfl
  simpa using this
/-- The chance of outcomes in an order. -/
def sqF (r acc : Rat) (l : List Bool) : Rat := l.foldl (fun acc b => acc * (if b then r else 1 - r)) acc
def sqL (r : Rat) (l : List Bool) : Rat := sqF r 1 l
theorem sqF_snoc (r acc : Rat) (l : List Bool) (b : Bool) : sqF r acc (l ++ [b]) = sqF r acc l * (if b then r else 1 - r) := by
  unfold sqF
  rw [List.foldl_append]
  rfl
theorem sqF_ok {r : Rat} (h : Chn r) : ∀ (l : List Bool) (acc : Rat) (n : Nat), Sc r.den n acc → 0 ≤ acc → acc ≤ 1 → Sc r.den (n + l.length) (sqF r acc l) ∧ 0 ≤ sqF r acc l ∧ sqF r acc l ≤ 1
  | [], acc, n, h1, h2, h3 => ⟨h1, h2, h3⟩
  | b :: l, acc, n, h1, h2, h3 => by
    have hx : Sc r.den 1 (if b then r else 1 - r) ∧ 0 ≤ (if b then r else 1 - r) ∧ (if b then r else 1 - r) ≤ 1 := by
      cases b
      · exact ⟨den_sc1 h.h0 h.h1, h.q0, h.q1⟩
      · exact ⟨den_sc h.h0, h.h0, h.h1⟩
    have := sqF_ok h l (acc * (if b then r else 1 - r)) (n + 1) (h1.mul hx.1) (Rat.mul_nonneg h2 hx.2.1) (mul_le_b h2 h3 hx.2.2 hx.2.1)
    rw [List.length_cons, show n + (l.length + 1) = n + 1 + l.length by omega]
    exact this
theorem Chn.fsq {r : Rat} (h : Chn r) {l : List Bool} (hl : l.length ≤ 128) : fitsR (sqL r l) = true := by
  obtain ⟨h1, -, h3⟩ := sqF_ok h l 1 0 (by simpa using Sc.nat r.den 1) (by decide) Rat.le_refl
  exact h.fit h1 (by omega) (Rat.le_trans h3 one32)
theorem sqL_take {r : Rat} {l : List Bool} {j : Nat} (h : j < l.length) : sqL r (l.take (j + 1)) = sqL r (l.take j) * (if l[j] then r else 1 - r) := by
  rw [List.take_add_one, List.getElem?_eq_getElem h]
  exact sqF_snoc r 1 (l.take j) l[j]
/-- The loop's state. -/
structure SS (w wr : World) (a : Fa) (l k : List Nat) (r : Rat) (b6 b7 : Nat) (c6 c7 : Fa) (acc : Rat) : Prop where
  f1 : F1 w wr a l k
  x6 : Fx wr b6 c6 (some acc)
  x7 : Fx wr b7 c7 (some (1 - r))
  d : b7 ≠ b6
  g : w.heap.size + 1 < b6
theorem SS.below {w wr wr' : World} {a : Fa} {l k : List Nat} {r : Rat} {b6 b7 : Nat} {c6 c7 : Fa} {acc : Rat} (h : SS w wr a l k r b6 b7 c6 c7 acc) (hb : Below wr.heap.size wr wr') : SS w wr' a l k r b6 b7 c6 c7 acc :=
  ⟨h.f1.below hb, h.x6.below hb, h.x7.below hb, h.d, h.g⟩
theorem SS.alloc {w wr : World} {a : Fa} {l k : List Nat} {r : Rat} {b6 b7 : Nat} {c6 c7 : Fa} {acc : Rat} (h : SS w wr a l k r b6 b7 c6 c7 acc) (o : Obj) : SS w (wr.alloc o) a l k r b6 b7 c6 c7 acc := h.below ((Below.refl _ _).alloc (Nat.le_refl _) _)
theorem SS.put {w wr : World} {a : Fa} {l k : List Nat} {r : Rat} {b6 b7 : Nat} {c6 c7 : Fa} {acc : Rat} (h : SS w wr a l k r b6 b7 c6 c7 acc) {c : Fa} {s : Rat} (ho : Fo wr c (some s)) :
    SS w ((wr.setCell ⟨b6, 0, none⟩ (.slice c.A c.n c.c)).setCell ⟨b6, 1, none⟩ (.slice c.B c.m c.d)) a l k r b6 b7 c c7 s :=
  ⟨h.f1.one (fr_fill _ _) h.x6.b.nb h.g, h.x6.put ho, h.x7.one (fr_fill _ _) h.x6.b.nb h.d, h.d, h.g⟩
theorem SS.far {w wr wr' : World} {a : Fa} {l k : List Nat} {r : Rat} {b6 b7 : Nat} {c6 c7 : Fa} {acc : Rat} (h : SS w wr a l k r b6 b7 c6 c7 acc) {g : Nat} (hf : Fr wr wr' (fun b => b = g)) (hg : NB wr g) (h6 : b6 ≠ g) (h7 : b7 ≠ g) (hgw : w.heap.size + 1 < g) :
    SS w wr' a l k r b6 b7 c6 c7 acc := ⟨h.f1.one hf hg hgw, h.x6.one hf hg h6, h.x7.one hf hg h7, h.d, h.g⟩
def RSq (B : Nat) (a : Fa) (r : Rat) : Nat → Value → World → Prop
  | 0, x, W => ∃ c : Fa, x = .agg #[.slice c.A c.n c.c, .slice c.B c.m c.d] ∧ Fo W c (some 1)
  | 1, x, _ => x = .agg #[.slice a.A a.n a.c, .slice a.B a.m a.d]
  | 2, x, W => ∃ c : Fa, x = .agg #[.slice c.A c.n c.c, .slice c.B c.m c.d] ∧ Fo W c (some (1 - r))
  | 3, x, W => ∃ b, x = .pointer (some ⟨b, 0, none⟩) ∧ B ≤ b ∧ Bq W b fa0
  | 4, x, W => ∃ b, x = .pointer (some ⟨b, 0, none⟩) ∧ B ≤ b ∧ Bq W b fa0
  | _, _, _ => True
theorem RSq.st (B : Nat) (a : Fa) (r : Rat) : ∀ i x w w', RSq B a r i x w → Below w.heap.size w w' → RSq B a r i x w'
  | 0, _, _, _, ⟨c, h1, h2⟩, hb => ⟨c, h1, h2.below hb⟩
  | 1, _, _, _, h, _ => h
  | 2, _, _, _, ⟨c, h1, h2⟩, hb => ⟨c, h1, h2.below hb⟩
  | 3, _, _, _, ⟨b, h1, h2, h3⟩, hb => ⟨b, h1, h2, h3.below hb⟩
  | 4, _, _, _, ⟨b, h1, h2, h3⟩, hb => ⟨b, h1, h2, h3.below hb⟩
  | _ + 5, _, _, _, _, _ => trivial
set_option maxRecDepth 100000 in
set_option maxHeartbeats 16000000 in
theorem seq_main (w : World) (a : Fa) (r : Rat) (A : Option Addr) (n c : Nat) (outs : List Bool) (hq : Fq w a (lm (rn r)) (lm r.den)) (hO : Rs w none 1 bv A outs) (hl : outs.length = n) (hn2 : n ≤ 32) (hc : Chn r) (hr : fitsR r = true) (hch : chO (fracOf (lm (rn r)) (lm r.den)) = true) :
    Calls Try.prog 47 #[.agg #[.slice a.A a.n a.c, .slice a.B a.m a.d], .slice A n c] w fun e w' => Ret w (some (sqL r outs), 0) e w' := by
  have hr0 := hc.h0
  have hr1 := hc.h1
  have hfr := hc.fq
  have HCH := hide hch
  have HC := hide hc
  have HOK := hide (show okR (some r) from ⟨hr0, hr⟩)
  have HO := hide hO
  have HL := hide hl
  have hn : decide ((n : Int) > 32) = false := decide_eq_false (by omega)
  have HN := hide hn2
  clear hch hc hO hl
  go_enter Try.func47, Try.ntmps47
  go_upto_region 1 with (fail)
  generalize hW : World.alloc (World.alloc w _) _ = v
  have HF := hide (show F1 w v a (lm (rn r)) (lm r.den) by rw [← hW]; exact F1.mk0 hq _ _)
  obtain ⟨a0, a1, az, r0, r1, rf⟩ := HF.out.ca
  clear hW hq
  go_upto_region 5 with (go_at_call 74; (with_reducible refine (chance_any _ a _ _ HF.out.q).mono ?_); rintro e w1 ⟨rfl, hb⟩; rw [HCH.out]; have HF1 := hide (HF.out.below hb); obtain ⟨e0, e1, ez, s0, s1, sf⟩ := HF1.out.ca; clear hb)
  go_cut [6, 7] from 6 to 24 (fun s6 s7 wx => ∃ b6 b7 c6 c7, s6 = .pointer (some ⟨b6, 0, none⟩) ∧ s7 = .pointer (some ⟨b7, 0, none⟩) ∧ Hid (SS w wx a (lm (rn r)) (lm r.den) r b6 b7 c6 c7 1))
  case first =>
    refine region_first_many 5 [21, 22, 23, 6, 7] (RSq w1.heap.size a r) (fun i => decide (3 ≤ i)) (by kernel_rfl) (by decide) rfl (by decide) (by kernel_rfl) (by kernel_rfl) (RSq.st _ _ _) ?_ ?_
    · intro i hi a' w' hbw hdf hoff hdep K hK
      have o2 : a'.tmps.getD 2 undef = .pointer (some ⟨w.heap.size, 0, none⟩) := hoff 2 rfl
      have HF2 := hide (HF1.out.below hbw)
      obtain ⟨g0, g1, gz, -⟩ := HF2.out.ca
      have HFO := hide (show Fo w' a (some r) from ⟨HF2.out.q, HOK.out⟩)
      have sw := hbw.size
      clear hoff hdf hbw
      match i, hi with
      | 0, _ =>
        refine rg_in rfl (fun K' hKK => ?_)
        go_wp2_with (go_at_call 85; (with_reducible refine (whole1_any _).mono ?_); rintro e w2 ⟨c, rfl, ho, hb⟩; have HB := hide hb; have HO := hide ho; clear hb ho)
        exact (hK _ _ ⟨c, rfl, HO.out⟩ HB.out (by simp))
      | 1, _ =>
        refine rg_in rfl (fun K' hKK => ?_)
        go_wp2_with fail
        exact (hK _ _ rfl (Below.refl _ _) (by simp))
      | 2, _ =>
        have o22 : a'.tmps.getD 22 undef = .agg #[.slice a.A a.n a.c, .slice a.B a.m a.d] := hdep _ rfl ⟨1, Ground.data⟩ (by simp) rfl
        refine rg_in rfl (fun K' hKK => ?_)
        go_wp2_with (go_at_call 86; (with_reducible refine (other_any _ a r HFO.out hr1 hfr).mono ?_); rintro e w2 ⟨c, rfl, ho, hb⟩; have HB := hide hb; have HO := hide ho; clear hb ho)
        exact (hK _ _ ⟨c, rfl, HO.out⟩ HB.out (by simp))
      | 3, _ =>
        refine rg_in rfl (fun K' hKK => ?_)
        go_wp2_with fail
        exact (hK _ _ ⟨_, rfl, sw, Bq.mk0 _ fa0 rfl⟩ ((Below.refl _ _).alloc (Nat.le_refl _) _) (fun _ => ⟨_, rfl, Nat.le_refl _, by simp⟩))
      | 4, _ =>
        refine rg_in rfl (fun K' hKK => ?_)
        go_wp2_with fail
        exact (hK _ _ ⟨_, rfl, sw, Bq.mk0 _ fa0 rfl⟩ ((Below.refl _ _).alloc (Nat.le_refl _) _) (fun _ => ⟨_, rfl, Nat.le_refl _, by simp⟩))
    · intro x w2 hbw hx hne
      obtain ⟨b6, e6, h6, q6⟩ := hx 3 (by decide)
      obtain ⟨b7, e7, h7, q7⟩ := hx 4 (by decide)
      obtain ⟨c6, e21, o21⟩ := hx 0 (by decide)
      obtain ⟨c7, e23, o23⟩ := hx 2 (by decide)
      have d67 : b6 ≠ b7 := fun h => hne 3 4 (by decide) (by decide) (by decide) rfl rfl (by rw [e6, e7, h])
      simp only [show (List.range 5).map (fun i => some (x i)) = [some (x 0), some (x 1), some (x 2), some (x 3), some (x 4)] from rfl, e6, e7, e21, e23]
      generalize x 1 = x1
      have HF2 := hide (HF1.out.below hbw)
      have HQ6 := hide q6
      have HQ7 := hide q7
      have HO21 := hide o21
      have HO23 := hide o23
      clear hx hne hbw e6 e7 e21 e23 q6 q7 o21 o23
      simp only [fillT, List.setIfInBounds_toArray, List.set_cons_succ, List.set_cons_zero]
      obtain ⟨c60, c61, cf6, cz6, -⟩ := HQ6.out
      obtain ⟨c70, c71, cf7, cz7, -⟩ := HQ7.out
      refine wpAny_one (i := 5) (by kernel_rfl) ?_
      refine rg_in rfl (fun K' hKK => ?_)
      go_wp2_with fail
      refine wpAny_one (i := 6) (by kernel_rfl) ?_
      refine rg_in rfl (fun K' hKK => ?_)
      go_wp2_with fail
      refine wpAny_done (by kernel_rfl) ?_ _
      go_wp2_with fail
      go_meet
      case rel =>
        have hf6 := fr_fill (w := w2) (g := b6) (.slice c6.A c6.n c6.c) (.slice c6.B c6.m c6.d)
        have hn6 := HQ6.out.nb
        have g1 := HF2.out.one hf6 hn6 (by omega)
        have g2 := Fx.put ⟨HQ6.out, (⟨⟨Ul.nil, Ul.nil, Nat.le_refl _, Nat.le_refl _, by simp, by simp⟩, trivial⟩ : Fo w2 fa0 none)⟩ HO21.out
        have g3 := HQ7.out.one hf6 (Ne.symm d67)
        have g4 := HO23.out.one hf6 hn6
        have hf7 := fr_fill (w := ((w2.setCell ⟨b6, 0, none⟩ (.slice c6.A c6.n c6.c)).setCell ⟨b6, 1, none⟩ (.slice c6.B c6.m c6.d))) (g := b7) (.slice c7.A c7.n c7.c) (.slice c7.B c7.m c7.d)
        exact ⟨b6, b7, c6, c7, rfl, rfl, hide ⟨g1.one hf7 g3.nb (by omega), g2.one hf7 g3.nb d67, ⟨g3.fill c7, g4.one hf7 g3.nb⟩, Ne.symm d67, by omega⟩⟩
  case rest =>
    obtain ⟨b6, b7, c6, c7, rfl, rfl, HT⟩ := hcut
    clear HF HF1 e0 e1 ez s0 s1 sf a0 a1 az r0 r1 rf
    go_wp2_with fail
    go_loopw [26] (fun i wr => ∃ (j : Nat) (c6 : Fa), i = .int .i64 (j : Int) ∧ j ≤ n ∧ Hid (SS w wr a (lm (rn r)) (lm r.den) r b6 b7 c6 c7 (sqL r (outs.take j)))) (fun i _ => n - (intOf i).toNat)
    case atStart => exact ⟨0, c6, rfl, by omega, HT⟩
    case round =>
      obtain ⟨j, c6, rfl, hj, HT⟩ := hrel
      obtain ⟨a0, a1, az, r0, r1, rf⟩ := HT.out.f1.ca
      have x60 := HT.out.x6.b.c0
      have x61 := HT.out.x6.b.c1
      by_cases hjn : j = n
      · subst hjn
        have HE := hide (show sqL r (outs.take j) = sqL r outs by rw [List.take_of_length_le (by have := HL.out; omega)])
        go_wp2_with fail
        refine bodyPost_ret (v := .tuple #[.agg #[.slice c6.A c6.n c6.c, .slice c6.B c6.m c6.d], .int .i64 0]) (by simp [results, Try.results47, go_sem, *]) rfl (HT.out.f1.end rfl (by rw [← HE.out]; exact HT.out.x6.o))
      · have hlt : (j : Int) < (n : Int) := by omega
        have hj0 : (0 : Int) ≤ (j : Int) := by omega
        have hjl : j < outs.length := by have := HL.out; omega
        obtain ⟨b, o, rfl, -, hb, hcell⟩ := bools_at (HO.out.below HT.out.f1.bw) hjl
        have HSQ := hide (sqL_take (r := r) hjl)
        have HFIT := hide (show fitsR (sqL r (outs.take (j + 1))) = true from HC.out.fsq (by simp; omega))
        obtain ⟨bb, hbb⟩ : ∃ bb, bb = outs[j] := ⟨_, rfl⟩
        rw [← hbb] at hcell HSQ
        clear hbb
        have y0 := HT.out.x7.b.c0
        have y1 := HT.out.x7.b.c1
        have yz := HT.out.x7.b.sz
        have xz6 := HT.out.x6.b.sz
        have hgw := HT.out.g
        cases bb
        · have HSQ2 := hide (show sqL r (outs.take (j + 1)) = sqL r (outs.take j) * (1 - r) from HSQ.out)
          clear HSQ
          rw [HSQ2.out] at HFIT
          go_wp2_with (go_at_call 87; (with_reducible refine (fmul_ok _ c6 c7 _ _ (HT.out.x6.o.alloc _) (HT.out.x7.o.alloc _) HFIT.out).mono ?_); rintro e w2 ⟨c8, rfl, ho, hb⟩; have HO8 := hide ho; have HT2 := hide ((HT.out.alloc _).below hb); obtain ⟨z0, z1, zf, zz, -⟩ := HT2.out.x6.b; clear ho hb)
          go_roundw
          case rel => exact ⟨j + 1, c8, by go_num, by omega, hide (by rw [HSQ2.out]; exact HT2.out.put HO8.out)⟩
          case measure => simp [intOf]; omega
        · have HSQ2 := hide (show sqL r (outs.take (j + 1)) = sqL r (outs.take j) * r from HSQ.out)
          clear HSQ
          rw [HSQ2.out] at HFIT
          have az0 : w.heap.size < wr.heap.size := by omega
          have HA := hide (show Fo wr a (some r) from ⟨HT.out.f1.q, HOK.out⟩)
          go_wp2_with (go_at_call 87; (with_reducible refine (fmul_ok _ c6 a _ _ (HT.out.x6.o.alloc _) (HA.out.alloc _) HFIT.out).mono ?_); rintro e w2 ⟨c8, rfl, ho, hb⟩; have HO8 := hide ho; have HT2 := hide ((HT.out.alloc _).below hb); obtain ⟨z0, z1, zf, zz, -⟩ := HT2.out.x6.b; clear ho hb)
          go_roundw
          case rel => exact ⟨j + 1, c8, by go_num, by omega, hide (by rw [HSQ2.out]; exact HT2.out.put HO8.out)⟩
          case measure => simp [intOf]; omega
/-- What Sequence returns. -/
def seqR (o : Option Rat) (l : List Bool) : Option Rat × Int :=
  if chO o = true then (if 32 < l.length then (none, 2) else match o with | some r => (some (sqL r l), 0) | none => (none, 41)) else (none, 41)
set_option maxRecDepth 100000 in
set_option maxHeartbeats 8000000 in
theorem seq_any (w : World) (a : Fa) (l k : List Nat) (A : Option Addr) (n c : Nat) (outs : List Bool) (hq : Fq w a l k) (hO : Rs w none 1 bv A outs) (hl : outs.length = n) (hn : n ≤ 9223372036854775807) :
    Calls Try.prog 47 #[.agg #[.slice a.A a.n a.c, .slice a.B a.m a.d], .slice A n c] w fun e w' => Ret w (seqR (fracOf l k) outs) e w' := by
  cases hch : chO (fracOf l k)
  · have HCH := hide hch
    have HX := hide (show seqR (fracOf l k) outs = (none, 41) by unfold seqR; rw [if_neg (by rw [hch]; simp)])
    clear hch hO
    go_enter Try.func47, Try.ntmps47
    go_upto_region 1 with (fail)
    generalize hW : World.alloc (World.alloc w _) _ = v
    have HF := hide (show F1 w v a (l) (k) by rw [← hW]; exact F1.mk0 hq _ _)
    obtain ⟨a0, a1, az, r0, r1, rf⟩ := HF.out.ca
    clear hW hq
    go_wp2_with (go_at_call 74; (with_reducible refine (chance_any _ a _ _ HF.out.q).mono ?_); rintro e w1 ⟨rfl, hb⟩; rw [HCH.out]; have HF1 := hide (HF.out.below hb); obtain ⟨e0, e1, ez, s0, s1, sf⟩ := HF1.out.ca; clear hb)
    refine bodyPost_ret (v := .tuple #[.agg #[.slice none 0 0, .slice none 0 0], .int .i64 41]) (by simp [results, Try.results47, go_sem, *]) rfl (HF1.out.err HX.out)
  · by_cases h2 : 32 < n
    · have HCH := hide hch
      have HX := hide (show seqR (fracOf l k) outs = (none, 2) by unfold seqR; rw [if_pos hch, if_pos (by omega)])
      have d1 : decide ((n : Int) > 32) = true := decide_eq_true (by omega)
      clear hch hO h2
      go_enter Try.func47, Try.ntmps47
      go_upto_region 1 with (fail)
      generalize hW : World.alloc (World.alloc w _) _ = v
      have HF := hide (show F1 w v a (l) (k) by rw [← hW]; exact F1.mk0 hq _ _)
      obtain ⟨a0, a1, az, r0, r1, rf⟩ := HF.out.ca
      clear hW hq
      go_wp2_with (go_at_call 74; (with_reducible refine (chance_any _ a _ _ HF.out.q).mono ?_); rintro e w1 ⟨rfl, hb⟩; rw [HCH.out]; have HF1 := hide (HF.out.below hb); obtain ⟨e0, e1, ez, s0, s1, sf⟩ := HF1.out.ca; clear hb)
      refine bodyPost_ret (v := .tuple #[.agg #[.slice none 0 0, .slice none 0 0], .int .i64 2]) (by simp [results, Try.results47, go_sem, *]) rfl (HF1.out.err HX.out)
    · cases hA : fracOf l k with
      | none => rw [hA] at hch; simp [chO] at hch
      | some r =>
        obtain ⟨rfl, rfl, hr0, hr⟩ := fracOf_some hA
        rw [hA] at hch
        have hc := chO_chn rfl hr0 hch
        have hX : seqR (some r) outs = (some (sqL r outs), 0) := by
          unfold seqR
          rw [if_pos hch, if_neg (by omega)]
        rw [hX]
        exact seq_main w a r A n c outs hq hO hl (by omega) hc hr (by rw [hA]; exact hch)
end Go.Proofs.Ytnokfhkcfebimaa

/- Contract: sequential.Run. -/
namespace Go.Proofs.Ytnokfhkcfebimaa
open Go.RowKit

theorem dec00 {s : Sv} {l h a b : Rat} {M : Nat} (hk : OKs s l h a b M) : decQ l h a b 0 0 = 0 := by
  have e : ratQ l h 0 0 = 1 := by
    unfold ratQ
    rw [Rat.pow_zero, Rat.pow_zero]
    decide +kernel
  have h1 : ¬ 1 / a ≤ 1 := by
    intro h2
    have h3 := Rat.mul_le_mul_of_nonneg_right h2 (Rat.le_of_lt hk.ia.p)
    rw [Rat.div_mul_cancel hk.ia.ne, Rat.one_mul] at h3
    exact absurd hk.ia.q (Rat.not_lt.2 h3)
  have h2 : ¬ (1 : Rat) ≤ b := Rat.not_le.2 hk.ib.q
  unfold decQ
  rw [e, if_neg h1, if_neg h2]
/-- How many outcomes may be taken. -/
def cutL (outs : List Bool) (M : Nat) : List Bool := outs.take (min outs.length M)
set_option maxRecDepth 100000 in
set_option maxHeartbeats 16000000 in
theorem srun_ok (w : World) (s : Sv) (l h a b : Rat) (M : Nat) (A : Option Addr) (n c : Nat) (outs : List Bool) (hq : SQ w s) (hk : OKs s l h a b M) (hO : Rs w none 1 bv A outs) (hl : outs.length = n) (hnc : n ≤ c) (hc63 : c ≤ 9223372036854775807) :
    Calls Try.prog 29 #[.agg #[.slice s.l.A s.l.n s.l.c, .slice s.l.B s.l.m s.l.d, .slice s.h.A s.h.n s.h.c, .slice s.h.B s.h.m s.h.d, .slice s.a.A s.a.n s.a.c, .slice s.a.B s.a.m s.a.d, .slice s.b.A s.b.n s.b.c, .slice s.b.B s.b.m s.b.d, .int .i64 s.m], .slice A n c] w fun e w' => ∃ (D : Int) (p f : Nat), e = .returned (.tuple #[.int .i64 D, .int .i64 ((p + f : Nat) : Int), .int .i64 0]) ∧ (D, p, f) = runR (decQ l h a b) (cutL outs M) 0 0 ∧ Below w.heap.size w w' := by
  have hm := hk.m
  have hm2 := hk.m2
  have HOK := hide hk.ok
  have HK := hide hk
  have H00 := hide (dec00 hk)
  obtain ⟨N, hN⟩ : ∃ N, N = min n M := ⟨_, rfl⟩
  have hmin : min (n : Int) s.m = (N : Int) := by omega
  have hif : (if (n : Int) ≤ s.m then (n : Int) else s.m) = (N : Int) := by split <;> omega
  have hif2 : (if s.m < (n : Int) then s.m else (n : Int)) = (N : Int) := by split <;> omega
  have hNn : N ≤ n := by omega
  have hN32 : N ≤ 32 := by omega
  have hNc : (N : Int) ≤ (c : Int) := by omega
  have hN0 : (0 : Int) ≤ (N : Int) := by omega
  have HL := hide (show cutL outs M = outs.take N by unfold cutL; rw [hl, hN])
  have HLN := hide hl
  clear hk hm hm2 hN
  obtain ⟨T, hT⟩ : ∃ T, T = runR (decQ l h a b) (cutL outs M) 0 0 := ⟨_, rfl⟩
  rw [← hT]
  have HTT := hide hT
  clear hT
  go_enter Try.func29, Try.ntmps29
  go_upto_region 1 with (fail)
  generalize hW : World.alloc w _ = v
  have HF := hide (show FS w v w.heap.size s by rw [← hW]; exact FS.mk0 hq _)
  have HO := hide (show Rs v none 1 bv A outs by rw [← hW]; exact hO.alloc _)
  obtain ⟨a0, a1, a2, a3, a4, a5, a6, a7, a8, a9⟩ := HF.out.ca
  clear hW hq hO hl
  go_wp2_with (go_at_call 35; (with_reducible refine (scheckv_any _ s HF.out.q).mono ?_); rintro e w1 ⟨rfl, hb⟩; rw [HOK.out]; have HF1 := hide (HF.out.below hb); have HO1 := hide (HO.out.below hb); obtain ⟨b0, b1, b2, b3, b4, b5, b6, b7, b8, b9⟩ := HF1.out.ca; clear hb)
  have HT0 := hide (show runP (decQ l h a b) ((cutL outs M).drop 0) 0 0 0 = T by rw [List.drop_zero, runP_eq _ _ _ _ H00.out, HTT.out])
  have HLC := hide (show (cutL outs M).length = N by rw [HL.out, List.length_take, HLN.out]; omega)
  clear hmin hif hif2
  go_loopw [21, 4, 5, 7] (fun iv dv uv fv wr => ∃ (k p f : Nat), iv = .int .i64 (k : Int) ∧ dv = .int .i64 0 ∧ uv = .int .i64 (k : Int) ∧ fv = .int .i64 (f : Int) ∧ k ≤ N ∧ Hid (k = p + f) ∧ Hid (runP (decQ l h a b) ((cutL outs M).drop k) p f 0 = T) ∧ Hid (FS w wr w.heap.size s) ∧ Hid (Below w1.heap.size w1 wr)) (fun iv _ _ _ _ => N - (intOf iv).toNat)
  case atStart => exact ⟨0, 0, 0, rfl, rfl, rfl, rfl, by omega, hide rfl, HT0, HF1, hide (Below.refl _ _)⟩
  case round =>
    obtain ⟨k, p, f, rfl, rfl, rfl, rfl, hk1, HPF, HT, HFr, HBR⟩ := hrel
    obtain ⟨c0, c1, c2, c3, c4, c5, c6, c7, c8, c9⟩ := HFr.out.ca
    by_cases hkN : k = N
    · have hlt : decide ((k : Int) < (N : Int)) = false := decide_eq_false (by omega)
      have HRU := hide (show T = (0, p, f) by
        have h9 := HT.out
        rw [List.drop_eq_nil_of_le (by have := HLC.out; omega)] at h9
        exact h9.symm)
      subst hkN
      go_wp2_with fail
      refine bodyPost_ret (v := .tuple #[.int .i64 0, .int .i64 (k : Int), .int .i64 0]) (by simp [results, Try.results29, go_sem, *]) rfl ⟨0, p, f, by rw [← HPF.out], HRU.out.symm, HFr.out.bw⟩
    · have hlt : (k : Int) < (N : Int) := by omega
      have hfk : f ≤ k := by have := HPF.out; omega
      have hk0 : (0 : Int) ≤ (k : Int) := by omega
      have hkl : k < outs.length := by have := HLN.out; omega
      obtain ⟨bb, o, hAA, -, hbs, hcell⟩ := bools_at (HO1.out.below HBR.out) hkl
      subst hAA
      obtain ⟨x, hx⟩ : ∃ x, x = outs[k] := ⟨_, rfl⟩
      rw [← hx] at hcell
      have HBB := hide (show (cutL outs M)[k]'(by have := HLC.out; omega) = x by rw [hx]; simp [HL.out])
      clear hx
      cases x
      · have HRU := hide (show (if decQ l h a b (p + 1) f ≠ 0 then (decQ l h a b (p + 1) f, (p + 1), f) else runP (decQ l h a b) ((cutL outs M).drop (k + 1)) (p + 1) f 0) = T by
          have h9 := HT.out
          rw [List.drop_eq_getElem_cons (by have := HLC.out; omega), HBB.out, runP] at h9
          simpa using h9)
        have HC := hide (show ∀ W P F, P = (((p + 1) : Nat) : Int) → F = ((f : Nat) : Int) → SQ W s → Calls Try.prog 60 #[.agg #[.slice s.l.A s.l.n s.l.c, .slice s.l.B s.l.m s.l.d, .slice s.h.A s.h.n s.h.c, .slice s.h.B s.h.m s.h.d, .slice s.a.A s.a.n s.a.c, .slice s.a.B s.a.m s.a.d, .slice s.b.A s.b.n s.b.c, .slice s.b.B s.b.m s.b.d, .int .i64 s.m], .int .i64 P, .int .i64 F] W fun e w' => e = .returned (.int .i64 (decQ l h a b (p + 1) f)) ∧ Below W.heap.size W w' from fun W P F hP hF hW => by
          subst hP hF
          exact sdec_any W s l h a b M ((p + 1)) (f) hW HK.out (by have := HPF.out; omega) (by have := HPF.out; omega))
        by_cases hd : decQ l h a b (p + 1) f = 0
        · rw [if_neg (fun h' => h' hd)] at HRU
          rw [hd] at HC
          clear hd
          go_wp2_with (go_at_call 60; (with_reducible refine (HC.out _ _ _ (by have := HPF.out; omega) (by have := HPF.out; omega) HFr.out.q).mono ?_); rintro e w2 ⟨rfl, hb⟩; have HF2 := hide (HFr.out.below hb); have HB2 := hide (HBR.out.trans (hb.mono HBR.out.size)); obtain ⟨d0, d1, d2, d3, d4, d5, d6, d7, d8, d9⟩ := HF2.out.ca; clear hb)
          go_roundw
          case rel => exact ⟨k + 1, (p + 1), f, by go_num, rfl, by go_num, by go_num, by omega, hide (by have := HPF.out; omega), HRU, HF2, HB2⟩
          case measure => simp [intOf] <;> omega
        · rw [if_pos hd] at HRU
          obtain ⟨D, hD⟩ : ∃ D, D = decQ l h a b (p + 1) f := ⟨_, rfl⟩
          rw [← hD] at HC HRU hd
          have gd : (D != 0) = true := by simp [hd]
          have gd2 : decide (¬ D = 0) = true := decide_eq_true hd
          clear hD
          go_wp2_with (go_at_call 60; (with_reducible refine (HC.out _ _ _ (by have := HPF.out; omega) (by have := HPF.out; omega) HFr.out.q).mono ?_); rintro e w2 ⟨rfl, hb⟩; have HF2 := hide (HFr.out.below hb); obtain ⟨d0, d1, d2, d3, d4, d5, d6, d7, d8, d9⟩ := HF2.out.ca; clear hb)
          refine bodyPost_ret (v := .tuple #[.int .i64 D, .int .i64 ((k : Int) + 1), .int .i64 0]) (by simp [results, Try.results29, go_sem, *]) rfl ⟨D, (p + 1), f, by have e9 : (k : Int) + 1 = (((p + 1) + (f) : Nat) : Int) := (by have := HPF.out; omega); rw [e9], HRU.out, HF2.out.bw⟩
      · have HRU := hide (show (if decQ l h a b p (f + 1) ≠ 0 then (decQ l h a b p (f + 1), p, (f + 1)) else runP (decQ l h a b) ((cutL outs M).drop (k + 1)) p (f + 1) 0) = T by
          have h9 := HT.out
          rw [List.drop_eq_getElem_cons (by have := HLC.out; omega), HBB.out, runP] at h9
          simpa using h9)
        have HC := hide (show ∀ W P F, P = ((p : Nat) : Int) → F = (((f + 1) : Nat) : Int) → SQ W s → Calls Try.prog 60 #[.agg #[.slice s.l.A s.l.n s.l.c, .slice s.l.B s.l.m s.l.d, .slice s.h.A s.h.n s.h.c, .slice s.h.B s.h.m s.h.d, .slice s.a.A s.a.n s.a.c, .slice s.a.B s.a.m s.a.d, .slice s.b.A s.b.n s.b.c, .slice s.b.B s.b.m s.b.d, .int .i64 s.m], .int .i64 P, .int .i64 F] W fun e w' => e = .returned (.int .i64 (decQ l h a b p (f + 1))) ∧ Below W.heap.size W w' from fun W P F hP hF hW => by
          subst hP hF
          exact sdec_any W s l h a b M (p) ((f + 1)) hW HK.out (by have := HPF.out; omega) (by have := HPF.out; omega))
        by_cases hd : decQ l h a b p (f + 1) = 0
        · rw [if_neg (fun h' => h' hd)] at HRU
          rw [hd] at HC
          clear hd
          go_wp2_with (go_at_call 60; (with_reducible refine (HC.out _ _ _ (by have := HPF.out; omega) (by have := HPF.out; omega) HFr.out.q).mono ?_); rintro e w2 ⟨rfl, hb⟩; have HF2 := hide (HFr.out.below hb); have HB2 := hide (HBR.out.trans (hb.mono HBR.out.size)); obtain ⟨d0, d1, d2, d3, d4, d5, d6, d7, d8, d9⟩ := HF2.out.ca; clear hb)
          go_roundw
          case rel => exact ⟨k + 1, p, (f + 1), by go_num, rfl, by go_num, by go_num, by omega, hide (by have := HPF.out; omega), HRU, HF2, HB2⟩
          case measure => simp [intOf] <;> omega
        · rw [if_pos hd] at HRU
          obtain ⟨D, hD⟩ : ∃ D, D = decQ l h a b p (f + 1) := ⟨_, rfl⟩
          rw [← hD] at HC HRU hd
          have gd : (D != 0) = true := by simp [hd]
          have gd2 : decide (¬ D = 0) = true := decide_eq_true hd
          clear hD
          go_wp2_with (go_at_call 60; (with_reducible refine (HC.out _ _ _ (by have := HPF.out; omega) (by have := HPF.out; omega) HFr.out.q).mono ?_); rintro e w2 ⟨rfl, hb⟩; have HF2 := hide (HFr.out.below hb); obtain ⟨d0, d1, d2, d3, d4, d5, d6, d7, d8, d9⟩ := HF2.out.ca; clear hb)
          refine bodyPost_ret (v := .tuple #[.int .i64 D, .int .i64 ((k : Int) + 1), .int .i64 0]) (by simp [results, Try.results29, go_sem, *]) rfl ⟨D, p, (f + 1), by have e9 : (k : Int) + 1 = ((p + ((f + 1)) : Nat) : Int) := (by have := HPF.out; omega); rw [e9], HRU.out, HF2.out.bw⟩
set_option maxRecDepth 100000 in
set_option maxHeartbeats 8000000 in
theorem srun_bad (w : World) (s : Sv) (A : Option Addr) (n c : Nat) (hq : SQ w s) (hk : s.ok = false) :
    Calls Try.prog 29 #[.agg #[.slice s.l.A s.l.n s.l.c, .slice s.l.B s.l.m s.l.d, .slice s.h.A s.h.n s.h.c, .slice s.h.B s.h.m s.h.d, .slice s.a.A s.a.n s.a.c, .slice s.a.B s.a.m s.a.d, .slice s.b.A s.b.n s.b.c, .slice s.b.B s.b.m s.b.d, .int .i64 s.m], .slice A n c] w fun e w' => e = .returned (.tuple #[.int .i64 0, .int .i64 0, .int .i64 1]) ∧ Below w.heap.size w w' := by
  have HOK := hide hk
  clear hk
  go_enter Try.func29, Try.ntmps29
  go_upto_region 1 with (fail)
  generalize hW : World.alloc w _ = v
  have HF := hide (show FS w v w.heap.size s by rw [← hW]; exact FS.mk0 hq _)
  obtain ⟨a0, a1, a2, a3, a4, a5, a6, a7, a8, a9⟩ := HF.out.ca
  clear hW hq
  go_wp2_with (go_at_call 35; (with_reducible refine (scheckv_any _ s HF.out.q).mono ?_); rintro e w1 ⟨rfl, hb⟩; rw [HOK.out]; have HF1 := hide (HF.out.below hb); obtain ⟨b0, b1, b2, b3, b4, b5, b6, b7, b8, b9⟩ := HF1.out.ca; clear hb)
  refine bodyPost_ret (v := .tuple #[.int .i64 0, .int .i64 0, .int .i64 1]) (by simp [results, Try.results29, go_sem, *]) rfl ⟨rfl, HF1.out.bw⟩
end Go.Proofs.Ytnokfhkcfebimaa

/- A box whose cells are set; the tape's Chance beside limbs; contract: the law's spec. -/
namespace Go.Proofs.Ytnokfhkcfebimaa
open Go.RowKit

theorem Cb.put {v : World} {g : Nat} {cs : List Value} (h : Cb v g cs) (i : Nat) (x : Value) (hi : i < cs.length) (hx : ∀ k, x ≠ .int .u32 k) : Cb (v.setCell ⟨g, i, none⟩ x) g (cs.set i x) := by
  have hs := h.sz
  have hci := h.cell i _ (List.getElem?_eq_getElem hi)
  refine ⟨fun j y hy => ?_, fun j => by have := h.fz j; simp [go_sem, *], by simpa using hs, h.nb.put i hx⟩
  by_cases hj : j = i
  · subst hj
    rw [List.getElem?_set_self hi] at hy
    injection hy with hy
    subst hy
    simp [go_sem, hci]
  · rw [List.getElem?_set_ne (fun e => hj e.symm)] at hy
    rw [World.cell?_setCell_other _ _ _ _ (by intro h; injection h; omega)]
    exact h.cell j y hy
theorem chancetp_any (w : World) (T : Nat) (A : Option Addr) (n c : Nat) (l : List Int) (a : Nat) (M N : Int) (hT : Tp w T A n c l a) (ha : a ≤ 4294967296) (hN : N ≤ 4294967296) :
    Calls Try.prog 45 #[.pointer (some ⟨T, 0, none⟩), .int .i64 M, .int .i64 N] w fun e w' => e = .returned (.bool (decide (tapeV l a N < M))) ∧ Tp w' T A n c l (a + 1) ∧ Fr w w' (fun b => b = T) := by
  go_enter Try.func45, Try.ntmps45
  go_wp2_with (go_at_call 59; refine (nextp_any _ T A n c l a N hT ha hN).mono ?_; rintro e w1 ⟨rfl, ht1, hf1⟩)
  go_ret
  exact ⟨rfl, ht1, hf1⟩
/-- The cells of a specification not yet filled. -/
def z9 : List Value := [.slice none 0 0, .slice none 0 0, .slice none 0 0, .slice none 0 0, .slice none 0 0, .slice none 0 0, .slice none 0 0, .slice none 0 0, .int .i64 0]
/-- A specification in the making: the tape, the result's box, its box. -/
structure SpS (w0 v : World) (T : Nat) (A : Option Addr) (n c : Nat) (l : List Int) (a g0 g1 : Nat) (s : Sv) : Prop where
  tp : Tp v T A n c l a
  r : Cb v g0 z9
  b : Cb v g1 s.cs
  q : SQ v s
  fr : Fr w0 v (fun b => b = T)
section
variable {w0 v v' : World} {T n c a g0 g1 : Nat} {A : Option Addr} {l : List Int} {s s' : Sv}
theorem SQ.one {g : Nat} (h : SQ v s) (hf : Fr v v' (fun b => b = g)) (hg : NB v g) : SQ v' s := ⟨h.l.one hf hg, h.h.one hf hg, h.a.one hf hg, h.b.one hf hg⟩
theorem SpS.below (h : SpS w0 v T A n c l a g0 g1 s) (hb : Below v.heap.size v v') : SpS w0 v' T A n c l a g0 g1 s := ⟨h.tp.below hb, h.r.below hb, h.b.below hb, h.q.below hb, h.fr.below_ hb⟩
theorem SpS.tape (h : SpS w0 v T A n c l a g0 g1 s) {a' : Nat} (hp : Tp v' T A n c l a') (hf : Fr v v' (fun b => b = T)) (h0 : g0 ≠ T) (h1 : g1 ≠ T) : SpS w0 v' T A n c l a' g0 g1 s :=
  ⟨hp, h.r.one hf h0, h.b.one hf h1, h.q.one hf h.tp.nb, h.fr.trans hf⟩
theorem SpS.put (h : SpS w0 v T A n c l a g0 g1 s) {t0 : World} {a0 : Nat} (hp0 : Tp t0 T A n c l a0) (hg1 : t0.heap.size ≤ g1) (h01 : g0 ≠ g1) (hf : Fr v v' (fun b => b = g1)) (hb : Cb v' g1 s'.cs) (hq : SQ v' s') (hw : w0.heap.size ≤ g1) : SpS w0 v' T A n c l a g0 g1 s' :=
  ⟨hp0.one h.tp hg1 hf, h.r.one hf h01, hb, hq, h.fr.step hf (fun i hi e => by omega)⟩
end
end Go.Proofs.Ytnokfhkcfebimaa
