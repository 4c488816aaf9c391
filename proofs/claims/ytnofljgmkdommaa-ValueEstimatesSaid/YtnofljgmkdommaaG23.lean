/- Contracts of the functions that these laws reach: part 23: Contracts: the noise law's one and known; Contracts: the law's bits; Contracts: value.weights, its iterator; the state of Discounted between two rounds; Contract: the iterator of value.weights; Contract: Discounted; Contract: Discounted of any arguments. -/
import Derived.Test.YtnofljgmkdommaaG15
import Derived.Test.YtnofljgmkdommaaG16
import Derived.Test.YtnofljgmkdommaaG1
import Derived.Test.YtnofljgmkdommaaG18
import Derived.Test.YtnofljgmkdommaaG22
set_option linter.unusedVariables false
set_option linter.unusedSimpArgs false

/- Contracts: the noise law's one and known. -/
namespace Go.Proofs.Ytnofljgmkdommaa
open Go.RowKit

set_option maxRecDepth 100000 in
set_option maxHeartbeats 4000000 in
theorem small11 (w : World) : Calls Try.prog 18 #[.int .i64 1, .int .i64 1] w fun e w' => Ret1 w (some (mkRat 1 1)) e w' := small_any w 1 1 (by omega) (by omega) (by omega)
theorem small13 (w : World) : Calls Try.prog 18 #[.int .i64 1, .int .i64 3] w fun e w' => Ret1 w (some (mkRat 1 3)) e w' := small_any w 1 3 (by omega) (by omega) (by omega)
theorem small49 (w : World) : Calls Try.prog 18 #[.int .i64 4, .int .i64 9] w fun e w' => Ret1 w (some (mkRat 4 9)) e w' := small_any w 4 9 (by omega) (by omega) (by omega)
theorem small127 (w : World) : Calls Try.prog 18 #[.int .i64 1, .int .i64 27] w fun e w' => Ret1 w (some (mkRat 1 27)) e w' := small_any w 1 27 (by omega) (by omega) (by omega)
theorem chn13 : Chn (mkRat 1 3) := ⟨by decide +kernel, by decide +kernel, by decide +kernel⟩
end Go.Proofs.Ytnofljgmkdommaa

/- Contracts: the law's bits. -/
namespace Go.Proofs.Ytnofljgmkdommaa
open Go.RowKit

theorem info4 : (Try.prog.info? 4).map (fun i => (i.zero, i.size, i.bytes)) = some (some (.bool false), 1, 1) := by kernel_rfl
theorem bv_len (b : Bool) : (bv b).length = 1 := rfl
theorem bv_one (b : Bool) : ∀ u ∈ bv b, u.oneCell' = true := by
  intro u hu
  simp [bv] at hu
  subst hu
  rfl
/-- A slice of bools of a call's own. -/
structure OBl (w0 w : World) (A : Option Addr) (m c : Nat) (l : List Bool) : Prop where
  own : w.ownsRow w0.heap.size 4 1 (.slice A m c) m (l.flatMap bv)
  len : l.length = m
  fr : Fr w0 w (fun _ => False)
theorem OBl.rs {w0 w : World} {A : Option Addr} {m c : Nat} {l : List Bool} (h : OBl w0 w A m c l) : Rs w none 1 bv A l := Rs.of_own h.own bv_len h.len (by simp)
theorem OBl.cap {w0 w : World} {A : Option Addr} {m c : Nat} {l : List Bool} (h : OBl w0 w A m c l) : m ≤ c := own_slice_cap h.own (by omega)
theorem OBl.nil (w : World) : OBl w w none 0 0 [] := ⟨World.ownsRow_nil _ _ _ _, rfl, Fr.refl _ _⟩
theorem wl_app_bool {w0 w : World} {ops : Array Oper} {rest : List Oper} {o : Oper} {a : Act} {Q : Exit → Act → World → Prop} (hgd : o.guard = none) (s x : Operand) (t : TypeId) (ht : Try.prog.underlying t = some (.slice 4))
    (ho : o.op = .call { callee := .builtin .append, args := #[s, x], argTypes := #[t, t] })
    (A : Option Addr) (m c : Nat) (l : List Bool) (X : Bool) (hs : a.eval s = .slice A m c) (hx : a.eval x = .slice (some ⟨w.heap.size, 0, none⟩) 1 1) (hO : OBl w0 w A m c l) (h63 : m + 1 ≤ 4294967296)
    (h : ∀ A' c' w', OBl w0 w' A' (m + 1) c' (l ++ [X]) → wpList Try.prog ops Q rest (a.put o.dst (.slice A' (m + 1) c')) w') :
    wpList Try.prog ops Q (o :: rest) a (w.alloc (.cells #[.bool X] 4)) := by
  have hO1 : OBl w0 (w.alloc (.cells #[.bool X] 4)) A m c l := ⟨hO.own.kept (grown_of_below ((Below.refl _ _).alloc (Nat.le_refl _) _) none) (Classical.em _), hO.len, hO.fr.alloc _⟩
  refine wl_append _ hgd s x t ho w0.heap.size 4 _ 1 1 ht info4 rfl (by omega) (.slice A m c) m l hs hO1.own _ 1 1 [X] hx
    (rs_one (av := none) (by simp) (by simp) (by intro j u hu; match j with | 0 => simp [bv] at hu; subst hu; simp [go_sem] | j + 1 => simp [bv] at hu)) rfl bv_len bv_one h63 (by omega) hO1.fr.size ?_
  intro A' c' w' hown hgr _
  refine h A' c' w' ⟨hown, by simp [hO.len], hO1.fr.grown hgr ?_⟩
  intro g hg
  left
  rcases hO1.own.2 with ⟨h1, _⟩ | ⟨g', cap, cur, hv, hb, _⟩
  · rw [h1] at hg; simp [Value.ownBlock] at hg
  · rw [hv] at hg
    simp [Value.ownBlock] at hg
    omega
/-- The bits of a number, the least first. -/
def bitL (x n : Nat) : List Bool := (List.range n).map fun i => decide (x / 2 ^ i % 2 = 1)
theorem bitL_succ (x n : Nat) : bitL x (n + 1) = bitL x n ++ [decide (x / 2 ^ n % 2 = 1)] := by
  unfold bitL
  rw [List.range_succ, List.map_append]
  rfl
theorem bitL_len (x n : Nat) : (bitL x n).length = n := by simp [bitL]
end Go.Proofs.Ytnofljgmkdommaa

/- Contracts: value.weights, its iterator; the state of Discounted between two rounds. -/
namespace Go.Proofs.Ytnofljgmkdommaa
open Go.RowKit Go.Shelf
attribute [local go_sem] Oper.semAt_some

set_option maxRecDepth 100000 in
set_option maxHeartbeats 2000000 in
theorem vawts_any (w : World) (A : Option Addr) (n c : Nat) (h : Int) :
    Calls Try.prog 35 #[.slice A n c, .int .i64 h] w fun e w' => e = .returned (.func (.func 58) #[] #[.pointer (some ⟨w.heap.size, 0, none⟩), .pointer (some ⟨w.heap.size + 1, 0, none⟩)]) ∧ Cb w' w.heap.size [.slice A n c] ∧ Cb w' (w.heap.size + 1) [.int .i64 h] ∧ w'.heap.size = w.heap.size + 2 ∧ Below w.heap.size w w' := by
  go_enter Try.func35, Try.ntmps35
  go_wp2
  refine bodyPost_ret (v := .func (.func 58) #[] #[.pointer (some ⟨w.heap.size, 0, none⟩), .pointer (some ⟨w.heap.size + 1, 0, none⟩)]) (by simp [results, Try.results35, go_sem, *]) rfl ⟨rfl, ?_, ?_, ?_, ?_⟩
  · exact (Cb.mk0 (w := w) [.slice A n c] (by simp) _ rfl).below ((Below.refl _ _).alloc (Nat.le_refl _) _)
  · exact Cb.mk0 [.int .i64 h] (by simp) _ (by simp)
  · simp
  · exact ((Below.refl _ _).alloc (Nat.le_refl _) _).alloc (by simp) _
theorem vawts_at (w : World) (B : Nat) (hB : w.heap.size = B) (A : Option Addr) (n c : Nat) (h : Int) : Calls Try.prog 35 #[.slice A n c, .int .i64 h] w fun e w' => e = .returned (.func (.func 58) #[] #[.pointer (some ⟨B, 0, none⟩), .pointer (some ⟨B + 1, 0, none⟩)]) ∧ Cb w' B [.slice A n c] ∧ Cb w' (B + 1) [.int .i64 h] ∧ w'.heap.size = w.heap.size + 2 ∧ Below w.heap.size w w' := by
  subst hB
  exact vawts_any w A n c h
theorem nb_loop {W : World} {g : Nat} {rc : Loop} (h : W.heap[g]? = some (.loop rc)) : NB W g := by
  intro j x hc
  simp [World.cell?, h] at hc
/-- Nothing of the old has turned; the two sums lie in their boxes; so do the iterator's variables, the loop's record and the block of its deferred calls. -/
structure JD (w0 : World) (g6 g7 B : Nat) (A : Option Addr) (n c : Nat) (h : Int) (x y : Fa) (X Y : Rat) (D : Nat) (rc : Loop) (W : World) : Prop where
  bw : Below w0.heap.size w0 W
  r4 : Rb W w0.heap.size
  f6 : Bq W g6 x
  f7 : Bq W g7 y
  o6 : Fo W x (some X)
  o7 : Fo W y (some Y)
  i0 : Cb W B [.slice A n c]
  i1 : Cb W (B + 1) [.int .i64 h]
  df : W.heap[D]? = some (.deferred (some []))
  lo : W.heap[D + 1]? = some (.loop rc)
  od : w0.heap.size < g6 ∧ g6 < g7 ∧ g7 < B ∧ B + 2 ≤ D
section
variable {w0 : World} {g6 g7 B : Nat} {A : Option Addr} {n c : Nat} {h : Int} {x y x' y' : Fa} {X Y X' Y' : Rat} {D : Nat} {rc : Loop} {W W' : World}
theorem JD.below (j : JD w0 g6 g7 B A n c h x y X Y D rc W) (hb : Below W.heap.size W W') : JD w0 g6 g7 B A n c h x y X Y D rc W' :=
  ⟨j.bw.trans (hb.mono j.bw.size), j.r4.below hb, j.f6.below hb, j.f7.below hb, j.o6.below hb, j.o7.below hb, j.i0.below hb, j.i1.below hb,
    (hb.block _ (Array.getElem?_eq_some_iff.1 j.df).1).trans j.df, (hb.block _ (Array.getElem?_eq_some_iff.1 j.lo).1).trans j.lo, j.od⟩
theorem JD.set6 (j : JD w0 g6 g7 B A n c h x y X Y D rc W) (ho : Fo W x' (some X')) : JD w0 g6 g7 B A n c h x' y X' Y D rc ((W.setCell ⟨g6, 0, none⟩ (.slice x'.A x'.n x'.c)).setCell ⟨g6, 1, none⟩ (.slice x'.B x'.m x'.d)) := by
  obtain ⟨h1, h2, h3, h4⟩ := j.od
  have hf := fr_fill (w := W) (g := g6) (.slice x'.A x'.n x'.c) (.slice x'.B x'.m x'.d)
  have nb := j.f6.nb
  exact ⟨bw_one j.bw hf (by omega), (j.r4.bq.one hf (by omega)).rb, j.f6.fill x', j.f7.one hf (by omega), ho.one hf nb, j.o7.one hf nb, j.i0.one hf (by omega), j.i1.one hf (by omega),
    (hf.block _ (Array.getElem?_eq_some_iff.1 j.df).1 (by omega)).trans j.df, (hf.block _ (Array.getElem?_eq_some_iff.1 j.lo).1 (by omega)).trans j.lo, j.od⟩
theorem JD.set7 (j : JD w0 g6 g7 B A n c h x y X Y D rc W) (ho : Fo W y' (some Y')) : JD w0 g6 g7 B A n c h x y' X Y' D rc ((W.setCell ⟨g7, 0, none⟩ (.slice y'.A y'.n y'.c)).setCell ⟨g7, 1, none⟩ (.slice y'.B y'.m y'.d)) := by
  obtain ⟨h1, h2, h3, h4⟩ := j.od
  have hf := fr_fill (w := W) (g := g7) (.slice y'.A y'.n y'.c) (.slice y'.B y'.m y'.d)
  have nb := j.f7.nb
  exact ⟨bw_one j.bw hf (by omega), (j.r4.bq.one hf (by omega)).rb, j.f6.one hf (by omega), j.f7.fill y', j.o6.one hf nb, ho.one hf nb, j.i0.one hf (by omega), j.i1.one hf (by omega),
    (hf.block _ (Array.getElem?_eq_some_iff.1 j.df).1 (by omega)).trans j.df, (hf.block _ (Array.getElem?_eq_some_iff.1 j.lo).1 (by omega)).trans j.lo, j.od⟩
theorem JD.put (j : JD w0 g6 g7 B A n c h x y X Y D rc W) (rc' : Loop) : JD w0 g6 g7 B A n c h x y X Y D rc' (W.putObj (D + 1) (.loop rc')) := by
  obtain ⟨h1, h2, h3, h4⟩ := j.od
  have hf := fr_putObj W (D + 1) (.loop rc')
  have nb := nb_loop j.lo
  exact ⟨bw_one j.bw hf (by omega), (j.r4.bq.one hf (by omega)).rb, j.f6.one hf (by omega), j.f7.one hf (by omega), j.o6.one hf nb, j.o7.one hf nb, j.i0.one hf (by omega), j.i1.one hf (by omega),
    (hf.block _ (Array.getElem?_eq_some_iff.1 j.df).1 (by omega)).trans j.df, World.putObj_heap_same (Array.getElem?_eq_some_iff.1 j.lo).1, j.od⟩
theorem JD.round {P : Program} (j : JD w0 g6 g7 B A n c h x y X Y D { rc with state := .busy } W) (hr1 : rc.state = .ready) (hr2 : rc.pending = none) :
    ∃ v w', (Instr.endRound (D + 1) none).run P W = .ok v w' ∧ v = .bool true ∧ JD w0 g6 g7 B A n c h x y X Y D rc w' := by
  have e : ({ { rc with state := .busy } with state := .ready, pending := none } : Loop) = rc := by
    cases rc
    simp only at hr1 hr2
    subst hr1
    subst hr2
    rfl
  have h2 := j.put rc
  refine ⟨_, _, run_endRound none j.lo, rfl, ?_⟩
  have e2 : ({ { rc with state := .busy } with state := if (none : Option Code).isNone then .ready else .done, pending := none } : Loop) = rc := e
  rw [e2]
  exact h2
theorem JD.post {P : Program} {R : Ending → World → Prop} {a : Act} (j : JD w0 g6 g7 B A n c h x y X Y D { rc with state := .busy } W) (hr1 : rc.state = .ready) (hr2 : rc.pending = none)
    (hR : ∀ w', JD w0 g6 g7 B A n c h x y X Y D rc w' → R (.returned (.bool true)) w') : roundPost P (D + 1) R .normal a W := by
  obtain ⟨v, w', hr, rfl, hw⟩ := j.round (P := P) hr1 hr2
  exact ⟨_, w', hr, hR w' hw⟩
end
/-- The state behind k ages. -/
def JK (w0 : World) (g6 g7 B : Nat) (A : Option Addr) (n c h D : Nat) (rc : Loop) (bs : List Bool) (k : Nat) (W : World) : Prop :=
  ∃ x y : Fa, JD w0 g6 g7 B A n c (h : Int) x y (fS h bs k) (wS h k) D rc W
theorem JK.below {w0 : World} {g6 g7 B : Nat} {A : Option Addr} {n c h D : Nat} {rc : Loop} {bs : List Bool} {k : Nat} {W W' : World} (j : JK w0 g6 g7 B A n c h D rc bs k W) (hb : Below W.heap.size W W') : JK w0 g6 g7 B A n c h D rc bs k W' := by
  obtain ⟨x, y, j⟩ := j
  exact ⟨x, y, j.below hb⟩
end Go.Proofs.Ytnofljgmkdommaa

/- Contract: the iterator of value.weights. -/
namespace Go.Proofs.Ytnofljgmkdommaa
open Go.RowKit Go.Shelf
attribute [local go_sem] Oper.semAt_some

theorem vaof_half (w : World) : Calls Try.prog 31 #[.int .i64 1, .int .i64 2] w fun e w' => Ret1 w (some (mkRat 1 2)) e w' :=
  vaof_any w 1 2 1 2 rfl rfl (by omega) (by omega) (by omega)
theorem fpow_half (w : World) (a : Fa) (e : Nat) (ha : Fo w a (some (mkRat 1 2))) (he : e ≤ 63) (hf : fitsR ((mkRat 1 2) ^ e) = true) : Calls Try.prog 59 #[.agg #[.slice a.A a.n a.c, .slice a.B a.m a.d], .int .i64 (e : Int)] w fun e' w' => RetV w (hp e) e' w' :=
  fpow_ok w a (mkRat 1 2) e ha (by omega) hf
theorem bits_cell {w : World} {A : Option Addr} {bs : List Bool} (hR : Rs w none 1 bv A bs) {k : Nat} {x : Bool} (hk : bs[k]? = some x) : ∃ b o, A = some ⟨b, o, none⟩ ∧ b < w.heap.size ∧ w.cell? ⟨b, o + k, none⟩ = some (.bool x) := by
  obtain ⟨b, o, g1, -, g3, g4⟩ := hR.at hk
  exact ⟨b, o, g1, g3, by have := g4 0 _ rfl; simpa using this⟩
set_option maxRecDepth 100000 in
set_option maxHeartbeats 8000000 in
theorem vawts1_any (w0 : World) (g6 g7 B D : Nat) (rc : Loop) (A : Option Addr) (n c h : Nat) (bs : List Bool) (hR : Rs w0 none 1 bv A bs) (hl : bs.length = n) (hn : n ≤ 64) (hh : 1 ≤ h) (hh2 : h ≤ 64) (W : World) (hW : JK w0 g6 g7 B A n c h D rc bs 0 W)
    (hY : ∀ (k : Nat) (f : Bool) (q : Fa) (W : World), k < n → bs[n - 1 - k]? = some f → JK w0 g6 g7 B A n c h D rc bs k W → Fo W q (some (hp (k / h))) →
      YieldAt Fence.wide 3 Try.prog (D + 1) #[.agg #[.slice q.A q.n q.c, .slice q.B q.m q.d], .bool f] W (fun e W' => e = .returned (.bool true) ∧ JK w0 g6 g7 B A n c h D rc bs (k + 1) W')) :
    CallsIn Fence.wide 4 Try.prog 58 #[.func (.yield (D + 1)) #[] #[], .pointer (some ⟨B, 0, none⟩), .pointer (some ⟨B + 1, 0, none⟩)] W
      fun e W' => (∃ v, e = .returned v) ∧ JK w0 g6 g7 B A n c h D rc bs n W' := by
  refine callsIn_of_wp Try.func58 rfl trivial ?_ rfl
  simp only [Try.ntmps58, List.size_toArray, List.length_cons, List.length_nil, Nat.reduceAdd, Nat.reduceSub, Array.replicate_succ, Array.replicate_zero, List.push_toArray, List.append_toArray, List.nil_append, List.cons_append]
  have HW := hide hW
  have HR := hide hR
  have HL := hide hl
  have HY := hide hY
  obtain ⟨x0, y0, j0⟩ := hW
  have k0 := j0.i0.cell 0 _ rfl
  have k1 := j0.i0.sz
  clear j0 hR hl hY
  gi_wp2
  clear k0 k1
  gi_loopw [9] (fun kv wr => ∃ (k : Nat), kv = .int .i64 (k : Int) ∧ k ≤ n ∧ Hid (JK w0 g6 g7 B A n c h D rc bs k wr)) (fun kv _ => n - (intOf kv).toNat)
  case atStart => exact ⟨0, rfl, by omega, HW⟩
  case round =>
    obtain ⟨k, rfl, hkn, HWr⟩ := hrel
    by_cases hk : k = n
    · have hle : decide ((k : Int) < (n : Int)) = false := decide_eq_false (by omega)
      have hle2 : decide (k < n) = false := decide_eq_false (by omega)
      have hle3 : (n : Int) ≤ (k : Int) := by omega
      have HE := hide hk
      clear hk
      gi_wp2
      go_end0
      exact ⟨⟨_, rfl⟩, by have := HWr.out; rwa [HE.out] at this⟩
    · obtain ⟨x, y, j⟩ := HWr.out
      have HJ := hide j
      have k0 := j.i0.cell 0 _ rfl
      have k1 := j.i0.sz
      have k2 := j.i1.cell 0 _ rfl
      have k3 := j.i1.sz
      clear j
      obtain ⟨f, hf⟩ : ∃ f, bs[n - 1 - k]? = some f := ⟨_, List.getElem?_eq_getElem (by have := HL.out; omega)⟩
      have HF := hide hf
      obtain ⟨b, o, rfl, hb0, e0⟩ := bits_cell HR.out hf
      clear hf
      have hlt : decide ((k : Int) < (n : Int)) = true := decide_eq_true (by omega)
      have hlt2 : (k : Int) < (n : Int) := by omega
      have hk0 : (0 : Int) ≤ (k : Int) := by omega
      have hk64 : k < 64 := by omega
      gi_wp2
      obtain ⟨e, he⟩ : ∃ e, e = k / h := ⟨_, rfl⟩
      have HE := hide he
      have hq1 : (k : Int) / (h : Int) = (e : Int) := by rw [he]; rfl
      have hq2 : ((k : Int)).tdiv (h : Int) = (e : Int) := by rw [he]; rfl
      have he64 : e ≤ 63 := by rw [he]; exact div_63 (by omega)
      have hh0 : ((h : Int) == 0) = false := by simp; omega
      have hh1 : ¬ (h : Int) = 0 := by omega
      have HFT := hide (show fitsR ((mkRat 1 2) ^ e) = true by rw [he]; exact hp_fits (by omega))
      clear he
      refine wpIn_wide.2 ?_
      go_cut [5, 6, 7, 8, 9] from 5 to 19 (fun s5 s6 s7 s8 s9 wx => ∃ (g : Nat) (q : Fa), s5 = .pointer (some ⟨g, 0, none⟩) ∧ s6 = .int .i64 0 ∧ s7 = .slice (some ⟨b, o, none⟩) n c ∧ s8 = .int .i64 (n : Int) ∧ s9 = .int .i64 (k : Int) ∧ Hid (Bq wx g q) ∧ Hid (Fo wx q (some (hp e))) ∧ Hid (Below wr.heap.size wr wx))
      case first =>
        apply region_seqo 7 9 [13, 14, 15, 16, 17, 12, 18, 19, 5] [fun x w => ∃ c : Fa, x = .agg #[.slice c.A c.n c.c, .slice c.B c.m c.d] ∧ Fo w c (some (mkRat 1 2)), eqV _, eqV _, eqV _, fun x w => ∃ c : Fa, x = .tuple #[.agg #[.slice c.A c.n c.c, .slice c.B c.m c.d], .int .i64 0] ∧ Fo w c (some (hp e)), fun x w => ∃ c : Fa, x = .tuple #[.agg #[.slice c.A c.n c.c, .slice c.B c.m c.d], .int .i64 0] ∧ Fo w c (some (hp e)), fun x w => ∃ c : Fa, x = .agg #[.slice c.A c.n c.c, .slice c.B c.m c.d] ∧ Fo w c (some (hp e)), eqV _, fun x w => ∃ b : Nat, x = .pointer (some ⟨b, 0, none⟩) ∧ wr.heap.size ≤ b ∧ Bq w b fa0] [false, false, false, false, false, false, false, false, false] (by kernel_rfl) (by decide) (by decide) rfl rfl rfl (by decide) (by kernel_rfl) (by kernel_rfl) rfl ?stb14 ?steps14 ?fina14 ?finb14
        case stb14 => repeat' (first | exact trivial | apply stb_eq | (first | exact fun x w w' ⟨c, h1, h2⟩ hb => ⟨c, h1, h2.below hb⟩ | exact fun x w w' ⟨c, h1, h2, h3⟩ hb => ⟨c, h1, h2, h3.below hb⟩) | apply And.intro)
        case steps14 =>
          repeat' (first | exact trivial | apply And.intro)
          all_goals
            intro a' w' hbw hdf hoff hdep K hK
            (have o2 := hoff 2 rfl; have o4 := hoff 4 rfl)
            (have HG := hide (HJ.out.below hbw); have z2 := HG.out.i1.cell 0 _ rfl; have z3 := HG.out.i1.sz; have hvz := hbw.size)
            replace hdep := hdep _ rfl
            simp only [List.getElem_toArray, List.getElem_cons_succ, List.getElem_cons_zero, List.toList_toArray, depAll, binds_data, binds_chain, binds_guard, binds_phase, binds_text, binds_gc, cond_true, cond_false, true_and, getR, eqV, List.getD_cons_succ, List.getD_cons_zero, and_true] at hdep
            simp only [Nat.zero_add, Nat.reduceAdd, getR, eqV, List.getD_cons_succ, List.getD_cons_zero] at hK
            clear hoff hdf
            (first | (obtain ⟨⟨c1, e13, HO1⟩, e16, hdep⟩ : (∃ c : Fa, _) ∧ (_ = _) ∧ _ := hdep) | (obtain ⟨⟨c1, e24, HO1⟩, hdep⟩ : (∃ c : Fa, _) ∧ _ := hdep) | (obtain ⟨c1, e24, HO1⟩ : ∃ c : Fa, _ := hdep) | skip)
            first
              | (refine rg_unwanted rfl rfl rfl (b' := false) (by first | (simp [hdep]; done) | assumption) (by decide) ?_; exact hK _ _ rfl (Below.refl _ _) (by simp))
              | (refine rg_unwanted rfl rfl rfl (b' := true) (by first | (simp [hdep]; done) | assumption) (by decide) ?_; exact hK _ _ rfl (Below.refl _ _) (by simp))
              | (refine rg_wanted rfl rfl rfl (b' := true) (by first | (simp [hdep]; done) | assumption) rfl (fun K' hKK => ?_); go_wp2_with (first | (go_at_call 31; (with_reducible refine (vaof_half _).mono ?_); rintro e' w1 ⟨c, rfl, ho, hb⟩) | (go_at_call 59; (with_reducible refine (fpow_half _ c1 e HO1 he64 HFT.out).mono ?_); rintro e' w1 ⟨c, rfl, ho, hb⟩)); first | exact hK _ _ rfl (Below.refl _ _) (by simp) | (first | exact hK _ _ ⟨c, rfl, ho⟩ hb (by simp) | exact hK _ _ ⟨c1, rfl, HO1⟩ (Below.refl _ _) (by simp) | exact hK _ _ ⟨_, rfl, hvz, Bq.mk0 _ fa0 rfl⟩ ((Below.refl _ _).alloc (Nat.le_refl _) _) (by simp)))
              | (refine rg_wanted rfl rfl rfl (b' := false) (by first | (simp [hdep]; done) | assumption) rfl (fun K' hKK => ?_); go_wp2_with (first | (go_at_call 31; (with_reducible refine (vaof_half _).mono ?_); rintro e' w1 ⟨c, rfl, ho, hb⟩) | (go_at_call 59; (with_reducible refine (fpow_half _ c1 e HO1 he64 HFT.out).mono ?_); rintro e' w1 ⟨c, rfl, ho, hb⟩)); first | exact hK _ _ rfl (Below.refl _ _) (by simp) | (first | exact hK _ _ ⟨c, rfl, ho⟩ hb (by simp) | exact hK _ _ ⟨c1, rfl, HO1⟩ (Below.refl _ _) (by simp) | exact hK _ _ ⟨_, rfl, hvz, Bq.mk0 _ fa0 rfl⟩ ((Below.refl _ _).alloc (Nat.le_refl _) _) (by simp)))
              | (refine rg_free rfl rfl (fun K' hKK => ?_); fail)
              | (refine rg_free rfl rfl (fun K' hKK => ?_); go_wp2_with (first | (go_at_call 31; (with_reducible refine (vaof_half _).mono ?_); rintro e' w1 ⟨c, rfl, ho, hb⟩) | (go_at_call 59; (with_reducible refine (fpow_half _ c1 e HO1 he64 HFT.out).mono ?_); rintro e' w1 ⟨c, rfl, ho, hb⟩)); first | exact hK _ _ rfl (Below.refl _ _) (by simp) | (first | exact hK _ _ ⟨c, rfl, ho⟩ hb (by simp) | exact hK _ _ ⟨c1, rfl, HO1⟩ (Below.refl _ _) (by simp) | exact hK _ _ ⟨_, rfl, hvz, Bq.mk0 _ fa0 rfl⟩ ((Below.refl _ _).alloc (Nat.le_refl _) _) (by simp)))
        all_goals
          intro w' hbw
          repeat (first | refine fin_eq ?_ | refine fin_any (fun x hx => ?_))
          rename_i x15 h15 x16 h16
          obtain ⟨c5, rfl, -⟩ := h15
          obtain ⟨q, rfl, ho⟩ := h16
          obtain ⟨g, rfl, hg, hq⟩ := hx
          have HO := hide ho
          have HQ := hide hq
          have HBW := hide hbw
          have hrel := hide (show ∃ (g' : Nat) (c' : Fa), Value.pointer (some ⟨g, 0, none⟩) = .pointer (some ⟨g', 0, none⟩) ∧ Hid (Bq ((w'.setCell ⟨g, 0, none⟩ (.slice q.A q.n q.c)).setCell ⟨g, 1, none⟩ (.slice q.B q.m q.d)) g' c') ∧ Hid (Fo ((w'.setCell ⟨g, 0, none⟩ (.slice q.A q.n q.c)).setCell ⟨g, 1, none⟩ (.slice q.B q.m q.d)) c' (some (hp e))) ∧ Hid (Below wr.heap.size wr ((w'.setCell ⟨g, 0, none⟩ (.slice q.A q.n q.c)).setCell ⟨g, 1, none⟩ (.slice q.B q.m q.d))) from
            ⟨g, q, rfl, hide (HQ.out.fill q), hide (HO.out.fill HQ.out q), hide (Rb.end0 HBW.out hg _ _)⟩)
          obtain ⟨c0, c1, cf, cz, -⟩ := HQ.out
          clear ho hq hbw
          refine fin_nil ?_
          simp only [List.setIfInBounds_toArray, List.set_cons_succ, List.set_cons_zero]
        · skip
          refine wpAny_one (i := 9) (by kernel_rfl) ?_
          refine rg_free rfl rfl (fun K' hKK => ?_)
          go_wp2_with fail
          refine wpAny_one (i := 10) (by kernel_rfl) ?_
          refine rg_free rfl rfl (fun K' hKK => ?_)
          go_wp2_with fail
          refine wpAny_done (by kernel_rfl) ?_ _
          go_wp2_with fail
          go_meet
          case rel => obtain ⟨g', c', h1, h2⟩ := hrel.out; exact ⟨g', c', h1, rfl, rfl, rfl, rfl, h2⟩
        · skip
          refine wpAny_two (i := 7) (j := 9) (by kernel_rfl) ?_ ?_
          · skip
            refine rg_free rfl rfl (fun K' hKK => ?_)
            go_wp2_with fail
            refine wpAny_one (i := 9) (by kernel_rfl) ?_
            refine rg_free rfl rfl (fun K' hKK => ?_)
            go_wp2_with fail
            refine wpAny_one (i := 10) (by kernel_rfl) ?_
            refine rg_free rfl rfl (fun K' hKK => ?_)
            go_wp2_with fail
            refine wpAny_done (by kernel_rfl) ?_ _
            go_wp2_with fail
            go_meet
            case rel => obtain ⟨g', c', h1, h2⟩ := hrel.out; exact ⟨g', c', h1, rfl, rfl, rfl, rfl, h2⟩
          · skip
            refine rg_free rfl rfl (fun K' hKK => ?_)
            go_wp2_with fail
            refine wpAny_one (i := 7) (by kernel_rfl) ?_
            refine rg_free rfl rfl (fun K' hKK => ?_)
            go_wp2_with fail
            refine wpAny_one (i := 10) (by kernel_rfl) ?_
            refine rg_free rfl rfl (fun K' hKK => ?_)
            go_wp2_with fail
            refine wpAny_done (by kernel_rfl) ?_ _
            go_wp2_with fail
            go_meet
            case rel => obtain ⟨g', c', h1, h2⟩ := hrel.out; exact ⟨g', c', h1, rfl, rfl, rfl, rfl, h2⟩
      case rest =>
        obtain ⟨g, q, rfl, rfl, rfl, rfl, rfl, HQ, HO, HB⟩ := hcut
        have HJ2 := hide (HJ.out.below HB.out)
        have HJK := hide (HWr.out.below HB.out)
        have HQD := hide (show Bq wc.drew g q from HQ.out.below (Below.refl _ _).drew)
        have HJD := hide (HJ2.out.below (Below.refl _ _).drew)
        have m0 := HJ2.out.i0.cell 0 _ rfl
        have m1 := HJ2.out.i0.sz
        have m2 := (HJ2.out.bw.cell (p := ⟨b, o + (n - 1 - k), none⟩) (by simpa using hb0)).trans e0
        have m3 : b < wc.heap.size := Nat.lt_of_lt_of_le hb0 HJ2.out.bw.size
        obtain ⟨q0, q1, qf, qz, -⟩ := HQ.out
        obtain ⟨i, hi⟩ : ∃ i, i = n - 1 - k := ⟨_, rfl⟩
        rw [← hi] at m2
        have hs1 : (n : Int) - 1 - (k : Int) = (i : Int) := by omega
        have hs2 : IntKind.i64.wrap ((n : Int) - 1) = (n : Int) - 1 := IntWalk.i64_in _ (by omega)
        have hs3 : IntKind.i64.wrap ((n : Int) - 1 - (k : Int)) = (i : Int) := by rw [IntWalk.i64_in _ (by omega)]; omega
        have hs6 : IntKind.i64.wrap (i : Int) = (i : Int) := IntWalk.i64_in _ (by omega)
        have hw2 : wrap64 ((n : Int) - 1) = (n : Int) - 1 := IntWalk.wrap64_in _ ⟨by omega, by omega⟩
        have hw3 : wrap64 ((n : Int) - 1 - (k : Int)) = (i : Int) := by rw [IntWalk.wrap64_in _ ⟨by omega, by omega⟩]; omega
        have hs4 : (0 : Int) ≤ (i : Int) := by omega
        have hs5 : (i : Int) < (n : Int) := by omega
        have hs7 : i < n := by omega
        clear hi
        clear k0 k1 k2 k3 e0
        obtain ⟨fn, tmps, assign, body, hy, hRD⟩ := HY.out k f q wc.drew (by omega) HF.out (HJK.out.below (Below.refl _ _).drew) (by rw [← HE.out]; exact HO.out.drew)
        try dsimp only at hy
        gi_wp2
        gi_region_with (refine hRD.mono ?_; rintro e' W3 ⟨rfl, hj3⟩; have HJ3 := hide hj3; clear hj3)
        all_goals
          gi_wp2
          go_roundw
          case rel => exact ⟨k + 1, by go_num, by omega, HJ3⟩
          case measure => simp [intOf]; omega
end Go.Proofs.Ytnofljgmkdommaa

/- Contract: Discounted. -/
namespace Go.Proofs.Ytnofljgmkdommaa
open Go.RowKit Go.Shelf
attribute [local go_sem] Oper.semAt_some

/-- Behind the call of the iterator's maker. -/
structure JE (w0 : World) (g6 : Nat) (A : Option Addr) (n c : Nat) (h : Int) (x y : Fa) (W : World) : Prop where
  bw : Below w0.heap.size w0 W
  r4 : Rb W w0.heap.size
  f6 : Bq W g6 x
  f7 : Bq W (g6 + 1) y
  o6 : Fo W x (some 1)
  o7 : Fo W y (some 2)
  i0 : Cb W (g6 + 1 + 1) [.slice A n c]
  i1 : Cb W (g6 + 1 + 1 + 1) [.int .i64 h]
  sz : W.heap.size = g6 + 4
  od : w0.heap.size < g6
theorem JE.mk0 {w w2 v3 W : World} {A : Option Addr} {n c : Nat} {h : Int} {x y : Fa} (t0 t1 t2 : TypeId) (hv : v3 = (w2.alloc (.cells #[.slice x.A x.n x.c, .slice x.B x.m x.d] t1)).alloc (.cells #[.slice y.A y.n y.c, .slice y.B y.m y.d] t2))
    (hb2 : Below (w.alloc (.cells #[.slice none 0 0, .slice none 0 0] t0)).heap.size (w.alloc (.cells #[.slice none 0 0, .slice none 0 0] t0)) w2) (h1 : Fo w2 x (some 1)) (h2 : Fo w2 y (some 2))
    (c0 : Cb W (w2.heap.size + 1 + 1) [.slice A n c]) (c1 : Cb W (w2.heap.size + 1 + 1 + 1) [.int .i64 h]) (hz : W.heap.size = v3.heap.size + 2) (hb : Below v3.heap.size v3 W) : JE w w2.heap.size A n c h x y W := by
  have hb0 : Below w.heap.size w (w.alloc (.cells #[.slice none 0 0, .slice none 0 0] t0)) := (Below.refl _ _).alloc (Nat.le_refl _) _
  have hbw : Below w.heap.size w w2 := hb0.trans (hb2.mono hb0.size)
  have hb3 : Below w2.heap.size w2 v3 := by rw [hv]; exact ((Below.refl _ _).alloc (Nat.le_refl _) _).alloc (by simp) _
  have h3 : Below w2.heap.size w2 W := hb3.trans (hb.mono hb3.size)
  have hs : v3.heap.size = w2.heap.size + 2 := by rw [hv]; simp
  have hz2 := hb2.size
  simp at hz2
  refine ⟨hbw.trans (h3.mono hbw.size), (Rb.mk0 _ rfl : Rb (w.alloc _) w.heap.size).below (hb2.trans (h3.mono hb2.size)), ?_, ?_, h1.below h3, h2.below h3, c0, c1, by omega, by omega⟩
  · refine Bq.below ?_ hb
    rw [hv]
    exact (Bq.mk0 _ x rfl).alloc _
  · refine Bq.below ?_ hb
    rw [hv]
    exact Bq.mk0 _ y (by simp)
theorem JE.start {w0 W : World} {g6 : Nat} {A : Option Addr} {n c : Nat} {h : Int} {x y : Fa} (j : JE w0 g6 A n c h x y W) (rc : Loop) : JD w0 g6 (g6 + 1) (g6 + 1 + 1) A n c h x y 1 2 W.heap.size rc ((W.alloc (.deferred (some []))).alloc (.loop rc)) := by
  have hb : Below W.heap.size W ((W.alloc (.deferred (some []))).alloc (.loop rc)) := ((Below.refl _ _).alloc (Nat.le_refl _) _).alloc (by simp) _
  refine ⟨j.bw.trans (hb.mono j.bw.size), j.r4.below hb, j.f6.below hb, j.f7.below hb, j.o6.below hb, j.o7.below hb, j.i0.below hb, j.i1.below hb, ?_, ?_, j.od, by omega, by omega, by have := j.sz; omega⟩
  · exact (Below.heap_alloc _ _ _ (by simp)).trans (World.alloc_heap_new W _)
  · have := World.alloc_heap_new (W.alloc (.deferred (some []))) (.loop rc)
    rwa [World.size_alloc] at this
theorem vaof_two (w : World) : Calls Try.prog 31 #[.int .i64 2, .int .i64 1] w fun e w' => Ret1 w (some 2) e w' :=
  vaof_any w 2 1 2 1 rfl rfl (by omega) (by omega) (by omega)
theorem discR_in {bs : List Bool} {h : Nat} (h1 : bs.length ≤ 64) (h2 : 1 ≤ h) (h3 : h ≤ 64) : discR bs (h : Int) = (some (disc h bs), 0) := by
  unfold discR
  rw [if_neg (by omega), if_neg (by omega)]
  rfl
theorem disc_div {bs : List Bool} {h : Nat} (h1 : bs.length ≤ 64) : divR (some (fS h bs bs.length)) (some (wS h bs.length)) = (some (disc h bs), 0) := by
  have hw := wS_pos h bs.length
  show (if wS h bs.length = 0 then (none, 4) else limR (fS h bs bs.length / wS h bs.length)) = _
  rw [if_neg (by intro e; rw [e] at hw; exact absurd hw (by decide +kernel))]
  exact limR_fit (disc_fits h1)
theorem nb_def {W : World} {g : Nat} {o : Option (List Deferred)} (h : W.heap[g]? = some (.deferred o)) : NB W g := by
  intro j x hc
  simp [World.cell?, h] at hc
theorem JD.fin {w0 : World} {g6 g7 B : Nat} {A : Option Addr} {n c : Nat} {h : Int} {x y q : Fa} {X Y r : Rat} {D : Nat} {rc : Loop} {W : World} (j : JD w0 g6 g7 B A n c h x y X Y D rc W) (ho : Fo W q (some r)) (o : Obj) :
    ((W.setCell ⟨w0.heap.size, 0, none⟩ (.slice q.A q.n q.c)).setCell ⟨w0.heap.size, 1, none⟩ (.slice q.B q.m q.d)).heap[D]? = some (.deferred (some [])) ∧
    (((W.setCell ⟨w0.heap.size, 0, none⟩ (.slice q.A q.n q.c)).setCell ⟨w0.heap.size, 1, none⟩ (.slice q.B q.m q.d)).putObj D o).cell? ⟨w0.heap.size, 0, none⟩ = some (.slice q.A q.n q.c) ∧
    (((W.setCell ⟨w0.heap.size, 0, none⟩ (.slice q.A q.n q.c)).setCell ⟨w0.heap.size, 1, none⟩ (.slice q.B q.m q.d)).putObj D o).cell? ⟨w0.heap.size, 1, none⟩ = some (.slice q.B q.m q.d) ∧
    Fo (((W.setCell ⟨w0.heap.size, 0, none⟩ (.slice q.A q.n q.c)).setCell ⟨w0.heap.size, 1, none⟩ (.slice q.B q.m q.d)).putObj D o) q (some r) ∧
    Below w0.heap.size w0 (((W.setCell ⟨w0.heap.size, 0, none⟩ (.slice q.A q.n q.c)).setCell ⟨w0.heap.size, 1, none⟩ (.slice q.B q.m q.d)).putObj D o) := by
  obtain ⟨h1, h2, h3, h4⟩ := j.od
  have hf := fr_fill (w := W) (g := w0.heap.size) (.slice q.A q.n q.c) (.slice q.B q.m q.d)
  have hd : ((W.setCell ⟨w0.heap.size, 0, none⟩ (.slice q.A q.n q.c)).setCell ⟨w0.heap.size, 1, none⟩ (.slice q.B q.m q.d)).heap[D]? = some (.deferred (some [])) := (hf.block _ (Array.getElem?_eq_some_iff.1 j.df).1 (by omega)).trans j.df
  have hg := fr_putObj ((W.setCell ⟨w0.heap.size, 0, none⟩ (.slice q.A q.n q.c)).setCell ⟨w0.heap.size, 1, none⟩ (.slice q.B q.m q.d)) D o
  have hq := (j.r4.bq.fill q).one hg (by omega)
  exact ⟨hd, hq.c0, hq.c1, (ho.one hf j.r4.nb).one hg (nb_def hd), bw_one (bw_one j.bw hf (Nat.le_refl _)) hg (by omega)⟩
theorem fS_t {h k : Nat} {bs : List Bool} (hf : bs[bs.length - 1 - k]? = some true) : fS h bs k + hp (k / h) = fS h bs (k + 1) := by
  conv => rhs; unfold fS
  rw [if_pos hf]
theorem fS_f {h k : Nat} {bs : List Bool} (hf : bs[bs.length - 1 - k]? = some false) : fS h bs k = fS h bs (k + 1) := by
  conv => rhs; unfold fS
  rw [if_neg (by rw [hf]; simp), Rat.add_zero]
set_option maxRecDepth 100000 in
set_option maxHeartbeats 8000000 in
theorem vadisc_ok (w : World) (A : Option Addr) (n c h : Nat) (bs : List Bool) (hR : Rs w none 1 bv A bs) (hl : bs.length = n) (hn : n ≤ 64) (hh : 1 ≤ h) (hh2 : h ≤ 64) :
    Calls Try.prog 16 #[.slice A n c, .int .i64 (h : Int)] w fun e w' => Ret w (some (disc h bs), 0) e w' := by
  refine (callsIn_wide (n := 5)).1 ?_
  refine callsIn_of_wp_marks Try.func16 rfl trivial ?_ rfl
  simp only [Try.ntmps16, List.size_toArray, List.length_cons, List.length_nil, Nat.reduceAdd, Nat.reduceSub, Array.replicate_succ, Array.replicate_zero, List.push_toArray, List.append_toArray, List.nil_append, List.cons_append]
  have HR := hide hR
  have HL := hide hl
  have HD := hide (disc_div (h := h) (bs := bs) (by omega))
  rw [hl] at HD
  clear hR hl
  have q0 : decide (64 < (n : Int)) = false := decide_eq_false (by omega)
  have q1 : decide (64 < n) = false := decide_eq_false (by omega)
  have q2 : decide ((h : Int) < 1) = false := decide_eq_false (by omega)
  have q3 : decide (h < 1) = false := decide_eq_false (by omega)
  have q4 : decide (64 < (h : Int)) = false := decide_eq_false (by omega)
  have q5 : decide (64 < h) = false := decide_eq_false (by omega)
  have q6 : ((h : Int) == 0) = false := by simp; omega
  gi_wp2_with (first
    | (refine ⟨trivial, ?_⟩; gi_at_call 31; (with_reducible refine (callsIn_wide.2 (vaof_one _)).mono ?_); rintro e w1 ⟨f1, rfl, ho, hb⟩; have HO1 := hide ho; have HB1 := hide hb; clear ho hb)
    | (refine ⟨trivial, ?_⟩; gi_at_call 31; (with_reducible refine (callsIn_wide.2 (vaof_two _)).mono ?_); rintro e w2 ⟨f2, rfl, ho, hb⟩; have HO2 := hide ho; have HB2 := hide hb; clear ho hb)
    | (refine ⟨trivial, ?_⟩; gi_at_call 35; refine (callsIn_wide.2 (vawts_at _ (w2.heap.size + 1 + 1) (by simp) _ _ _ _)).mono ?_; rintro e w3 ⟨rfl, hc0, hc1, hz, hb⟩; have HP := hide (JE.mk0 _ _ _ rfl (HB1.out.trans (HB2.out.mono HB1.out.size)) (HO1.out.below HB2.out) HO2.out hc0 hc1 hz hb); clear hc0 hc1 hz hb))
  clear HO1 HO2 HB1 HB2
  obtain ⟨G, hG⟩ : ∃ G, G = w2.heap.size := ⟨_, rfl⟩
  rw [← hG] at HP ⊢
  clear hG q0 q1 q2 q3 q4 q5
  refine rf_law (gf := 58) (lb := #[.pointer (some ⟨G + 1 + 1, 0, none⟩), .pointer (some ⟨G + 1 + 1 + 1, 0, none⟩)]) rfl rfl (enters_of Try.func58 (by kernel_rfl) rfl) ?_
  intro fn rc hr1 hr2 hy
  refine (vawts1_any w G (G + 1) (G + 1 + 1) w3.heap.size rc A n c h bs HR.out HL.out hn hh hh2 _ ⟨_, _, HP.out.start rc⟩ ?hY).mono ?behind
  case behind =>
    rintro e W2 ⟨⟨v, rfl⟩, x, y, j⟩
    have HE : (Instr.endLoop (w3.heap.size + 1)).run Try.prog W2 = .ok none (W2.putObj (w3.heap.size + 1) (.loop { rc with state := .exhausted })) := by rw [run_endLoop j.lo (by rw [hr1]; simp), hr2]
    refine ⟨none, _, HE, ?_⟩
    have HX := hide (j.put { rc with state := .exhausted })
    clear HE
    revert HX
    generalize World.putObj W2 _ _ = W4
    intro HX
    obtain ⟨x0, x1, -, xz, -⟩ := HX.out.f6
    obtain ⟨y0, y1, -, yz, -⟩ := HX.out.f7
    obtain ⟨r0, r1, rf, rz, -⟩ := HX.out.r4
    clear j hy HP HR
    dsimp only
    gi_wp2_with (refine ⟨trivial, ?_⟩; gi_at_call 37; (with_reducible refine (callsIn_wide.2 (fdiv_o _ x y _ _ HX.out.o6 HX.out.o7)).mono ?_); rintro e w5 ⟨q, rfl, ho, hb⟩; rw [HD.out] at ho ⊢; have HO := hide ho; have HX5 := hide (HX.out.below hb); obtain ⟨s0, s1, sf, sz, -⟩ := HX5.out.r4; clear ho hb)
    have HX6 := hide (HX5.out.fin HO.out (.deferred none))
    clear r0 r1 rf rz x0 x1 xz y0 y1 yz s0 s1 sf sz HX HX5
    obtain ⟨z1, z2, z3, z4, z5⟩ := HX6.out
    refine ⟨by simp, .inl ⟨_, _, rfl, run_takeDeferred z1, ?_⟩⟩
    exact ⟨.tuple #[.agg #[.slice q.A q.n q.c, .slice q.B q.m q.d], .int .i64 0], by simp [results, Try.results16, go_sem, z2, z3], q, rfl, z4, z5⟩
  case hY =>
    intro k f q W hkn hf hJ hO
    obtain ⟨x, y, j⟩ := hJ
    refine ⟨fn, _, _, _, hy W _ j.lo rfl, roundIn_of_wpIn trivial ?_⟩
    clear hy
    have HF := hide (show bs[bs.length - 1 - k]? = some f by rw [HL.out]; exact hf)
    have HO := hide hO
    have HJ := hide j
    clear hf hO j
    dsimp only
    gi_wp2
    have HJa := hide (HJ.out.below ((Below.refl _ _).alloc (Nat.le_refl _) _ : Below W.heap.size W (W.alloc (.cells #[.slice q.A q.n q.c, .slice q.B q.m q.d] 36))))
    have hD1 : w3.heap.size + 1 < W.heap.size := (Array.getElem?_eq_some_iff.1 HJ.out.lo).1
    refine ⟨_, run_beginRound HJa.out.lo hr1, ?_⟩
    have HV := hide (HJa.out.put { rc with state := .busy })
    have HB := hide (Bq.one (Bq.mk0 (w := W) 36 q rfl) (fr_putObj _ (w3.heap.size + 1) (.loop { rc with state := .busy })) (by omega))
    have HQ := hide ((HO.out.alloc (.cells #[.slice q.A q.n q.c, .slice q.B q.m q.d] 36)).one (fr_putObj _ (w3.heap.size + 1) (.loop { rc with state := .busy })) (nb_loop HJa.out.lo))
    have hGX : G + 1 < W.heap.size := by have := HJ.out.od; omega
    obtain ⟨X, hX⟩ : ∃ X, X = W.heap.size := ⟨_, rfl⟩
    rw [← hX] at HB hGX ⊢
    revert HV HB HQ
    generalize World.putObj (W.alloc _) _ _ = V
    intro HV HQ HB
    clear hX hD1 HJa HJ HO
    obtain ⟨x0, x1, xf, xz, -⟩ := HV.out.f6
    obtain ⟨y0, y1, yf, yz, -⟩ := HV.out.f7
    obtain ⟨b0, b1, -, bz, -⟩ := HB.out
    have HC7 := hide (fadd_ok V y q _ _ HV.out.o7 HQ.out (wS_fits (h := h) (k := k + 1) (by omega)))
    cases f
    · have HFS := hide (fS_f (h := h) HF.out)
      gi_wp2_with (refine ⟨trivial, ?_⟩; gi_at_call 36; (with_reducible refine (CallsIn.inRound (w3.heap.size + 1) (callsIn_wide.2 HC7.out)).mono ?_); rintro e w5 ⟨c7, rfl, ho, hb⟩; have HO7 := hide ho; have HV5 := hide (HV.out.below hb); obtain ⟨t0, t1, tf, tz, -⟩ := HV5.out.f7; clear ho hb)
      refine JD.post (HV5.out.set7 HO7.out) hr1 hr2 (fun w' hw => ⟨rfl, x, c7, ?_⟩)
      rw [← HFS.out]
      exact hw
    · have HFS := hide (fS_t (h := h) HF.out)
      have HFT := hide (fS_fits (h := h) (bs := bs) (k := k + 1) (by omega))
      gi_wp2_with (first
        | (refine ⟨trivial, ?_⟩; gi_at_call 36; (with_reducible refine (CallsIn.inRound (w3.heap.size + 1) (callsIn_wide.2 HC7.out)).mono ?_); rintro e w5 ⟨c7, rfl, ho, hb⟩; have HO7 := hide ho; have HV5 := hide (HV.out.below hb); have HB5 := hide (HB.out.below hb); have HQ5 := hide (HQ.out.below hb); have HV6 := hide (HV5.out.set7 HO7.out); obtain ⟨t0, t1, tf, tz, -⟩ := HV5.out.f7; obtain ⟨m0, m1, mf, mz, -⟩ := HV5.out.f6; obtain ⟨p0, p1, -, pz, -⟩ := HB5.out; clear ho hb)
        | (refine ⟨trivial, ?_⟩; gi_at_call 36; (with_reducible refine (CallsIn.inRound (w3.heap.size + 1) (callsIn_wide.2 (fadd_ok _ x q _ _ HV6.out.o6 (HQ5.out.one (fr_fill _ _) HV5.out.f7.nb) (by rw [HFS.out]; exact HFT.out)))).mono ?_); rintro e w7 ⟨c6, rfl, ho, hb⟩; have HO6 := hide ho; have HV7 := hide (HV6.out.below hb); obtain ⟨u0, u1, uf, uz, -⟩ := HV7.out.f6; clear ho hb))
      refine JD.post (HV7.out.set6 HO6.out) hr1 hr2 (fun w' hw => ⟨rfl, c6, c7, ?_⟩)
      rw [← HFS.out]
      exact hw
end Go.Proofs.Ytnofljgmkdommaa

/- Contract: Discounted of any arguments. -/
namespace Go.Proofs.Ytnofljgmkdommaa
open Go.RowKit Go.Shelf
attribute [local go_sem] Oper.semAt_some

set_option maxRecDepth 100000 in
set_option maxHeartbeats 8000000 in
theorem vadisc_big (w : World) (A : Option Addr) (n c : Nat) (half : Int) (hn : 64 < n) :
    Calls Try.prog 16 #[.slice A n c, .int .i64 half] w fun e w' => Ret w (none, 2) e w' := by
  refine (callsIn_wide (n := 5)).1 ?_
  refine callsIn_of_wp_marks Try.func16 rfl trivial ?_ rfl
  simp only [Try.ntmps16, List.size_toArray, List.length_cons, List.length_nil, Nat.reduceAdd, Nat.reduceSub, Array.replicate_succ, Array.replicate_zero, List.push_toArray, List.append_toArray, List.nil_append, List.cons_append]
  skip
  gi_wp2
  have HZ := hide (Rb.mk0 (w := w) 36 rfl)
  have HB := hide (show Below w.heap.size w (w.alloc (.cells #[.slice none 0 0, .slice none 0 0] 36)) from (Below.refl _ _).alloc (Nat.le_refl _) _)
  exact ⟨.tuple #[.agg #[.slice fa0.A fa0.n fa0.c, .slice fa0.B fa0.m fa0.d], .int .i64 2], by simp [results, Try.results16, go_sem], fa0, rfl, Fo.nil _, HB.out⟩
set_option maxRecDepth 100000 in
set_option maxHeartbeats 8000000 in
theorem vadisc_lo (w : World) (A : Option Addr) (n c : Nat) (half : Int) (hn : n ≤ 64) (hh : half < 1) :
    Calls Try.prog 16 #[.slice A n c, .int .i64 half] w fun e w' => Ret w (none, 3) e w' := by
  have q0 : decide (64 < (n : Int)) = false := decide_eq_false (by omega)
  have q1 : decide (64 < n) = false := decide_eq_false (by omega)
  have q2 : decide (half < 1) = true := decide_eq_true hh
  refine (callsIn_wide (n := 5)).1 ?_
  refine callsIn_of_wp_marks Try.func16 rfl trivial ?_ rfl
  simp only [Try.ntmps16, List.size_toArray, List.length_cons, List.length_nil, Nat.reduceAdd, Nat.reduceSub, Array.replicate_succ, Array.replicate_zero, List.push_toArray, List.append_toArray, List.nil_append, List.cons_append]
  skip
  gi_wp2
  have HZ := hide (Rb.mk0 (w := w) 36 rfl)
  have HB := hide (show Below w.heap.size w (w.alloc (.cells #[.slice none 0 0, .slice none 0 0] 36)) from (Below.refl _ _).alloc (Nat.le_refl _) _)
  exact ⟨.tuple #[.agg #[.slice fa0.A fa0.n fa0.c, .slice fa0.B fa0.m fa0.d], .int .i64 3], by simp [results, Try.results16, go_sem], fa0, rfl, Fo.nil _, HB.out⟩
set_option maxRecDepth 100000 in
set_option maxHeartbeats 8000000 in
theorem vadisc_hi (w : World) (A : Option Addr) (n c : Nat) (half : Int) (hn : n ≤ 64) (hh : 64 < half) :
    Calls Try.prog 16 #[.slice A n c, .int .i64 half] w fun e w' => Ret w (none, 3) e w' := by
  have q0 : decide (64 < (n : Int)) = false := decide_eq_false (by omega)
  have q1 : decide (64 < n) = false := decide_eq_false (by omega)
  have q2 : decide (half < 1) = false := decide_eq_false (by omega)
  have q3 : decide (64 < half) = true := decide_eq_true hh
  refine (callsIn_wide (n := 5)).1 ?_
  refine callsIn_of_wp_marks Try.func16 rfl trivial ?_ rfl
  simp only [Try.ntmps16, List.size_toArray, List.length_cons, List.length_nil, Nat.reduceAdd, Nat.reduceSub, Array.replicate_succ, Array.replicate_zero, List.push_toArray, List.append_toArray, List.nil_append, List.cons_append]
  skip
  gi_wp2
  have HZ := hide (Rb.mk0 (w := w) 36 rfl)
  have HB := hide (show Below w.heap.size w (w.alloc (.cells #[.slice none 0 0, .slice none 0 0] 36)) from (Below.refl _ _).alloc (Nat.le_refl _) _)
  exact ⟨.tuple #[.agg #[.slice fa0.A fa0.n fa0.c, .slice fa0.B fa0.m fa0.d], .int .i64 3], by simp [results, Try.results16, go_sem], fa0, rfl, Fo.nil _, HB.out⟩
theorem vadisc_any (w : World) (A : Option Addr) (n c : Nat) (half : Int) (bs : List Bool) (hR : Rs w none 1 bv A bs) (hl : bs.length = n) :
    Calls Try.prog 16 #[.slice A n c, .int .i64 half] w fun e w' => Ret w (discR bs half) e w' := by
  by_cases h1 : 64 < n
  · rw [show discR bs half = (none, 2) by unfold discR; rw [if_pos (by omega)]]
    exact vadisc_big w A n c half h1
  · by_cases h2 : half < 1
    · rw [show discR bs half = (none, 3) by unfold discR; rw [if_neg (by omega), if_pos (.inl h2)]]
      exact vadisc_lo w A n c half (by omega) h2
    · by_cases h3 : 64 < half
      · rw [show discR bs half = (none, 3) by unfold discR; rw [if_neg (by omega), if_pos (.inr h3)]]
        exact vadisc_hi w A n c half (by omega) h3
      · obtain ⟨h, rfl⟩ : ∃ h : Nat, half = (h : Int) := ⟨half.toNat, by omega⟩
        rw [discR_in (by omega) (by omega) (by omega)]
        exact vadisc_ok w A n c h bs hR hl (by omega) (by omega) (by omega)
end Go.Proofs.Ytnofljgmkdommaa
