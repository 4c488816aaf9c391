/- The walk of the law SequentialFirst. -/
import Derived.Test.YtnokfhkcfebimaaG23
import Derived.Test.YtnokfhkcfebimaaG26
import Derived.SizedLaws
import Derived.Test.YtnokfhkcfebimaaG24
set_option linter.unusedVariables false
set_option linter.unusedSimpArgs false

/- Plain laws of runs of outcomes for the law SequentialFirst; rows of bools that grow by a row. -/
namespace Go.Proofs.Ytnokfhkcfebimaa
open Go.RowKit

theorem runR_stop {d : Nat → Nat → Int} {p f : Nat} (h : d p f ≠ 0) : ∀ l, runR d l p f = (d p f, p, f)
  | [] => rfl
  | b :: t => by rw [runR, if_pos h]
theorem runR_go {d : Nat → Nat → Int} {p f : Nat} (h : d p f = 0) (b : Bool) (t : List Bool) : runR d (b :: t) p f = if b then runR d t p (f + 1) else runR d t (p + 1) f := by
  rw [runR, if_neg (fun h' => h' h)]
theorem runR_ge (d : Nat → Nat → Int) : ∀ (l : List Bool) (p f : Nat), p + f ≤ (runR d l p f).2.1 + (runR d l p f).2.2
  | [], _, _ => Nat.le_refl _
  | b :: t, p, f => by
    by_cases h : d p f = 0
    · rw [runR_go h]
      cases b
      · have := runR_ge d t (p + 1) f; simp only [Bool.false_eq_true, if_false]; omega
      · have := runR_ge d t p (f + 1); simp only [if_true]; omega
    · rw [runR_stop h]; exact Nat.le_refl _
theorem runR_le (d : Nat → Nat → Int) : ∀ (l : List Bool) (p f : Nat), (runR d l p f).2.1 + (runR d l p f).2.2 ≤ p + f + l.length
  | [], _, _ => Nat.le_refl _
  | b :: t, p, f => by
    by_cases h : d p f = 0
    · rw [runR_go h]
      cases b
      · have := runR_le d t (p + 1) f; simp only [Bool.false_eq_true, if_false, List.length_cons]; omega
      · have := runR_le d t p (f + 1); simp only [if_true, List.length_cons]; omega
    · rw [runR_stop h]; show p + f ≤ _; omega
theorem runR_app (d : Nat → Nat → Int) : ∀ (l m : List Bool) (p f : Nat), (runR d l p f).1 ≠ 0 → runR d (l ++ m) p f = runR d l p f
  | [], m, p, f, h => runR_stop h m
  | b :: t, m, p, f, h => by
    by_cases h0 : d p f = 0
    · rw [runR_go h0] at h ⊢
      rw [List.cons_append, runR_go h0]
      cases b
      · exact runR_app d t m (p + 1) f h
      · exact runR_app d t m p (f + 1) h
    · rw [runR_stop h0, runR_stop h0]
theorem runR_app_ge (d : Nat → Nat → Int) : ∀ (l m : List Bool) (p f : Nat), (runR d l p f).2.1 + (runR d l p f).2.2 ≤ (runR d (l ++ m) p f).2.1 + (runR d (l ++ m) p f).2.2
  | [], m, p, f => runR_ge d m p f
  | b :: t, m, p, f => by
    by_cases h0 : d p f = 0
    · rw [List.cons_append, runR_go h0, runR_go h0]
      cases b
      · exact runR_app_ge d t m (p + 1) f
      · exact runR_app_ge d t m p (f + 1)
    · rw [runR_stop h0, runR_stop h0]; exact Nat.le_refl _
theorem cutL_eq (outs : List Bool) (M : Nat) : cutL outs M = outs.take M := by
  unfold cutL
  rcases Nat.le_total outs.length M with h | h
  · rw [Nat.min_eq_left h, List.take_of_length_le (Nat.le_refl _), List.take_of_length_le h]
  · rw [Nat.min_eq_right h]
theorem cutL_app (outs more : List Bool) (M : Nat) : cutL (outs ++ more) M = cutL outs M ++ more.take (M - outs.length) := by
  rw [cutL_eq, cutL_eq, List.take_append]
/-- In the middle of a run: what comes next. -/
theorem run_mid {d : Nat → Nat → Int} {outs : List Bool} {M p f P F : Nat} {D : Int} (h : runR d ((cutL outs M).drop (p + f)) p f = (D, P, F)) (hlt : p + f < P + F) :
    d p f = 0 ∧ ∃ b, outs[p + f]? = some b ∧ runR d ((cutL outs M).drop (p + f + 1)) (if b then p else p + 1) (if b then f + 1 else f) = (D, P, F) := by
  have h0 : d p f = 0 := by
    by_cases h0 : d p f = 0
    · exact h0
    · rw [runR_stop h0] at h
      injection h with _ h
      injection h with h1 h2
      omega
  refine ⟨h0, ?_⟩
  cases hc : (cutL outs M).drop (p + f) with
  | nil =>
    rw [hc] at h
    injection h with _ h
    injection h with h1 h2
    omega
  | cons b t =>
    have e1 : (cutL outs M)[p + f]? = some b := by
      have := List.getElem?_drop (xs := cutL outs M) (i := p + f) (j := 0)
      rw [hc] at this
      simpa using this.symm
    have e2 : (cutL outs M).drop (p + f + 1) = t := by
      rw [← List.drop_drop, hc]; rfl
    refine ⟨b, ?_, ?_⟩
    · rw [cutL_eq, List.getElem?_take] at e1
      split at e1
      · exact e1
      · simp at e1
    · rw [hc, runR_go h0] at h
      rw [e2]
      cases b
      · simpa using h
      · simpa using h
theorem run_end {d : Nat → Nat → Int} {l : List Bool} {p f P F : Nat} {D : Int} (h : runR d l p f = (D, P, F)) (he : p + f = P + F) : d p f = D := by
  cases l with
  | nil => injection h
  | cons b t =>
    by_cases h0 : d p f = 0
    · exfalso
      rw [runR_go h0] at h
      have e1 : P = (P, F).1 := rfl
      cases b
      · have := runR_ge d t (p + 1) f
        simp only [Bool.false_eq_true, if_false] at h
        rw [h] at this
        dsimp only at this
        omega
      · have := runR_ge d t p (f + 1)
        simp only [if_true] at h
        rw [h] at this
        dsimp only at this
        omega
    · rw [runR_stop h0] at h
      injection h
theorem run_more {d : Nat → Nat → Int} {outs more : List Bool} {M P F p2 f2 : Nat} {D D2 : Int} (h : (D, P, F) = runR d (cutL outs M) 0 0) (h2 : (D2, p2, f2) = runR d (cutL (outs ++ more) M) 0 0) :
    P + F ≤ p2 + f2 ∧ (D ≠ 0 → D2 = D ∧ p2 + f2 = P + F) := by
  rw [cutL_app] at h2
  refine ⟨?_, fun hD => ?_⟩
  · have := runR_app_ge d (cutL outs M) (more.take (M - outs.length)) 0 0
    rw [← h, ← h2] at this
    exact this
  · have := runR_app d (cutL outs M) (more.take (M - outs.length)) 0 0 (by rw [← h]; exact hD)
    rw [← h2, ← h] at this
    injection this with h3 h4
    injection h4 with h5 h6
    exact ⟨h3, by rw [h5, h6]⟩
theorem OBl.nil' {w0 w : World} (h : Fr w0 w (fun _ => False)) : OBl w0 w none 0 0 [] := ⟨World.ownsRow_nil _ _ _ _, rfl, h⟩
theorem OBl.bw {w0 w : World} {A : Option Addr} {m c : Nat} {l : List Bool} (h : OBl w0 w A m c l) : Below w0.heap.size w0 w := h.fr.below (Nat.le_refl _) (fun _ _ h => h)
theorem OBl.drew {w0 w : World} {A : Option Addr} {m c : Nat} {l : List Bool} (h : OBl w0 w A m c l) : OBl w0 w.drew A m c l := ⟨h.own.kept (grown_of_below (Below.refl _ _).drew none) (Classical.em _), h.len, h.fr.drew⟩
theorem OBl.cap63 {w0 w : World} {A : Option Addr} {m c : Nat} {l : List Bool} (h : OBl w0 w A m c l) : c ≤ 9223372036854775807 := by
  rcases h.own.2 with ⟨h1, _⟩ | ⟨g', cap, cur, hv, _, _, _, hc, _⟩
  · injection h1 with _ _ h3
    omega
  · injection hv with _ _ h3
    rw [h3]; simpa [maxLen] using hc
theorem FS.c9 {w0 v : World} {g : Nat} {s : Sv} (h : FS w0 v g s) : v.cell? ⟨g, 0, none⟩ = some (.slice s.l.A s.l.n s.l.c) ∧ v.cell? ⟨g, 1, none⟩ = some (.slice s.l.B s.l.m s.l.d) ∧ v.cell? ⟨g, 2, none⟩ = some (.slice s.h.A s.h.n s.h.c) ∧ v.cell? ⟨g, 3, none⟩ = some (.slice s.h.B s.h.m s.h.d) ∧ v.cell? ⟨g, 4, none⟩ = some (.slice s.a.A s.a.n s.a.c) ∧ v.cell? ⟨g, 5, none⟩ = some (.slice s.a.B s.a.m s.a.d) ∧ v.cell? ⟨g, 6, none⟩ = some (.slice s.b.A s.b.n s.b.c) ∧ v.cell? ⟨g, 7, none⟩ = some (.slice s.b.B s.b.m s.b.d) ∧ v.cell? ⟨g, 8, none⟩ = some (.int .i64 s.m) :=
  ⟨h.cb.cell 0 _ rfl, h.cb.cell 1 _ rfl, h.cb.cell 2 _ rfl, h.cb.cell 3 _ rfl, h.cb.cell 4 _ rfl, h.cb.cell 5 _ rfl, h.cb.cell 6 _ rfl, h.cb.cell 7 _ rfl, h.cb.cell 8 _ rfl⟩
theorem step_app_bools {w0 w : World} {ops : Array Oper} {o : Oper} {a : Act} {K : Act → World → Prop} {Q : Exit → Act → World → Prop} {E : Prop} (hgd : o.guard = none) (s x : Operand) (t : TypeId) (ht : Try.prog.underlying t = some (.slice 4))
    (ho : o.op = .call { callee := .builtin .append, args := #[s, x], argTypes := #[t, t] })
    (A : Option Addr) (m c : Nat) (l : List Bool) (B : Option Addr) (k d : Nat) (M : List Bool) (hs : a.eval s = .slice A m c) (hx : a.eval x = .slice B k d) (hO : OBl w0 w A m c l) (hR : Rs w none 1 bv B M) (hM : M.length = k) (h63 : m + k ≤ 4294967296)
    (h : ∀ A' c' w', OBl w0 w' A' (m + k) c' (l ++ M) → K (a.put o.dst (.slice A' (m + k) c')) w') :
    if Region.wanted o (yielded ops a.tmps) = true then Oper.wp Try.prog o a w K Q else E := by
  refine step_append _ hgd s x t ho w0.heap.size 4 _ 1 1 ht info4 rfl (by omega) (.slice A m c) m l hs hO.own B k d M hx hR hM bv_len bv_one h63 (by omega) hO.fr.size ?_
  intro A' c' w' hown hgr _
  refine h A' c' w' ⟨hown, by simp [hO.len, hM], hO.fr.grown hgr ?_⟩
  intro g hg
  left
  rcases hO.own.2 with ⟨h1, _⟩ | ⟨g', cap, cur, hv, hb, _⟩
  · rw [h1] at hg; simp [Value.ownBlock] at hg
  · rw [hv] at hg
    simp [Value.ownBlock] at hg
    omega
end Go.Proofs.Ytnokfhkcfebimaa

/- How long a row is that came in: its bytes are within the form's reach. -/
namespace Go.Proofs.Ytnokfhkcfebimaa
open Go.RowKit Go.WideShapes Go.Deep

section
variable {H : Type} {enc : TypeId × Value → H} {w : World} {base : Nat} {spare : Nat → Bool} {held : Bool}
theorem came_len {t e : TypeId} (ht : Try.prog.underlying t = some (.slice e)) {fuel : Nat} {A : Option Addr} {n c : Nat} {x : DataW H × List MemPlace} (h : DataW.trod enc Try.prog w base spare held fuel t [.slice A n c] = some x) :
    n = 0 ∨ ∃ el sp, x.1 = .slice el sp ∧ el.length = n := by
  rcases open_slice ht h with ⟨h2, -⟩ | ⟨a, len, cap, mm, nn, D, Pl, h2, -, h4, h5, h6, h7, -⟩
  · left
    simp at h2
    exact h2.2.1
  · right
    simp at h2
    refine ⟨_, _, by rw [h7], ?_⟩
    rw [List.length_map, List.length_range, h2.2.1]
theorem bytes_tBool : Try.prog.bytesOf 4 = 1 := by kernel_rfl
theorem sized_bools {ts : List TypeId} {ds : List (DataW H)} (h : (DataW.weightsEach Try.prog ts ds).all (· ≤ reachBytes) = true) {j : Nat} (ht : ts[j]? = some 47) {fuel : Nat} {A : Option Addr} {n c : Nat} {x : DataW H × List MemPlace} (hd : ds[j]? = some x.1)
    (hf : DataW.trod enc Try.prog w base spare held fuel 47 [.slice A n c] = some x) : n ≤ 140737488355328 := by
  rcases came_len Try.underlying47 hf with rfl | ⟨el, sp, h1, h2⟩
  · omega
  · rw [h1] at hd
    have h3 := sized_slice h ht hd Try.underlying47
    rw [bytes_tBool] at h3
    have h4 := reachBytes_lt
    omega
end
end Go.Proofs.Ytnokfhkcfebimaa

/- The walk of the law SequentialFirst. -/
namespace Go.Proofs.Ytnokfhkcfebimaa
open Go.RowKit

set_option maxRecDepth 100000 in
set_option maxHeartbeats 16000000 in
theorem first_walk (w : World) (A : Option Addr) (n c : Nat) (l : List Int) (O : Option Addr) (on oc : Nat) (outs : List Bool) (B : Option Addr) (bn bc : Nat) (more : List Bool) (hA : Rs w none 1 iv A l) (hl : l.length = n)
    (hO : Rs w none 1 bv O outs) (hol : outs.length = on) (hoc : on ≤ oc) (hoc2 : oc ≤ 9223372036854775807) (hB : Rs w none 1 bv B more) (hbl : more.length = bn) (hon : on ≤ 140737488355328) (hbn : bn ≤ 140737488355328) :
    Calls Try.prog 6 #[.slice A n c, .slice O on oc, .slice B bn bc] w fun e w' => e = .returned (.bool true) ∧ Below w.heap.size w w' := by
  by_cases hbo : 100 < on + bn
  · have d2 : decide ((100 : Int) < (on : Int) + (bn : Int)) = true := decide_eq_true (by omega)
    clear hA hO hB
    go_enter Try.func6, Try.ntmps6
    go_wp2_with (go_at_call 24; (with_reducible refine (yknown_any _).mono ?_); rintro e w9 ⟨rfl, hb⟩; have HB9 := hide hb; clear hb)
    go_ret
    exact ⟨rfl, HB9.out⟩
  · have d2 : decide ((100 : Int) < (on : Int) + (bn : Int)) = false := decide_eq_false (by omega)
    have hob : on + bn ≤ 100 := by omega
    have HP := hide (tp_new (w := w) (c := c) hA hl 32)
    have HO := hide hO
    have HOL := hide hol
    have HB := hide hB
    have HBL := hide hbl
    clear hA hl hO hol hB hbl hbo hon hbn
    go_enter Try.func6, Try.ntmps6
    go_upto_region 4 with (go_at_call 19; refine (yspec_any _ w.heap.size A n c l 0 32 HP.out (by omega) (by omega) (by omega)).mono ?_; rintro e w1 ⟨s, lo, hi, al, be, M, b, rfl, hq, hk, hM, -, -, hf⟩; have HB1 := hide (fr_new rfl hf); have HQ1 := hide hq; have HK := hide hk; clear hq hk hf)
    generalize hW : World.alloc w1 _ = v
    have HF := hide (show FS w v w1.heap.size s by rw [← hW]; exact ⟨HB1.out.trans (((Below.refl _ _).alloc (Nat.le_refl _) _ : Below w1.heap.size w1 _).mono HB1.out.size), (FS.mk0 HQ1.out _).cb, HQ1.out.alloc _⟩)
    have HO1 := hide (HO.out.below HF.out.bw)
    have HBv := hide (HB.out.below HF.out.bw)
    obtain ⟨g, hg⟩ : ∃ g, g = w1.heap.size := ⟨_, rfl⟩
    rw [← hg] at HF ⊢
    obtain ⟨a0, a1, a2, a3, a4, a5, a6, a7, a8, a9⟩ := HF.out.ca
    clear hW hg
    obtain ⟨T, hT⟩ : ∃ T, T = runR (decQ lo hi al be) (cutL outs M) 0 0 := ⟨_, rfl⟩
    obtain ⟨D, P, F⟩ := T
    have HT := hide hT
    have hle := runR_le (decQ lo hi al be) (cutL outs M) 0 0
    rw [← hT] at hle
    dsimp only at hle
    have hn1 : P + F ≤ on ∧ P + F ≤ M ∧ P + F ≤ 100 := by
      rw [cutL_eq, List.length_take, HOL.out] at hle
      omega
    have hn2 := hn1.1
    have hn3 := hn1.2.1
    have hn4 := hn1.2.2
    have hm := HK.out.m
    have hn5 : ((P : Int) + (F : Int)) ≤ s.m := by omega
    have HM := hide hm
    clear hT hle hn1 hm
    obtain ⟨N, hN⟩ : ∃ N, N = P + F := ⟨_, rfl⟩
    have HN := hide hN
    have g1 : decide ((on : Int) < (N : Int)) = false := decide_eq_false (by omega)
    have g2 : decide (s.m < (N : Int)) = false := decide_eq_false (by omega)
    have hN100 : N ≤ 100 := by omega
    have hNon : N ≤ on := by omega
    clear hN hn2 hn3 hn4 hn5
    go_upto_region 8 with (go_at_call 29; (with_reducible refine (srun_ok _ s lo hi al be M O on oc outs HF.out.q HK.out HO1.out HOL.out hoc hoc2).mono ?_); rintro e w2 ⟨D', p', f', rfl, hr, hb⟩; obtain ⟨rfl, rfl, rfl⟩ : D = D' ∧ P = p' ∧ F = f' := (by have h9 := HT.out.trans hr.symm; simpa using h9); rw [← HN.out]; have HF2 := hide (HF.out.below hb); have HO2 := hide (HO1.out.below hb); have HBw := hide (HBv.out.below hb); obtain ⟨b0, b1, b2, b3, b4, b5, b6, b7, b8, b9⟩ := HF2.out.ca; clear hr hb)
    clear a0 a1 a2 a3 a4 a5 a6 a7 a8 a9 b0 b1 b2 b3 b4 b5 b6 b7 b8 b9
    have HRUN := hide (show (0 : Nat) ≤ N → (0 : Nat) = 0 + 0 ∧ runR (decQ lo hi al be) ((cutL outs M).drop 0) 0 0 = (D, P, F) from fun _ => ⟨rfl, by rw [List.drop_zero]; exact HT.out.symm⟩)
    go_wp2_with fail
    go_loopw [11, 12, 13] (fun pv fv iv wr => ∃ (p f i : Nat), pv = .int .i64 (p : Int) ∧ fv = .int .i64 (f : Int) ∧ iv = .int .i64 (i : Int) ∧ i ≤ N + 1 ∧ Hid (i ≤ N → i = p + f ∧ runR (decQ lo hi al be) ((cutL outs M).drop i) p f = (D, P, F)) ∧ Hid (p ≤ N ∧ f ≤ N) ∧ Hid (Below w2.heap.size w2 wr)) (fun _ _ iv _ => N + 1 - (intOf iv).toNat)
    case atStart => exact ⟨0, 0, 0, rfl, rfl, rfl, by omega, hide (fun h => ⟨rfl, (HRUN.out h).2⟩), hide ⟨by omega, by omega⟩, hide (Below.refl _ _)⟩
    case round =>
      obtain ⟨p, f, i, rfl, rfl, rfl, hii, HI, HPF, HBr⟩ := hrel
      have hpN := HPF.out.1
      have hfN := HPF.out.2
      have HF3 := hide (HF2.out.below HBr.out)
      have HO3 := hide (HO2.out.below HBr.out)
      obtain ⟨a0, a1, a2, a3, a4, a5, a6, a7, a8, a9⟩ := HF3.out.ca
      by_cases hiN : i = N + 1
      · have hle : decide ((i : Int) ≤ (N : Int)) = false := decide_eq_false (by omega)
        have hle2 : (N : Int) < (i : Int) := by omega
        have HB3 := hide (HBw.out.below HBr.out)
        have k0 := HF3.out.c9
        clear hiN
        go_upto_region 18 with (fail)
        go_region_held3 (fun W => W.cell? ⟨g, 0, none⟩ = some (.slice s.l.A s.l.n s.l.c) ∧ W.cell? ⟨g, 1, none⟩ = some (.slice s.l.B s.l.m s.l.d) ∧ W.cell? ⟨g, 2, none⟩ = some (.slice s.h.A s.h.n s.h.c) ∧ W.cell? ⟨g, 3, none⟩ = some (.slice s.h.B s.h.m s.h.d) ∧ W.cell? ⟨g, 4, none⟩ = some (.slice s.a.A s.a.n s.a.c) ∧ W.cell? ⟨g, 5, none⟩ = some (.slice s.a.B s.a.m s.a.d) ∧ W.cell? ⟨g, 6, none⟩ = some (.slice s.b.A s.b.n s.b.c) ∧ W.cell? ⟨g, 7, none⟩ = some (.slice s.b.B s.b.m s.b.d) ∧ W.cell? ⟨g, 8, none⟩ = some (.int .i64 s.m)) (first | with_reducible exact k0 | with_reducible exact k1 | with_reducible exact k2 | with_reducible exact k3 | first | (go_keep; done) | ((try dsimp only); (repeat' apply And.intro) <;> first | (go_keep; done) | ((repeat rw [World.cell?_setCell_other _ _ _ _ (by intro h; injection h; omega)]); go_keep; done))) (first
          | (refine step_app_bools (w0 := wr) rfl _ (.tmp 101) 47 Try.underlying47 rfl none 0 0 [] O on oc outs rfl rfl (by first | exact OBl.nil' (Fr.refl _ _) | exact OBl.nil' (Fr.refl _ _).drew) (by first | exact HO3.out | exact HO3.out.below (Below.refl _ _).drew) HOL.out (by omega) ?_; intro A1 cc1 w3 ho1; rw [Nat.zero_add, List.nil_append] at ho1; have HA1 := hide ho1; have HF4 := hide (HF3.out.below ho1.bw); have HB4 := hide (HB3.out.below ho1.bw); have k1 := HF4.out.c9; clear ho1; rw [Nat.zero_add])
          | (refine step_app_bools (w0 := wr) rfl (.tmp 102) (.tmp 103) 47 Try.underlying47 rfl A1 on cc1 outs B bn bc more rfl rfl (by first | exact HA1.out | exact HA1.out.drew) (by first | exact HB4.out | exact HB4.out.below (Below.refl _ _).drew) HBL.out (by omega) ?_; intro A2 cc2 w4 ho2; have HA2 := hide ho2; have HF5 := hide (HF3.out.below ho2.bw); have k2 := HF5.out.c9; clear ho2)
          | (go_at_call 29; (with_reducible refine (srun_ok _ s lo hi al be M A2 (on + bn) cc2 (outs ++ more) (by first | exact HF5.out.q | exact HF5.out.q.below (Below.refl _ _).drew) HK.out (by first | exact HA2.out.rs | exact HA2.out.drew.rs) (by rw [List.length_append, HOL.out, HBL.out]) HA2.out.cap HA2.out.cap63).mono ?_); rintro e w5 ⟨D2, p2, f2, rfl, hr, hb⟩; have HR2 := hide hr; obtain ⟨N2, hN2⟩ : ∃ x, x = p2 + f2 := ⟨_, rfl⟩; rw [← hN2]; have HN2 := hide hN2; clear hN2; have HF6 := hide ((by first | exact HF5.out.below hb | exact (HF5.out.below (Below.refl _ _).drew).below hb) : FS w w5 g s); have k3 := HF6.out.c9; clear hr hb))
        have hmr := run_more HT.out HR2.out
        have hge2 : decide ((N : Int) ≤ (N2 : Int)) = true := decide_eq_true (by have := HN.out; have := HN2.out; omega)
        have hge3 : (N : Int) ≤ (N2 : Int) := by have := HN.out; have := HN2.out; omega
        clear k0 k1 k2 k3
        by_cases hD0 : D = 0
        · subst hD0
          clear hmr
          go_wp2_with (go_at_call 24; (with_reducible refine (yknown_any _).mono ?_); rintro e w9 ⟨rfl, hb⟩; have HB9 := hide ((by first | exact HF6.out.bw.trans (hb.mono HF6.out.bw.size) | exact HF6.out.bw.drew.trans (hb.mono HF6.out.bw.size)) : Below w.heap.size w w9); clear hb)
          go_ret
          exact ⟨rfl, HB9.out⟩
        · obtain ⟨hd1, hd2⟩ := hmr.2 hD0
          have hd3 : N2 = N := by have := HN.out; have := HN2.out; omega
          subst hd1
          subst hd3
          have x1 : (D2 == 0) = false := by simp [hD0]
          have x2 : decide (D2 = 0) = false := decide_eq_false hD0
          clear hmr hd2 hge2 hge3
          go_wp2_with (go_at_call 24; (with_reducible refine (yknown_any _).mono ?_); rintro e w9 ⟨rfl, hb⟩; have HB9 := hide ((by first | exact HF6.out.bw.trans (hb.mono HF6.out.bw.size) | exact HF6.out.bw.drew.trans (hb.mono HF6.out.bw.size)) : Below w.heap.size w w9); clear hb)
          go_ret
          exact ⟨rfl, HB9.out⟩
      · obtain ⟨hipf, hrun⟩ := HI.out (by omega)
        have HPM := hide (show p + f ≤ M by have := HN.out; have h9 := runR_le (decQ lo hi al be) (cutL outs M) 0 0; rw [← HT.out] at h9; dsimp only at h9; rw [cutL_eq, List.length_take] at h9; omega)
        by_cases hlt : i = N
        · have HD := hide (run_end hrun (by rw [← hipf, hlt]; exact HN.out))
          subst hlt
          clear hrun hipf
          go_wp2_with (go_at_call 23; (with_reducible refine (sdecide_ok _ s lo hi al be M p f HF3.out.q HK.out HPM.out).mono ?_); rintro e w7 ⟨rfl, hb⟩; rw [HD.out]; have HB7 := hide (HBr.out.trans (hb.mono HBr.out.size)); clear hb)
          go_roundw
          case rel => exact ⟨p, f, i + 1, rfl, rfl, by go_num, by omega, hide (fun h => absurd h (by omega)), HPF, HB7⟩
          case measure => simp [intOf]
        · obtain ⟨h0, b1, hb1, hnext⟩ := run_mid (outs := outs) (M := M) (P := P) (F := F) (D := D) (by rw [← hipf]; exact hrun) (by have := HN.out; omega)
          have H0 := hide h0
          have HNX := hide hnext
          have hio : i < outs.length := by have := HOL.out; omega
          obtain ⟨bb, o, hAA, -, hbs, hcell⟩ := bools_at (HO3.out) hio
          subst hAA
          have hbe : outs[i] = b1 := by
            rw [← hipf, List.getElem?_eq_getElem hio] at hb1
            injection hb1
          rw [hbe] at hcell
          have hle : decide ((i : Int) ≤ (N : Int)) = true := decide_eq_true (by omega)
          have hle2 : (i : Int) ≤ (N : Int) := by omega
          have hl1 : decide ((i : Int) < (N : Int)) = true := decide_eq_true (by omega)
          have hl2 : (i : Int) < (N : Int) := by omega
          have hl3 : ¬ ((i : Int) = (N : Int)) := by omega
          have hl4 : ((i : Int) == (N : Int)) = false := by simp [hl3]
          have hi0 : (0 : Int) ≤ (i : Int) := by omega
          have hion : (i : Int) < (on : Int) := by have := HOL.out; omega
          have HIP := hide hipf
          clear h0 hnext hb1 hbe hrun hipf hlt
          cases b1
          · go_wp2_with (go_at_call 23; (with_reducible refine (sdecide_ok _ s lo hi al be M p f HF3.out.q HK.out HPM.out).mono ?_); rintro e w7 ⟨rfl, hb⟩; rw [H0.out]; have HB7 := hide (HBr.out.trans (hb.mono HBr.out.size)); have hc7 : w7.cell? ⟨bb, o + i, none⟩ = some (.bool false) := (by rw [hb.cell (by exact hbs)]; exact hcell); have hz7 : bb < w7.heap.size := Nat.lt_of_lt_of_le hbs hb.size; clear hb)
            go_roundw
            case rel => exact ⟨p + 1, f, i + 1, by go_num, rfl, by go_num, by omega, hide (fun _ => ⟨by have := HIP.out; omega, by have h9 := HNX.out; rw [← HIP.out] at h9; simpa using h9⟩), hide ⟨by have := HIP.out; omega, HPF.out.2⟩, HB7⟩
            case measure => simp [intOf]; omega
          · go_wp2_with (go_at_call 23; (with_reducible refine (sdecide_ok _ s lo hi al be M p f HF3.out.q HK.out HPM.out).mono ?_); rintro e w7 ⟨rfl, hb⟩; rw [H0.out]; have HB7 := hide (HBr.out.trans (hb.mono HBr.out.size)); have hc7 : w7.cell? ⟨bb, o + i, none⟩ = some (.bool true) := (by rw [hb.cell (by exact hbs)]; exact hcell); have hz7 : bb < w7.heap.size := Nat.lt_of_lt_of_le hbs hb.size; clear hb)
            go_roundw
            case rel => exact ⟨p, f + 1, i + 1, rfl, by go_num, by go_num, by omega, hide (fun _ => ⟨by have := HIP.out; omega, by have h9 := HNX.out; rw [← HIP.out] at h9; simpa using h9⟩), hide ⟨HPF.out.1, by have := HIP.out; omega⟩, HB7⟩
            case measure => simp [intOf]; omega
end Go.Proofs.Ytnokfhkcfebimaa
