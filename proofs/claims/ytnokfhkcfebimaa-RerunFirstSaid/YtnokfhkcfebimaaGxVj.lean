/- The walk of the law RerunFirst. -/
import Derived.Test.YtnokfhkcfebimaaG35
import Derived.Test.YtnokfhkcfebimaaG26
set_option linter.unusedVariables false
set_option linter.unusedSimpArgs false

/- Plain laws of verdicts: more attempts, fewer attempts; a row of attempts is appended. -/
namespace Go.Proofs.Ytnokfhkcfebimaa
open Go.RowKit

theorem judL_take (g : Nat → Nat → Int) (r0 : Bool) : ∀ (t : List (Bool × Bool)) (k p f j : Nat), k + j < (judL g r0 t k p f).2 → judL g r0 (t.take j) k p f = (0, k + j)
  | t, k, p, f, 0, _ => by rw [List.take_zero]; rfl
  | [], k, p, f, j + 1, h => by simp only [judL] at h; omega
  | (fl, rd) :: t, k, p, f, j + 1, h => by
    rw [List.take_succ_cons, judL]
    rw [judL] at h
    by_cases h1 : rd ≠ r0
    · rw [if_pos h1] at h; dsimp only at h; omega
    · rw [if_neg h1] at h ⊢
      by_cases h2 : rd = false
      · rw [if_pos h2] at h
        cases fl <;> simp at h <;> omega
      · rw [if_neg h2] at h ⊢
        generalize (if fl = true then p else p + 1) = p' at h ⊢
        generalize (if fl = true then f + 1 else f) = f' at h ⊢
        by_cases h3 : g p' f' = 0
        · rw [if_pos h3] at h ⊢
          rw [judL_take g r0 t (k + 1) p' f' j (by omega), show k + 1 + j = k + (j + 1) by omega]
        · rw [if_neg h3] at h; dsimp only at h; omega
theorem judL_app (g : Nat → Nat → Int) (r0 : Bool) (y : List (Bool × Bool)) : ∀ (t : List (Bool × Bool)) (k p f : Nat), (judL g r0 t k p f).1 ≠ 0 → judL g r0 (t ++ y) k p f = judL g r0 t k p f
  | [], k, p, f, h => absurd rfl h
  | (fl, rd) :: t, k, p, f, h => by
    rw [List.cons_append, judL, judL]
    rw [judL] at h
    by_cases h1 : rd ≠ r0
    · rw [if_pos h1, if_pos h1]
    · rw [if_neg h1] at h ⊢
      rw [if_neg h1]
      by_cases h2 : rd = false
      · rw [if_pos h2, if_pos h2]
      · rw [if_neg h2] at h ⊢
        rw [if_neg h2]
        generalize (if fl = true then p else p + 1) = p' at h ⊢
        generalize (if fl = true then f + 1 else f) = f' at h ⊢
        by_cases h3 : g p' f' = 0
        · rw [if_pos h3] at h ⊢
          rw [if_pos h3]
          exact judL_app g r0 y t _ _ _ h
        · rw [if_neg h3, if_neg h3]
theorem judL_le (g : Nat → Nat → Int) (r0 : Bool) : ∀ (t : List (Bool × Bool)) (k p f : Nat), (judL g r0 t k p f).2 ≤ k + t.length ∧ k ≤ (judL g r0 t k p f).2 ∧ ((judL g r0 t k p f).1 = 0 → (judL g r0 t k p f).2 = k + t.length)
  | [], k, p, f => ⟨Nat.le_refl _, Nat.le_refl _, fun _ => rfl⟩
  | (fl, rd) :: t, k, p, f => by
    rw [judL, List.length_cons]
    by_cases h1 : rd ≠ r0
    · rw [if_pos h1]; exact ⟨by dsimp only; omega, by dsimp only; omega, fun h => by simp at h⟩
    · rw [if_neg h1]
      by_cases h2 : rd = false
      · rw [if_pos h2]
        cases fl
        · exact ⟨by simp <;> omega, by simp, fun h => by simp at h⟩
        · exact ⟨by simp <;> omega, by simp, fun h => by simp at h⟩
      · rw [if_neg h2]
        generalize (if fl = true then p else p + 1) = p'
        generalize (if fl = true then f + 1 else f) = f'
        by_cases h3 : g p' f' = 0
        · rw [if_pos h3]
          obtain ⟨h4, h5, h6⟩ := judL_le g r0 t (k + 1) p' f'
          exact ⟨by omega, by omega, fun h => by have := h6 h; omega⟩
        · rw [if_neg h3]; exact ⟨by dsimp only; omega, by dsimp only; omega, fun h => absurd h h3⟩
theorem jud_take {g : Nat → Nat → Int} {xs : List (Bool × Bool)} {j : Nat} (h : j < (jud g xs).2) : jud g (xs.take j) = (0, j) := by
  cases xs with
  | nil => simp [jud] at h
  | cons y t =>
    obtain ⟨fl, rd⟩ := y
    cases j with
    | zero => rfl
    | succ j =>
      cases fl
      · simp [jud] at h
      · have e : ∀ t, jud g ((true, rd) :: t) = judL g rd t 1 0 0 := fun t => rfl
        rw [e] at h
        rw [List.take_succ_cons, e, judL_take g rd t 1 0 0 j (by omega), show 1 + j = j + 1 by omega]
theorem jud_app {g : Nat → Nat → Int} {xs : List (Bool × Bool)} (y : List (Bool × Bool)) (h : (jud g xs).1 ≠ 0) : jud g (xs ++ y) = jud g xs := by
  cases xs with
  | nil => exact absurd rfl h
  | cons x t =>
    obtain ⟨fl, rd⟩ := x
    cases fl
    · rfl
    · exact judL_app g rd y t 1 0 0 h
theorem jud_le (g : Nat → Nat → Int) (xs : List (Bool × Bool)) : (jud g xs).2 ≤ xs.length ∧ ((jud g xs).1 = 0 → (jud g xs).2 = xs.length) := by
  cases xs with
  | nil => exact ⟨Nat.le_refl _, fun _ => rfl⟩
  | cons x t =>
    obtain ⟨fl, rd⟩ := x
    cases fl
    · exact ⟨by simp [jud], fun h => by simp [jud] at h⟩
    · obtain ⟨h1, -, h3⟩ := judL_le g rd t 1 0 0
      have e : jud g ((true, rd) :: t) = judL g rd t 1 0 0 := rfl
      rw [e, List.length_cons]
      exact ⟨by omega, fun h => by have := h3 h; omega⟩
theorem OA.drew {w0 w : World} {T : Nat} {A : Option Addr} {m c : Nat} {l : List (Bool × Bool)} (h : OA w0 w T A m c l) : OA w0 w.drew T A m c l := h.below (Dr.below ⟨1, rfl⟩)
theorem step_app_atts {w0 w : World} {ops : Array Oper} {o : Oper} {a : Act} {K : Act → World → Prop} {Q : Exit → Act → World → Prop} {E : Prop} (hgd : o.guard = none) (s x : Operand) (t : TypeId) (ht : Try.prog.underlying t = some (.slice 70))
    (ho : o.op = .call { callee := .builtin .append, args := #[s, x], argTypes := #[t, t] })
    (T : Nat) (A : Option Addr) (m c : Nat) (l : List (Bool × Bool)) (B : Option Addr) (k d : Nat) (M : List (Bool × Bool)) (hs : a.eval s = .slice A m c) (hx : a.eval x = .slice B k d) (hO : OA w0 w T A m c l) (hR : Rs w none 2 atv B M) (hM : M.length = k) (h63 : m + k ≤ 4294967296)
    (h : ∀ A' c' w', OA w0 w' T A' (m + k) c' (l ++ M) → Fr w w' (fun b => (Value.slice A m c).ownBlock = some b) → K (a.put o.dst (.slice A' (m + k) c')) w') :
    if Region.wanted o (yielded ops a.tmps) = true then Oper.wp Try.prog o a w K Q else E := by
  refine step_append _ hgd s x t ho w0.heap.size 70 _ 2 2 ht info70 rfl (by omega) (.slice A m c) m l hs hO.own B k d M hx hR hM atv_len atv_one h63 (by omega) hO.fr.size ?_
  intro A' c' w' hown hgr _
  refine h A' c' w' ⟨hown, by simp [hO.len, hM], hO.fr.grown hgr ?_⟩ ⟨hgr.os, hgr.tape, hgr.output, hgr.size, fun k hk hS => hgr.block k hk (fun e => hS e.symm)⟩
  intro g hg
  exact .inl (hO.lo hg).1
theorem wl_app_atts {w0 w : World} {ops : Array Oper} {rest : List Oper} {o : Oper} {a : Act} {Q : Exit → Act → World → Prop} (hgd : o.guard = none) (s x : Operand) (t : TypeId) (ht : Try.prog.underlying t = some (.slice 70))
    (ho : o.op = .call { callee := .builtin .append, args := #[s, x], argTypes := #[t, t] })
    (T : Nat) (A : Option Addr) (m c : Nat) (l : List (Bool × Bool)) (B : Option Addr) (k d : Nat) (M : List (Bool × Bool)) (hs : a.eval s = .slice A m c) (hx : a.eval x = .slice B k d) (hO : OA w0 w T A m c l) (hR : Rs w none 2 atv B M) (hM : M.length = k) (h63 : m + k ≤ 4294967296)
    (h : ∀ A' c' w', OA w0 w' T A' (m + k) c' (l ++ M) → Fr w w' (fun b => (Value.slice A m c).ownBlock = some b) → wpList Try.prog ops Q rest (a.put o.dst (.slice A' (m + k) c')) w') :
    wpList Try.prog ops Q (o :: rest) a w := by
  refine wl_append _ hgd s x t ho w0.heap.size 70 _ 2 2 ht info70 rfl (by omega) (.slice A m c) m l hs hO.own B k d M hx hR hM atv_len atv_one h63 (by omega) hO.fr.size ?_
  intro A' c' w' hown hgr _
  refine h A' c' w' ⟨hown, by simp [hO.len, hM], hO.fr.grown hgr ?_⟩ ⟨hgr.os, hgr.tape, hgr.output, hgr.size, fun k hk hS => hgr.block k hk (fun e => hS e.symm)⟩
  intro g hg
  exact .inl (hO.lo hg).1
end Go.Proofs.Ytnokfhkcfebimaa

/- The walk of the law RerunFirst. -/
namespace Go.Proofs.Ytnokfhkcfebimaa
open Go.RowKit

set_option maxRecDepth 100000 in
set_option maxHeartbeats 16000000 in
theorem rfirst_walk (w : World) (A : Option Addr) (n c : Nat) (l : List Int) (hA : Rs w none 1 iv A l) (hl : l.length = n) :
    Calls Try.prog 11 #[.slice A n c] w fun e w' => e = .returned (.bool true) ∧ Below w.heap.size w w' := by
  have HP := hide (tp_new (w := w) (c := c) hA hl 32)
  clear hA hl
  go_enter Try.func11, Try.ntmps11
  go_upto_region 3 with (go_at_call 41; refine (vspec_any _ w.heap.size A n c l 0 12 HP.out (by omega) (by omega) (by omega)).mono ?_; rintro e w1 ⟨s, lo, hi, al, be, M, b, rfl, hq, hk, hM, htp, hb12, hf⟩; have HB1 := hide (fr_new rfl hf); have HQ1 := hide hq; have HK := hide hk; have HP1 := hide htp; clear hq hk hf htp)
  generalize hW : World.alloc w1 _ = v
  have hT : w.heap.size < w1.heap.size := HP1.out.t.1
  have HF := hide (show FS w v w1.heap.size s by rw [← hW]; exact ⟨HB1.out.trans (((Below.refl _ _).alloc (Nat.le_refl _) _ : Below w1.heap.size w1 _).mono HB1.out.size), (FS.mk0 HQ1.out _).cb, HQ1.out.alloc _⟩)
  have HP2 := hide (show Tp v w.heap.size A n c l b by rw [← hW]; exact HP1.out.alloc _)
  obtain ⟨g, hg⟩ : ∃ g, g = w1.heap.size := ⟨_, rfl⟩
  rw [← hg] at HF hT ⊢
  clear hW hg
  go_upto_region 4 with (go_at_call 42; refine (vattempts_any _ w.heap.size A n c l b 14 HP2.out (by omega) (by omega)).mono ?_; rintro e w2 ⟨B, m, d, xs, p, rfl, ho, hm14, hp, hpb⟩; have HO := hide ho; have HP3 := hide hp; have HF2 := hide (HF.out.tape ho.fr (Nat.le_refl _) (by omega) HP2.out.nb); clear ho hp)
  obtain ⟨a0, a1, a2, a3, a4, a5, a6, a7, a8, a9⟩ := HF2.out.ca
  obtain ⟨X, hX⟩ : ∃ X, X = jud (aftQ (decQ lo hi al be) M) xs := ⟨_, rfl⟩
  obtain ⟨G, hG⟩ : ∃ G, G = aftQ (decQ lo hi al be) M := ⟨_, rfl⟩
  rw [← hG] at hX
  have HG := hide hG
  have HJ := hide hX
  clear hX hG
  obtain ⟨r, u⟩ := X
  have hum : u ≤ m := by
    have h9 := (jud_le G xs).1
    rw [← HJ.out, HO.out.len] at h9
    exact h9
  have g1 : decide ((m : Int) < (u : Int)) = false := decide_eq_false (by omega)
  have g2 : (u : Int) ≤ (m : Int) := by omega
  have g3 : decide (m < u) = false := decide_eq_false (by omega)
  go_wp2_with (go_at_call 43; (with_reducible refine (vjudgex_ok _ s lo hi al be M B m d xs HF2.out.q HK.out HO.out.rs HO.out.len (by omega)).mono ?_); rintro e w3 ⟨rfl, hb⟩; rw [← HG.out, ← HJ.out]; have HF3 := hide (HF2.out.below hb); have HR3 := hide (HO.out.rs.below hb); have HP4 := hide (HP3.out.below hb); clear hb)
  clear a0 a1 a2 a3 a4 a5 a6 a7 a8 a9
  have hmd := HO.out.cap
  go_loopw [9] (fun iv wr => ∃ (i : Nat), iv = .int .i64 (i : Int) ∧ i ≤ u ∧ Hid (Below w3.heap.size w3 wr)) (fun iv _ => u - (intOf iv).toNat)
  case atStart => exact ⟨0, rfl, by omega, hide (Below.refl _ _)⟩
  case round =>
    obtain ⟨i, rfl, hiu, HBr⟩ := hrel
    have HFr := hide (HF3.out.below HBr.out)
    have HRr := hide (HR3.out.below HBr.out)
    have HPr := hide (HP4.out.below HBr.out)
    have k0 := HFr.out.ca
    obtain ⟨a0, a1, a2, a3, a4, a5, a6, a7, a8, a9⟩ := HFr.out.ca
    by_cases hiq : i = u
    · have hle : decide ((i : Int) < (u : Int)) = false := decide_eq_false (by omega)
      have hle2 : (u : Int) ≤ (i : Int) := by omega
      have hle3 : ¬ i < u := by omega
      have hTr : w.heap.size < wr.heap.size := HPr.out.t.1
      clear hiq
      go_upto_region 13 with (fail)
      go_region_held3 (fun W => W.cell? ⟨g, 0, none⟩ = some (.slice s.l.A s.l.n s.l.c) ∧ W.cell? ⟨g, 1, none⟩ = some (.slice s.l.B s.l.m s.l.d) ∧ W.cell? ⟨g, 2, none⟩ = some (.slice s.h.A s.h.n s.h.c) ∧ W.cell? ⟨g, 3, none⟩ = some (.slice s.h.B s.h.m s.h.d) ∧ W.cell? ⟨g, 4, none⟩ = some (.slice s.a.A s.a.n s.a.c) ∧ W.cell? ⟨g, 5, none⟩ = some (.slice s.a.B s.a.m s.a.d) ∧ W.cell? ⟨g, 6, none⟩ = some (.slice s.b.A s.b.n s.b.c) ∧ W.cell? ⟨g, 7, none⟩ = some (.slice s.b.B s.b.m s.b.d) ∧ W.cell? ⟨g, 8, none⟩ = some (.int .i64 s.m)) (first | with_reducible exact k1 | with_reducible exact k2 | with_reducible exact k3 | with_reducible exact k4 | first | (go_keep; done) | ((try dsimp only); (repeat' apply And.intro) <;> first | (go_keep; done) | ((repeat rw [World.cell?_setCell_other _ _ _ _ (by intro h; injection h; omega)]); go_keep; done))) (first
        | (refine step_app_atts (w0 := wr) rfl _ (.tmp 65) 66 Try.underlying66 rfl w.heap.size none 0 0 [] B m d xs rfl rfl (by first | exact OA.nil (Fr.refl _ _) | exact OA.nil (Fr.refl _ _).drew) (by first | exact HRr.out | exact HRr.out.below (Below.refl _ _).drew) HO.out.len (by omega) ?_; intro A1 cc1 w4 ho1 hf1; rw [Nat.zero_add, List.nil_append] at ho1; have HO1 := hide ho1; have HF4 := hide (HFr.out.tape ho1.fr (Nat.le_refl _) (by omega) HPr.out.nb); have HP5 := hide (show Tp w4 w.heap.size A n c l p from (by first | exact (OA.nil (w0 := wr) (w := wr) (T := w.heap.size) (Fr.refl _ _)).tp HPr.out HPr.out hf1 | exact (OA.nil (w0 := wr) (w := wr.drew) (T := w.heap.size) (Fr.refl _ _).drew).tp HPr.out (HPr.out.below (Dr.below ⟨1, rfl⟩)) hf1)); have k1 := HF4.out.ca; have hT4 := HP5.out.t.1; rw [Nat.zero_add]; clear ho1 hf1)
        | (go_at_call 42; refine (vattempts_any _ w.heap.size A n c l p 10 HP5.out (by omega) (by omega)).mono ?_; rintro e w5 ⟨B2, m2, d2, ys, p2, rfl, ho, hm10, hp, hpb2⟩; have HO2 := hide ho; have HO1b := hide (HO1.out.tape ho.fr hTr); have HF5 := hide (HF4.out.tape ho.fr (Nat.le_refl _) (by omega) HP5.out.nb); have HP6 := hide hp; have k2 := HF5.out.ca; clear ho hp)
        | (refine step_app_atts (w0 := wr) rfl (.tmp 66) (.tmp 68) 66 Try.underlying66 rfl w.heap.size A1 m cc1 xs B2 m2 d2 ys rfl rfl HO1b.out HO2.out.rs HO2.out.len (by omega) ?_; intro A3 cc3 w6 ho3 hf3; have HO3 := hide ho3; have HF6 := hide (HFr.out.tape ho3.fr (Nat.le_refl _) (by omega) HPr.out.nb); have k3 := HF6.out.ca; clear ho3 hf3)
        | (go_at_call 43; (with_reducible refine (vjudgex_ok _ s lo hi al be M A3 (m + m2) cc3 (xs ++ ys) HF6.out.q HK.out HO3.out.rs HO3.out.len (by omega)).mono ?_); rintro e w7 ⟨rfl, hb⟩; obtain ⟨X2, hX2⟩ : ∃ X2, X2 = jud G (xs ++ ys) := ⟨_, rfl⟩; rw [← HG.out, ← hX2]; have HJ2 := hide hX2; have HF7 := hide (HF6.out.below hb); have k4 := HF7.out.ca; clear hb hX2))
      obtain ⟨r2, u2⟩ := X2
      by_cases hr0 : r = 0
      · subst hr0
        clear k0 k1 k2 k3 k4
        go_wp2_with (go_at_call 44; (with_reducible refine (vknown_any _).mono ?_); rintro e w9 ⟨rfl, hb⟩; have HB9 := hide (show Below w.heap.size w w9 from (by first | exact HF7.out.bw.trans (hb.mono HF7.out.bw.size) | exact HF7.out.bw.drew.trans (hb.mono HF7.out.bw.drew.size))); clear hb)
        go_ret
        exact ⟨rfl, HB9.out⟩
      · obtain ⟨rfl, rfl⟩ : r2 = r ∧ u2 = u := by
          have h9 := HJ2.out
          rw [jud_app ys (by rw [← HJ.out]; exact hr0), ← HJ.out] at h9
          simpa using h9
        have z1 : (r2 == 0) = false := by simp [hr0]
        have z2 : decide (r2 = 0) = false := decide_eq_false hr0
        clear k0 k1 k2 k3 k4
        go_wp2_with (go_at_call 44; (with_reducible refine (vknown_any _).mono ?_); rintro e w9 ⟨rfl, hb⟩; have HB9 := hide (show Below w.heap.size w w9 from (by first | exact HF7.out.bw.trans (hb.mono HF7.out.bw.size) | exact HF7.out.bw.drew.trans (hb.mono HF7.out.bw.drew.size))); clear hb)
        go_ret
        exact ⟨rfl, HB9.out⟩
    · have hlt : decide ((i : Int) < (u : Int)) = true := decide_eq_true (by omega)
      have hlt2 : (i : Int) < (u : Int) := by omega
      have hkl : i < xs.length := by have := HO.out.len; omega
      obtain ⟨bb, o, rfl, hb0, -, -⟩ := atts_at HRr.out (List.getElem?_eq_getElem hkl)
      have HJT := hide (show jud G (xs.take i) = (0, i) from jud_take (by rw [← HJ.out]; omega))
      have hi0 : (0 : Int) ≤ (i : Int) := by omega
      have hid : (i : Int) ≤ (d : Int) := by omega
      have HRt := hide (show Rs wr none 2 atv (some ⟨bb, o, none⟩) (xs.take i) from by
        intro hne
        obtain ⟨b', o', h1, h2, h3, h4⟩ := HRr.out (by rintro rfl; simp at hne)
        refine ⟨b', o', h1, h2, h3, fun k a hk j w hw => h4 k a ?_ j w hw⟩
        rw [List.getElem?_take] at hk
        split at hk
        · exact hk
        · simp at hk)
      have HLt := hide (show (xs.take i).length = i by rw [List.length_take]; omega)
      go_upto_region 10 with (fail)
      go_region_held3 (fun W => W.cell? ⟨g, 0, none⟩ = some (.slice s.l.A s.l.n s.l.c) ∧ W.cell? ⟨g, 1, none⟩ = some (.slice s.l.B s.l.m s.l.d) ∧ W.cell? ⟨g, 2, none⟩ = some (.slice s.h.A s.h.n s.h.c) ∧ W.cell? ⟨g, 3, none⟩ = some (.slice s.h.B s.h.m s.h.d) ∧ W.cell? ⟨g, 4, none⟩ = some (.slice s.a.A s.a.n s.a.c) ∧ W.cell? ⟨g, 5, none⟩ = some (.slice s.a.B s.a.m s.a.d) ∧ W.cell? ⟨g, 6, none⟩ = some (.slice s.b.A s.b.n s.b.c) ∧ W.cell? ⟨g, 7, none⟩ = some (.slice s.b.B s.b.m s.b.d) ∧ W.cell? ⟨g, 8, none⟩ = some (.int .i64 s.m)) (first | with_reducible exact k1 | first | (go_keep; done) | ((try dsimp only); (repeat' apply And.intro) <;> first | (go_keep; done) | ((repeat rw [World.cell?_setCell_other _ _ _ _ (by intro h; injection h; omega)]); go_keep; done))) (first
        | (go_at_call 43; (with_reducible refine (vjudgex_ok _ s lo hi al be M (some ⟨bb, o, none⟩) i d (xs.take i) (by first | exact HFr.out.q | exact HFr.out.q.below (Below.refl _ _).drew) HK.out (by first | exact HRt.out | exact HRt.out.below (Below.refl _ _).drew) HLt.out (by omega)).mono ?_); rintro e w7 ⟨rfl, hb⟩; rw [← HG.out, HJT.out]; have HB7 := hide (show Below w3.heap.size w3 w7 from (by first | exact HBr.out.trans (hb.mono HBr.out.size) | exact HBr.out.drew.trans (hb.mono HBr.out.size))); have k1 := (HF3.out.below HB7.out).ca; clear hb))
      clear k0 k1
      go_wp2_with fail
      go_roundw
      case rel => exact ⟨i + 1, by go_num, by omega, by first | exact HB7 | exact hide HB7.out.drew⟩
      case measure => simp [intOf] <;> omega
end Go.Proofs.Ytnokfhkcfebimaa
