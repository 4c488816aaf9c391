/- Contracts of the functions that these laws reach: part 22: Contracts: a step of the law. (printed by genany.py); Contracts: a ledger after some steps; The example of the chapter, in plain data. -/
import Derived.Test.YtjhkgoengoiljaaG21
import Derived.Test.YtjhkgoengoiljaaG3
import Derived.Test.YtjhkgoengoiljaaG1
set_option linter.unusedVariables false
set_option linter.unusedSimpArgs false

/- Contracts: a step of the law. (printed by genany.py) -/
namespace Go.Proofs.Ytjhkgoengoiljaa
open Go.RowKit

theorem S6.put2 {w : World} {H : Nat} {x0 x1 x2 x3 x4 x5 : V7} (u : V7) (h : S6 w H x0 x1 x2 x3 x4 x5) : S6 (put7 w (H + 2) u.v0 u.v1 u.v2 u.v3 u.v4 u.v5 u.v6) H x0 x1 u x3 x4 x5 := by
  obtain ⟨h0, h1, h2, h3, h4, h5⟩ := h
  exact ⟨h0.fr fr_put7 (by omega), h1.fr fr_put7 (by omega), h2.put u, h3.fr fr_put7 (by omega), h4.fr fr_put7 (by omega), h5.fr fr_put7 (by omega)⟩
theorem S6.put3 {w : World} {H : Nat} {x0 x1 x2 x3 x4 x5 : V7} (u : V7) (h : S6 w H x0 x1 x2 x3 x4 x5) : S6 (put7 w (H + 3) u.v0 u.v1 u.v2 u.v3 u.v4 u.v5 u.v6) H x0 x1 x2 u x4 x5 := by
  obtain ⟨h0, h1, h2, h3, h4, h5⟩ := h
  exact ⟨h0.fr fr_put7 (by omega), h1.fr fr_put7 (by omega), h2.fr fr_put7 (by omega), h3.put u, h4.fr fr_put7 (by omega), h5.fr fr_put7 (by omega)⟩
/-- Both results are laid down. -/
theorem put_res {w : World} {H : Nat} {x0 x1 x2 x3 x4 x5 : V7} (u v : V7) (h : S6 w H x0 x1 x2 x3 x4 x5) :
    S6 (put7 (put7 w (H + 2) u.v0 u.v1 u.v2 u.v3 u.v4 u.v5 u.v6) (H + 3) v.v0 v.v1 v.v2 v.v3 v.v4 v.v5 v.v6) H x0 x1 u v x4 x5 ∧
    Fr w (put7 (put7 w (H + 2) u.v0 u.v1 u.v2 u.v3 u.v4 u.v5 u.v6) (H + 3) v.v0 v.v1 v.v2 v.v3 v.v4 v.v5 v.v6) (fun i => i = H + 2 ∨ i = H + 3) :=
  ⟨(h.put2 u).put3 v, (fr_put7.mono (fun _ _ h => Or.inl h)).step fr_put7 (fun _ _ h => Or.inr h)⟩
/-- A block that was there before the call. -/
theorem old_of {w : World} {av : Option Nat} {α : Type} {s : Nat} {f : α → List Value} {A : Option Addr} {l : List α} {H : Nat} (h : Rs w av s f A l) (hH : w.heap.size ≤ H) : l ≠ [] → ∀ b o, A = some ⟨b, o, none⟩ → b < H := by
  intro hl b o hA
  obtain ⟨b', o', hA', _, hb, _⟩ := h hl
  rw [hA] at hA'
  injection hA' with hA'
  injection hA' with h1 h2
  omega

set_option maxRecDepth 100000 in
set_option maxHeartbeats 4000000 in
theorem step_any (w : World) (T : Nat) (A : Option Addr) (n c : Nat) (l : List Int) (a : Nat) (hT : TapeAt w T A n c l a) (ha : a ≤ 4294900000)
    (A1 A2 : Option Addr) (m c1 c2 : Nat) (L : Ld) (hm : m ≤ 128) (hR1 : Rs w (some T) 10 Tk.vals A1 L.tks) (hR2 : Rs w (some T) 10 Tk.vals A2 L.tks) (hl : L.tks.length = m) :
    Calls Try.prog 14 #[.pointer (some ⟨T, 0, none⟩), .agg #[.slice A1 m c1, .int .i64 L.r0, .int .i64 L.r1, .int .i64 L.r2, .int .i64 L.r3, .int .i64 L.r4, .int .i64 L.r5], .agg #[.slice A2 m c2, .int .i64 L.r0, .int .i64 L.r1, .int .i64 L.r2, .int .i64 L.r3, .int .i64 L.r4, .int .i64 L.r5]] w fun e w' => ∃ (X : Ld) (B1 B2 : Option Addr) (d1 d2 a' : Nat),
      e = .returned (.tuple #[.agg #[.slice B1 X.tks.length d1, .int .i64 X.r0, .int .i64 X.r1, .int .i64 X.r2, .int .i64 X.r3, .int .i64 X.r4, .int .i64 X.r5], .agg #[.slice B2 X.tks.length d2, .int .i64 X.r0, .int .i64 X.r1, .int .i64 X.r2, .int .i64 X.r3, .int .i64 X.r4, .int .i64 X.r5], .bool true]) ∧ StepR L X ∧ Rs w' (some T) 10 Tk.vals B1 X.tks ∧ Rs w' (some T) 10 Tk.vals B2 X.tks ∧ TapeAt w' T A n c l a' ∧ a' ≤ a + 12 ∧ Fr w w' (fun i => i = T) := by
  have hTl := hT.1
  have HR1 := hide hR1
  have HR2 := hide hR2
  have HL := hide hl
  clear hR1 hR2 hl
  have HT0 := hide hT
  clear hT
  go_enter Try.func14, Try.ntmps14
  go_wp2_with fail
  refine (next_any _ T A n c l a _ ((((((HT0.out.alloc _).alloc _).alloc _).alloc _).alloc _).alloc _) (by omega) (by omega)).mono ?_
  rintro e w1 ⟨rfl, ht1, hf1⟩
  have HS1 := hide (show S6 w1 w.heap.size (LDV A1 m c1 L) (LDV A2 m c2 L) LZV LZV LZV LZV from by
    refine S6.fr ?_ hf1 (fun i h1 h2 h3 => by omega)
    simp only [S6, B7, LDV, LZV]
    refine ⟨?_, ?_, ?_, ?_, ?_, ?_⟩ <;> refine ⟨by first | (simp; done) | (simp; omega), ⟨?_, ?_, ?_, ?_, ?_, ?_, ?_⟩, ?_, ?_⟩ <;> first | (intro j; go_simp; done) | (go_simp; done))
  have HF1 := hide ((((((((Fr.refl w (fun i => i = T)).alloc _).alloc _).alloc _).alloc _).alloc _).alloc _).trans hf1)
  have HT1 := hide ht1
  clear ht1 hf1
  go_wp2_with fail
  refine (chance_any _ T A n c l (a + 1) 1 30 HT1.out (by omega) (by omega)).mono ?_
  rintro e w2 ⟨rfl, ht2, hf2⟩
  have HS2 := hide (HS1.out.fr hf2 (fun i h1 h2 h3 => by omega))
  have HF2 := hide (HF1.out.trans hf2)
  have HT2 := hide ht2
  clear ht2 hf2
  go_upto_if 35 with (fail)
  go_cut [16] (fun s16 wx => (∃ k : Int, s16 = .int .i64 k) ∧ wx = w2)
  case first =>
    go_wp2_with fail
    all_goals
      go_meet
      case rel => exact ⟨⟨_, rfl⟩, rfl⟩
  case rest =>
  obtain ⟨⟨k, rfl⟩, rfl⟩ := hcut
  go_wp2_with fail
  refine (next_any _ T A n c l (a + 2) 14 HT2.out (by omega) (by omega)).mono ?_
  rintro e w3 ⟨rfl, ht3, hf3⟩
  have HS3 := hide (HS2.out.fr hf3 (fun i h1 h2 h3 => by omega))
  have HF3 := hide (HF2.out.trans hf3)
  have HT3 := hide ht3
  clear ht3 hf3
  have hv := tapeV_lo l (a + 2) 14
  obtain ⟨v, hvv⟩ : ∃ v, v = tapeV l (a + 2) 14 := ⟨_, rfl⟩
  rw [← hvv] at hv ⊢
  have hv14 : v = 0 ∨ v = 1 ∨ v = 2 ∨ v = 3 ∨ v = 4 ∨ v = 5 ∨ v = 6 ∨ v = 7 ∨ v = 8 ∨ v = 9 ∨ v = 10 ∨ v = 11 ∨ v = 12 ∨ v = 13 := by omega
  have HV14 := hide hv14
  clear hv hvv hv14
  go_upto_block 0 with (fail)
  have HOA := hide (show l ≠ [] → ∀ b o, A = some ⟨b, o, none⟩ → b < w.heap.size from old_of HT0.out.2.2.2.2.1 (Nat.le_refl _))
  have HOV := hide (show ∀ x, some T = some x → x < w.heap.size from fun x hx => by injection hx with hx; subst hx; exact hTl)
  refine sw_any w T A n c l a (by omega) A1 A2 m c1 c2 L hm hTl HR1 HR2 HL HOA HOV k v HV14 w3 HS3 HF3 HT3 _ _ _ _ _ _ _ _ _ _ _ _ _ _ _ _ _ _ _ _ _ _ _ _ _ _ _ _ _ _ _ _ _ _ _ _ _ _ _ _ _ _ _ _ _ _ _ _ _ _ _ _ _ _ _ _ _ _ _ _ _ _ _ _ _ _ _ _ _ _ _ _ _ _ _ _ _ _ _ _ _ _ _ _ _ _ _ _ _ _ _ _ _ _ _ _ _ _ _ _ _ _ _ _ _ _ _ _ _ _ _ _ _ _ _ _ _ _ _ _ _ _ _ _ _ _ _ _ _ _ _ _ _ _ _ _ _ _ _ _ _ _ _ _ _ _ _ _ _ _ _ _ _ _ _ _ _ _ _ _ _ _ _ _ _ _ _ _ _ _ _ _ _ _ _ _ _ _ _ _ _ _ _ _ _ _ _ _ _ _ _ _ _ _ _ _ _ _ _ _ _ _ _ _ _ _ _ _ _ _ _ _ _ _ _ _ _ _ _ _ _ _ _ _ _ _ _ _ _ _ _ _ _ _ _ _ _ (hide ?_)
  intro X er va B1 B2 d1 d2 x a' wc z3 z17 z18 z19 z20 z21 z22 z23 z24 z25 z26 z27 z28 z29 z30 z31 z32 z33 z34 z35 z36 z37 z38 z39 z40 z41 z42 z43 z44 z45 z46 z47 z48 z49 z50 z51 z52 z53 z54 z55 z56 z57 z58 z59 z60 z61 z62 z63 z64 z65 z66 z67 z68 z69 z70 z71 z72 z73 z74 z75 z76 z77 z78 z79 z80 z81 z82 z83 z84 z85 z86 z87 z88 z89 z90 z91 z92 z93 z94 z95 z96 z97 z98 z99 z100 z101 z102 z103 z104 z105 z106 z107 z108 z109 z110 z111 z112 z113 z114 z115 z116 z117 z118 z119 z120 z121 z122 z123 z124 z125 z126 z127 z128 z129 z130 z131 z132 z133 z134 z135 z136 z137 z138 z139 z140 z141 z142 z143 z144 z145 z146 z147 z148 z149 z150 z151 z152 z153 z154 z155 z156 z157 z158 z159 z160 z161 z162 z163 z164 z165 z166 z167 z168 z169 z170 z171 z172 z173 z174 z175 z176 z177 z178 z179 z180 z181 z182 z183 z184 z185 z186 z187 z188 z189 z190 z191 z192 z193 z194 z195 z196 z197 z198 z199 z200 z201 z202 z203 z204 z205 z206 z207 z208 z209 z210 z211 z212 z213 z214 z215 z216 z217 z218 z219 z220 z221 z222 z223 z224 z225 z226 z227 z228 z229 z230 z231 z232 z233 z234 z235 z236 z237 z238 z239 z240 z241 z242 z243 z244 z245 z246 z247 z248 z249 z250 z251 HE HX HS HB1 HB2 HT HF ha' hx
  replace HE := hide HE
  replace HX := hide HX
  replace HS := hide HS
  replace HB1 := hide HB1
  replace HB2 := hide HB2
  replace HT := hide HT
  replace HF := hide HF
  obtain ⟨⟨l0, p, gp, -⟩, ⟨l1, q, gq, -⟩, ⟨l2, r, gr, -⟩, ⟨l3, s, gs, -⟩, ⟨l4, t, gt, -⟩, ⟨l5, u, gu, -⟩⟩ := HS.out
  simp only [LDV, LZV] at p q r s t u
  obtain ⟨p0, p1, p2, p3, p4, p5, p6⟩ := p
  obtain ⟨q0, q1, q2, q3, q4, q5, q6⟩ := q
  obtain ⟨r0, r1, r2, r3, r4, r5, r6⟩ := r
  obtain ⟨s0, s1, s2, s3, s4, s5, s6⟩ := s
  obtain ⟨t0, t1, t2, t3, t4, t5, t6⟩ := t
  obtain ⟨u0, u1, u2, u3, u4, u5, u6⟩ := u
  cases he : (er != 0)
  · go_wp2_with fail
    refine (same_eq _ (some T) B1 B2 x d1 d2 X HB1.out HB2.out HX.out (by omega)).mono ?_
    rintro e w4 ⟨rfl, hb4⟩
    have HB4 := hide hb4
    obtain ⟨hc4, hf4⟩ := bcell hb4
    have HS4 := hide (HS.out.fr (Fr.of_below (fun _ => False) hb4) (fun _ _ _ h => h))
    have HT4 := hide (HT.out.below hb4)
    have HF4 := hide (HF.out.below_ hb4)
    have HC1 := hide (HB1.out.below hb4)
    have HC2 := hide (HB2.out.below hb4)
    clear p0 p1 p2 p3 p4 p5 p6 q0 q1 q2 q3 q4 q5 q6 r0 r1 r2 r3 r4 r5 r6 s0 s1 s2 s3 s4 s5 s6 t0 t1 t2 t3 t4 t5 t6 u0 u1 u2 u3 u4 u5 u6 gp gq gr gs gt gu hc4 hf4 hb4 l0 l1 l2 l3 l4 l5
    obtain ⟨⟨l0, p, gp, -⟩, ⟨l1, q, gq, -⟩, ⟨l2, r, gr, -⟩, ⟨l3, s, gs, -⟩, ⟨l4, t, gt, -⟩, ⟨l5, u, gu, -⟩⟩ := HS4.out
    simp only [LDV, LZV] at p q r s t u
    have k2 : ¬ w.heap.size + 2 = w.heap.size := by omega
    have k3 : ¬ w.heap.size + 3 = w.heap.size := by omega
    have k4 : ¬ w.heap.size + 1 + 1 = w.heap.size := by omega
    have k5 : ¬ w.heap.size + 1 + 1 + 1 = w.heap.size := by omega
    obtain ⟨p0, p1, p2, p3, p4, p5, p6⟩ := p
    obtain ⟨q0, q1, q2, q3, q4, q5, q6⟩ := q
    obtain ⟨r0, r1, r2, r3, r4, r5, r6⟩ := r
    obtain ⟨s0, s1, s2, s3, s4, s5, s6⟩ := s
    obtain ⟨t0, t1, t2, t3, t4, t5, t6⟩ := t
    obtain ⟨u0, u1, u2, u3, u4, u5, u6⟩ := u
    go_wp2_with fail
    go_region_held3 (fun W => (W.cell? ⟨w.heap.size + 4, 0, none⟩ = some (.slice B1 x d1) ∧ W.cell? ⟨w.heap.size + 4, 1, none⟩ = some (.int .i64 X.r0) ∧ W.cell? ⟨w.heap.size + 4, 2, none⟩ = some (.int .i64 X.r1) ∧ W.cell? ⟨w.heap.size + 4, 3, none⟩ = some (.int .i64 X.r2) ∧ W.cell? ⟨w.heap.size + 4, 4, none⟩ = some (.int .i64 X.r3) ∧ W.cell? ⟨w.heap.size + 4, 5, none⟩ = some (.int .i64 X.r4) ∧ W.cell? ⟨w.heap.size + 4, 6, none⟩ = some (.int .i64 X.r5)) ∧ (W.cell? ⟨w.heap.size + 5, 0, none⟩ = some (.slice B2 x d2) ∧ W.cell? ⟨w.heap.size + 5, 1, none⟩ = some (.int .i64 X.r0) ∧ W.cell? ⟨w.heap.size + 5, 2, none⟩ = some (.int .i64 X.r1) ∧ W.cell? ⟨w.heap.size + 5, 3, none⟩ = some (.int .i64 X.r2) ∧ W.cell? ⟨w.heap.size + 5, 4, none⟩ = some (.int .i64 X.r3) ∧ W.cell? ⟨w.heap.size + 5, 5, none⟩ = some (.int .i64 X.r4) ∧ W.cell? ⟨w.heap.size + 5, 6, none⟩ = some (.int .i64 X.r5))) (first | (go_keep; done) | ((try dsimp only); (repeat' apply And.intro) <;> first | (go_keep; done) | ((repeat rw [World.cell?_setCell_other _ _ _ _ (by intro h; injection h; omega)]); go_keep; done))) (fail)
    generalize hW : World.setCell (World.setCell (World.setCell (World.setCell (World.setCell (World.setCell (World.setCell (World.setCell (World.setCell (World.setCell (World.setCell (World.setCell (World.setCell (World.setCell w4 _ _) _ _) _ _) _ _) _ _) _ _) _ _) _ _) _ _) _ _) _ _) _ _) _ _) _ _ = w5
    obtain ⟨HS5', HF5'⟩ : S6 w5 w.heap.size (LDV A1 m c1 L) (LDV A2 m c2 L) (LDV B1 x d1 X) (LDV B2 x d2 X) (LDV B1 x d1 X) (LDV B2 x d2 X) ∧ Fr w4 w5 (fun i => i = w.heap.size + 2 ∨ i = w.heap.size + 3) := by
      rw [← hW]
      have hh := put_res (LDV B1 x d1 X) (LDV B2 x d2 X) HS4.out
      simp only [put7, Nat.add_assoc, Nat.reduceAdd] at hh ⊢
      exact hh
    have HF5 := hide HF5'
    clear hW p0 p1 p2 p3 p4 p5 p6 q0 q1 q2 q3 q4 q5 q6 r0 r1 r2 r3 r4 r5 r6 s0 s1 s2 s3 s4 s5 s6 t0 t1 t2 t3 t4 t5 t6 u0 u1 u2 u3 u4 u5 u6 gp gq gr gs gt gu HF5'
    obtain ⟨-, -, ⟨-, r, -, -⟩, ⟨-, s, -, -⟩, -, -⟩ := HS5'
    simp only [LDV, LZV] at r s
    obtain ⟨r0, r1, r2, r3, r4, r5, r6⟩ := r
    obtain ⟨s0, s1, s2, s3, s4, s5, s6⟩ := s
    go_wp2_with fail
    refine bodyPost_ret (v := .tuple #[.agg #[.slice B1 x d1, .int .i64 X.r0, .int .i64 X.r1, .int .i64 X.r2, .int .i64 X.r3, .int .i64 X.r4, .int .i64 X.r5], .agg #[.slice B2 x d2, .int .i64 X.r0, .int .i64 X.r1, .int .i64 X.r2, .int .i64 X.r3, .int .i64 X.r4, .int .i64 X.r5], .bool true]) (by simp [results, Try.results14, go_sem, *]) rfl ⟨X, B1, B2, d1, d2, a', ?_, HE.out (by simpa using he), ?_, ?_, ?_, ha', ?_⟩
    · rw [HX.out]
    · exact (HC1.out.fr HF5.out (by intro hl b o hA _ hs; have h2 := rs_not_b7 HC1.out tk_str HS4.out.2.2.1 lzv_no hl b o hA; have h3 := rs_not_b7 HC1.out tk_str HS4.out.2.2.2.1 lzv_no hl b o hA; rcases hs with hs | hs <;> omega)).drew
    · exact (HC2.out.fr HF5.out (by intro hl b o hA _ hs; have h2 := rs_not_b7 HC2.out tk_str HS4.out.2.2.1 lzv_no hl b o hA; have h3 := rs_not_b7 HC2.out tk_str HS4.out.2.2.2.1 lzv_no hl b o hA; rcases hs with hs | hs <;> omega)).drew
    · exact (HT4.out.fr HF5.out (by intro h; omega) (by intro b o hA hl hs; have := old_of HT0.out.2.2.2.2.1 (Nat.le_refl _) hl b o hA; omega)).drew
    · exact (HF4.out.step HF5.out (fun i hi h => by omega)).drew
  · go_wp2_with fail
    refine (same_eq _ (some T) B1 B2 x d1 d2 X HB1.out HB2.out HX.out (by omega)).mono ?_
    rintro e w4 ⟨rfl, hb4⟩
    have HB4 := hide hb4
    obtain ⟨hc4, hf4⟩ := bcell hb4
    have HS4 := hide (HS.out.fr (Fr.of_below (fun _ => False) hb4) (fun _ _ _ h => h))
    have HT4 := hide (HT.out.below hb4)
    have HF4 := hide (HF.out.below_ hb4)
    have HC1 := hide (HB1.out.below hb4)
    have HC2 := hide (HB2.out.below hb4)
    clear p0 p1 p2 p3 p4 p5 p6 q0 q1 q2 q3 q4 q5 q6 r0 r1 r2 r3 r4 r5 r6 s0 s1 s2 s3 s4 s5 s6 t0 t1 t2 t3 t4 t5 t6 u0 u1 u2 u3 u4 u5 u6 gp gq gr gs gt gu hc4 hf4 hb4 l0 l1 l2 l3 l4 l5
    obtain ⟨⟨l0, p, gp, -⟩, ⟨l1, q, gq, -⟩, ⟨l2, r, gr, -⟩, ⟨l3, s, gs, -⟩, ⟨l4, t, gt, -⟩, ⟨l5, u, gu, -⟩⟩ := HS4.out
    simp only [LDV, LZV] at p q r s t u
    have k2 : ¬ w.heap.size + 2 = w.heap.size := by omega
    have k3 : ¬ w.heap.size + 3 = w.heap.size := by omega
    have k4 : ¬ w.heap.size + 1 + 1 = w.heap.size := by omega
    have k5 : ¬ w.heap.size + 1 + 1 + 1 = w.heap.size := by omega
    obtain ⟨p0, p1, p2, p3, p4, p5, p6⟩ := p
    obtain ⟨q0, q1, q2, q3, q4, q5, q6⟩ := q
    obtain ⟨r0, r1, r2, r3, r4, r5, r6⟩ := r
    obtain ⟨s0, s1, s2, s3, s4, s5, s6⟩ := s
    obtain ⟨t0, t1, t2, t3, t4, t5, t6⟩ := t
    obtain ⟨u0, u1, u2, u3, u4, u5, u6⟩ := u
    go_wp2_with fail
    go_region_held3 (fun W => (W.cell? ⟨w.heap.size, 0, none⟩ = some (.slice A1 m c1) ∧ W.cell? ⟨w.heap.size, 1, none⟩ = some (.int .i64 L.r0) ∧ W.cell? ⟨w.heap.size, 2, none⟩ = some (.int .i64 L.r1) ∧ W.cell? ⟨w.heap.size, 3, none⟩ = some (.int .i64 L.r2) ∧ W.cell? ⟨w.heap.size, 4, none⟩ = some (.int .i64 L.r3) ∧ W.cell? ⟨w.heap.size, 5, none⟩ = some (.int .i64 L.r4) ∧ W.cell? ⟨w.heap.size, 6, none⟩ = some (.int .i64 L.r5)) ∧ (W.cell? ⟨w.heap.size + 1, 0, none⟩ = some (.slice A2 m c2) ∧ W.cell? ⟨w.heap.size + 1, 1, none⟩ = some (.int .i64 L.r0) ∧ W.cell? ⟨w.heap.size + 1, 2, none⟩ = some (.int .i64 L.r1) ∧ W.cell? ⟨w.heap.size + 1, 3, none⟩ = some (.int .i64 L.r2) ∧ W.cell? ⟨w.heap.size + 1, 4, none⟩ = some (.int .i64 L.r3) ∧ W.cell? ⟨w.heap.size + 1, 5, none⟩ = some (.int .i64 L.r4) ∧ W.cell? ⟨w.heap.size + 1, 6, none⟩ = some (.int .i64 L.r5))) (first | (go_keep; done) | ((try dsimp only); (repeat' apply And.intro) <;> first | (go_keep; done) | ((repeat rw [World.cell?_setCell_other _ _ _ _ (by intro h; injection h; omega)]); go_keep; done))) (fail)
    generalize hW : World.setCell (World.setCell (World.setCell (World.setCell (World.setCell (World.setCell (World.setCell (World.setCell (World.setCell (World.setCell (World.setCell (World.setCell (World.setCell (World.setCell w4 _ _) _ _) _ _) _ _) _ _) _ _) _ _) _ _) _ _) _ _) _ _) _ _) _ _) _ _ = w5
    obtain ⟨HS5', HF5'⟩ : S6 w5 w.heap.size (LDV A1 m c1 L) (LDV A2 m c2 L) (LDV A1 m c1 L) (LDV A2 m c2 L) (LDV B1 x d1 X) (LDV B2 x d2 X) ∧ Fr w4 w5 (fun i => i = w.heap.size + 2 ∨ i = w.heap.size + 3) := by
      rw [← hW]
      have hh := put_res (LDV A1 m c1 L) (LDV A2 m c2 L) HS4.out
      simp only [put7, Nat.add_assoc, Nat.reduceAdd] at hh ⊢
      exact hh
    have HF5 := hide HF5'
    clear hW p0 p1 p2 p3 p4 p5 p6 q0 q1 q2 q3 q4 q5 q6 r0 r1 r2 r3 r4 r5 r6 s0 s1 s2 s3 s4 s5 s6 t0 t1 t2 t3 t4 t5 t6 u0 u1 u2 u3 u4 u5 u6 gp gq gr gs gt gu HF5'
    obtain ⟨-, -, ⟨-, r, -, -⟩, ⟨-, s, -, -⟩, -, -⟩ := HS5'
    simp only [LDV, LZV] at r s
    obtain ⟨r0, r1, r2, r3, r4, r5, r6⟩ := r
    obtain ⟨s0, s1, s2, s3, s4, s5, s6⟩ := s
    go_wp2_with fail
    refine bodyPost_ret (v := .tuple #[.agg #[.slice A1 m c1, .int .i64 L.r0, .int .i64 L.r1, .int .i64 L.r2, .int .i64 L.r3, .int .i64 L.r4, .int .i64 L.r5], .agg #[.slice A2 m c2, .int .i64 L.r0, .int .i64 L.r1, .int .i64 L.r2, .int .i64 L.r3, .int .i64 L.r4, .int .i64 L.r5], .bool true]) (by simp [results, Try.results14, go_sem, *]) rfl ⟨L, A1, A2, c1, c2, a', ?_, .inl rfl, ?_, ?_, ?_, ha', ?_⟩
    · rw [HL.out]
    · exact ((HR1.out.tape HF4.out).fr HF5.out (by intro hl b o hA _ hs; have := old_of HR1.out (Nat.le_refl _) hl b o hA; omega)).drew
    · exact ((HR2.out.tape HF4.out).fr HF5.out (by intro hl b o hA _ hs; have := old_of HR2.out (Nat.le_refl _) hl b o hA; omega)).drew
    · exact (HT4.out.fr HF5.out (by intro h; omega) (by intro b o hA hl hs; have := old_of HT0.out.2.2.2.2.1 (Nat.le_refl _) hl b o hA; omega)).drew
    · exact (HF4.out.step HF5.out (fun i hi h => by omega)).drew


end Go.Proofs.Ytjhkgoengoiljaa

/- Contracts: a ledger after some steps. -/
namespace Go.Proofs.Ytjhkgoengoiljaa
open Go.RowKit

def S3 (w : World) (H : Nat) (x0 x1 x2 : V7) : Prop := B7 w H x0 ∧ B7 w (H + 1) x1 ∧ B7 w (H + 2) x2
theorem S3.fr {w w' : World} {H : Nat} {x0 x1 x2 : V7} {S : Nat → Prop} (h : S3 w H x0 x1 x2) (hf : Fr w w' S) (hS : ∀ i, H ≤ i → i < H + 3 → ¬ S i) : S3 w' H x0 x1 x2 :=
  ⟨h.1.fr hf (hS _ (by omega) (by omega)), h.2.1.fr hf (hS _ (by omega) (by omega)), h.2.2.fr hf (hS _ (by omega) (by omega))⟩

theorem ldv_no (A : Option Addr) (n c : Nat) (L : Ld) : noStr (LDV A n c L).v0 ∧ noStr (LDV A n c L).v1 ∧ noStr (LDV A n c L).v2 ∧ noStr (LDV A n c L).v3 ∧ noStr (LDV A n c L).v4 ∧ noStr (LDV A n c L).v5 ∧ noStr (LDV A n c L).v6 := ⟨trivial, trivial, trivial, trivial, trivial, trivial, trivial⟩
theorem put_lived {w : World} {H : Nat} {x0 x1 x2 : V7} (u v : V7) (h : S3 w H x0 x1 x2) :
    S3 (put7 (put7 w (H + 1) u.v0 u.v1 u.v2 u.v3 u.v4 u.v5 u.v6) (H + 2) v.v0 v.v1 v.v2 v.v3 v.v4 v.v5 v.v6) H x0 u v ∧
    Fr w (put7 (put7 w (H + 1) u.v0 u.v1 u.v2 u.v3 u.v4 u.v5 u.v6) (H + 2) v.v0 v.v1 v.v2 v.v3 v.v4 v.v5 v.v6) (fun i => i = H + 1 ∨ i = H + 2) := by
  obtain ⟨h0, h1, h2⟩ := h
  exact ⟨⟨(h0.fr fr_put7 (by omega)).fr fr_put7 (by omega), (h1.put u).fr fr_put7 (by omega), (h2.fr fr_put7 (by omega)).put v⟩, (fr_put7.mono (fun _ _ h => Or.inl h)).step fr_put7 (fun _ _ h => Or.inr h)⟩

set_option maxRecDepth 100000 in
set_option maxHeartbeats 2000000 in
theorem lived_any (w : World) (T : Nat) (A : Option Addr) (n c : Nat) (l : List Int) (a : Nat) (most : Int) (hT : TapeAt w T A n c l a) (ha : a ≤ 100000) (hm : most ≤ 70) :
    Calls Try.prog 10 #[.pointer (some ⟨T, 0, none⟩), .int .i64 most] w fun e w' => ∃ (j : Nat) (X : Ld) (B : Option Addr) (d a' : Nat),
      e = .returned (.tuple #[.agg #[.slice B X.tks.length d, .int .i64 X.r0, .int .i64 X.r1, .int .i64 X.r2, .int .i64 X.r3, .int .i64 X.r4, .int .i64 X.r5], .bool true]) ∧ Reach j X ∧ j ≤ 70 ∧ Rs w' (some T) 10 Tk.vals B X.tks ∧ TapeAt w' T A n c l a' ∧ a' ≤ a + 900 ∧ Fr w w' (fun i => i = T) := by
  have hTl := hT.1
  have HT0 := hide hT
  clear hT
  go_enter Try.func10, Try.ntmps10
  go_wp2_with fail
  refine (next_any _ T A n c l a _ (((HT0.out.alloc _).alloc _).alloc _) (by omega) (by omega)).mono ?_
  rintro e w1 ⟨rfl, ht1, hf1⟩
  have HS1 := hide (show S3 w1 w.heap.size LZV LZV LZV from by
    refine S3.fr ?_ hf1 (fun i h1 h2 h3 => by omega)
    simp only [S3, B7, LZV]
    refine ⟨?_, ?_, ?_⟩ <;> refine ⟨by first | (simp; done) | (simp; omega), ⟨?_, ?_, ?_, ?_, ?_, ?_, ?_⟩, ?_, ?_⟩ <;> first | (intro j; go_simp; done) | (go_simp; done))
  have HF1 := hide (((((Fr.refl w (fun i => i = T)).alloc _).alloc _).alloc _).trans hf1)
  have HT1 := hide ht1
  have hv := tapeV_lo l a most
  obtain ⟨v, hvv⟩ : ∃ v : Nat, tapeV l a most = v := ⟨(tapeV l a most).toNat, by omega⟩
  rw [hvv] at hv ⊢
  have hv70 : v ≤ 70 := by omega
  clear ht1 hf1 hv hvv
  go_wp2_with fail
  go_loopw [8, 9] (fun ok x wr => ∃ (i j : Nat) (X : Ld) (B1 B2 : Option Addr) (d1 d2 m a' : Nat), i + j = v ∧ x = .int .i64 i ∧ ok = .bool true ∧ Hid (Reach j X) ∧ Hid (X.tks.length = m) ∧ Hid (S3 wr w.heap.size LZV (LDV B1 m d1 X) (LDV B2 m d2 X)) ∧ Hid (Rs wr (some T) 10 Tk.vals B1 X.tks) ∧ Hid (Rs wr (some T) 10 Tk.vals B2 X.tks) ∧ Hid (TapeAt wr T A n c l a') ∧ Hid (Fr w wr (fun i => i = T)) ∧ a' ≤ a + 1 + 12 * j) (fun _ x _ => (intOf x).toNat)
  case atStart => exact ⟨v, 0, Ld.nil, none, none, 0, 0, 0, a + 1, by omega, rfl, rfl, hide .zero, hide rfl, HS1, hide Rs.nil, hide Rs.nil, HT1, HF1, by omega⟩
  case round =>
    obtain ⟨i, j, X, B1, B2, d1, d2, m, a', hij, rfl, rfl, HR, HM, HS, HB1, HB2, HT, HF, ha'⟩ := hrel
    by_cases hi : i = 0
    · subst hi
      obtain ⟨⟨l0, p, gp, -⟩, ⟨l1, q, gq, -⟩, ⟨l2, r, gr, -⟩⟩ := HS.out
      simp only [LDV, LZV] at p q r
      obtain ⟨p0, p1, p2, p3, p4, p5, p6⟩ := p
      obtain ⟨q0, q1, q2, q3, q4, q5, q6⟩ := q
      obtain ⟨r0, r1, r2, r3, r4, r5, r6⟩ := r
      go_wp2_with fail
      refine bodyPost_ret (v := .tuple #[.agg #[.slice B1 m d1, .int .i64 X.r0, .int .i64 X.r1, .int .i64 X.r2, .int .i64 X.r3, .int .i64 X.r4, .int .i64 X.r5], .bool true]) (by simp [results, Try.results10, go_sem, *]) rfl ⟨j, X, B1, d1, a', ?_, HR.out, by omega, ?_, ?_, by omega, ?_⟩
      · rw [HM.out]
      · refine (HB1.out.fr (S := fun i => i = w.heap.size) ?_ (fun hl b o hA _ h => rs_not_b7 HB1.out tk_str HS.out.1 lzv_no hl b o hA h)); first | exact fr_put7 | exact fr_put7.drew
      · refine HT.out.fr (S := fun i => i = w.heap.size) ?_ (by omega) (fun b o hA hl h => by have := old_of HT0.out.2.2.2.2.1 (Nat.le_refl _) hl b o hA; omega); first | exact fr_put7 | exact fr_put7.drew
      · refine HF.out.step (T := fun i => i = w.heap.size) ?_ (fun i hi h => by omega); first | exact fr_put7 | exact fr_put7.drew
    · have hgt : decide ((0 : Int) < (i : Int)) = true := by simp; omega
      obtain ⟨⟨l0, p, gp, -⟩, ⟨l1, q, gq, -⟩, ⟨l2, r, gr, -⟩⟩ := HS.out
      simp only [LDV, LZV] at p q r
      obtain ⟨p0, p1, p2, p3, p4, p5, p6⟩ := p
      obtain ⟨q0, q1, q2, q3, q4, q5, q6⟩ := q
      obtain ⟨r0, r1, r2, r3, r4, r5, r6⟩ := r
      have h128 : m ≤ 128 := by have h1 := ((ok_iff X).1 HR.out.ok).1; have h2 := HM.out; omega
      go_wp2_with fail
      refine (step_any _ T A n c l a' HT.out (by omega) B1 B2 m d1 d2 X h128 HB1.out HB2.out HM.out).mono ?_
      rintro e w2 ⟨X2, C1, C2, e1, e2, a2, rfl, hst, hr1, hr2, ht2, hle, hf2⟩
      have HS2 := hide (HS.out.fr hf2 (fun i h1 h2 h3 => by omega))
      have HF2 := hide (HF.out.trans hf2)
      have HT2 := hide ht2
      have HC1 := hide hr1
      have HC2 := hide hr2
      have HST := hide hst
      clear hst hr1 hr2 ht2 hf2 p0 p1 p2 p3 p4 p5 p6 q0 q1 q2 q3 q4 q5 q6 r0 r1 r2 r3 r4 r5 r6 gp gq gr l0 l1 l2
      obtain ⟨⟨l0, p, gp, -⟩, ⟨l1, q, gq, -⟩, ⟨l2, r, gr, -⟩⟩ := HS2.out
      simp only [LDV, LZV] at p q r
      obtain ⟨p0, p1, p2, p3, p4, p5, p6⟩ := p
      obtain ⟨q0, q1, q2, q3, q4, q5, q6⟩ := q
      obtain ⟨r0, r1, r2, r3, r4, r5, r6⟩ := r
      go_upto_region 5 with (fail)
      generalize hW : World.setCell (World.setCell (World.setCell (World.setCell (World.setCell (World.setCell (World.setCell (World.setCell (World.setCell (World.setCell (World.setCell (World.setCell (World.setCell (World.setCell w2 _ _) _ _) _ _) _ _) _ _) _ _) _ _) _ _) _ _) _ _) _ _) _ _) _ _) _ _ = w3
      obtain ⟨hs3, hf3⟩ : S3 w3 w.heap.size LZV (LDV C1 X2.tks.length e1 X2) (LDV C2 X2.tks.length e2 X2) ∧ Fr w2 w3 (fun i => i = w.heap.size + 1 ∨ i = w.heap.size + 2) := by
        rw [← hW]
        have hh := put_lived (LDV C1 X2.tks.length e1 X2) (LDV C2 X2.tks.length e2 X2) HS2.out
        simp only [put7, Nat.add_assoc, Nat.reduceAdd] at hh ⊢
        exact hh
      have HS3 := hide hs3
      have HF3 := hide hf3
      clear hW hs3 hf3
      go_wp2_with fail
      go_roundw
      case rel =>
        have hold := old_of HT0.out.2.2.2.2.1 (Nat.le_refl _)
        refine ⟨i - 1, j + 1, X2, C1, C2, e1, e2, X2.tks.length, a2, by omega, ?_, rfl, hide (.step HR.out HST.out), hide rfl, HS3, hide (HC1.out.fr HF3.out ?_), hide (HC2.out.fr HF3.out ?_), hide (HT2.out.fr HF3.out (by omega) (fun b o hA hl h => by have := hold hl b o hA; omega)), hide (HF2.out.step HF3.out (fun i hi h => by omega)), by omega⟩
        · congr 1
          omega
        · intro hl b o hA _ h
          have h1 := rs_not_b7 HC1.out tk_str HS2.out.2.1 (ldv_no _ _ _ _) hl b o hA
          have h2 := rs_not_b7 HC1.out tk_str HS2.out.2.2 (ldv_no _ _ _ _) hl b o hA
          omega
        · intro hl b o hA _ h
          have h1 := rs_not_b7 HC2.out tk_str HS2.out.2.1 (ldv_no _ _ _ _) hl b o hA
          have h2 := rs_not_b7 HC2.out tk_str HS2.out.2.2 (ldv_no _ _ _ _) hl b o hA
          omega
      case measure => simp [intOf]; omega

end Go.Proofs.Ytjhkgoengoiljaa

/- The example of the chapter, in plain data. -/
namespace Go.Proofs.Ytjhkgoengoiljaa

def kt (t : Tk) (st att run ep out : Int) : Tk := { t with rev := 1, st := st, att := att, run := run, ep := ep, out := out }
def kl (t : Tk) (st att run ep out r1 r2 r3 r5 : Int) : Ld := ⟨[kt t st att run ep out], 0, r1, r2, r3, 0, r5⟩
theorem kl_plan {t : Tk} (ht : taskOk t = true) : Ld.nil.plan t 1 = (kl t 0 0 0 0 0 0 0 0 0, 0, 0) := by
  have h : Ld.nil.ok = true := nil_ok
  have h2 : revB 1 = true := by decide
  unfold Ld.plan
  rw [if_neg (by simp [h, ht]), if_neg (by simp [h2]), if_neg (by simp [Ld.nil])]
  rfl
theorem kl1_ok {t : Tk} (ht : taskOk t = true) : (kl t 0 0 0 0 0 0 0 0 0).ok = true := by
  have := plan_ok' (L := Ld.nil) (t := t) (rev := 1) nil_ok (by rw [kl_plan ht])
  rwa [kl_plan ht] at this
theorem kl_begin1 {t : Tk} (ht : taskOk t = true) : (kl t 0 0 0 0 0 0 0 0 0).begin 0 2 1 = (kl t 1 1 2 1 0 0 0 0 0, 1, 0) := by
  unfold Ld.begin
  rw [if_neg (by simp [kl1_ok ht])]
  rfl
theorem kl2_ok {t : Tk} (ht : taskOk t = true) : (kl t 1 1 2 1 0 0 0 0 0).ok = true := by
  have := begin_ok' (k := 0) (r := 2) (e := 1) (kl1_ok ht) (by rw [kl_begin1 ht])
  rwa [kl_begin1 ht] at this
theorem kl_fail {t : Tk} (ht : taskOk t = true) : (kl t 1 1 2 1 0 0 0 0 0).fail 0 5 = (kl t 0 1 0 0 0 0 0 0 0, 0) := by
  unfold Ld.fail
  rw [if_neg (by simp [kl2_ok ht])]
  rfl
theorem kl3_ok {t : Tk} (ht : taskOk t = true) : (kl t 0 1 0 0 0 0 0 0 0).ok = true := by
  have := fail_ok' (k := 0) (o := 5) (kl2_ok ht) (by rw [kl_fail ht])
  rwa [kl_fail ht] at this
theorem kl_begin2 {t : Tk} (ht : taskOk t = true) : (kl t 0 1 0 0 0 0 0 0 0).begin 0 3 1 = (kl t 1 2 3 1 0 0 0 0 0, 2, 0) := by
  unfold Ld.begin
  rw [if_neg (by simp [kl3_ok ht])]
  rfl
theorem kl4_ok {t : Tk} (ht : taskOk t = true) : (kl t 1 2 3 1 0 0 0 0 0).ok = true := by
  have := begin_ok' (k := 0) (r := 3) (e := 1) (kl3_ok ht) (by rw [kl_begin2 ht])
  rwa [kl_begin2 ht] at this
theorem kl_take1 {t : Tk} (ht : taskOk t = true) : (kl t 1 2 3 1 0 0 0 0 0).take ⟨0, 1, 2, 1, 2⟩ = (kl t 1 2 3 1 0 0 0 1 0, 3, 0) := by
  have h2 : reportOk ⟨0, 1, 2, 1, 2⟩ = true := by decide
  unfold Ld.take
  rw [if_neg (by simp [kl4_ok ht, h2])]
  rfl
theorem kl5_ok {t : Tk} (ht : taskOk t = true) : (kl t 1 2 3 1 0 0 0 1 0).ok = true := by
  have := take_ok' (p := ⟨0, 1, 2, 1, 2⟩) (kl4_ok ht) (by rw [kl_take1 ht])
  rwa [kl_take1 ht] at this
theorem kl_take2 {t : Tk} (ht : taskOk t = true) : (kl t 1 2 3 1 0 0 0 1 0).take ⟨0, 2, 3, 1, 1⟩ = (kl t 2 2 3 1 1 1 0 1 0, 1, 0) := by
  have h2 : reportOk ⟨0, 2, 3, 1, 1⟩ = true := by decide
  unfold Ld.take
  rw [if_neg (by simp [kl5_ok ht, h2])]
  rfl
theorem kl6_ok {t : Tk} (ht : taskOk t = true) : (kl t 2 2 3 1 1 1 0 1 0).ok = true := by
  have := take_ok' (p := ⟨0, 2, 3, 1, 1⟩) (kl5_ok ht) (by rw [kl_take2 ht])
  rwa [kl_take2 ht] at this
theorem kl_take3 {t : Tk} (ht : taskOk t = true) : (kl t 2 2 3 1 1 1 0 1 0).take ⟨0, 2, 3, 1, 1⟩ = (kl t 2 2 3 1 1 1 1 1 0, 2, 0) := by
  have h2 : reportOk ⟨0, 2, 3, 1, 1⟩ = true := by decide
  unfold Ld.take
  rw [if_neg (by simp [kl6_ok ht, h2])]
  rfl
theorem kl7_ok {t : Tk} (ht : taskOk t = true) : (kl t 2 2 3 1 1 1 1 1 0).ok = true := by
  have := take_ok' (p := ⟨0, 2, 3, 1, 1⟩) (kl6_ok ht) (by rw [kl_take3 ht])
  rwa [kl_take3 ht] at this
theorem kl_take4 {t : Tk} (ht : taskOk t = true) : (kl t 2 2 3 1 1 1 1 1 0).take ⟨0, 2, 3, 1, 2⟩ = (kl t 2 2 3 1 1 1 1 1 1, 5, 0) := by
  have h2 : reportOk ⟨0, 2, 3, 1, 2⟩ = true := by decide
  unfold Ld.take
  rw [if_neg (by simp [kl7_ok ht, h2])]
  rfl

/-- The ledgers, the reports and the kinds of the example's last part. -/
def ks (t : Tk) : Nat → Ld
  | 0 => kl t 1 2 3 1 0 0 0 0 0
  | 1 => kl t 1 2 3 1 0 0 0 1 0
  | 2 => kl t 2 2 3 1 1 1 0 1 0
  | 3 => kl t 2 2 3 1 1 1 1 1 0
  | _ => kl t 2 2 3 1 1 1 1 1 1
def kr : Nat → Rp
  | 0 => ⟨0, 1, 2, 1, 2⟩
  | 1 => ⟨0, 2, 3, 1, 1⟩
  | 2 => ⟨0, 2, 3, 1, 1⟩
  | _ => ⟨0, 2, 3, 1, 2⟩
def kk : Nat → Int
  | 0 => 3
  | 1 => 1
  | 2 => 2
  | _ => 5
theorem ks_take {t : Tk} (ht : taskOk t = true) {k : Nat} (hk : k < 4) : (ks t k).take (kr k) = (ks t (k + 1), kk k, 0) := by
  match k, hk with
  | 0, _ => exact kl_take1 ht
  | 1, _ => exact kl_take2 ht
  | 2, _ => exact kl_take3 ht
  | 3, _ => exact kl_take4 ht
theorem ks_len (t : Tk) (k : Nat) : (ks t k).tks.length = 1 := by
  match k with
  | 0 | 1 | 2 | 3 => rfl
  | k + 4 => rfl

end Go.Proofs.Ytjhkgoengoiljaa
