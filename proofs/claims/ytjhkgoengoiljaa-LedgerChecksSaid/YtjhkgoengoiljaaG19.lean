/- Contracts of the functions that these laws reach: part 19: The switch of the law's step: take. (printed by gensw.py); The switch of the law's step: take. (printed by gensw.py). -/
import Derived.Test.YtjhkgoengoiljaaG16
set_option linter.unusedVariables false
set_option linter.unusedSimpArgs false

/- The switch of the law's step: take. (printed by gensw.py) -/
namespace Go.Proofs.Ytjhkgoengoiljaa
open Go.RowKit

set_option maxRecDepth 100000 in
set_option maxHeartbeats 4000000 in
theorem sw_takeno (w : World) (T : Nat) (A : Option Addr) (n c : Nat) (l : List Int) (a : Nat) (ha : a ≤ 4294900000) (A1 A2 : Option Addr) (m c1 c2 : Nat) (L : Ld) (hm : m ≤ 128) (hTl : T < w.heap.size)
    (HR1 : Hid (Rs w (some T) 10 Tk.vals A1 L.tks)) (HR2 : Hid (Rs w (some T) 10 Tk.vals A2 L.tks)) (HL : Hid (L.tks.length = m)) (HOA : Hid (l ≠ [] → ∀ b o, A = some ⟨b, o, none⟩ → b < w.heap.size)) (HOV : Hid (∀ x, some T = some x → x < w.heap.size))
    (k v : Int) (hkr : 0 ≤ k ∧ k < m) (HB : Hid (decide (tapeV l (a + 2 + 1 + 1 + 1 + 1 + 1) 3 < 2) = false)) (hgr : v = 7 ∨ v = 8 ∨ v = 9 ∨ v = 10) (w3 : World) (HS3 : Hid (S6 w3 w.heap.size (LDV A1 m c1 L) (LDV A2 m c2 L) LZV LZV LZV LZV)) (HF3 : Hid (Fr w w3 (fun i => i = T))) (HT3 : Hid (TapeAt w3 T A n c l (a + 2 + 1)))
    (u3 u17 u18 u19 u20 u21 u22 u23 u24 u25 u26 u27 u28 u29 u30 u31 u32 u33 u34 u35 u36 u38 u39 u40 u41 u42 u43 u44 u45 u46 u47 u48 u49 u50 u51 u52 u53 u54 u55 u56 u57 u58 u59 u60 u61 u62 u63 u64 u65 u66 u67 u68 u69 u70 u71 u72 u73 u74 u75 u76 u77 u78 u79 u80 u81 u82 u83 u84 u85 u86 u87 u88 u89 u90 u91 u92 u93 u94 u95 u96 u97 u98 u99 u100 u101 u102 u103 u104 u105 u106 u107 u108 u109 u110 u111 u112 u113 u114 u115 u116 u117 u118 u119 u120 u121 u122 u123 u124 u125 u126 u127 u128 u129 u130 u131 u132 u133 u134 u135 u136 u137 u138 u139 u140 u141 u142 u143 u144 u145 u146 u147 u148 u149 u150 u151 u152 u153 u154 u155 u156 u157 u158 u159 u160 u161 u162 u163 u164 u165 u166 u167 u168 u169 u170 u171 u172 u173 u174 u175 u176 u177 u178 u179 u180 u181 u182 u183 u184 u185 u186 u187 u188 u189 u190 u191 u192 u193 u194 u195 u196 u197 u198 u199 u200 u201 u202 u203 u204 u205 u206 u207 u208 u209 u210 u211 u212 u213 u214 u215 u216 u217 u218 u219 u220 u221 u222 u223 u224 u225 u226 u227 u228 u229 u230 u231 u232 u233 u234 u235 u236 u237 u238 u239 u240 u241 u242 u243 u244 u245 u246 u247 u248 u249 u250 u251 : Value) (K' : Act → World → Prop) (Q' : Exit → Act → World → Prop)
    (HM : Hid (∀ (X : Ld) (er va : Int) (B1 B2 : Option Addr) (d1 d2 x a' : Nat) (wx : World) (z3 z17 z18 z19 z20 z21 z22 z23 z24 z25 z26 z27 z28 z29 z30 z31 z32 z33 z34 z35 z36 z37 z38 z39 z40 z41 z42 z43 z44 z45 z46 z47 z48 z49 z50 z51 z52 z53 z54 z55 z56 z57 z58 z59 z60 z61 z62 z63 z64 z65 z66 z67 z68 z69 z70 z71 z72 z73 z74 z75 z76 z77 z78 z79 z80 z81 z82 z83 z84 z85 z86 z87 z88 z89 z90 z91 z92 z93 z94 z95 z96 z97 z98 z99 z100 z101 z102 z103 z104 z105 z106 z107 z108 z109 z110 z111 z112 z113 z114 z115 z116 z117 z118 z119 z120 z121 z122 z123 z124 z125 z126 z127 z128 z129 z130 z131 z132 z133 z134 z135 z136 z137 z138 z139 z140 z141 z142 z143 z144 z145 z146 z147 z148 z149 z150 z151 z152 z153 z154 z155 z156 z157 z158 z159 z160 z161 z162 z163 z164 z165 z166 z167 z168 z169 z170 z171 z172 z173 z174 z175 z176 z177 z178 z179 z180 z181 z182 z183 z184 z185 z186 z187 z188 z189 z190 z191 z192 z193 z194 z195 z196 z197 z198 z199 z200 z201 z202 z203 z204 z205 z206 z207 z208 z209 z210 z211 z212 z213 z214 z215 z216 z217 z218 z219 z220 z221 z222 z223 z224 z225 z226 z227 z228 z229 z230 z231 z232 z233 z234 z235 z236 z237 z238 z239 z240 z241 z242 z243 z244 z245 z246 z247 z248 z249 z250 z251 : Value), (er = 0 → StepR L X) → X.tks.length = x → S6 wx w.heap.size (LDV A1 m c1 L) (LDV A2 m c2 L) LZV LZV (LDV B1 x d1 X) (LDV B2 x d2 X) → Rs wx (some T) 10 Tk.vals B1 X.tks → Rs wx (some T) 10 Tk.vals B2 X.tks → TapeAt wx T A n c l a' → Fr w wx (fun i => i = T) → a' ≤ a + 12 → x ≤ 129 → K' ⟨List.toArray (.pointer (some ⟨T, 0, none⟩) :: .agg #[.slice A1 m c1, .int .i64 L.r0, .int .i64 L.r1, .int .i64 L.r2, .int .i64 L.r3, .int .i64 L.r4, .int .i64 L.r5] :: .agg #[.slice A2 m c2, .int .i64 L.r0, .int .i64 L.r1, .int .i64 L.r2, .int .i64 L.r3, .int .i64 L.r4, .int .i64 L.r5] :: z3 :: .pointer (some ⟨w.heap.size, 0, none⟩) :: .pointer (some ⟨w.heap.size + 1, 0, none⟩) :: .pointer (some ⟨w.heap.size + 1 + 1, 0, none⟩) :: .pointer (some ⟨w.heap.size + 1 + 1 + 1, 0, none⟩) :: .bool false :: .pointer (some ⟨w.heap.size + 1 + 1 + 1 + 1, 0, none⟩) :: .pointer (some ⟨w.heap.size + 1 + 1 + 1 + 1 + 1, 0, none⟩) :: .int .i64 er :: .int .i64 er :: .int .i64 va :: .int .i64 va :: .bool true :: .int .i64 k :: z17 :: z18 :: z19 :: z20 :: z21 :: z22 :: z23 :: z24 :: z25 :: z26 :: z27 :: z28 :: z29 :: z30 :: z31 :: z32 :: z33 :: z34 :: z35 :: z36 :: z37 :: z38 :: z39 :: z40 :: z41 :: z42 :: z43 :: z44 :: z45 :: z46 :: z47 :: z48 :: z49 :: z50 :: z51 :: z52 :: z53 :: z54 :: z55 :: z56 :: z57 :: z58 :: z59 :: z60 :: z61 :: z62 :: z63 :: z64 :: z65 :: z66 :: z67 :: z68 :: z69 :: z70 :: z71 :: z72 :: z73 :: z74 :: z75 :: z76 :: z77 :: z78 :: z79 :: z80 :: z81 :: z82 :: z83 :: z84 :: z85 :: z86 :: z87 :: z88 :: z89 :: z90 :: z91 :: z92 :: z93 :: z94 :: z95 :: z96 :: z97 :: z98 :: z99 :: z100 :: z101 :: z102 :: z103 :: z104 :: z105 :: z106 :: z107 :: z108 :: z109 :: z110 :: z111 :: z112 :: z113 :: z114 :: z115 :: z116 :: z117 :: z118 :: z119 :: z120 :: z121 :: z122 :: z123 :: z124 :: z125 :: z126 :: z127 :: z128 :: z129 :: z130 :: z131 :: z132 :: z133 :: z134 :: z135 :: z136 :: z137 :: z138 :: z139 :: z140 :: z141 :: z142 :: z143 :: z144 :: z145 :: z146 :: z147 :: z148 :: z149 :: z150 :: z151 :: z152 :: z153 :: z154 :: z155 :: z156 :: z157 :: z158 :: z159 :: z160 :: z161 :: z162 :: z163 :: z164 :: z165 :: z166 :: z167 :: z168 :: z169 :: z170 :: z171 :: z172 :: z173 :: z174 :: z175 :: z176 :: z177 :: z178 :: z179 :: z180 :: z181 :: z182 :: z183 :: z184 :: z185 :: z186 :: z187 :: z188 :: z189 :: z190 :: z191 :: z192 :: z193 :: z194 :: z195 :: z196 :: z197 :: z198 :: z199 :: z200 :: z201 :: z202 :: z203 :: z204 :: z205 :: z206 :: z207 :: z208 :: z209 :: z210 :: z211 :: z212 :: z213 :: z214 :: z215 :: z216 :: z217 :: z218 :: z219 :: z220 :: z221 :: z222 :: z223 :: z224 :: z225 :: z226 :: z227 :: z228 :: z229 :: z230 :: z231 :: z232 :: z233 :: z234 :: z235 :: z236 :: z237 :: z238 :: z239 :: z240 :: z241 :: z242 :: z243 :: z244 :: z245 :: z246 :: z247 :: z248 :: z249 :: z250 :: z251 :: []), []⟩ wx)) :
    Code.wp Try.prog swCode (Exit.then K' Q') ⟨List.toArray (.pointer (some ⟨T, 0, none⟩) :: .agg #[.slice A1 m c1, .int .i64 L.r0, .int .i64 L.r1, .int .i64 L.r2, .int .i64 L.r3, .int .i64 L.r4, .int .i64 L.r5] :: .agg #[.slice A2 m c2, .int .i64 L.r0, .int .i64 L.r1, .int .i64 L.r2, .int .i64 L.r3, .int .i64 L.r4, .int .i64 L.r5] :: u3 :: .pointer (some ⟨w.heap.size, 0, none⟩) :: .pointer (some ⟨w.heap.size + 1, 0, none⟩) :: .pointer (some ⟨w.heap.size + 1 + 1, 0, none⟩) :: .pointer (some ⟨w.heap.size + 1 + 1 + 1, 0, none⟩) :: .bool false :: .pointer (some ⟨w.heap.size + 1 + 1 + 1 + 1, 0, none⟩) :: .pointer (some ⟨w.heap.size + 1 + 1 + 1 + 1 + 1, 0, none⟩) :: .int .i64 0 :: .int .i64 0 :: .int .i64 0 :: .int .i64 0 :: .bool true :: .int .i64 k :: u17 :: u18 :: u19 :: u20 :: u21 :: u22 :: u23 :: u24 :: u25 :: u26 :: u27 :: u28 :: u29 :: u30 :: u31 :: u32 :: u33 :: u34 :: u35 :: u36 :: .int .i64 v :: u38 :: u39 :: u40 :: u41 :: u42 :: u43 :: u44 :: u45 :: u46 :: u47 :: u48 :: u49 :: u50 :: u51 :: u52 :: u53 :: u54 :: u55 :: u56 :: u57 :: u58 :: u59 :: u60 :: u61 :: u62 :: u63 :: u64 :: u65 :: u66 :: u67 :: u68 :: u69 :: u70 :: u71 :: u72 :: u73 :: u74 :: u75 :: u76 :: u77 :: u78 :: u79 :: u80 :: u81 :: u82 :: u83 :: u84 :: u85 :: u86 :: u87 :: u88 :: u89 :: u90 :: u91 :: u92 :: u93 :: u94 :: u95 :: u96 :: u97 :: u98 :: u99 :: u100 :: u101 :: u102 :: u103 :: u104 :: u105 :: u106 :: u107 :: u108 :: u109 :: u110 :: u111 :: u112 :: u113 :: u114 :: u115 :: u116 :: u117 :: u118 :: u119 :: u120 :: u121 :: u122 :: u123 :: u124 :: u125 :: u126 :: u127 :: u128 :: u129 :: u130 :: u131 :: u132 :: u133 :: u134 :: u135 :: u136 :: u137 :: u138 :: u139 :: u140 :: u141 :: u142 :: u143 :: u144 :: u145 :: u146 :: u147 :: u148 :: u149 :: u150 :: u151 :: u152 :: u153 :: u154 :: u155 :: u156 :: u157 :: u158 :: u159 :: u160 :: u161 :: u162 :: u163 :: u164 :: u165 :: u166 :: u167 :: u168 :: u169 :: u170 :: u171 :: u172 :: u173 :: u174 :: u175 :: u176 :: u177 :: u178 :: u179 :: u180 :: u181 :: u182 :: u183 :: u184 :: u185 :: u186 :: u187 :: u188 :: u189 :: u190 :: u191 :: u192 :: u193 :: u194 :: u195 :: u196 :: u197 :: u198 :: u199 :: u200 :: u201 :: u202 :: u203 :: u204 :: u205 :: u206 :: u207 :: u208 :: u209 :: u210 :: u211 :: u212 :: u213 :: u214 :: u215 :: u216 :: u217 :: u218 :: u219 :: u220 :: u221 :: u222 :: u223 :: u224 :: u225 :: u226 :: u227 :: u228 :: u229 :: u230 :: u231 :: u232 :: u233 :: u234 :: u235 :: u236 :: u237 :: u238 :: u239 :: u240 :: u241 :: u242 :: u243 :: u244 :: u245 :: u246 :: u247 :: u248 :: u249 :: u250 :: u251 :: []), []⟩ w3 := by
  conv => arg 2; whnf
  have e0 : (v == 0) = false := by simp; omega
  have e1 : (v == 1) = false := by simp; omega
  have e2 : (v == 2) = false := by simp; omega
  have e3 : (v == 3) = false := by simp; omega
  have e4 : (v == 4) = false := by simp; omega
  have e5 : (v == 5) = false := by simp; omega
  have e6 : (v == 6) = false := by simp; omega
  go_upto_if 122 with (fail)
  go_cut [122] from 38 to 251 (fun sv wx => sv = .bool true ∧ wx = w3)
  case first =>
    rcases hgr with rfl | rfl | rfl | rfl
    all_goals
      go_wp2_with fail
      go_meet
      case rel => exact ⟨rfl, rfl⟩
  case rest =>
  obtain ⟨rfl, rfl⟩ := hcut
  clear e0 e1 e2 e3 e4 e5 e6
  go_wp2_with fail
  refine (next_any _ T A n c l (a + 2 + 1) 4 HT3.out (by omega) (by omega)).mono ?_
  rintro e w4 ⟨rfl, ht4, hf4⟩
  have HS4 := hide (HS3.out.fr hf4 (fun i h1 h2 h3 => by omega))
  have HF4 := hide (HF3.out.trans hf4)
  have HT4 := hide ht4
  clear ht4 hf4
  obtain ⟨y4, hy⟩ : ∃ y4, y4 = tapeV l (a + 2 + 1) 4 := ⟨_, rfl⟩
  have hlo := tapeV_lo l (a + 2 + 1) 4
  rw [← hy] at hlo ⊢
  have y40 : 0 ≤ y4 := hlo.1
  have y41 : y4 < 4 := by omega
  clear hlo hy
  go_wp2_with fail
  refine (next_any _ T A n c l (a + 2 + 1 + 1) 3 HT4.out (by omega) (by omega)).mono ?_
  rintro e w5 ⟨rfl, ht5, hf5⟩
  have HS5 := hide (HS4.out.fr hf5 (fun i h1 h2 h3 => by omega))
  have HF5 := hide (HF4.out.trans hf5)
  have HT5 := hide ht5
  clear ht5 hf5
  obtain ⟨y5, hy⟩ : ∃ y5, y5 = tapeV l (a + 2 + 1 + 1) 3 := ⟨_, rfl⟩
  have hlo := tapeV_lo l (a + 2 + 1 + 1) 3
  rw [← hy] at hlo ⊢
  have y50 : 0 ≤ y5 := hlo.1
  have y51 : y5 < 3 := by omega
  clear hlo hy
  go_wp2_with fail
  refine (next_any _ T A n c l (a + 2 + 1 + 1 + 1) 2 HT5.out (by omega) (by omega)).mono ?_
  rintro e w6 ⟨rfl, ht6, hf6⟩
  have HS6 := hide (HS5.out.fr hf6 (fun i h1 h2 h3 => by omega))
  have HF6 := hide (HF5.out.trans hf6)
  have HT6 := hide ht6
  clear ht6 hf6
  obtain ⟨y6, hy⟩ : ∃ y6, y6 = tapeV l (a + 2 + 1 + 1 + 1) 2 := ⟨_, rfl⟩
  have hlo := tapeV_lo l (a + 2 + 1 + 1 + 1) 2
  rw [← hy] at hlo ⊢
  have y60 : 0 ≤ y6 := hlo.1
  have y61 : y6 < 2 := by omega
  clear hlo hy
  go_wp2_with fail
  refine (next_any _ T A n c l (a + 2 + 1 + 1 + 1 + 1) 3 HT6.out (by omega) (by omega)).mono ?_
  rintro e w7 ⟨rfl, ht7, hf7⟩
  have HS7 := hide (HS6.out.fr hf7 (fun i h1 h2 h3 => by omega))
  have HF7 := hide (HF6.out.trans hf7)
  have HT7 := hide ht7
  clear ht7 hf7
  obtain ⟨y7, hy⟩ : ∃ y7, y7 = tapeV l (a + 2 + 1 + 1 + 1 + 1) 3 := ⟨_, rfl⟩
  have hlo := tapeV_lo l (a + 2 + 1 + 1 + 1 + 1) 3
  rw [← hy] at hlo ⊢
  have y70 : 0 ≤ y7 := hlo.1
  have y71 : y7 < 3 := by omega
  clear hlo hy
  obtain ⟨⟨-, p, gp, -⟩, -, -, -, -, -⟩ := HS7.out
  simp only [LDV, LZV] at p
  obtain ⟨p0, p1, p2, p3, p4, p5, p6⟩ := p
  go_upto_region 36 with (fail)
  have hg6 : w.heap.size + 6 ≤ w7.heap.size := HS7.out.2.2.2.2.2.1
  have hg0 : w.heap.size < w7.heap.size := by omega
  have HPn := hide (show RepAt (w7.alloc (.cells #[.int .i64 k, .int .i64 (1 + y4), .int .i64 y5, .int .i64 (1 + y6), .int .i64 (1 + y7)] 50)) w7.heap.size ⟨k, 1 + y4, y5, 1 + y6, 1 + y7⟩ from by
    unfold RepAt
    refine ⟨by simp, ⟨?_, ?_, ?_, ?_, ?_⟩, ?_⟩ <;> first | (intro j; go_simp; done) | (go_simp; done))
  obtain ⟨hk0, hk1⟩ := hkr
  go_wp2_with fail
  refine (chance_any _ T A n c l (a + 2 + 1 + 1 + 1 + 1 + 1) 2 3 (HT7.out.alloc _) (by omega) (by omega)).mono ?_
  rintro e w8 ⟨rfl, ht8, hf8⟩
  have HS8 := hide ((HS7.out.fr ((Fr.refl _ (fun _ => False)).alloc _) (fun _ _ _ h => h)).fr hf8 (fun i h1 h2 h3 => by omega))
  have HF8 := hide ((HF7.out.alloc _).trans hf8)
  have HT8 := hide ht8
  have HP8 := hide (HPn.out.fr hf8 (by omega))
  rw [HB.out]
  clear hf8 ht8
  clear p0 p1 p2 p3 p4 p5 p6 gp
  obtain ⟨⟨-, p, gp, -⟩, -, -, -, -, -⟩ := HS8.out
  simp only [LDV, LZV] at p
  obtain ⟨p0, p1, p2, p3, p4, p5, p6⟩ := p
  have HS9 := HS8
  have HF9 := HF8
  have HT9 := HT8
  have HP9 := HP8
  obtain ⟨-, ⟨z0, z1, z2, z3, z4⟩, -⟩ := HP9.out
  try dsimp only at z0 z1 z2 z3 z4
  go_wp2_with fail
  refine (take_any _ (some T) A1 c1 m L (HR1.out.tape HF9.out) HL.out (by omega) (⟨k, 1 + y4, y5, 1 + y6, 1 + y7⟩ : Rp) (fun x hx => Nat.lt_of_lt_of_le (HOV.out x hx) HF9.out.size)).mono ?_
  rintro e wa ⟨B1, d1, rfl, hra, hba⟩
  have HSa := hide (HS9.out.fr (Fr.of_below (fun _ => False) hba) (fun _ _ _ h => h))
  have HTa := hide (HT9.out.below hba)
  have HFa := hide (HF9.out.below_ hba)
  have HBa := hide hba
  have HRa := hide hra
  clear p0 p1 p2 p3 p4 p5 p6 gp
  have HPa := hide (HP9.out.fr (Fr.of_below (fun _ => False) hba) (fun h => h))
  clear z0 z1 z2 z3 z4
  clear hba hra
  obtain ⟨X, hX⟩ : ∃ X, X = (L.take (⟨k, 1 + y4, y5, 1 + y6, 1 + y7⟩ : Rp)) := ⟨_, rfl⟩
  rw [← hX] at HRa ⊢
  have HXX := hide hX
  clear hX
  obtain ⟨-, -, -, -, ⟨-, t, gt, -⟩, -⟩ := HSa.out
  simp only [LDV, LZV] at t
  obtain ⟨t0, t1, t2, t3, t4, t5, t6⟩ := t
  go_upto_region 40 with (fail)
  generalize hW : World.setCell (World.setCell (World.setCell (World.setCell (World.setCell (World.setCell (World.setCell wa _ _) _ _) _ _) _ _) _ _) _ _) _ _ = wb
  obtain ⟨hs, hr, ht, hf⟩ : S6 wb w.heap.size (LDV A1 m c1 L) (LDV A2 m c2 L) LZV LZV (LDV B1 X.1.tks.length d1 X.1) LZV ∧ Rs wb (some T) 10 Tk.vals B1 X.1.tks ∧ TapeAt wb T A n c l (a + 2 + 1 + 1 + 1 + 1 + 1 + 1) ∧ Fr wa wb (fun i => i = w.heap.size + 4) := by
    rw [← hW]
    have hh := put4_all (LDV B1 X.1.tks.length d1 X.1) HSa.out HRa.out HTa.out hTl HOA.out
    simp only [put7, Nat.add_assoc, Nat.reduceAdd] at hh ⊢
    exact hh
  have HSb := hide hs
  have HTb := hide ht
  have HFb := hide (HFa.out.step hf (fun i hi h => by omega))
  have HFab := hide hf
  have HRb := hide hr
  clear t0 t1 t2 t3 t4 t5 t6 gt
  clear hW hs ht hf hr
  obtain ⟨-, ⟨-, q, gq, -⟩, -, -, -, -⟩ := HSb.out
  simp only [LDV, LZV] at q
  obtain ⟨q0, q1, q2, q3, q4, q5, q6⟩ := q
  obtain ⟨-, ⟨z0, z1, z2, z3, z4⟩, -⟩ := HPa.out.fr HFab.out (by omega)
  try dsimp only at z0 z1 z2 z3 z4
  go_wp2_with fail
  refine (rtake_any _ (some T) A2 c2 m L (HR2.out.tape HFb.out) HL.out (by omega) (⟨k, 1 + y4, y5, 1 + y6, 1 + y7⟩ : Rp) (fun x hx => Nat.lt_of_lt_of_le (HOV.out x hx) HFb.out.size)).mono ?_
  rintro e wc ⟨B2, d2, rfl, hrc, hbc⟩
  have HSc := hide (HSb.out.fr (Fr.of_below (fun _ => False) hbc) (fun _ _ _ h => h))
  have HTc := hide (HTb.out.below hbc)
  have HFc := hide (HFb.out.below_ hbc)
  have HRc := hide (HRb.out.below hbc)
  have HRd := hide hrc
  clear q0 q1 q2 q3 q4 q5 q6 gq
  clear hbc hrc
  rw [← HXX.out] at HRd ⊢
  obtain ⟨-, -, -, -, -, ⟨-, u, gu, -⟩⟩ := HSc.out
  simp only [LDV, LZV] at u
  obtain ⟨u0, u1, u2, u3, u4, u5, u6⟩ := u
  go_wp2_with fail
  generalize hW : World.setCell (World.setCell (World.setCell (World.setCell (World.setCell (World.setCell (World.setCell wc _ _) _ _) _ _) _ _) _ _) _ _) _ _ = wd
  obtain ⟨hs, hr, hr2, ht, hf⟩ : S6 wd w.heap.size (LDV A1 m c1 L) (LDV A2 m c2 L) LZV LZV (LDV B1 X.1.tks.length d1 X.1) (LDV B2 X.1.tks.length d2 X.1) ∧ Rs wd (some T) 10 Tk.vals B1 X.1.tks ∧ Rs wd (some T) 10 Tk.vals B2 X.1.tks ∧ TapeAt wd T A n c l (a + 2 + 1 + 1 + 1 + 1 + 1 + 1) ∧ Fr wc wd (fun i => i = w.heap.size + 5) := by
    rw [← hW]
    have hh := put5_all (LDV B2 X.1.tks.length d2 X.1) HSc.out HRc.out HRd.out HTc.out hTl HOA.out
    simp only [put7, Nat.add_assoc, Nat.reduceAdd] at hh ⊢
    exact hh
  clear hW
  have HE := hide (show X.2.2 = 0 → StepR L X.1 from by
    intro h
    have hX := HXX.out
    rw [hX] at h ⊢
    exact .inr (.inr (.inr (.inl ⟨(⟨k, 1 + y4, y5, 1 + y6, 1 + y7⟩ : Rp), h, rfl⟩))))
  have hlen : X.1.tks.length ≤ 129 := by
    have := HXX.out
    have h2 := HL.out
    rw [this]
    have := take_len L
    exact Nat.le_trans (this _) (by omega)
  exact HM.out X.1 (X.2.2) (X.2.1) B1 B2 d1 d2 X.1.tks.length (a + 2 + 1 + 1 + 1 + 1 + 1 + 1) wd _ _ _ _ _ _ _ _ _ _ _ _ _ _ _ _ _ _ _ _ _ _ _ _ _ _ _ _ _ _ _ _ _ _ _ _ _ _ _ _ _ _ _ _ _ _ _ _ _ _ _ _ _ _ _ _ _ _ _ _ _ _ _ _ _ _ _ _ _ _ _ _ _ _ _ _ _ _ _ _ _ _ _ _ _ _ _ _ _ _ _ _ _ _ _ _ _ _ _ _ _ _ _ _ _ _ _ _ _ _ _ _ _ _ _ _ _ _ _ _ _ _ _ _ _ _ _ _ _ _ _ _ _ _ _ _ _ _ _ _ _ _ _ _ _ _ _ _ _ _ _ _ _ _ _ _ _ _ _ _ _ _ _ _ _ _ _ _ _ _ _ _ _ _ _ _ _ _ _ _ _ _ _ _ _ _ _ _ _ _ _ _ _ _ _ _ _ _ _ _ _ _ _ _ _ _ _ _ _ _ _ _ _ _ _ _ _ _ _ _ _ _ _ _ _ _ _ _ _ _ _ _ _ _ _ _ HE.out rfl hs hr hr2 ht (HFc.out.step hf (fun i hi h => by omega)) (by omega) hlen

end Go.Proofs.Ytjhkgoengoiljaa

/- The switch of the law's step: take. (printed by gensw.py) -/
namespace Go.Proofs.Ytjhkgoengoiljaa
open Go.RowKit

set_option maxRecDepth 100000 in
set_option maxHeartbeats 4000000 in
theorem sw_takeyes (w : World) (T : Nat) (A : Option Addr) (n c : Nat) (l : List Int) (a : Nat) (ha : a ≤ 4294900000) (A1 A2 : Option Addr) (m c1 c2 : Nat) (L : Ld) (hm : m ≤ 128) (hTl : T < w.heap.size)
    (HR1 : Hid (Rs w (some T) 10 Tk.vals A1 L.tks)) (HR2 : Hid (Rs w (some T) 10 Tk.vals A2 L.tks)) (HL : Hid (L.tks.length = m)) (HOA : Hid (l ≠ [] → ∀ b o, A = some ⟨b, o, none⟩ → b < w.heap.size)) (HOV : Hid (∀ x, some T = some x → x < w.heap.size))
    (k v : Int) (hkr : 0 ≤ k ∧ k < m) (HB : Hid (decide (tapeV l (a + 2 + 1 + 1 + 1 + 1 + 1) 3 < 2) = true)) (hgr : v = 7 ∨ v = 8 ∨ v = 9 ∨ v = 10) (w3 : World) (HS3 : Hid (S6 w3 w.heap.size (LDV A1 m c1 L) (LDV A2 m c2 L) LZV LZV LZV LZV)) (HF3 : Hid (Fr w w3 (fun i => i = T))) (HT3 : Hid (TapeAt w3 T A n c l (a + 2 + 1)))
    (u3 u17 u18 u19 u20 u21 u22 u23 u24 u25 u26 u27 u28 u29 u30 u31 u32 u33 u34 u35 u36 u38 u39 u40 u41 u42 u43 u44 u45 u46 u47 u48 u49 u50 u51 u52 u53 u54 u55 u56 u57 u58 u59 u60 u61 u62 u63 u64 u65 u66 u67 u68 u69 u70 u71 u72 u73 u74 u75 u76 u77 u78 u79 u80 u81 u82 u83 u84 u85 u86 u87 u88 u89 u90 u91 u92 u93 u94 u95 u96 u97 u98 u99 u100 u101 u102 u103 u104 u105 u106 u107 u108 u109 u110 u111 u112 u113 u114 u115 u116 u117 u118 u119 u120 u121 u122 u123 u124 u125 u126 u127 u128 u129 u130 u131 u132 u133 u134 u135 u136 u137 u138 u139 u140 u141 u142 u143 u144 u145 u146 u147 u148 u149 u150 u151 u152 u153 u154 u155 u156 u157 u158 u159 u160 u161 u162 u163 u164 u165 u166 u167 u168 u169 u170 u171 u172 u173 u174 u175 u176 u177 u178 u179 u180 u181 u182 u183 u184 u185 u186 u187 u188 u189 u190 u191 u192 u193 u194 u195 u196 u197 u198 u199 u200 u201 u202 u203 u204 u205 u206 u207 u208 u209 u210 u211 u212 u213 u214 u215 u216 u217 u218 u219 u220 u221 u222 u223 u224 u225 u226 u227 u228 u229 u230 u231 u232 u233 u234 u235 u236 u237 u238 u239 u240 u241 u242 u243 u244 u245 u246 u247 u248 u249 u250 u251 : Value) (K' : Act → World → Prop) (Q' : Exit → Act → World → Prop)
    (HM : Hid (∀ (X : Ld) (er va : Int) (B1 B2 : Option Addr) (d1 d2 x a' : Nat) (wx : World) (z3 z17 z18 z19 z20 z21 z22 z23 z24 z25 z26 z27 z28 z29 z30 z31 z32 z33 z34 z35 z36 z37 z38 z39 z40 z41 z42 z43 z44 z45 z46 z47 z48 z49 z50 z51 z52 z53 z54 z55 z56 z57 z58 z59 z60 z61 z62 z63 z64 z65 z66 z67 z68 z69 z70 z71 z72 z73 z74 z75 z76 z77 z78 z79 z80 z81 z82 z83 z84 z85 z86 z87 z88 z89 z90 z91 z92 z93 z94 z95 z96 z97 z98 z99 z100 z101 z102 z103 z104 z105 z106 z107 z108 z109 z110 z111 z112 z113 z114 z115 z116 z117 z118 z119 z120 z121 z122 z123 z124 z125 z126 z127 z128 z129 z130 z131 z132 z133 z134 z135 z136 z137 z138 z139 z140 z141 z142 z143 z144 z145 z146 z147 z148 z149 z150 z151 z152 z153 z154 z155 z156 z157 z158 z159 z160 z161 z162 z163 z164 z165 z166 z167 z168 z169 z170 z171 z172 z173 z174 z175 z176 z177 z178 z179 z180 z181 z182 z183 z184 z185 z186 z187 z188 z189 z190 z191 z192 z193 z194 z195 z196 z197 z198 z199 z200 z201 z202 z203 z204 z205 z206 z207 z208 z209 z210 z211 z212 z213 z214 z215 z216 z217 z218 z219 z220 z221 z222 z223 z224 z225 z226 z227 z228 z229 z230 z231 z232 z233 z234 z235 z236 z237 z238 z239 z240 z241 z242 z243 z244 z245 z246 z247 z248 z249 z250 z251 : Value), (er = 0 → StepR L X) → X.tks.length = x → S6 wx w.heap.size (LDV A1 m c1 L) (LDV A2 m c2 L) LZV LZV (LDV B1 x d1 X) (LDV B2 x d2 X) → Rs wx (some T) 10 Tk.vals B1 X.tks → Rs wx (some T) 10 Tk.vals B2 X.tks → TapeAt wx T A n c l a' → Fr w wx (fun i => i = T) → a' ≤ a + 12 → x ≤ 129 → K' ⟨List.toArray (.pointer (some ⟨T, 0, none⟩) :: .agg #[.slice A1 m c1, .int .i64 L.r0, .int .i64 L.r1, .int .i64 L.r2, .int .i64 L.r3, .int .i64 L.r4, .int .i64 L.r5] :: .agg #[.slice A2 m c2, .int .i64 L.r0, .int .i64 L.r1, .int .i64 L.r2, .int .i64 L.r3, .int .i64 L.r4, .int .i64 L.r5] :: z3 :: .pointer (some ⟨w.heap.size, 0, none⟩) :: .pointer (some ⟨w.heap.size + 1, 0, none⟩) :: .pointer (some ⟨w.heap.size + 1 + 1, 0, none⟩) :: .pointer (some ⟨w.heap.size + 1 + 1 + 1, 0, none⟩) :: .bool false :: .pointer (some ⟨w.heap.size + 1 + 1 + 1 + 1, 0, none⟩) :: .pointer (some ⟨w.heap.size + 1 + 1 + 1 + 1 + 1, 0, none⟩) :: .int .i64 er :: .int .i64 er :: .int .i64 va :: .int .i64 va :: .bool true :: .int .i64 k :: z17 :: z18 :: z19 :: z20 :: z21 :: z22 :: z23 :: z24 :: z25 :: z26 :: z27 :: z28 :: z29 :: z30 :: z31 :: z32 :: z33 :: z34 :: z35 :: z36 :: z37 :: z38 :: z39 :: z40 :: z41 :: z42 :: z43 :: z44 :: z45 :: z46 :: z47 :: z48 :: z49 :: z50 :: z51 :: z52 :: z53 :: z54 :: z55 :: z56 :: z57 :: z58 :: z59 :: z60 :: z61 :: z62 :: z63 :: z64 :: z65 :: z66 :: z67 :: z68 :: z69 :: z70 :: z71 :: z72 :: z73 :: z74 :: z75 :: z76 :: z77 :: z78 :: z79 :: z80 :: z81 :: z82 :: z83 :: z84 :: z85 :: z86 :: z87 :: z88 :: z89 :: z90 :: z91 :: z92 :: z93 :: z94 :: z95 :: z96 :: z97 :: z98 :: z99 :: z100 :: z101 :: z102 :: z103 :: z104 :: z105 :: z106 :: z107 :: z108 :: z109 :: z110 :: z111 :: z112 :: z113 :: z114 :: z115 :: z116 :: z117 :: z118 :: z119 :: z120 :: z121 :: z122 :: z123 :: z124 :: z125 :: z126 :: z127 :: z128 :: z129 :: z130 :: z131 :: z132 :: z133 :: z134 :: z135 :: z136 :: z137 :: z138 :: z139 :: z140 :: z141 :: z142 :: z143 :: z144 :: z145 :: z146 :: z147 :: z148 :: z149 :: z150 :: z151 :: z152 :: z153 :: z154 :: z155 :: z156 :: z157 :: z158 :: z159 :: z160 :: z161 :: z162 :: z163 :: z164 :: z165 :: z166 :: z167 :: z168 :: z169 :: z170 :: z171 :: z172 :: z173 :: z174 :: z175 :: z176 :: z177 :: z178 :: z179 :: z180 :: z181 :: z182 :: z183 :: z184 :: z185 :: z186 :: z187 :: z188 :: z189 :: z190 :: z191 :: z192 :: z193 :: z194 :: z195 :: z196 :: z197 :: z198 :: z199 :: z200 :: z201 :: z202 :: z203 :: z204 :: z205 :: z206 :: z207 :: z208 :: z209 :: z210 :: z211 :: z212 :: z213 :: z214 :: z215 :: z216 :: z217 :: z218 :: z219 :: z220 :: z221 :: z222 :: z223 :: z224 :: z225 :: z226 :: z227 :: z228 :: z229 :: z230 :: z231 :: z232 :: z233 :: z234 :: z235 :: z236 :: z237 :: z238 :: z239 :: z240 :: z241 :: z242 :: z243 :: z244 :: z245 :: z246 :: z247 :: z248 :: z249 :: z250 :: z251 :: []), []⟩ wx)) :
    Code.wp Try.prog swCode (Exit.then K' Q') ⟨List.toArray (.pointer (some ⟨T, 0, none⟩) :: .agg #[.slice A1 m c1, .int .i64 L.r0, .int .i64 L.r1, .int .i64 L.r2, .int .i64 L.r3, .int .i64 L.r4, .int .i64 L.r5] :: .agg #[.slice A2 m c2, .int .i64 L.r0, .int .i64 L.r1, .int .i64 L.r2, .int .i64 L.r3, .int .i64 L.r4, .int .i64 L.r5] :: u3 :: .pointer (some ⟨w.heap.size, 0, none⟩) :: .pointer (some ⟨w.heap.size + 1, 0, none⟩) :: .pointer (some ⟨w.heap.size + 1 + 1, 0, none⟩) :: .pointer (some ⟨w.heap.size + 1 + 1 + 1, 0, none⟩) :: .bool false :: .pointer (some ⟨w.heap.size + 1 + 1 + 1 + 1, 0, none⟩) :: .pointer (some ⟨w.heap.size + 1 + 1 + 1 + 1 + 1, 0, none⟩) :: .int .i64 0 :: .int .i64 0 :: .int .i64 0 :: .int .i64 0 :: .bool true :: .int .i64 k :: u17 :: u18 :: u19 :: u20 :: u21 :: u22 :: u23 :: u24 :: u25 :: u26 :: u27 :: u28 :: u29 :: u30 :: u31 :: u32 :: u33 :: u34 :: u35 :: u36 :: .int .i64 v :: u38 :: u39 :: u40 :: u41 :: u42 :: u43 :: u44 :: u45 :: u46 :: u47 :: u48 :: u49 :: u50 :: u51 :: u52 :: u53 :: u54 :: u55 :: u56 :: u57 :: u58 :: u59 :: u60 :: u61 :: u62 :: u63 :: u64 :: u65 :: u66 :: u67 :: u68 :: u69 :: u70 :: u71 :: u72 :: u73 :: u74 :: u75 :: u76 :: u77 :: u78 :: u79 :: u80 :: u81 :: u82 :: u83 :: u84 :: u85 :: u86 :: u87 :: u88 :: u89 :: u90 :: u91 :: u92 :: u93 :: u94 :: u95 :: u96 :: u97 :: u98 :: u99 :: u100 :: u101 :: u102 :: u103 :: u104 :: u105 :: u106 :: u107 :: u108 :: u109 :: u110 :: u111 :: u112 :: u113 :: u114 :: u115 :: u116 :: u117 :: u118 :: u119 :: u120 :: u121 :: u122 :: u123 :: u124 :: u125 :: u126 :: u127 :: u128 :: u129 :: u130 :: u131 :: u132 :: u133 :: u134 :: u135 :: u136 :: u137 :: u138 :: u139 :: u140 :: u141 :: u142 :: u143 :: u144 :: u145 :: u146 :: u147 :: u148 :: u149 :: u150 :: u151 :: u152 :: u153 :: u154 :: u155 :: u156 :: u157 :: u158 :: u159 :: u160 :: u161 :: u162 :: u163 :: u164 :: u165 :: u166 :: u167 :: u168 :: u169 :: u170 :: u171 :: u172 :: u173 :: u174 :: u175 :: u176 :: u177 :: u178 :: u179 :: u180 :: u181 :: u182 :: u183 :: u184 :: u185 :: u186 :: u187 :: u188 :: u189 :: u190 :: u191 :: u192 :: u193 :: u194 :: u195 :: u196 :: u197 :: u198 :: u199 :: u200 :: u201 :: u202 :: u203 :: u204 :: u205 :: u206 :: u207 :: u208 :: u209 :: u210 :: u211 :: u212 :: u213 :: u214 :: u215 :: u216 :: u217 :: u218 :: u219 :: u220 :: u221 :: u222 :: u223 :: u224 :: u225 :: u226 :: u227 :: u228 :: u229 :: u230 :: u231 :: u232 :: u233 :: u234 :: u235 :: u236 :: u237 :: u238 :: u239 :: u240 :: u241 :: u242 :: u243 :: u244 :: u245 :: u246 :: u247 :: u248 :: u249 :: u250 :: u251 :: []), []⟩ w3 := by
  conv => arg 2; whnf
  have e0 : (v == 0) = false := by simp; omega
  have e1 : (v == 1) = false := by simp; omega
  have e2 : (v == 2) = false := by simp; omega
  have e3 : (v == 3) = false := by simp; omega
  have e4 : (v == 4) = false := by simp; omega
  have e5 : (v == 5) = false := by simp; omega
  have e6 : (v == 6) = false := by simp; omega
  go_upto_if 122 with (fail)
  go_cut [122] from 38 to 251 (fun sv wx => sv = .bool true ∧ wx = w3)
  case first =>
    rcases hgr with rfl | rfl | rfl | rfl
    all_goals
      go_wp2_with fail
      go_meet
      case rel => exact ⟨rfl, rfl⟩
  case rest =>
  obtain ⟨rfl, rfl⟩ := hcut
  clear e0 e1 e2 e3 e4 e5 e6
  go_wp2_with fail
  refine (next_any _ T A n c l (a + 2 + 1) 4 HT3.out (by omega) (by omega)).mono ?_
  rintro e w4 ⟨rfl, ht4, hf4⟩
  have HS4 := hide (HS3.out.fr hf4 (fun i h1 h2 h3 => by omega))
  have HF4 := hide (HF3.out.trans hf4)
  have HT4 := hide ht4
  clear ht4 hf4
  obtain ⟨y4, hy⟩ : ∃ y4, y4 = tapeV l (a + 2 + 1) 4 := ⟨_, rfl⟩
  have hlo := tapeV_lo l (a + 2 + 1) 4
  rw [← hy] at hlo ⊢
  have y40 : 0 ≤ y4 := hlo.1
  have y41 : y4 < 4 := by omega
  clear hlo hy
  go_wp2_with fail
  refine (next_any _ T A n c l (a + 2 + 1 + 1) 3 HT4.out (by omega) (by omega)).mono ?_
  rintro e w5 ⟨rfl, ht5, hf5⟩
  have HS5 := hide (HS4.out.fr hf5 (fun i h1 h2 h3 => by omega))
  have HF5 := hide (HF4.out.trans hf5)
  have HT5 := hide ht5
  clear ht5 hf5
  obtain ⟨y5, hy⟩ : ∃ y5, y5 = tapeV l (a + 2 + 1 + 1) 3 := ⟨_, rfl⟩
  have hlo := tapeV_lo l (a + 2 + 1 + 1) 3
  rw [← hy] at hlo ⊢
  have y50 : 0 ≤ y5 := hlo.1
  have y51 : y5 < 3 := by omega
  clear hlo hy
  go_wp2_with fail
  refine (next_any _ T A n c l (a + 2 + 1 + 1 + 1) 2 HT5.out (by omega) (by omega)).mono ?_
  rintro e w6 ⟨rfl, ht6, hf6⟩
  have HS6 := hide (HS5.out.fr hf6 (fun i h1 h2 h3 => by omega))
  have HF6 := hide (HF5.out.trans hf6)
  have HT6 := hide ht6
  clear ht6 hf6
  obtain ⟨y6, hy⟩ : ∃ y6, y6 = tapeV l (a + 2 + 1 + 1 + 1) 2 := ⟨_, rfl⟩
  have hlo := tapeV_lo l (a + 2 + 1 + 1 + 1) 2
  rw [← hy] at hlo ⊢
  have y60 : 0 ≤ y6 := hlo.1
  have y61 : y6 < 2 := by omega
  clear hlo hy
  go_wp2_with fail
  refine (next_any _ T A n c l (a + 2 + 1 + 1 + 1 + 1) 3 HT6.out (by omega) (by omega)).mono ?_
  rintro e w7 ⟨rfl, ht7, hf7⟩
  have HS7 := hide (HS6.out.fr hf7 (fun i h1 h2 h3 => by omega))
  have HF7 := hide (HF6.out.trans hf7)
  have HT7 := hide ht7
  clear ht7 hf7
  obtain ⟨y7, hy⟩ : ∃ y7, y7 = tapeV l (a + 2 + 1 + 1 + 1 + 1) 3 := ⟨_, rfl⟩
  have hlo := tapeV_lo l (a + 2 + 1 + 1 + 1 + 1) 3
  rw [← hy] at hlo ⊢
  have y70 : 0 ≤ y7 := hlo.1
  have y71 : y7 < 3 := by omega
  clear hlo hy
  obtain ⟨⟨-, p, gp, -⟩, -, -, -, -, -⟩ := HS7.out
  simp only [LDV, LZV] at p
  obtain ⟨p0, p1, p2, p3, p4, p5, p6⟩ := p
  go_upto_region 36 with (fail)
  have hg6 : w.heap.size + 6 ≤ w7.heap.size := HS7.out.2.2.2.2.2.1
  have hg0 : w.heap.size < w7.heap.size := by omega
  have HPn := hide (show RepAt (w7.alloc (.cells #[.int .i64 k, .int .i64 (1 + y4), .int .i64 y5, .int .i64 (1 + y6), .int .i64 (1 + y7)] 50)) w7.heap.size ⟨k, 1 + y4, y5, 1 + y6, 1 + y7⟩ from by
    unfold RepAt
    refine ⟨by simp, ⟨?_, ?_, ?_, ?_, ?_⟩, ?_⟩ <;> first | (intro j; go_simp; done) | (go_simp; done))
  obtain ⟨hk0, hk1⟩ := hkr
  go_wp2_with fail
  refine (chance_any _ T A n c l (a + 2 + 1 + 1 + 1 + 1 + 1) 2 3 (HT7.out.alloc _) (by omega) (by omega)).mono ?_
  rintro e w8 ⟨rfl, ht8, hf8⟩
  have HS8 := hide ((HS7.out.fr ((Fr.refl _ (fun _ => False)).alloc _) (fun _ _ _ h => h)).fr hf8 (fun i h1 h2 h3 => by omega))
  have HF8 := hide ((HF7.out.alloc _).trans hf8)
  have HT8 := hide ht8
  have HP8 := hide (HPn.out.fr hf8 (by omega))
  rw [HB.out]
  clear hf8 ht8
  clear p0 p1 p2 p3 p4 p5 p6 gp
  obtain ⟨⟨-, p, gp, -⟩, -, -, -, -, -⟩ := HS8.out
  simp only [LDV, LZV] at p
  obtain ⟨p0, p1, p2, p3, p4, p5, p6⟩ := p
  obtain ⟨i, rfl⟩ := Int.eq_ofNat_of_zero_le hk0
  have him : i < L.tks.length := by have := HL.out; omega
  obtain ⟨t, hti⟩ : ∃ t, L.tks[i]? = some t := ⟨_, List.getElem?_eq_getElem him⟩
  obtain ⟨b, o, hA1, hbT, hb, hcells⟩ := (HR1.out.tape HF8.out).at hti
  obtain ⟨f0, f1, f2, f3, f4, f5, f6, f7, f8, f9⟩ := tkAt_of hcells
  obtain ⟨hgs, ⟨z0, z1, z2, z3, z4⟩, zf⟩ := HP8.out
  try dsimp only at z0 z1 z2 z3 z4
  rw [hA1] at p0
  clear hcells hti hA1
  have hne : ¬ w7.heap.size = w8.heap.size := by omega
  have hg1 : w.heap.size < w8.heap.size := by omega
  have hne2 : ¬ w8.heap.size = w7.heap.size := by omega
  go_wp2_with fail
  go_region_held3 (fun W => W.cell? ⟨w8.heap.size, 6, none⟩ = some (.int .i64 t.att) ∧ W.cell? ⟨w8.heap.size, 7, none⟩ = some (.int .i64 t.run) ∧ W.cell? ⟨w8.heap.size, 8, none⟩ = some (.int .i64 t.ep)) (first | (go_keep; done) | ((try dsimp only); refine ⟨?_, ?_, ?_⟩ <;> exact (cell?_alloc_at _ _ _ _ _ (by simp)).trans rfl)) (fail)
  generalize hW : World.drew _ = w9
  obtain ⟨hpp, hff⟩ : RepAt w9 w7.heap.size ⟨(i : Int), t.att, t.run, t.ep, 1 + y7⟩ ∧ Fr w8 w9 (fun j => j = w7.heap.size) := by
    rw [← hW]
    exact rep_put t.att t.run t.ep (.cells #[.string t.pk, .string t.ts, .int .i64 t.env, .int .i64 t.cost, .int .i64 t.rev, .int .i64 t.st, .int .i64 t.att, .int .i64 t.run, .int .i64 t.ep, .int .i64 t.out] 43) HP8.out
  have HP9 := hide hpp
  have HS9 := hide (HS8.out.fr hff (fun i h1 h2 h3 => by omega))
  have HF9 := hide (HF8.out.step hff (fun i hi h => by omega))
  have HT9 := hide (HT8.out.fr hff (fun h => by omega) (fun b o hA hl h => by have := HOA.out hl b o hA; omega))
  clear hW hpp hff f0 f1 f2 f3 f4 f5 f6 f7 f8 f9 z0 z1 z2 z3 z4 zf
  clear p0 p1 p2 p3 p4 p5 p6 gp
  obtain ⟨⟨-, p, gp, -⟩, -, -, -, -, -⟩ := HS9.out
  simp only [LDV, LZV] at p
  obtain ⟨p0, p1, p2, p3, p4, p5, p6⟩ := p
  obtain ⟨-, ⟨z0, z1, z2, z3, z4⟩, -⟩ := HP9.out
  try dsimp only at z0 z1 z2 z3 z4
  go_wp2_with fail
  refine (take_any _ (some T) A1 c1 m L (HR1.out.tape HF9.out) HL.out (by omega) (⟨(i : Int), t.att, t.run, t.ep, 1 + y7⟩ : Rp) (fun x hx => Nat.lt_of_lt_of_le (HOV.out x hx) HF9.out.size)).mono ?_
  rintro e wa ⟨B1, d1, rfl, hra, hba⟩
  have HSa := hide (HS9.out.fr (Fr.of_below (fun _ => False) hba) (fun _ _ _ h => h))
  have HTa := hide (HT9.out.below hba)
  have HFa := hide (HF9.out.below_ hba)
  have HBa := hide hba
  have HRa := hide hra
  clear p0 p1 p2 p3 p4 p5 p6 gp
  have HPa := hide (HP9.out.fr (Fr.of_below (fun _ => False) hba) (fun h => h))
  clear z0 z1 z2 z3 z4
  clear hba hra
  obtain ⟨X, hX⟩ : ∃ X, X = (L.take (⟨(i : Int), t.att, t.run, t.ep, 1 + y7⟩ : Rp)) := ⟨_, rfl⟩
  rw [← hX] at HRa ⊢
  have HXX := hide hX
  clear hX
  obtain ⟨-, -, -, -, ⟨-, t, gt, -⟩, -⟩ := HSa.out
  simp only [LDV, LZV] at t
  obtain ⟨t0, t1, t2, t3, t4, t5, t6⟩ := t
  go_upto_region 40 with (fail)
  generalize hW : World.setCell (World.setCell (World.setCell (World.setCell (World.setCell (World.setCell (World.setCell wa _ _) _ _) _ _) _ _) _ _) _ _) _ _ = wb
  obtain ⟨hs, hr, ht, hf⟩ : S6 wb w.heap.size (LDV A1 m c1 L) (LDV A2 m c2 L) LZV LZV (LDV B1 X.1.tks.length d1 X.1) LZV ∧ Rs wb (some T) 10 Tk.vals B1 X.1.tks ∧ TapeAt wb T A n c l (a + 2 + 1 + 1 + 1 + 1 + 1 + 1) ∧ Fr wa wb (fun i => i = w.heap.size + 4) := by
    rw [← hW]
    have hh := put4_all (LDV B1 X.1.tks.length d1 X.1) HSa.out HRa.out HTa.out hTl HOA.out
    simp only [put7, Nat.add_assoc, Nat.reduceAdd] at hh ⊢
    exact hh
  have HSb := hide hs
  have HTb := hide ht
  have HFb := hide (HFa.out.step hf (fun i hi h => by omega))
  have HFab := hide hf
  have HRb := hide hr
  clear t0 t1 t2 t3 t4 t5 t6 gt
  clear hW hs ht hf hr
  obtain ⟨-, ⟨-, q, gq, -⟩, -, -, -, -⟩ := HSb.out
  simp only [LDV, LZV] at q
  obtain ⟨q0, q1, q2, q3, q4, q5, q6⟩ := q
  obtain ⟨-, ⟨z0, z1, z2, z3, z4⟩, -⟩ := HPa.out.fr HFab.out (by omega)
  try dsimp only at z0 z1 z2 z3 z4
  go_wp2_with fail
  refine (rtake_any _ (some T) A2 c2 m L (HR2.out.tape HFb.out) HL.out (by omega) (⟨(i : Int), t.att, t.run, t.ep, 1 + y7⟩ : Rp) (fun x hx => Nat.lt_of_lt_of_le (HOV.out x hx) HFb.out.size)).mono ?_
  rintro e wc ⟨B2, d2, rfl, hrc, hbc⟩
  have HSc := hide (HSb.out.fr (Fr.of_below (fun _ => False) hbc) (fun _ _ _ h => h))
  have HTc := hide (HTb.out.below hbc)
  have HFc := hide (HFb.out.below_ hbc)
  have HRc := hide (HRb.out.below hbc)
  have HRd := hide hrc
  clear q0 q1 q2 q3 q4 q5 q6 gq
  clear hbc hrc
  rw [← HXX.out] at HRd ⊢
  obtain ⟨-, -, -, -, -, ⟨-, u, gu, -⟩⟩ := HSc.out
  simp only [LDV, LZV] at u
  obtain ⟨u0, u1, u2, u3, u4, u5, u6⟩ := u
  go_wp2_with fail
  generalize hW : World.setCell (World.setCell (World.setCell (World.setCell (World.setCell (World.setCell (World.setCell wc _ _) _ _) _ _) _ _) _ _) _ _) _ _ = wd
  obtain ⟨hs, hr, hr2, ht, hf⟩ : S6 wd w.heap.size (LDV A1 m c1 L) (LDV A2 m c2 L) LZV LZV (LDV B1 X.1.tks.length d1 X.1) (LDV B2 X.1.tks.length d2 X.1) ∧ Rs wd (some T) 10 Tk.vals B1 X.1.tks ∧ Rs wd (some T) 10 Tk.vals B2 X.1.tks ∧ TapeAt wd T A n c l (a + 2 + 1 + 1 + 1 + 1 + 1 + 1) ∧ Fr wc wd (fun i => i = w.heap.size + 5) := by
    rw [← hW]
    have hh := put5_all (LDV B2 X.1.tks.length d2 X.1) HSc.out HRc.out HRd.out HTc.out hTl HOA.out
    simp only [put7, Nat.add_assoc, Nat.reduceAdd] at hh ⊢
    exact hh
  clear hW
  have HE := hide (show X.2.2 = 0 → StepR L X.1 from by
    intro h
    have hX := HXX.out
    rw [hX] at h ⊢
    exact .inr (.inr (.inr (.inl ⟨(⟨(i : Int), t.att, t.run, t.ep, 1 + y7⟩ : Rp), h, rfl⟩))))
  have hlen : X.1.tks.length ≤ 129 := by
    have := HXX.out
    have h2 := HL.out
    rw [this]
    have := take_len L
    exact Nat.le_trans (this _) (by omega)
  exact HM.out X.1 (X.2.2) (X.2.1) B1 B2 d1 d2 X.1.tks.length (a + 2 + 1 + 1 + 1 + 1 + 1 + 1) wd _ _ _ _ _ _ _ _ _ _ _ _ _ _ _ _ _ _ _ _ _ _ _ _ _ _ _ _ _ _ _ _ _ _ _ _ _ _ _ _ _ _ _ _ _ _ _ _ _ _ _ _ _ _ _ _ _ _ _ _ _ _ _ _ _ _ _ _ _ _ _ _ _ _ _ _ _ _ _ _ _ _ _ _ _ _ _ _ _ _ _ _ _ _ _ _ _ _ _ _ _ _ _ _ _ _ _ _ _ _ _ _ _ _ _ _ _ _ _ _ _ _ _ _ _ _ _ _ _ _ _ _ _ _ _ _ _ _ _ _ _ _ _ _ _ _ _ _ _ _ _ _ _ _ _ _ _ _ _ _ _ _ _ _ _ _ _ _ _ _ _ _ _ _ _ _ _ _ _ _ _ _ _ _ _ _ _ _ _ _ _ _ _ _ _ _ _ _ _ _ _ _ _ _ _ _ _ _ _ _ _ _ _ _ _ _ _ _ _ _ _ _ _ _ _ _ _ _ _ _ _ _ _ _ _ _ HE.out rfl hs hr hr2 ht (HFc.out.step hf (fun i hi h => by omega)) (by omega) hlen

end Go.Proofs.Ytjhkgoengoiljaa
