/- The walk of the law on well-formed and other ledgers. -/
import Derived.Test.YtjhkgoengoiljaaG23
import Derived.Test.YtjhkgoengoiljaaG14
import Derived.Test.YtjhkgoengoiljaaG10
import Derived.Test.YtjhkgoengoiljaaG5
import Derived.Test.YtjhkgoengoiljaaG8
import Derived.Test.YtjhkgoengoiljaaG7
import Derived.Test.YtjhkgoengoiljaaG24
import Derived.Test.YtjhkgoengoiljaaProg
import Derived.Test.YtjhkgoengoiljaaG1
import Derived.DataReads
import Derived.WalkKit
import Derived.ProofKit
import Derived.OpenShut
import Derived.ChangeOld
import Derived.ChangeArms
import Derived.WideShapes
import Derived.Deep.Slices
import Derived.Test.YtjhkgoengoiljaaG22
import Derived.Test.YtjhkgoengoiljaaG3
set_option linter.unusedVariables false
set_option linter.unusedSimpArgs false

/- What each function says of any ledger: refused just where it is not well-formed. -/
namespace Go.Proofs.Ytjhkgoengoiljaa
open Go.RowKit

theorem ck_plan (w : World) (av : Option Nat) (A : Option Addr) (c n : Nat) (L : Ld) (hR : Rs w av 10 Tk.vals A L.tks) (hn : L.tks.length = n) (hc63 : n ≤ 4294967296) (hav : ∀ x, av = some x → x < w.heap.size) (t : Tk) (ht : taskOk t = true) :
    Calls Try.prog 15 #[.agg #[.slice A n c, .int .i64 L.r0, .int .i64 L.r1, .int .i64 L.r2, .int .i64 L.r3, .int .i64 L.r4, .int .i64 L.r5], .agg #[.string t.pk, .string t.ts, .int .i64 t.env, .int .i64 t.cost], .int .i64 1] w fun e w' => ∃ (A' : Option Addr) (n' c' : Nat) (L' : Ld) (v er : Int), e = .returned (.tuple #[.agg #[.slice A' n' c', .int .i64 L'.r0, .int .i64 L'.r1, .int .i64 L'.r2, .int .i64 L'.r3, .int .i64 L'.r4, .int .i64 L'.r5], .int .i64 v, .int .i64 er]) ∧ (er == 1) = !L.ok ∧ Below w.heap.size w w' := by
  refine (plan_any w av A c n L hR hn hc63 t 1 hav).mono ?_
  rintro e w' ⟨A', c', h1, -, h2⟩
  refine ⟨A', _, c', _, _, _, h1, ?_, h2⟩
  unfold Ld.plan
  cases hk : L.ok
  · simp
  · have : revB 1 = true := by decide
    simp only [ht, this]
    by_cases h : L.tks.length = 128
    · simp [h]
    · simp [h]
theorem ck_begin (w : World) (av : Option Nat) (A : Option Addr) (c n : Nat) (L : Ld) (hR : Rs w av 10 Tk.vals A L.tks) (hn : L.tks.length = n) (hc63 : n ≤ 4294967296) (hav : ∀ x, av = some x → x < w.heap.size) :
    Calls Try.prog 17 #[.agg #[.slice A n c, .int .i64 L.r0, .int .i64 L.r1, .int .i64 L.r2, .int .i64 L.r3, .int .i64 L.r4, .int .i64 L.r5], .int .i64 (-1), .int .i64 0, .int .i64 1] w fun e w' => ∃ (A' : Option Addr) (n' c' : Nat) (L' : Ld) (v er : Int), e = .returned (.tuple #[.agg #[.slice A' n' c', .int .i64 L'.r0, .int .i64 L'.r1, .int .i64 L'.r2, .int .i64 L'.r3, .int .i64 L'.r4, .int .i64 L'.r5], .int .i64 v, .int .i64 er]) ∧ (er == 18) = L.ok ∧ Below w.heap.size w w' := by
  refine (begin_any w av A c n L hR hn hc63 (-1) 0 1 hav).mono ?_
  rintro e w' ⟨A', c', h1, -, h2⟩
  refine ⟨A', _, c', _, _, _, h1, ?_, h2⟩
  unfold Ld.begin
  cases hk : L.ok
  · simp
  · simp [Ld.get?]
theorem ck_take (w : World) (av : Option Nat) (A : Option Addr) (c n : Nat) (L : Ld) (hR : Rs w av 10 Tk.vals A L.tks) (hn : L.tks.length = n) (hc63 : n ≤ 4294967296) (hav : ∀ x, av = some x → x < w.heap.size) (p : Rp) (hp : reportOk p = true) :
    Calls Try.prog 18 #[.agg #[.slice A n c, .int .i64 L.r0, .int .i64 L.r1, .int .i64 L.r2, .int .i64 L.r3, .int .i64 L.r4, .int .i64 L.r5], .agg #[.int .i64 p.tick, .int .i64 p.att, .int .i64 p.run, .int .i64 p.ep, .int .i64 p.out]] w fun e w' => ∃ (A' : Option Addr) (n' c' : Nat) (L' : Ld) (v er : Int), e = .returned (.tuple #[.agg #[.slice A' n' c', .int .i64 L'.r0, .int .i64 L'.r1, .int .i64 L'.r2, .int .i64 L'.r3, .int .i64 L'.r4, .int .i64 L'.r5], .int .i64 v, .int .i64 er]) ∧ (er == 1) = !L.ok ∧ Below w.heap.size w w' := by
  refine (take_any w av A c n L hR hn hc63 p hav).mono ?_
  rintro e w' ⟨A', c', h1, -, h2⟩
  refine ⟨A', _, c', _, _, _, h1, ?_, h2⟩
  unfold Ld.take
  cases hk : L.ok
  · simp
  · simp only [hp]
    by_cases h : L.rep (L.kind p) = 1073741824
    · simp [h]
    · simp [h]
theorem ck_fail (w : World) (av : Option Nat) (A : Option Addr) (c n : Nat) (L : Ld) (hR : Rs w av 10 Tk.vals A L.tks) (hn : L.tks.length = n) (hc63 : n ≤ 4294967296) (hav : ∀ x, av = some x → x < w.heap.size) :
    Calls Try.prog 22 #[.agg #[.slice A n c, .int .i64 L.r0, .int .i64 L.r1, .int .i64 L.r2, .int .i64 L.r3, .int .i64 L.r4, .int .i64 L.r5], .int .i64 (-1), .int .i64 5] w fun e w' => ∃ (A' : Option Addr) (n' c' : Nat) (L' : Ld) (er : Int), e = .returned (.tuple #[.agg #[.slice A' n' c', .int .i64 L'.r0, .int .i64 L'.r1, .int .i64 L'.r2, .int .i64 L'.r3, .int .i64 L'.r4, .int .i64 L'.r5], .int .i64 er]) ∧ (er == 18) = L.ok ∧ Below w.heap.size w w' := by
  refine (fail_any w av A c n L hR hn hc63 (-1) 5 hav).mono ?_
  rintro e w' ⟨A', c', h1, -, h2⟩
  refine ⟨A', _, c', _, _, h1, ?_, h2⟩
  unfold Ld.fail
  cases hk : L.ok
  · simp
  · simp [Ld.get?]
theorem ck_cancel (w : World) (av : Option Nat) (A : Option Addr) (c n : Nat) (L : Ld) (hR : Rs w av 10 Tk.vals A L.tks) (hn : L.tks.length = n) (hc63 : n ≤ 4294967296) (hav : ∀ x, av = some x → x < w.heap.size) :
    Calls Try.prog 31 #[.agg #[.slice A n c, .int .i64 L.r0, .int .i64 L.r1, .int .i64 L.r2, .int .i64 L.r3, .int .i64 L.r4, .int .i64 L.r5], .int .i64 (-1)] w fun e w' => ∃ (A' : Option Addr) (n' c' : Nat) (L' : Ld) (er : Int), e = .returned (.tuple #[.agg #[.slice A' n' c', .int .i64 L'.r0, .int .i64 L'.r1, .int .i64 L'.r2, .int .i64 L'.r3, .int .i64 L'.r4, .int .i64 L'.r5], .int .i64 er]) ∧ (er == 18) = L.ok ∧ Below w.heap.size w w' := by
  refine (cancel_any w av A c n L hR hn hc63 (-1) hav).mono ?_
  rintro e w' ⟨A', c', h1, -, h2⟩
  refine ⟨A', _, c', _, _, h1, ?_, h2⟩
  unfold Ld.cancel
  cases hk : L.ok
  · simp
  · simp [Ld.get?]
theorem ck_lose (w : World) (av : Option Nat) (A : Option Addr) (c n : Nat) (L : Ld) (hR : Rs w av 10 Tk.vals A L.tks) (hn : L.tks.length = n) (hc63 : n ≤ 4294967296) (hav : ∀ x, av = some x → x < w.heap.size) :
    Calls Try.prog 24 #[.agg #[.slice A n c, .int .i64 L.r0, .int .i64 L.r1, .int .i64 L.r2, .int .i64 L.r3, .int .i64 L.r4, .int .i64 L.r5], .int .i64 0, .int .i64 1] w fun e w' => ∃ (A' : Option Addr) (n' c' : Nat) (L' : Ld) (B : Option Addr) (m d : Nat) (er : Int), e = .returned (.tuple #[.agg #[.slice A' n' c', .int .i64 L'.r0, .int .i64 L'.r1, .int .i64 L'.r2, .int .i64 L'.r3, .int .i64 L'.r4, .int .i64 L'.r5], .slice B m d, .int .i64 er]) ∧ (er == 0) = L.ok ∧ Below w.heap.size w w' := by
  refine (lose_any w av A c n L hR hn hc63 0 1 hav).mono ?_
  rintro e w' ⟨A', c', B, d, h1, -, -, -, h2⟩
  refine ⟨A', _, c', _, _, _, d, _, h1, ?_, h2⟩
  unfold Ld.lose
  cases hk : L.ok <;> simp
theorem ck_totals (w : World) (av : Option Nat) (A : Option Addr) (c n : Nat) (L : Ld) (hR : Rs w av 10 Tk.vals A L.tks) (hn : L.tks.length = n) (hc63 : n ≤ 4294967296) (hav : ∀ x, av = some x → x < w.heap.size) :
    Calls Try.prog 26 #[.agg #[.slice A n c, .int .i64 L.r0, .int .i64 L.r1, .int .i64 L.r2, .int .i64 L.r3, .int .i64 L.r4, .int .i64 L.r5]] w fun e w' => ∃ (er : Int), (∃ t0 t1 t2 t3 t4 t5 t6 t7 t8 t9 : Int, e = .returned (.tuple #[.agg #[.int .i64 t0, .int .i64 t1, .int .i64 t2, .int .i64 t3, .int .i64 t4, .int .i64 t5, .int .i64 t6, .int .i64 t7, .int .i64 t8, .int .i64 t9], .int .i64 er])) ∧ (er == 0) = L.ok ∧ Below w.heap.size w w' := by
  cases hk : L.ok
  · refine (totals_bad w av A c n L hR hn hc63 hk).mono ?_
    rintro e w' ⟨h1, h2⟩
    exact ⟨1, ⟨_, _, _, _, _, _, _, _, _, _, h1⟩, by decide, h2⟩
  · refine (totals_ok w av A c n L hR hn hc63 hk).mono ?_
    rintro e w' ⟨h1, h2⟩
    exact ⟨0, ⟨_, _, _, _, _, _, _, _, _, _, h1⟩, by decide, h2⟩

end Go.Proofs.Ytjhkgoengoiljaa

/- LedgerChecks: the statement that calls Plan. (printed by genck.py) -/
namespace Go.Proofs.Ytjhkgoengoiljaa
open Go.RowKit

def regOf (n : Nat) : Code → Option Code
  | .region i ops b => if i = n then some (.region i ops b) else none
  | .block _ c => regOf n c
  | .seq x y => match regOf n x with
    | some c => some c
    | none => regOf n y
  | .cond _ x y => match regOf n x with
    | some c => some c
    | none => regOf n y
  | .loop c => regOf n c
  | .scope c => regOf n c
  | _ => none
noncomputable def ckCode : Code := (Try.f8.body.bind (regOf 32)).getD .skip
theorem keepc {W w8 : World} (hb : Below W.heap.size W w8) (b o : Nat) (v : Value) (h : W.cell? ⟨b, o, none⟩ = some v) : w8.cell? ⟨b, o, none⟩ = some v :=
  ((bcell hb).1 _ _ (World.block_lt_of_cell? W _ h)).trans h
theorem keepf {W w8 : World} (hb : Below W.heap.size W w8) (b o : Nat) (v : Value) (h : W.cell? ⟨b, o, none⟩ = some v) (j : Nat) : w8.frozen? ⟨b, j, none⟩ = W.frozen? ⟨b, j, none⟩ :=
  (bcell hb).2 _ _ (World.block_lt_of_cell? W _ h)

set_option maxRecDepth 100000 in
set_option maxHeartbeats 8000000 in
theorem ck_region (H : Nat) (C : Option Addr) (M D : Nat) (L : Ld) (gd : Bool) (u1 : World) (HQ : Hid (Rs u1 none 10 Tk.vals C L.tks)) (HMM : Hid (L.tks.length = M)) (hM2 : M ≤ 200) (HGD : Hid (L.ok = gd)) (HB : Hid (B7 u1 H (LDV C M D L)))
    (y0 y1 y2 y3 y4 y5 y6 y7 y8 y9 y10 y11 y12 y13 y15 y16 y17 y18 y19 y20 y21 y22 y23 y24 y25 y26 y27 y28 y29 y30 y31 y32 y33 y34 y35 y36 y37 y38 y39 y40 y41 y42 y43 y44 y45 y46 y47 y48 y49 y50 y51 y52 y53 y54 y55 y56 y57 y58 y59 y60 y61 y62 y63 y64 y65 y66 y67 y68 y69 y70 y71 y72 y73 y74 y75 y76 y77 y78 y79 y80 y81 y82 y83 y84 y85 y86 y87 y88 y89 y90 y91 y92 y93 y94 y95 y96 y97 y98 y99 y100 y101 y102 y103 y104 y105 y106 y107 y108 y109 y110 y111 y112 y113 y114 y115 y116 y117 y118 y119 y120 y121 y122 y123 y124 y125 y126 y127 y128 y129 y130 y131 y132 y133 y134 y135 y136 y137 y138 y139 y140 y141 y142 y143 y144 y145 y146 y147 y148 y149 y150 y151 y152 y153 y154 y155 y156 y157 y158 y159 y160 y161 y162 y163 y164 y165 y166 y167 y168 y169 y170 y171 y172 y173 y174 y175 y176 y177 y178 y179 y180 y181 y182 y183 y184 y185 y186 y187 y188 y189 y190 y191 y192 y193 y194 y195 y196 y197 y198 y199 y200 y201 y202 y203 y204 y205 y206 y207 y208 y209 y210 y211 y212 y213 y214 y215 y216 y217 y218 y219 y220 y221 y222 y223 y224 y225 y226 y227 y228 y229 y230 y231 y232 y233 y234 y235 y236 y237 y238 y239 y240 y241 y242 y243 y244 y245 y246 y247 y248 y249 y250 y251 y252 y253 y254 y255 y256 y257 y258 y259 y260 y261 y262 : Value) (K' : Act → World → Prop) (Q' : Exit → Act → World → Prop)
    (HM : Hid (∀ (er : Int) (wx : World) (s16 s17 s164 s165 s166 s167 s168 s169 s170 : Value), Hid ((er == 1) = !gd) → Hid (Fr u1 wx (fun _ => False)) → K' ⟨List.toArray (y0 :: y1 :: y2 :: y3 :: y4 :: y5 :: y6 :: y7 :: y8 :: y9 :: y10 :: y11 :: y12 :: y13 :: .pointer (some ⟨H, 0, none⟩) :: y15 :: s16 :: s17 :: .int .i64 er :: y19 :: y20 :: y21 :: y22 :: y23 :: y24 :: y25 :: y26 :: y27 :: y28 :: y29 :: y30 :: y31 :: y32 :: y33 :: y34 :: y35 :: y36 :: y37 :: y38 :: y39 :: y40 :: y41 :: y42 :: y43 :: y44 :: y45 :: y46 :: y47 :: y48 :: y49 :: y50 :: y51 :: y52 :: y53 :: y54 :: y55 :: y56 :: y57 :: y58 :: y59 :: y60 :: y61 :: y62 :: y63 :: y64 :: y65 :: y66 :: y67 :: y68 :: y69 :: y70 :: y71 :: y72 :: y73 :: y74 :: y75 :: y76 :: y77 :: y78 :: y79 :: y80 :: y81 :: y82 :: y83 :: y84 :: y85 :: y86 :: y87 :: y88 :: y89 :: y90 :: y91 :: y92 :: y93 :: y94 :: y95 :: y96 :: y97 :: y98 :: y99 :: y100 :: y101 :: y102 :: y103 :: y104 :: y105 :: y106 :: y107 :: y108 :: y109 :: y110 :: y111 :: y112 :: y113 :: y114 :: y115 :: y116 :: y117 :: y118 :: y119 :: y120 :: y121 :: y122 :: y123 :: y124 :: y125 :: y126 :: y127 :: y128 :: y129 :: y130 :: y131 :: y132 :: y133 :: y134 :: y135 :: y136 :: y137 :: y138 :: y139 :: y140 :: y141 :: y142 :: y143 :: y144 :: y145 :: y146 :: y147 :: y148 :: y149 :: y150 :: y151 :: y152 :: y153 :: y154 :: y155 :: y156 :: y157 :: y158 :: y159 :: y160 :: y161 :: y162 :: y163 :: s164 :: s165 :: s166 :: s167 :: s168 :: s169 :: s170 :: y171 :: y172 :: y173 :: y174 :: y175 :: y176 :: y177 :: y178 :: y179 :: y180 :: y181 :: y182 :: y183 :: y184 :: y185 :: y186 :: y187 :: y188 :: y189 :: y190 :: y191 :: y192 :: y193 :: y194 :: y195 :: y196 :: y197 :: y198 :: y199 :: y200 :: y201 :: y202 :: y203 :: y204 :: y205 :: y206 :: y207 :: y208 :: y209 :: y210 :: y211 :: y212 :: y213 :: y214 :: y215 :: y216 :: y217 :: y218 :: y219 :: y220 :: y221 :: y222 :: y223 :: y224 :: y225 :: y226 :: y227 :: y228 :: y229 :: y230 :: y231 :: y232 :: y233 :: y234 :: y235 :: y236 :: y237 :: y238 :: y239 :: y240 :: y241 :: y242 :: y243 :: y244 :: y245 :: y246 :: y247 :: y248 :: y249 :: y250 :: y251 :: y252 :: y253 :: y254 :: y255 :: y256 :: y257 :: y258 :: y259 :: y260 :: y261 :: y262 :: []), []⟩ wx)) :
    Code.wp Try.prog ckCode (Exit.then K' Q') ⟨List.toArray (y0 :: y1 :: y2 :: y3 :: y4 :: y5 :: y6 :: y7 :: y8 :: y9 :: y10 :: y11 :: y12 :: y13 :: .pointer (some ⟨H, 0, none⟩) :: y15 :: y16 :: y17 :: y18 :: y19 :: y20 :: y21 :: y22 :: y23 :: y24 :: y25 :: y26 :: y27 :: y28 :: y29 :: y30 :: y31 :: y32 :: y33 :: y34 :: y35 :: y36 :: y37 :: y38 :: y39 :: y40 :: y41 :: y42 :: y43 :: y44 :: y45 :: y46 :: y47 :: y48 :: y49 :: y50 :: y51 :: y52 :: y53 :: y54 :: y55 :: y56 :: y57 :: y58 :: y59 :: y60 :: y61 :: y62 :: y63 :: y64 :: y65 :: y66 :: y67 :: y68 :: y69 :: y70 :: y71 :: y72 :: y73 :: y74 :: y75 :: y76 :: y77 :: y78 :: y79 :: y80 :: y81 :: y82 :: y83 :: y84 :: y85 :: y86 :: y87 :: y88 :: y89 :: y90 :: y91 :: y92 :: y93 :: y94 :: y95 :: y96 :: y97 :: y98 :: y99 :: y100 :: y101 :: y102 :: y103 :: y104 :: y105 :: y106 :: y107 :: y108 :: y109 :: y110 :: y111 :: y112 :: y113 :: y114 :: y115 :: y116 :: y117 :: y118 :: y119 :: y120 :: y121 :: y122 :: y123 :: y124 :: y125 :: y126 :: y127 :: y128 :: y129 :: y130 :: y131 :: y132 :: y133 :: y134 :: y135 :: y136 :: y137 :: y138 :: y139 :: y140 :: y141 :: y142 :: y143 :: y144 :: y145 :: y146 :: y147 :: y148 :: y149 :: y150 :: y151 :: y152 :: y153 :: y154 :: y155 :: y156 :: y157 :: y158 :: y159 :: y160 :: y161 :: y162 :: y163 :: y164 :: y165 :: y166 :: y167 :: y168 :: y169 :: y170 :: y171 :: y172 :: y173 :: y174 :: y175 :: y176 :: y177 :: y178 :: y179 :: y180 :: y181 :: y182 :: y183 :: y184 :: y185 :: y186 :: y187 :: y188 :: y189 :: y190 :: y191 :: y192 :: y193 :: y194 :: y195 :: y196 :: y197 :: y198 :: y199 :: y200 :: y201 :: y202 :: y203 :: y204 :: y205 :: y206 :: y207 :: y208 :: y209 :: y210 :: y211 :: y212 :: y213 :: y214 :: y215 :: y216 :: y217 :: y218 :: y219 :: y220 :: y221 :: y222 :: y223 :: y224 :: y225 :: y226 :: y227 :: y228 :: y229 :: y230 :: y231 :: y232 :: y233 :: y234 :: y235 :: y236 :: y237 :: y238 :: y239 :: y240 :: y241 :: y242 :: y243 :: y244 :: y245 :: y246 :: y247 :: y248 :: y249 :: y250 :: y251 :: y252 :: y253 :: y254 :: y255 :: y256 :: y257 :: y258 :: y259 :: y260 :: y261 :: y262 :: []), []⟩ u1 := by
  have cP : ∀ W : World, Fr u1 W (fun _ => False) → ∀ t : Tk, taskOk t = true → Calls Try.prog 15 #[.agg #[.slice C M D, .int .i64 L.r0, .int .i64 L.r1, .int .i64 L.r2, .int .i64 L.r3, .int .i64 L.r4, .int .i64 L.r5], .agg #[.string t.pk, .string t.ts, .int .i64 t.env, .int .i64 t.cost], .int .i64 1] W fun e w' => ∃ (A' : Option Addr) (n' c' : Nat) (L' : Ld) (v er : Int), e = .returned (.tuple #[.agg #[.slice A' n' c', .int .i64 L'.r0, .int .i64 L'.r1, .int .i64 L'.r2, .int .i64 L'.r3, .int .i64 L'.r4, .int .i64 L'.r5], .int .i64 v, .int .i64 er]) ∧ (er == 1) = !gd ∧ Below W.heap.size W w' := by
    intro W hW t ht
    have := ck_plan W none C D M L (HQ.out.fr hW (fun _ _ _ _ _ h => h)) HMM.out (by omega) (by intro x hx; cases hx) t ht
    rw [HGD.out] at this
    exact this
  have HCP := hide cP
  clear cP
  obtain ⟨gk, q, gf, -⟩ := HB.out
  simp only [LDV] at q
  obtain ⟨k0, k1, k2, k3, k4, k5, k6⟩ := q
  refine Code.wp_mono (Q := Exit.then K' (fun _ _ _ => False)) (fun e a w h => by cases e <;> first | exact h | exact (h : False).elim) ?_
  conv => arg 2; whnf
  go_region_with
    (first
      | (go_at_call 16; refine Calls.mono (task_any 1 _) ?_; rintro e x1 ⟨⟨t, rfl, ht⟩, hb1⟩; obtain ⟨hc1, hf1⟩ := bcell hb1; (have hfT : Fr u1 x1 (fun _ => False) := Fr.below_ (by (repeat' first | with_reducible exact Fr.refl _ _ | with_reducible refine Fr.drew ?_ | with_reducible refine Fr.alloc ?_ _)) hb1); have r0 := (hc1 H 0); have r1 := (hc1 H 1); have r2 := (hc1 H 2); have r3 := (hc1 H 3); have r4 := (hc1 H 4); have r5 := (hc1 H 5); have r6 := (hc1 H 6); have z0 := hc1 u1.heap.size 0; have z1 := hc1 u1.heap.size 1; have z2 := hc1 u1.heap.size 2; have z3 := hc1 u1.heap.size 3; have z4 := hc1 u1.heap.size 4; have z5 := hc1 u1.heap.size 5; have z6 := hc1 u1.heap.size 6; have zf := fun j => hf1 u1.heap.size j; simp [go_sem, gk, k0, k1, k2, k3, k4, k5, k6] at r0 r1 r2 r3 r4 r5 r6 z0 z1 z2 z3 z4 z5 z6 zf; have HTK := hide ht; have HFT := hide hfT; have gx1 : H < x1.heap.size := Nat.lt_of_lt_of_le gk hfT.size; have gx2 : u1.heap.size ≤ x1.heap.size := hfT.size; clear ht hb1 hc1 hf1 hfT)
      | (go_at_call 15; refine Calls.mono (HCP.out _ (by (repeat' first | with_reducible exact HFT.out | with_reducible refine Fr.drew ?_ | with_reducible refine Fr.alloc ?_ _)) t HTK.out) ?_; rintro e x2 ⟨A2, n2, c2, L2, v2', er, rfl, her, hb2⟩; obtain ⟨hc2, hf2⟩ := bcell hb2; (have hfP : Fr u1 x2 (fun _ => False) := Fr.below_ (by (repeat' first | with_reducible exact HFT.out | with_reducible refine Fr.drew ?_ | with_reducible refine Fr.alloc ?_ _)) hb2); have a0 := hc2 x1.heap.size 0; have a1 := hc2 x1.heap.size 1; have a2 := hc2 x1.heap.size 2; have a3 := hc2 x1.heap.size 3; have a4 := hc2 x1.heap.size 4; have a5 := hc2 x1.heap.size 5; have a6 := hc2 x1.heap.size 6; have af := fun j => hf2 x1.heap.size j; have b0 := keepc hb2 u1.heap.size 0 (.slice none 0 0); have b1 := keepc hb2 u1.heap.size 1 (.int .i64 0); have b2 := keepc hb2 u1.heap.size 2 (.int .i64 0); have b3 := keepc hb2 u1.heap.size 3 (.int .i64 0); have b4 := keepc hb2 u1.heap.size 4 (.int .i64 0); have b5 := keepc hb2 u1.heap.size 5 (.int .i64 0); have b6 := keepc hb2 u1.heap.size 6 (.int .i64 0); have bf := keepf hb2 u1.heap.size 0 (.slice none 0 0); simp [go_sem, z0, z1, z2, z3, z4, z5, z6, zf, gx2] at a0 a1 a2 a3 a4 a5 a6 af b0 b1 b2 b3 b4 b5 b6 bf; have HFP := hide hfP; clear hb2 hc2 hf2 hfP))
  all_goals
    clear HB HQ HGD HMM k0 k1 k2 k3 k4 k5 k6 gf
    go_wp2_with fail
    exact HM.out er _ _ _ _ _ _ _ _ _ _ (hide her) (hide (by repeat' first | with_reducible exact HFP.out | with_reducible refine Fr.alloc ?_ _ | with_reducible refine Fr.drew ?_ | with_reducible refine Fr.setCell ?_ (Or.inl (Nat.le_refl _)) _ | with_reducible refine Fr.setCell ?_ (Or.inl gx2) _))

end Go.Proofs.Ytjhkgoengoiljaa

/- A ledger that came in, whatever it is, reads as a plain ledger. -/
namespace Go.Proofs.Ytjhkgoengoiljaa
open Go.RowKit Go.WideShapes Go.Deep

theorem cells26 : Try.prog.cellsOf 26 = 7 := by kernel_rfl
theorem cells23 : Try.prog.cellsOf 23 = 1 := by kernel_rfl
theorem cells24 : Try.prog.cellsOf 24 = 6 := by kernel_rfl
theorem cells3 : Try.prog.cellsOf 3 = 1 := by kernel_rfl
theorem cells43 : Try.prog.cellsOf 43 = 10 := by kernel_rfl
theorem cells41 : Try.prog.cellsOf 41 = 4 := by kernel_rfl
theorem cells39 : Try.prog.cellsOf 39 = 2 := by kernel_rfl
theorem cells9 : Try.prog.cellsOf 9 = 1 := by kernel_rfl

theorem fld0 {α : Type} {xs : List α} {o : Option α} {i : Nat} (h : o = xs[i]?) (hi : i < xs.length) : ∃ y, o = some y := ⟨_, h.trans (List.getElem?_eq_getElem hi)⟩

section
variable {H : Type} {enc : TypeId × Value → H} {w : World} {base : Nat} {spare : Nat → Bool} {held : Bool}

theorem fld {fs : Array Field} {n : Nat} {cs : List Value} {xs : List (DataW H × List MemPlace)} (hf : ∀ (i : Nat) (f : Field), fs[i]? = some f → DataW.trod enc Try.prog w base spare held n f.type ((cs.drop f.offset).take (Try.prog.cellsOf f.type)) = xs[i]?)
    (i : Nat) (t : TypeId) (o k : Nat) (ht : (fs[i]?).map (fun f => (f.type, f.offset)) = some (t, o)) (hk : Try.prog.cellsOf t = k) (hi : i < xs.length) : ∃ y, DataW.trod enc Try.prog w base spare held n t ((cs.drop o).take k) = some y := by
  cases hfi : fs[i]? with
  | none => rw [hfi] at ht; simp at ht
  | some f =>
    rw [hfi] at ht
    simp at ht
    obtain ⟨rfl, rfl⟩ := ht
    have := hf i f hfi
    rw [hk] at this
    exact ⟨_, this.trans (List.getElem?_eq_getElem hi)⟩

theorem came_name {fuel : Nat} {a b : Value} {x : DataW H × List MemPlace} (h : DataW.trod enc Try.prog w base spare held fuel 39 [a, b] = some x) : ∃ p q : ByteArray, a = .string p ∧ b = .string q := by
  obtain ⟨xs, n, _, -, -, hl, hf⟩ := DataW.trod_struct Try.underlying39 h
  have hl' : xs.length = 2 := hl
  obtain ⟨y0, h0⟩ := fld hf 0 9 0 1 rfl cells9 (by omega)
  obtain ⟨y1, h1⟩ := fld hf 1 9 1 1 rfl cells9 (by omega)
  obtain ⟨p, hp, -⟩ := DataW.trod_string Try.underlying9 h0
  obtain ⟨q, hq, -⟩ := DataW.trod_string Try.underlying9 h1
  simp at hp hq
  exact ⟨p, q, hp, hq⟩
theorem came_task {fuel : Nat} {a b c d : Value} {x : DataW H × List MemPlace} (h : DataW.trod enc Try.prog w base spare held fuel 41 [a, b, c, d] = some x) : ∃ (p q : ByteArray) (m n : Int), a = .string p ∧ b = .string q ∧ c = .int .i64 m ∧ d = .int .i64 n := by
  obtain ⟨xs, n, _, -, -, hl, hf⟩ := DataW.trod_struct Try.underlying41 h
  have hl' : xs.length = 3 := hl
  obtain ⟨y0, h0⟩ := fld hf 0 39 0 2 rfl cells39 (by omega)
  obtain ⟨y1, h1⟩ := fld hf 1 3 2 1 rfl cells3 (by omega)
  obtain ⟨y2, h2⟩ := fld hf 2 3 3 1 rfl cells3 (by omega)
  obtain ⟨p, q, hp, hq⟩ := came_name h0
  obtain ⟨m, hm, -⟩ := DataW.trod_int Try.underlying3 h1
  obtain ⟨k, hk, -⟩ := DataW.trod_int Try.underlying3 h2
  simp at hm hk
  exact ⟨p, q, m, k, hp, hq, hm, hk⟩
set_option maxRecDepth 20000 in
theorem came_tk {fuel : Nat} {cs : List Value} {x : DataW H × List MemPlace} (h : DataW.trod enc Try.prog w base spare held fuel 43 cs = some x) : ∃ t : Tk, cs = t.vals := by
  obtain ⟨xs, n, _, -, hc, hl, hf⟩ := DataW.trod_struct Try.underlying43 h
  rw [cells43] at hc
  have hl' : xs.length = 7 := hl
  match cs, hc with
  | [a0, a1, a2, a3, a4, a5, a6, a7, a8, a9], _ =>
    obtain ⟨y0, h0⟩ := fld hf 0 41 0 4 rfl cells41 (by omega)
    obtain ⟨y1, h1⟩ := fld hf 1 3 4 1 rfl cells3 (by omega)
    obtain ⟨y2, h2⟩ := fld hf 2 3 5 1 rfl cells3 (by omega)
    obtain ⟨y3, h3⟩ := fld hf 3 3 6 1 rfl cells3 (by omega)
    obtain ⟨y4, h4⟩ := fld hf 4 3 7 1 rfl cells3 (by omega)
    obtain ⟨y5, h5⟩ := fld hf 5 3 8 1 rfl cells3 (by omega)
    obtain ⟨y6, h6⟩ := fld hf 6 3 9 1 rfl cells3 (by omega)
    obtain ⟨p, q, e0, e1, rfl, rfl, rfl, rfl⟩ := came_task h0
    obtain ⟨i1, g1, -⟩ := DataW.trod_int Try.underlying3 h1
    obtain ⟨i2, g2, -⟩ := DataW.trod_int Try.underlying3 h2
    obtain ⟨i3, g3, -⟩ := DataW.trod_int Try.underlying3 h3
    obtain ⟨i4, g4, -⟩ := DataW.trod_int Try.underlying3 h4
    obtain ⟨i5, g5, -⟩ := DataW.trod_int Try.underlying3 h5
    obtain ⟨i6, g6, -⟩ := DataW.trod_int Try.underlying3 h6
    simp at g1 g2 g3 g4 g5 g6
    subst g1 g2 g3 g4 g5 g6
    exact ⟨⟨p, q, e0, e1, i1, i2, i3, i4, i5, i6⟩, rfl⟩
set_option maxRecDepth 20000 in
theorem came_ledger {fuel : Nat} {cs : List Value} {x : DataW H × List MemPlace} (h : DataW.trod enc Try.prog w base spare held fuel 26 cs = some x) :
    ∃ (A : Option Addr) (n c : Nat) (L : Ld), cs = [.slice A n c, .int .i64 L.r0, .int .i64 L.r1, .int .i64 L.r2, .int .i64 L.r3, .int .i64 L.r4, .int .i64 L.r5] ∧ L.tks.length = n ∧ Rs w none 10 Tk.vals A L.tks := by
  obtain ⟨xs, n, _, -, hc, hl, hf⟩ := DataW.trod_struct Try.underlying26 h
  rw [cells26] at hc
  have hl' : xs.length = 2 := hl
  match cs, hc with
  | [a0, a1, a2, a3, a4, a5, a6], _ =>
    obtain ⟨y0, h0⟩ := fld hf 0 23 0 1 rfl cells23 (by omega)
    obtain ⟨y1, h1⟩ := fld hf 1 24 1 6 rfl cells24 (by omega)
    obtain ⟨ys, m, _, -, -, hl2, hf2⟩ := DataW.trod_array Try.underlying24 h1
    rw [cells3] at hf2
    have arr : ∀ i, i < 6 → ∃ k : Int, ([a1, a2, a3, a4, a5, a6].drop i).take 1 = [.int .i64 k] := by
      intro i hi
      have := hf2 i hi
      rw [List.getElem?_eq_getElem (by omega)] at this
      obtain ⟨k, hk, -⟩ := DataW.trod_int Try.underlying3 this
      exact ⟨k, by simpa using hk⟩
    obtain ⟨k1, e1⟩ := arr 0 (by omega)
    obtain ⟨k2, e2⟩ := arr 1 (by omega)
    obtain ⟨k3, e3⟩ := arr 2 (by omega)
    obtain ⟨k4, e4⟩ := arr 3 (by omega)
    obtain ⟨k5, e5⟩ := arr 4 (by omega)
    obtain ⟨k6, e6⟩ := arr 5 (by omega)
    simp at e1 e2 e3 e4 e5 e6
    subst e1 e2 e3 e4 e5 e6
    simp only [List.drop_zero, List.take] at h0
    rcases open_slice Try.underlying23 h0 with ⟨h2, -⟩ | ⟨a, len, cap, mm, nn, D, Pl, h2, -, h4, -, h6, -, h8⟩
    · injection h2 with h2
      subst h2
      exact ⟨none, 0, 0, ⟨[], k1, k2, k3, k4, k5, k6⟩, rfl, rfl, Rs.nil⟩
    · injection h2 with h2
      subst h2
      have hle : len ≤ mm := by rw [h6]; split <;> omega
      have tk : ∀ i, i < len → ∃ t : Tk, ∀ j u, t.vals[j]? = some u → w.cell? ((a.add (i * 10)).add j) = some u := by
        intro i hi
        obtain ⟨cs', h9, h10⟩ := h8 i (by omega)
        rw [cells43] at h9
        obtain ⟨t, rfl⟩ := came_tk h10
        obtain ⟨-, -, h11⟩ := World.cells?_some h9
        exact ⟨t, fun j u hu => (h11 j (by have := (List.getElem?_eq_some_iff.1 hu).1; simpa [Tk.vals] using this)).trans hu⟩
      let f : Nat → Tk := fun i => if hi : i < len then Classical.choose (tk i hi) else ⟨ByteArray.empty, ByteArray.empty, 0, 0, 0, 0, 0, 0, 0, 0⟩
      have hfp : ∀ i, i < len → ∀ j u, (f i).vals[j]? = some u → w.cell? ((a.add (i * 10)).add j) = some u := by
        intro i hi
        have := Classical.choose_spec (tk i hi)
        simpa [f, hi] using this
      refine ⟨some a, len, cap, ⟨(List.range len).map f, k1, k2, k3, k4, k5, k6⟩, rfl, by simp, fun hne => ?_⟩
      have hpos : 0 < len := by
        rcases Nat.eq_zero_or_pos len with h | h
        · subst h; simp at hne
        · exact h
      obtain ⟨b, o, sp⟩ := a
      have q0 := hfp 0 hpos 0 _ rfl
      have hsp : sp = none := by
        cases sp with
        | none => rfl
        | some s =>
          simp [Addr.add] at q0
          simp only [World.cell?] at q0
          split at q0 <;> simp at q0
      subst hsp
      have hb : b < w.heap.size := by
        have := World.block_lt_of_cell? w _ q0
        simpa [Addr.add] using this
      refine ⟨b, o, rfl, by simp, hb, fun k z hk j u hu => ?_⟩
      simp only [List.getElem?_map] at hk
      rcases Nat.lt_or_ge k len with hkl | hkl
      · rw [List.getElem?_range hkl] at hk
        simp at hk
        subst hk
        have := hfp k hkl j u hu
        rwa [Addr.add_lit, Addr.add_lit] at this
      · rw [List.getElem?_eq_none (by simpa using hkl)] at hk
        simp at hk
end

end Go.Proofs.Ytjhkgoengoiljaa

/- The walk of the law on well-formed and other ledgers. -/
namespace Go.Proofs.Ytjhkgoengoiljaa
open Go.RowKit

theorem Rs.none {w : World} {av : Option Nat} {α : Type} {s : Nat} {f : α → List Value} {A : Option Addr} {l : List α} (h : Rs w av s f A l) : Rs w Option.none s f A l := by
  intro hl
  obtain ⟨b, o, h1, -, h2, h3⟩ := h hl
  exact ⟨b, o, h1, by simp, h2, h3⟩
def V7.set (v : V7) (k : Nat) (u : Value) : V7 := match k with
  | 0 => { v with v0 := u }
  | 1 => { v with v1 := u }
  | 2 => { v with v2 := u }
  | 3 => { v with v3 := u }
  | 4 => { v with v4 := u }
  | 5 => { v with v5 := u }
  | _ => { v with v6 := u }
theorem B7.set {w : World} {b : Nat} {v : V7} (h : B7 w b v) (k : Nat) (hk : k < 7) (u : Value) : B7 (w.setCell ⟨b, k, none⟩ u) b (v.set k u) := by
  obtain ⟨h0, ⟨h1, h2, h3, h4, h5, h6, h7⟩, h8, h9⟩ := h
  have h10 : ∀ j, (w.setCell ⟨b, k, none⟩ u).cell? ⟨b, j + 7, none⟩ = none := fun j => by
    have h := isSome_setCell w ⟨b, k, none⟩ ⟨b, j + 7, none⟩ u
    rw [h9 j] at h
    exact Option.isSome_eq_false_iff.1 h |> Option.isNone_iff_eq_none.1
  have h11 : ∀ j, (w.setCell ⟨b, k, none⟩ u).frozen? ⟨b, j, none⟩ = false := fun j => by have := h8 j; go_simp
  refine ⟨by simpa using h0, ?_, h11, h10⟩
  clear h10 h11 h9 h8
  match k, hk with
  | 0, _ => simp only [V7.set]; refine ⟨?_, ?_, ?_, ?_, ?_, ?_, ?_⟩ <;> (go_simp; done)
  | 1, _ => simp only [V7.set]; refine ⟨?_, ?_, ?_, ?_, ?_, ?_, ?_⟩ <;> (go_simp; done)
  | 2, _ => simp only [V7.set]; refine ⟨?_, ?_, ?_, ?_, ?_, ?_, ?_⟩ <;> (go_simp; done)
  | 3, _ => simp only [V7.set]; refine ⟨?_, ?_, ?_, ?_, ?_, ?_, ?_⟩ <;> (go_simp; done)
  | 4, _ => simp only [V7.set]; refine ⟨?_, ?_, ?_, ?_, ?_, ?_, ?_⟩ <;> (go_simp; done)
  | 5, _ => simp only [V7.set]; refine ⟨?_, ?_, ?_, ?_, ?_, ?_, ?_⟩ <;> (go_simp; done)
  | 6, _ => simp only [V7.set]; refine ⟨?_, ?_, ?_, ?_, ?_, ?_, ?_⟩ <;> (go_simp; done)
theorem own_any {w : World} {base g n cap k : Nat} {e : TypeId} {l : List Tk} {t : Tk} (h : w.ownsRow base e 10 (.slice (some ⟨g, 0, none⟩) n cap) n (l.flatMap Tk.vals)) (hk : l[k]? = some t) (j : Nat) (hj : 2 ≤ j ∧ j < 10) (x : Int) :
    ∃ t1 : Tk, (w.setCell ⟨g, k * 10 + j, none⟩ (.int .i64 x)).ownsRow base e 10 (.slice (some ⟨g, 0, none⟩) n cap) n ((l.set k t1).flatMap Tk.vals) := by
  have hl : k < l.length := (List.getElem?_eq_some_iff.1 hk).1
  have h0 := own_start h hk
  obtain ⟨h1, h2⟩ := hj
  have : j = 2 ∨ j = 3 ∨ j = 4 ∨ j = 5 ∨ j = 6 ∨ j = 7 ∨ j = 8 ∨ j = 9 := by omega
  rcases this with rfl | rfl | rfl | rfl | rfl | rfl | rfl | rfl
  · exact ⟨{ t with env := x }, own_put Tk.vals_len h0 hl (by decide) rfl⟩
  · exact ⟨{ t with cost := x }, own_put Tk.vals_len h0 hl (by decide) rfl⟩
  · exact ⟨{ t with rev := x }, own_put Tk.vals_len h0 hl (by decide) rfl⟩
  · exact ⟨{ t with st := x }, own_put Tk.vals_len h0 hl (by decide) rfl⟩
  · exact ⟨{ t with att := x }, own_put Tk.vals_len h0 hl (by decide) rfl⟩
  · exact ⟨{ t with run := x }, own_put Tk.vals_len h0 hl (by decide) rfl⟩
  · exact ⟨{ t with ep := x }, own_put Tk.vals_len h0 hl (by decide) rfl⟩
  · exact ⟨{ t with out := x }, own_put Tk.vals_len h0 hl (by decide) rfl⟩
/-- What is told of the ledger that was changed. -/
def Chg (v1 : World) (H m : Nat) (wx : World) : Prop := ∃ (X' : Ld) (B' : Option Addr) (d' : Nat), X'.tks.length = m ∧ Hid (B7 wx H (LDV B' m d' X')) ∧ Hid (Rs wx none 10 Tk.vals B' X'.tks) ∧ Hid (Fr v1 wx (fun i => i = H))
theorem rel_set {v1 w : World} {H g m cap k base : Nat} {e : TypeId} {X : Ld} {t : Tk} (hO : w.ownsRow base e 10 (.slice (some ⟨g, 0, none⟩) m cap) m (X.tks.flatMap Tk.vals)) (hX : B7 w H (LDV (some ⟨g, 0, none⟩) m cap X)) (hm : X.tks.length = m) (hne : ¬ g = H) (hf : Fr v1 w (fun i => i = H)) (hb : v1.heap.size ≤ g) (hk : X.tks[k]? = some t) (j : Nat) (hj : 2 ≤ j ∧ j < 10) (x : Int) :
    Chg v1 H m (w.setCell ⟨g, k * 10 + j, none⟩ (.int .i64 x)) := by
  obtain ⟨t1, h1⟩ := own_any hO hk j hj x
  have hg : Fr w (w.setCell ⟨g, k * 10 + j, none⟩ (.int .i64 x)) (fun i => i = g) := (Fr.refl w _).setCell (Or.inr (by rfl)) _
  exact ⟨{ X with tks := X.tks.set k t1 }, some ⟨g, 0, none⟩, cap, by simp [hm], hide (hX.fr hg (fun h => hne h.symm)), hide (Rs.of_own h1 Tk.vals_len (by simp [hm]) (by intro y hy; cases hy)), hide (hf.setCell (Or.inl hb) _)⟩
theorem rel_rep {v1 w : World} {H g m cap base : Nat} {e : TypeId} {X : Ld} (hO : w.ownsRow base e 10 (.slice (some ⟨g, 0, none⟩) m cap) m (X.tks.flatMap Tk.vals)) (hX : B7 w H (LDV (some ⟨g, 0, none⟩) m cap X)) (hm : X.tks.length = m) (hne : ¬ g = H) (hf : Fr v1 w (fun i => i = H)) (r : Nat) (hr : 1 ≤ r ∧ r < 7) (x : Int) :
    Chg v1 H m (w.setCell ⟨H, r, none⟩ (.int .i64 x)) := by
  have hO2 : (w.setCell ⟨H, r, none⟩ (.int .i64 x)).ownsRow base e 10 (.slice (some ⟨g, 0, none⟩) m cap) m (X.tks.flatMap Tk.vals) := own_far hO (by simp [Value.ownBlock]; exact hne) _
  have hb := hX.set r (by omega) (.int .i64 x)
  obtain ⟨X', h1, h2⟩ : ∃ X' : Ld, X'.tks = X.tks ∧ (LDV (some ⟨g, 0, none⟩) m cap X).set r (.int .i64 x) = LDV (some ⟨g, 0, none⟩) m cap X' := by
    obtain ⟨h1, h2⟩ := hr
    have : r = 1 ∨ r = 2 ∨ r = 3 ∨ r = 4 ∨ r = 5 ∨ r = 6 := by omega
    rcases this with rfl | rfl | rfl | rfl | rfl | rfl
    · exact ⟨{ X with r0 := x }, rfl, rfl⟩
    · exact ⟨{ X with r1 := x }, rfl, rfl⟩
    · exact ⟨{ X with r2 := x }, rfl, rfl⟩
    · exact ⟨{ X with r3 := x }, rfl, rfl⟩
    · exact ⟨{ X with r4 := x }, rfl, rfl⟩
    · exact ⟨{ X with r5 := x }, rfl, rfl⟩
  rw [h2] at hb
  rw [← h1] at hO2
  exact ⟨X', some ⟨g, 0, none⟩, cap, by rw [h1]; exact hm, hide hb, hide (Rs.of_own hO2 Tk.vals_len (by rw [h1]; exact hm) (by intro y hy; cases hy)), hide (hf.setCell (Or.inr (by rfl)) _)⟩
/-- The seven cells of a ledger within a row. -/
def YC (W : World) (G o : Nat) (B : Option Addr) (m d : Nat) (L : Ld) : Prop := G < W.heap.size ∧ (W.cell? ⟨G, o, none⟩ = some (.slice B m d) ∧ W.cell? ⟨G, o + 1, none⟩ = some (.int .i64 L.r0) ∧ W.cell? ⟨G, o + 2, none⟩ = some (.int .i64 L.r1) ∧ W.cell? ⟨G, o + 3, none⟩ = some (.int .i64 L.r2) ∧ W.cell? ⟨G, o + 4, none⟩ = some (.int .i64 L.r3) ∧ W.cell? ⟨G, o + 5, none⟩ = some (.int .i64 L.r4) ∧ W.cell? ⟨G, o + 6, none⟩ = some (.int .i64 L.r5))
theorem YC.fr {W W' : World} {G o : Nat} {B : Option Addr} {m d : Nat} {L : Ld} (h : YC W G o B m d L) (hf : Fr W W' (fun _ => False)) : YC W' G o B m d L := by
  obtain ⟨h0, h1, h2, h3, h4, h5, h6, h7⟩ := h
  have tr : ∀ {k : Nat} {u : Value}, W.cell? ⟨G, k, none⟩ = some u → W'.cell? ⟨G, k, none⟩ = some u := fun hu => (World.cell?_of_block (w := W) (hf.block G h0 (fun h => h))).trans hu
  exact ⟨Nat.lt_of_lt_of_le h0 hf.size, tr h1, tr h2, tr h3, tr h4, tr h5, tr h6, tr h7⟩
theorem fold_small (x : Int) (m : Nat) (hm : m ≤ 100) (w : World) :
    Calls Try.prog 19 #[.int .i64 x, .int .i64 m] w fun e w' => ∃ v : Int, (0 ≤ v ∧ (v < m ∨ v = 0)) ∧ e = .returned (.int .i64 v) ∧ w = w' := by
  refine (fold_any x m w (by omega)).mono ?_
  rintro e w' ⟨rfl, rfl⟩
  exact ⟨_, foldV_lo _ _, rfl, rfl⟩
theorem ck_lived (w : World) (T : Nat) (A : Option Addr) (n c : Nat) (l : List Int) (hT : TapeAt w T A n c l 0) :
    Calls Try.prog 10 #[.pointer (some ⟨T, 0, none⟩), .int .i64 50] w fun e w' => ∃ (m : Nat) (X : Ld) (B : Option Addr) (d : Nat),
      e = .returned (.tuple #[.agg #[.slice B m d, .int .i64 X.r0, .int .i64 X.r1, .int .i64 X.r2, .int .i64 X.r3, .int .i64 X.r4, .int .i64 X.r5], .bool true]) ∧ X.tks.length = m ∧ m ≤ 128 ∧ Rs w' none 10 Tk.vals B X.tks ∧ Fr w w' (fun i => i = T) := by
  refine (lived_any w T A n c l 0 50 hT (by omega) (by omega)).mono ?_
  rintro e w' ⟨j, X, B, d, a', rfl, hr, -, h1, -, -, h2⟩
  have := hr.ok
  exact ⟨_, X, B, d, rfl, rfl, by simp [Ld.ok] at this; exact this.1.1.1, h1.none, h2⟩

set_option maxRecDepth 100000 in
set_option maxHeartbeats 8000000 in
theorem checks_walk (w : World) (A : Option Addr) (n c : Nat) (l : List Int) (RA : Option Addr) (RN RC : Nat) (R : Ld) (xa xb : Int) (hA : Rs w none 1 iv A l) (hl : l.length = n) (hR : Rs w none 10 Tk.vals RA R.tks) (hRn : R.tks.length = RN) :
    Calls Try.prog 8 #[.slice A n c, .agg #[.slice RA RN RC, .int .i64 R.r0, .int .i64 R.r1, .int .i64 R.r2, .int .i64 R.r3, .int .i64 R.r4, .int .i64 R.r5], .int .i64 xa, .int .i64 xb] w fun e w' => e = .returned (.bool true) ∧ Below w.heap.size w w' := by
  have HA := hide hA
  have HL := hide hl
  have HR := hide hR
  have HRN := hide hRn
  clear hA hl hR hRn
  go_enter Try.func8, Try.ntmps8
  go_upto_region 1 with (fail)
  generalize hW : World.alloc w _ = v0
  have hs : B7 v0 w.heap.size (LDV RA RN RC R) := by
    rw [← hW]
    clear hW
    simp only [B7, LDV]
    refine ⟨by simp, ⟨?_, ?_, ?_, ?_, ?_, ?_, ?_⟩, ?_, ?_⟩ <;> first | (intro j; go_simp; done) | (go_simp; done)
  have hf : Fr w v0 (fun _ => False) := by rw [← hW]; exact (Fr.refl _ _).alloc _
  have hz : w.heap.size < v0.heap.size := by rw [← hW]; simp
  clear hW
  have HS0 := hide hs
  have HF0 := hide hf
  have HR0 := hide (HR.out.fr hf (fun _ _ _ _ _ h => h))
  have HA0 := hide (HA.out.fr hf (fun _ _ _ _ _ h => h))
  clear hs hf
  obtain ⟨gl, q, gp, -⟩ := HS0.out
  simp only [LDV] at q
  obtain ⟨l0, l1, l2, l3, l4, l5, l6⟩ := q
  by_cases h200 : 200 < RN
  · have h2 : (200 : Int) < (RN : Int) := by omega
    go_wp2_with (go_at_call 12; refine (known_any _).mono ?_; rintro e w6 ⟨rfl, hb6⟩)
    refine bodyPost_ret (v := .bool true) (by simp [results, Try.results8, go_sem, *]) rfl ⟨rfl, ?_⟩
    exact Fr.below (S := fun _ => False) (HF0.out.below_ hb6) (Nat.le_refl _) (fun _ _ h => h)
  · have h2 : ¬ (200 : Int) < (RN : Int) := by omega
    have h2d : decide ((200 : Int) < (RN : Int)) = false := by simp; omega
    have HT0 := hide (tape_new (w := v0) (c := c) HA0.out HL.out 31)
    go_wp2_with fail
    refine (ck_lived _ _ A n c l HT0.out).mono ?_
    rintro e w1 ⟨m, X, B, d, rfl, hm, hm2, hr1, hf1⟩
    have hf1' : Fr v0 w1 (fun i => i = v0.heap.size) := ((Fr.refl v0 _).alloc _).trans hf1
    have HS1 := hide (HS0.out.fr hf1' (by omega))
    have HF1 := hide (HF0.out.step hf1' (fun i hi h => by omega))
    have HRa := hide (HR0.out.fr hf1' (fun hl b o hA _ h => by obtain ⟨b', o', h1, -, h3, -⟩ := HR0.out hl; rw [hA] at h1; injection h1 with h1; injection h1 with h1; omega))
    have HX1 := hide hr1
    have HM := hide hm
    have g1 := hf1'.size
    clear hr1 hm hf1 hf1' l0 l1 l2 l3 l4 l5 l6 gl gp HT0 h2d h2
    go_upto_region 5 with (fail)
    generalize hW : World.alloc w1 _ = v1
    have hs : B7 v1 w1.heap.size (LDV B m d X) := by
      rw [← hW]
      clear hW
      simp only [B7, LDV]
      refine ⟨by simp, ⟨?_, ?_, ?_, ?_, ?_, ?_, ?_⟩, ?_, ?_⟩ <;> first | (intro j; go_simp; done) | (go_simp; done)
    have hf : Fr w1 v1 (fun _ => False) := by rw [← hW]; exact (Fr.refl _ _).alloc _
    clear hW
    have HX2 := hide hs
    have HS2 := hide (HS1.out.fr hf (fun h => h))
    have HF2 := hide (HF1.out.step hf (fun _ _ h => h.elim))
    have HRb := hide (HRa.out.fr hf (fun _ _ _ _ _ h => h))
    have HXb := hide (HX1.out.fr hf (fun _ _ _ _ _ h => h))
    have g2 := hf.size
    clear hs hf HS1 HF1 HRa HX1 HS0 HF0 HR0 HA0
    obtain ⟨gl, q, gp, -⟩ := HX2.out
    simp only [LDV] at q
    obtain ⟨l0, l1, l2, l3, l4, l5, l6⟩ := q
    go_upto_if 52 with (fail)
    go_cut [3, 12] from 52 to 153 (fun q12 q3 wx => Hid (Chg v1 w1.heap.size m wx))
    case first =>
      by_cases hm0 : m = 0
      · have hd : decide ((0 : Int) < (m : Int)) = false := by simp; omega
        go_wp2_with fail
        go_meet
        case rel => exact hide ⟨X, B, d, HM.out, HX2, HXb, hide (Fr.refl _ _)⟩
      · have hd : decide ((0 : Int) < (m : Int)) = true := by simp; omega
        have hm1 : 0 < m := by omega
        clear HS2 HF2 HRb HR HA HL HRN
        go_wp2_with (at_builtin; refine wl_append _ rfl _ (.tmp 54) 23 rfl v1.heap.size 43 _ 10 96 Try.underlying23 info43 rfl (by decide) (.slice none 0 0) 0 ([] : List Tk) rfl (World.ownsRow_nil _ _ _ _) B m d X.tks rfl HXb.out HM.out Tk.vals_len Tk.vals_one (by omega) (by decide) (by first | exact Nat.le_refl _ | simp) ?_; intro A1 c1 w3 hown1 hg1 hat1; have hf3 := (Fr.refl v1 (fun _ => False)).grown hg1 (fun g h => by simp [Value.ownBlock] at h); rw [Nat.zero_add, List.nil_append] at hown1; have HO3 := hide hown1; have HF3 := hide hf3; clear hown1 hg1 hat1 hf3; obtain ⟨k0, k1, k2, k3, k4, k5, k6⟩ := (HX2.out.fr HF3.out (fun h => h)).2.1; simp only [LDV] at k0 k1 k2 k3 k4 k5 k6; have gk := (HX2.out.fr HF3.out (fun h => h)).2.2.1)
        -- CHANGE
        obtain ⟨g, cap, hv, hgb, hglt⟩ := HO3.out.form (by omega)
        injection hv with hv1 hv2 hv3
        subst hv1
        subst hv3
        have hgne : ¬ g = w1.heap.size := by omega
        have hgne' : ¬ w1.heap.size = g := by omega
        generalize hW : World.setCell w3 _ _ = w4
        have HO4 := hide (show w4.ownsRow v1.heap.size 43 10 (.slice (some ⟨g, 0, none⟩) m c1) m (X.tks.flatMap Tk.vals) from by rw [← hW]; exact own_far HO3.out (p := ⟨w1.heap.size, 0, none⟩) (by simp [Value.ownBlock]; omega) _)
        have hX4 : B7 w4 w1.heap.size (LDV (some ⟨g, 0, none⟩) m c1 X) := by
          rw [← hW]
          exact (HX2.out.fr HF3.out (fun h => h)).set 0 (by decide) _
        have hf4 : Fr v1 w4 (fun i => i = w1.heap.size) := by rw [← hW]; exact (HF3.out.mono (fun _ _ h => h.elim)).setCell (Or.inr (by rfl)) _
        clear hW
        have HX4 := hide hX4
        have HF4 := hide hf4
        clear hX4 hf4 k0 k1 k2 k3 k4 k5 k6 gk l0 l1 l2 l3 l4 l5 l6 gl gp hv2
        obtain ⟨k, hk⟩ : ∃ k : Nat, foldV xa (m : Int) = k := ⟨(foldV xa (m : Int)).toNat, by have := (foldV_lo xa (m : Int)).1; omega⟩
        have hkm : k < m := by have := (foldV_lo xa (m : Int)).2; omega
        have hk0 : (0 : Int) ≤ (k : Int) := by omega
        have hk1 : (k : Int) < (m : Int) := by omega
        have cF : ∀ W : World, Calls Try.prog 19 #[.int .i64 xa, .int .i64 m] W fun e w' => e = .returned (.int .i64 k) ∧ W = w' := fun W => by have := fold_any xa (m : Int) W (by omega); rwa [hk] at this
        have HCF := hide cF
        clear cF
        have q0 : w4.cell? ⟨w1.heap.size, 0, none⟩ = some (.slice (some ⟨g, 0, none⟩) m c1) := HX4.out.2.1.1
        go_region_held3 (fun W => W.cell? ⟨w1.heap.size, 0, none⟩ = some (.slice (some ⟨g, 0, none⟩) m c1)) (first | (first | (go_keep; done) | ((try dsimp only); (repeat' apply And.intro) <;> first | (go_keep; done) | ((repeat rw [World.cell?_setCell_other _ _ _ _ (by intro h; injection h; omega)]); go_keep; done)))) ((go_at_call 19; refine (HCF.out _).mono ?_; rintro e w5 ⟨rfl, rfl⟩))
        -- SWITCH
        go_wp2_with fail
        refine (fold_small xb 5 (by omega) _).mono ?_
        rintro e w5 ⟨z, -, rfl, hw5⟩
        subst hw5
        go_upto_region 11 with (fail)
        have HX5 : Hid (B7 w4.drew w1.heap.size (LDV (some ⟨g, 0, none⟩) m c1 X)) := HX4
        have HO5 : Hid (w4.drew.ownsRow v1.heap.size 43 10 (.slice (some ⟨g, 0, none⟩) m c1) m (X.tks.flatMap Tk.vals)) := HO4
        have HF5 : Hid (Fr v1 w4.drew (fun i => i = w1.heap.size)) := hide HF4.out.drew
        clear HX4 HO4 HF4 q0 HO3 HF3 HX2 HXb
        generalize w4.drew = w5 at HX5 HO5 HF5 ⊢
        obtain ⟨tk, htk⟩ : ∃ tk, X.tks[k]? = some tk := ⟨_, List.getElem?_eq_getElem (by rw [HM.out]; exact hkm)⟩
        have HGT := hide htk
        obtain ⟨f0, f1, f2, f3, f4, f5, f6, f7, f8, f9⟩ := tkAt_of (own_cells Tk.vals_len HO5.out htk)
        have hfz := fun j => HO5.out.frozenAt j
        obtain ⟨gl5, q, gp5, -⟩ := HX5.out
        simp only [LDV] at q
        obtain ⟨l0, l1, l2, l3, l4, l5, l6⟩ := q
        clear htk
        go_wp2_with fail
        refine (fold_small _ 9 (by omega) _).mono ?_
        rintro e w6 ⟨v, hv, rfl, hw6⟩
        subst hw6
        have hv9 : v = 0 ∨ v = 1 ∨ v = 2 ∨ v = 3 ∨ v = 4 ∨ v = 5 ∨ v = 6 ∨ v = 7 ∨ v = 8 := by omega
        clear hv
        rcases hv9 with rfl | rfl | rfl | rfl | rfl | rfl | rfl | rfl | rfl
        · go_wp2_with fail
          go_meet
          case rel => exact hide (rel_set HO5.out HX5.out HM.out hgne HF5.out hgb HGT.out 5 (by decide) _)
        · go_wp2_with fail
          go_meet
          case rel => exact hide (rel_set HO5.out HX5.out HM.out hgne HF5.out hgb HGT.out 6 (by decide) _)
        · go_wp2_with fail
          go_meet
          case rel => exact hide (rel_set HO5.out HX5.out HM.out hgne HF5.out hgb HGT.out 9 (by decide) _)
        · go_wp2_with fail
          go_meet
          case rel => exact hide (rel_set HO5.out HX5.out HM.out hgne HF5.out hgb HGT.out 7 (by decide) _)
        · go_wp2_with fail
          go_meet
          case rel => exact hide (rel_set HO5.out HX5.out HM.out hgne HF5.out hgb HGT.out 8 (by decide) _)
        · go_wp2_with fail
          go_meet
          case rel => exact hide (rel_set HO5.out HX5.out HM.out hgne HF5.out hgb HGT.out 4 (by decide) _)
        · go_wp2_with fail
          go_meet
          case rel => exact hide (rel_set HO5.out HX5.out HM.out hgne HF5.out hgb HGT.out 3 (by decide) _)
        · go_wp2_with fail
          refine (fold_small xa 6 (by omega) _).mono ?_
          rintro e w7 ⟨r, hr, rfl, hw7⟩
          subst hw7
          have hr6 : r = 0 ∨ r = 1 ∨ r = 2 ∨ r = 3 ∨ r = 4 ∨ r = 5 := by omega
          clear hr
          rcases hr6 with rfl | rfl | rfl | rfl | rfl | rfl
          · go_wp2_with fail
            go_meet
            case rel => exact hide (rel_rep HO5.out HX5.out HM.out hgne HF5.out 1 (by decide) _)
          · go_wp2_with fail
            go_meet
            case rel => exact hide (rel_rep HO5.out HX5.out HM.out hgne HF5.out 2 (by decide) _)
          · go_wp2_with fail
            go_meet
            case rel => exact hide (rel_rep HO5.out HX5.out HM.out hgne HF5.out 3 (by decide) _)
          · go_wp2_with fail
            go_meet
            case rel => exact hide (rel_rep HO5.out HX5.out HM.out hgne HF5.out 4 (by decide) _)
          · go_wp2_with fail
            go_meet
            case rel => exact hide (rel_rep HO5.out HX5.out HM.out hgne HF5.out 5 (by decide) _)
          · go_wp2_with fail
            go_meet
            case rel => exact hide (rel_rep HO5.out HX5.out HM.out hgne HF5.out 6 (by decide) _)
        · go_wp2_with fail
          go_meet
          case rel => exact hide ⟨X, _, _, HM.out, HX5, hide (Rs.of_own HO5.out Tk.vals_len HM.out (by intro y hy; cases hy)), HF5⟩
    case rest =>
      obtain ⟨v2, hwc⟩ : ∃ v2, v2 = wc := ⟨wc, rfl⟩
      subst hwc
      obtain ⟨X', B', d', hm', HX3, HRX3, HF3⟩ := hcut.out
      have HS3 := hide (HS2.out.fr HF3.out (by omega))
      have HF4 := hide (HF2.out.step HF3.out (fun i hi h => by omega))
      have HRc := hide (HRb.out.fr HF3.out (fun hl b o hA _ h => rs_not_b7 HRb.out tk_str HX2.out (ldv_no _ _ _ _) hl b o hA h))
      have HM' := hide hm'
      have g3 := HF3.out.size
      clear hm' HX2 HS2 HF2 HRb HXb HF3 HR HA l0 l1 l2 l3 l4 l5 l6 gl gp hcut
      obtain ⟨gl, q, gp, -⟩ := HX3.out
      simp only [LDV] at q
      obtain ⟨l0, l1, l2, l3, l4, l5, l6⟩ := q
      obtain ⟨gr, q, -, -⟩ := HS3.out
      simp only [LDV] at q
      obtain ⟨r0, r1, r2, r3, r4, r5, r6⟩ := q
      -- THE LOOP
      have HY0 : Hid (YC (v2.alloc (.cells #[.slice RA RN RC, .int .i64 R.r0, .int .i64 R.r1, .int .i64 R.r2, .int .i64 R.r3, .int .i64 R.r4, .int .i64 R.r5, .slice B' m d', .int .i64 X'.r0, .int .i64 X'.r1, .int .i64 X'.r2, .int .i64 X'.r3, .int .i64 X'.r4, .int .i64 X'.r5] 26)) v2.heap.size (0 * 7) RA RN RC R) := hide (by
        simp only [YC]
        refine ⟨by simp, ?_, ?_, ?_, ?_, ?_, ?_, ?_⟩ <;> (go_simp; done))
      have HY1 : Hid (YC (v2.alloc (.cells #[.slice RA RN RC, .int .i64 R.r0, .int .i64 R.r1, .int .i64 R.r2, .int .i64 R.r3, .int .i64 R.r4, .int .i64 R.r5, .slice B' m d', .int .i64 X'.r0, .int .i64 X'.r1, .int .i64 X'.r2, .int .i64 X'.r3, .int .i64 X'.r4, .int .i64 X'.r5] 26)) v2.heap.size (1 * 7) B' m d' X') := hide (by
        simp only [YC]
        refine ⟨by simp, ?_, ?_, ?_, ?_, ?_, ?_, ?_⟩ <;> (go_simp; done))
      have HV3 := hide (show Fr v2 (v2.alloc (.cells #[.slice RA RN RC, .int .i64 R.r0, .int .i64 R.r1, .int .i64 R.r2, .int .i64 R.r3, .int .i64 R.r4, .int .i64 R.r5, .slice B' m d', .int .i64 X'.r0, .int .i64 X'.r1, .int .i64 X'.r2, .int .i64 X'.r3, .int .i64 X'.r4, .int .i64 X'.r5] 26)) (fun _ => False) from (Fr.refl _ _).alloc _)
      have hcl : m ≤ 200 := by omega
      go_wp2_with fail
      go_loopw [158] (fun x wr => ∃ i : Nat, i ≤ 2 ∧ x = .int .i64 i ∧ Hid (Fr (v2.alloc (.cells #[.slice RA RN RC, .int .i64 R.r0, .int .i64 R.r1, .int .i64 R.r2, .int .i64 R.r3, .int .i64 R.r4, .int .i64 R.r5, .slice B' m d', .int .i64 X'.r0, .int .i64 X'.r1, .int .i64 X'.r2, .int .i64 X'.r3, .int .i64 X'.r4, .int .i64 X'.r5] 26)) wr (fun _ => False))) (fun x _ => 2 - (intOf x).toNat)
      case atStart => exact ⟨0, by omega, rfl, hide (Fr.refl _ _)⟩
      case round =>
        obtain ⟨i, hi, rfl, HI⟩ := hrel
        have HI2 := hide (HV3.out.trans HI.out)
        clear l0 l1 l2 l3 l4 l5 l6 gl gp r0 r1 r2 r3 r4 r5 r6 gr
        by_cases hi2 : i < 2
        · obtain ⟨C, M, D, L, hM, hM2, HQ, HY⟩ : ∃ (C : Option Addr) (M D : Nat) (L : Ld), L.tks.length = M ∧ M ≤ 200 ∧ Hid (Rs wr none 10 Tk.vals C L.tks) ∧ Hid (YC wr v2.heap.size (i * 7) C M D L) := by
            have h01 : i = 0 ∨ i = 1 := by omega
            rcases h01 with rfl | rfl
            · exact ⟨RA, RN, RC, R, HRN.out, by omega, hide (HRc.out.fr HI2.out (fun _ _ _ _ _ h => h)), hide (HY0.out.fr HI.out)⟩
            · exact ⟨B', m, d', X', HM'.out, hcl, hide (HRX3.out.fr HI2.out (fun _ _ _ _ _ h => h)), hide (HY1.out.fr HI.out)⟩
          have HMM := hide hM
          have hi1 : (0 : Int) ≤ (i : Int) := by omega
          have hi3 : (i : Int) < 2 := by omega
          obtain ⟨gY, y0, y1, y2, y3, y4, y5, y6⟩ := HY.out
          clear hM
          go_upto_region 31 with (fail)
          generalize hW : World.alloc wr _ = u0
          have hs : B7 u0 wr.heap.size (LDV C M D L) := by
            rw [← hW]
            clear hW
            simp only [B7, LDV]
            refine ⟨by simp, ⟨?_, ?_, ?_, ?_, ?_, ?_, ?_⟩, ?_, ?_⟩ <;> first | (intro j; go_simp; done) | (go_simp; done)
          have hf : Fr wr u0 (fun _ => False) := by rw [← hW]; exact (Fr.refl _ _).alloc _
          clear hW y0 y1 y2 y3 y4 y5 y6 gY
          have HB0 := hide hs
          have HQ0 := hide (HQ.out.fr hf (fun _ _ _ _ _ h => h))
          have HG0 := hide hf
          clear hs hf HQ HY
          obtain ⟨gk, q, gf, -⟩ := HB0.out
          simp only [LDV] at q
          obtain ⟨k0, k1, k2, k3, k4, k5, k6⟩ := q
          obtain ⟨gd, hgd⟩ : ∃ gd, L.ok = gd := ⟨_, rfl⟩
          have HGD := hide hgd
          clear hgd
          have c1 := rcheck_any C D M L u0 none HQ0.out HMM.out (by omega)
          rw [HGD.out] at c1
          go_wp2_with fail
          refine c1.mono ?_
          rintro e x0 ⟨rfl, hb⟩
          clear c1
          have hf : Fr u0 x0 (fun _ => False) := (Fr.refl _ _).below_ hb
          clear hb
          have HB0x := hide (HB0.out.fr hf (fun h => h))
          have HQ0x := hide (HQ0.out.fr hf (fun _ _ _ _ _ h => h))
          have HG0x := hide (HG0.out.step hf (fun _ _ h => h.elim))
          clear hf k0 k1 k2 k3 k4 k5 k6 gk gf HB0 HQ0 HG0
          obtain ⟨gk, q, gf, -⟩ := HB0x.out
          simp only [LDV] at q
          obtain ⟨k0, k1, k2, k3, k4, k5, k6⟩ := q
          obtain ⟨u1, hu1⟩ : ∃ u1, u1 = x0 := ⟨x0, rfl⟩
          subst hu1
          go_upto_region 32 with (fail)
          refine ck_region wr.heap.size C M D L gd u1 HQ0x HMM hM2 HGD HB0x _ _ _ _ _ _ _ _ _ _ _ _ _ _ _ _ _ _ _ _ _ _ _ _ _ _ _ _ _ _ _ _ _ _ _ _ _ _ _ _ _ _ _ _ _ _ _ _ _ _ _ _ _ _ _ _ _ _ _ _ _ _ _ _ _ _ _ _ _ _ _ _ _ _ _ _ _ _ _ _ _ _ _ _ _ _ _ _ _ _ _ _ _ _ _ _ _ _ _ _ _ _ _ _ _ _ _ _ _ _ _ _ _ _ _ _ _ _ _ _ _ _ _ _ _ _ _ _ _ _ _ _ _ _ _ _ _ _ _ _ _ _ _ _ _ _ _ _ _ _ _ _ _ _ _ _ _ _ _ _ _ _ _ _ _ _ _ _ _ _ _ _ _ _ _ _ _ _ _ _ _ _ _ _ _ _ _ _ _ _ _ _ _ _ _ _ _ _ _ _ _ _ _ _ _ _ _ _ _ _ _ _ _ _ _ _ _ _ _ _ _ _ _ _ _ _ _ _ _ _ _ _ _ _ _ _ _ _ _ _ _ _ _ _ _ _ _ _ _ _ _ _ _ _ _ _ _ _ _ _ _ _ _ _ (hide ?_)
          intro erA u2 s16 s17 s164 s165 s166 s167 s168 s169 s170 HEA hF1
          have hf : Fr u1 u2 (fun _ => False) := hF1.out
          have HB2 := hide (HB0x.out.fr hf (fun h => h))
          have HQ2 := hide (HQ0x.out.fr hf (fun _ _ _ _ _ h => h))
          have HG2 := hide (HG0x.out.step hf (fun _ _ h => h.elim))
          clear hf k0 k1 k2 k3 k4 k5 k6 gk gf HB0x HQ0x HG0x
          obtain ⟨gk, q, gf, -⟩ := HB2.out
          simp only [LDV] at q
          obtain ⟨k0, k1, k2, k3, k4, k5, k6⟩ := q
          have c1 := ck_begin u2 none C D M L HQ2.out HMM.out (by omega) (by intro x hx; cases hx)
          simp only [HGD.out] at c1
          go_wp2_with fail
          refine c1.mono ?_
          rintro e x2 ⟨A2, n2, c2, L2, v2', erB, rfl, her, hb⟩
          have HEB := hide her
          clear c1 her
          go_upto_region 34 with (fail)
          generalize hW : World.alloc x2 _ = u3
          have hf : Fr u2 u3 (fun _ => False) := by rw [← hW]; exact ((Fr.refl _ _).below_ hb).alloc _
          clear hW hb
          have HB3 := hide (HB2.out.fr hf (fun h => h))
          have HQ3 := hide (HQ2.out.fr hf (fun _ _ _ _ _ h => h))
          have HG3 := hide (HG2.out.step hf (fun _ _ h => h.elim))
          clear hf k0 k1 k2 k3 k4 k5 k6 gk gf HB2 HQ2 HG2
          obtain ⟨gk, q, gf, -⟩ := HB3.out
          simp only [LDV] at q
          obtain ⟨k0, k1, k2, k3, k4, k5, k6⟩ := q
          have c1 := ck_take u3 none C D M L HQ3.out HMM.out (by omega) (by intro x hx; cases hx) (⟨0, 1, 0, 1, 1⟩ : Rp) (by decide)
          simp only [HGD.out] at c1
          go_wp2_with fail
          refine c1.mono ?_
          rintro e x3 ⟨A2, n2, c2, L2, v2', erC, rfl, her, hb⟩
          have HEC := hide her
          clear c1 her
          go_upto_region 35 with (fail)
          generalize hW : World.alloc x3 _ = u4
          have hf : Fr u3 u4 (fun _ => False) := by rw [← hW]; exact ((Fr.refl _ _).below_ hb).alloc _
          clear hW hb
          have HB4 := hide (HB3.out.fr hf (fun h => h))
          have HQ4 := hide (HQ3.out.fr hf (fun _ _ _ _ _ h => h))
          have HG4 := hide (HG3.out.step hf (fun _ _ h => h.elim))
          clear hf k0 k1 k2 k3 k4 k5 k6 gk gf HB3 HQ3 HG3
          obtain ⟨gk, q, gf, -⟩ := HB4.out
          simp only [LDV] at q
          obtain ⟨k0, k1, k2, k3, k4, k5, k6⟩ := q
          have c1 := ck_fail u4 none C D M L HQ4.out HMM.out (by omega) (by intro x hx; cases hx)
          simp only [HGD.out] at c1
          go_wp2_with fail
          refine c1.mono ?_
          rintro e x4 ⟨A2, n2, c2, L2, erD, rfl, her, hb⟩
          have HED := hide her
          clear c1 her
          go_upto_region 36 with (fail)
          generalize hW : World.alloc x4 _ = u5
          have hf : Fr u4 u5 (fun _ => False) := by rw [← hW]; exact ((Fr.refl _ _).below_ hb).alloc _
          clear hW hb
          have HB5 := hide (HB4.out.fr hf (fun h => h))
          have HQ5 := hide (HQ4.out.fr hf (fun _ _ _ _ _ h => h))
          have HG5 := hide (HG4.out.step hf (fun _ _ h => h.elim))
          clear hf k0 k1 k2 k3 k4 k5 k6 gk gf HB4 HQ4 HG4
          obtain ⟨gk, q, gf, -⟩ := HB5.out
          simp only [LDV] at q
          obtain ⟨k0, k1, k2, k3, k4, k5, k6⟩ := q
          have c1 := ck_lose u5 none C D M L HQ5.out HMM.out (by omega) (by intro x hx; cases hx)
          simp only [HGD.out] at c1
          go_wp2_with fail
          refine c1.mono ?_
          rintro e x5 ⟨A2, n2, c2, L2, B2, m2, d2, erE, rfl, her, hb⟩
          have HEE := hide her
          clear c1 her
          go_upto_region 37 with (fail)
          generalize hW : World.alloc x5 _ = u6
          have hf : Fr u5 u6 (fun _ => False) := by rw [← hW]; exact ((Fr.refl _ _).below_ hb).alloc _
          clear hW hb
          have HB6 := hide (HB5.out.fr hf (fun h => h))
          have HQ6 := hide (HQ5.out.fr hf (fun _ _ _ _ _ h => h))
          have HG6 := hide (HG5.out.step hf (fun _ _ h => h.elim))
          clear hf k0 k1 k2 k3 k4 k5 k6 gk gf HB5 HQ5 HG5
          obtain ⟨gk, q, gf, -⟩ := HB6.out
          simp only [LDV] at q
          obtain ⟨k0, k1, k2, k3, k4, k5, k6⟩ := q
          have c1 := ck_cancel u6 none C D M L HQ6.out HMM.out (by omega) (by intro x hx; cases hx)
          simp only [HGD.out] at c1
          go_wp2_with fail
          refine c1.mono ?_
          rintro e x6 ⟨A2, n2, c2, L2, erF, rfl, her, hb⟩
          have HEF := hide her
          clear c1 her
          go_upto_region 38 with (fail)
          generalize hW : World.alloc x6 _ = u7
          have hf : Fr u6 u7 (fun _ => False) := by rw [← hW]; exact ((Fr.refl _ _).below_ hb).alloc _
          clear hW hb
          have HB7 := hide (HB6.out.fr hf (fun h => h))
          have HQ7 := hide (HQ6.out.fr hf (fun _ _ _ _ _ h => h))
          have HG7 := hide (HG6.out.step hf (fun _ _ h => h.elim))
          clear hf k0 k1 k2 k3 k4 k5 k6 gk gf HB6 HQ6 HG6
          obtain ⟨gk, q, gf, -⟩ := HB7.out
          simp only [LDV] at q
          obtain ⟨k0, k1, k2, k3, k4, k5, k6⟩ := q
          have c1 := ck_totals u7 none C D M L HQ7.out HMM.out (by omega) (by intro x hx; cases hx)
          simp only [HGD.out] at c1
          go_wp2_with fail
          refine c1.mono ?_
          rintro e x7 ⟨erG, ⟨t0, t1, t2, t3, t4, t5, t6, t7, t8, t9, rfl⟩, her, hb⟩
          have HEG := hide her
          clear c1 her
          go_upto_region 39 with (fail)
          generalize hW : World.alloc x7 _ = u8
          have hf : Fr u7 u8 (fun _ => False) := by rw [← hW]; exact ((Fr.refl _ _).below_ hb).alloc _
          clear hW hb
          have HB8 := hide (HB7.out.fr hf (fun h => h))
          have HQ8 := hide (HQ7.out.fr hf (fun _ _ _ _ _ h => h))
          have HG8 := hide (HG7.out.step hf (fun _ _ h => h.elim))
          clear hf k0 k1 k2 k3 k4 k5 k6 gk gf HB7 HQ7 HG7
          obtain ⟨gk, q, gf, -⟩ := HB8.out
          simp only [LDV] at q
          obtain ⟨k0, k1, k2, k3, k4, k5, k6⟩ := q
          cases gd
          · have eA : erA = 1 := by simpa using HEA.out
            subst eA
            have eB : (erB == 18) = false := by simpa using HEB.out
            have eB' : ¬ erB = 18 := by simpa using eB
            have eBd : decide (erB = 18) = false := by simpa using eB
            have eC : erC = 1 := by simpa using HEC.out
            subst eC
            have eD : (erD == 18) = false := by simpa using HED.out
            have eD' : ¬ erD = 18 := by simpa using eD
            have eDd : decide (erD = 18) = false := by simpa using eD
            have eE : (erE == 0) = false := by simpa using HEE.out
            have eE' : ¬ erE = 0 := by simpa using eE
            have eEd : decide (erE = 0) = false := by simpa using eE
            have eF : (erF == 18) = false := by simpa using HEF.out
            have eF' : ¬ erF = 18 := by simpa using eF
            have eFd : decide (erF = 18) = false := by simpa using eF
            have eG : (erG == 0) = false := by simpa using HEG.out
            have eG' : ¬ erG = 0 := by simpa using eG
            have eGd : decide (erG = 0) = false := by simpa using eG
            have c1 := check_any C D M L u8 none HQ8.out HMM.out (by omega)
            rw [HGD.out] at c1
            go_wp2_with (first | (go_at_call 11; refine c1.mono ?_; rintro e x8 ⟨rfl, hb8⟩; obtain ⟨hc8, hf8⟩ := bcell hb8; have s0 := (hc8 wr.heap.size 0 gk).trans k0; have s1 := (hc8 wr.heap.size 1 gk).trans k1; have s2 := (hc8 wr.heap.size 2 gk).trans k2; have s3 := (hc8 wr.heap.size 3 gk).trans k3; have s4 := (hc8 wr.heap.size 4 gk).trans k4; have s5 := (hc8 wr.heap.size 5 gk).trans k5; have s6 := (hc8 wr.heap.size 6 gk).trans k6; have hb9 := hb8) | (go_at_call 25; refine (open_bad _ none C D M L (HQ8.out.below hb8) HMM.out (by omega) HGD.out).mono ?_; rintro e x9 ⟨rfl, hb9⟩))
            go_roundw
            case rel => exact ⟨i + 1, by omega, by go_num, hide (HI.out.step ((HG8.out.below_ hb8).below_ hb9) (fun _ _ h => h.elim))⟩
            case measure => simp [intOf]; omega
          · have eA : (erA == 1) = false := by simpa using HEA.out
            have eA' : ¬ erA = 1 := by simpa using eA
            have eAd : decide (erA = 1) = false := by simpa using eA
            have eB : erB = 18 := by simpa using HEB.out
            subst eB
            have eC : (erC == 1) = false := by simpa using HEC.out
            have eC' : ¬ erC = 1 := by simpa using eC
            have eCd : decide (erC = 1) = false := by simpa using eC
            have eD : erD = 18 := by simpa using HED.out
            subst eD
            have eE : erE = 0 := by simpa using HEE.out
            subst eE
            have eF : erF = 18 := by simpa using HEF.out
            subst eF
            have eG : erG = 0 := by simpa using HEG.out
            subst eG
            have c1 := check_any C D M L u8 none HQ8.out HMM.out (by omega)
            rw [HGD.out] at c1
            go_wp2_with (go_at_call 11; refine c1.mono ?_; rintro e x8 ⟨rfl, hb8⟩; obtain ⟨hc8, hf8⟩ := bcell hb8; have s0 := (hc8 wr.heap.size 0 gk).trans k0; have s1 := (hc8 wr.heap.size 1 gk).trans k1; have s2 := (hc8 wr.heap.size 2 gk).trans k2; have s3 := (hc8 wr.heap.size 3 gk).trans k3; have s4 := (hc8 wr.heap.size 4 gk).trans k4; have s5 := (hc8 wr.heap.size 5 gk).trans k5; have s6 := (hc8 wr.heap.size 6 gk).trans k6; have hb9 := hb8)
            go_roundw
            case rel => exact ⟨i + 1, by omega, by go_num, hide (HI.out.step (HG8.out.below_ hb8) (fun _ _ h => h.elim))⟩
            case measure => simp [intOf]; omega

        · have hd : decide ((i : Int) < 2) = false := by simp; omega
          go_wp2_with (go_at_call 12; refine (known_any _).mono ?_; rintro e x9 ⟨rfl, hb9⟩)
          refine bodyPost_ret (v := .bool true) (by simp [results, Try.results8, go_sem, *]) rfl ⟨rfl, ?_⟩
          exact Fr.below (S := fun _ => False) ((HF4.out.step HI2.out (fun _ _ h => h)).below_ hb9) (Nat.le_refl _) (fun _ _ h => h)

end Go.Proofs.Ytjhkgoengoiljaa
