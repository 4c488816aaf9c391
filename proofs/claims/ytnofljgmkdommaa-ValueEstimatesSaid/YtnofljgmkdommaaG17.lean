/- Contracts of the functions that these laws reach: part 17: Contracts: a history of no bucket or of one: ordered, sized, Check; Contracts: Check, join, Add of a history of no or one bucket; Contract: Add of a history of no or one bucket; Plain laws of the verdicts of attempts; Contracts: rerun.after, rerun.check; Contracts: rerun.taken; the iterator. -/
import Derived.Maps.OwnOps
import Derived.Maps.Views
import Derived.BigQuiet
import Derived.Deep.Light
import Derived.Test.YtnofljgmkdommaaG1
import Derived.Test.YtnofljgmkdommaaG16
import Derived.Test.YtnofljgmkdommaaG15
import Derived.WalkMore
import Derived.ScopeJumps
import Derived.Deep.RegionLaw
import Derived.RangeFuncNested
import Derived.RangeFuncBound
import Derived.RangeFuncCalls
import Derived.RangeFuncLeaves
import Derived.Shelf.Abstract
import Derived.Shelf.RegionOpen
import Derived.OwnWalkIn
import Derived.TacticsInMore
import Derived.LoopNIn
import Derived.LoopIn
set_option linter.unusedVariables false
set_option linter.unusedSimpArgs false

/- Contracts: a history of no bucket or of one: ordered, sized, Check. -/
namespace Go.Proofs.Ytnofljgmkdommaa
open Go.RowKit Go.Maps

structure Bk where
  f : Int
  l : Int
  c : Int
def Bk.vals (b : Bk) : List Value := [.int .i64 b.f, .int .i64 b.l, .int .i64 b.c]
structure Hist where
  pk : ByteArray
  ts : ByteArray
  env : Int
  k : Int
  runs : Int
  fail : Int
  last : Int
def Hist.cs (h : Hist) (A : Option Addr) (n c : Nat) : List Value := [.string h.pk, .string h.ts, .int .i64 h.env, .int .i64 h.k, .int .i64 h.runs, .int .i64 h.fail, .int .i64 h.last, .slice A n c]
theorem Hist.cs_nb (h : Hist) (A : Option Addr) (n c : Nat) : ∀ x ∈ h.cs A n c, ∀ i, x ≠ .int .u32 i := by simp [Hist.cs]
set_option maxRecDepth 100000 in
set_option maxHeartbeats 8000000 in
theorem hord_0 (w : World) (h : Hist) (A : Option Addr) (c : Nat) : Calls Try.prog 51 #[.agg #[.string h.pk, .string h.ts, .int .i64 h.env, .int .i64 h.k, .int .i64 h.runs, .int .i64 h.fail, .int .i64 h.last, .slice A 0 c]] w fun e w' => e = .returned (.bool true) ∧ Below w.heap.size w w' := by
  go_enter Try.func51, Try.ntmps51
  go_upto_region 1 with (fail)
  generalize hW : World.alloc w _ = v
  have HC := hide (show Cb v w.heap.size (h.cs A 0 c) by rw [← hW]; exact Cb.mk0 (h.cs A 0 c) (h.cs_nb A 0 c) _ rfl)
  have HB := hide (show Below w.heap.size w v by rw [← hW]; exact (Below.refl _ _).alloc (Nat.le_refl _) _)
  clear hW
  obtain ⟨a0, a1, a2, a3, a4, a5, a6, a7⟩ : _ ∧ _ ∧ _ ∧ _ ∧ _ ∧ _ ∧ _ ∧ _ := ⟨HC.out.cell 0 _ rfl, HC.out.cell 1 _ rfl, HC.out.cell 2 _ rfl, HC.out.cell 3 _ rfl, HC.out.cell 4 _ rfl, HC.out.cell 5 _ rfl, HC.out.cell 6 _ rfl, HC.out.cell 7 _ rfl⟩; have az := HC.out.sz
  go_wp2
  refine wp_loop_rounds 1 ?_
  rw [rounds_succ]
  go_wp2
  go_ret
  exact ⟨rfl, HB.out⟩
theorem bk_at {w : World} {A : Option Addr} {b : Bk} (hR : Rs w none 3 Bk.vals A [b]) : ∃ g o, A = some ⟨g, o, none⟩ ∧ g < w.heap.size ∧ w.cell? ⟨g, o, none⟩ = some (.int .i64 b.f) ∧ w.cell? ⟨g, o + 1, none⟩ = some (.int .i64 b.l) ∧ w.cell? ⟨g, o + 2, none⟩ = some (.int .i64 b.c) := by
  obtain ⟨g, o, h1, -, h3, h4⟩ := hR.at (k := 0) rfl
  exact ⟨g, o, h1, h3, by simpa using h4 0 _ rfl, by simpa using h4 1 _ rfl, by simpa using h4 2 _ rfl⟩
set_option maxRecDepth 100000 in
set_option maxHeartbeats 8000000 in
theorem hord_1 (w : World) (h : Hist) (A : Option Addr) (c : Nat) (f : Int) (hR : Rs w none 3 Bk.vals A [⟨f, f, 1⟩]) (h1 : 1 ≤ f) (h2 : f ≤ h.last) : Calls Try.prog 51 #[.agg #[.string h.pk, .string h.ts, .int .i64 h.env, .int .i64 h.k, .int .i64 h.runs, .int .i64 h.fail, .int .i64 h.last, .slice A 1 c]] w fun e w' => e = .returned (.bool true) ∧ Below w.heap.size w w' := by
  go_enter Try.func51, Try.ntmps51
  go_upto_region 1 with (fail)
  generalize hW : World.alloc w _ = v
  have HC := hide (show Cb v w.heap.size (h.cs A 1 c) by rw [← hW]; exact Cb.mk0 (h.cs A 1 c) (h.cs_nb A 1 c) _ rfl)
  have HB := hide (show Below w.heap.size w v by rw [← hW]; exact (Below.refl _ _).alloc (Nat.le_refl _) _)
  clear hW
  obtain ⟨a0, a1, a2, a3, a4, a5, a6, a7⟩ : _ ∧ _ ∧ _ ∧ _ ∧ _ ∧ _ ∧ _ ∧ _ := ⟨HC.out.cell 0 _ rfl, HC.out.cell 1 _ rfl, HC.out.cell 2 _ rfl, HC.out.cell 3 _ rfl, HC.out.cell 4 _ rfl, HC.out.cell 5 _ rfl, HC.out.cell 6 _ rfl, HC.out.cell 7 _ rfl⟩; have az := HC.out.sz
  obtain ⟨g, o, rfl, hg, e0, e1, e2⟩ := bk_at (hR.below HB.out)
  clear hR
  go_wp2
  refine wp_loop_rounds 2 ?_
  rw [rounds_succ]
  go_wp2
  rw [rounds_succ]
  go_wp2
  go_ret
  exact ⟨rfl, by first | exact HB.out | ((repeat' (with_reducible refine Below.setCell ?_ (by first | (simp; done) | (simp; omega)) _)); exact HB.out.alloc HB.out.size _)⟩
theorem keyInt : Keyed Try.prog 3 := int_keyed Try.underlying3
theorem zeroInt (w : World) : (zeroValue 3).run Try.prog w = .ok (.int .i64 0) w := by kernel_rfl
set_option maxRecDepth 100000 in
set_option maxHeartbeats 8000000 in
theorem hsized_0 (w : World) (h : Hist) (A : Option Addr) (c : Nat) (hf : h.fail = 0) : Calls Try.prog 52 #[.agg #[.string h.pk, .string h.ts, .int .i64 h.env, .int .i64 h.k, .int .i64 h.runs, .int .i64 h.fail, .int .i64 h.last, .slice A 0 c]] w fun e w' => e = .returned (.bool true) ∧ Below w.heap.size w w' := by
  have hmm := @ run_makeMap Try.prog
  have HF := hide hf
  clear hf
  go_enter Try.func52, Try.ntmps52
  go_upto_region 1 with (fail)
  generalize hW : World.alloc w _ = v
  have HC := hide (show Cb v w.heap.size (h.cs A 0 c) by rw [← hW]; exact Cb.mk0 (h.cs A 0 c) (h.cs_nb A 0 c) _ rfl)
  have HB := hide (show Below w.heap.size w v by rw [← hW]; exact (Below.refl _ _).alloc (Nat.le_refl _) _)
  clear hW
  obtain ⟨a0, a1, a2, a3, a4, a5, a6, a7⟩ : _ ∧ _ ∧ _ ∧ _ ∧ _ ∧ _ ∧ _ ∧ _ := ⟨HC.out.cell 0 _ rfl, HC.out.cell 1 _ rfl, HC.out.cell 2 _ rfl, HC.out.cell 3 _ rfl, HC.out.cell 4 _ rfl, HC.out.cell 5 _ rfl, HC.out.cell 6 _ rfl, HC.out.cell 7 _ rfl⟩; have az := HC.out.sz
  rw [HF.out] at a5
  go_wp2
  refine wp_loop_rounds 1 ?_
  rw [rounds_succ]
  go_wp2
  go_ret
  exact ⟨rfl, HB.out.alloc HB.out.size _⟩
theorem bw_one' {w0 W W' : World} {g : Nat} (hb : Below w0.heap.size w0 W) (hf : Fr W W' (fun b => b = g)) (hg : w0.heap.size ≤ g) : Below w0.heap.size w0 W' :=
  ((Fr.of_below (fun _ => False) hb).step hf (fun i hi e => by omega)).below (Nat.le_refl _) (fun _ _ h => h)
set_option maxRecDepth 100000 in
theorem look0 {w : World} {M : Nat} (h : w.ownsMap (H := Unit) Try.prog 3 (plainElem Try.prog 3) M 0 (.map [])) : (Instr.lookup 96 (.map (some M)) (.int .i64 1) false).run Try.prog w = .ok (.int .i64 0) w := by
  obtain ⟨c0, hr, hat, -⟩ := h.lookup_int keyInt Try.underlying96 Try.underlying3 (zeroInt _) (keyOf_int_mk Try.underlying3 (by decide : (Lit.int .i64 1).wf = true))
  have hz : (DataW.lit (.int .i64 0) : DataW Unit) = .lit (.int .i64 c0) := hat
  injection hz with hz
  injection hz with _ hz
  rw [hr, ← hz]
set_option maxRecDepth 100000 in
set_option maxHeartbeats 16000000 in
theorem hsized_1 (w : World) (h : Hist) (A : Option Addr) (c : Nat) (f : Int) (hR : Rs w none 3 Bk.vals A [⟨f, f, 1⟩]) (hf : h.fail = 1) (hk : 2 ≤ h.k) : Calls Try.prog 52 #[.agg #[.string h.pk, .string h.ts, .int .i64 h.env, .int .i64 h.k, .int .i64 h.runs, .int .i64 h.fail, .int .i64 h.last, .slice A 1 c]] w fun e w' => e = .returned (.bool true) ∧ Below w.heap.size w w' := by
  have hmm := @ run_makeMap Try.prog
  have HF := hide hf
  clear hf
  go_enter Try.func52, Try.ntmps52
  go_upto_region 1 with (fail)
  generalize hW : World.alloc w _ = v
  have HC := hide (show Cb v w.heap.size (h.cs A 1 c) by rw [← hW]; exact Cb.mk0 (h.cs A 1 c) (h.cs_nb A 1 c) _ rfl)
  have HB := hide (show Below w.heap.size w v by rw [← hW]; exact (Below.refl _ _).alloc (Nat.le_refl _) _)
  clear hW
  obtain ⟨a0, a1, a2, a3, a4, a5, a6, a7⟩ : _ ∧ _ ∧ _ ∧ _ ∧ _ ∧ _ ∧ _ ∧ _ := ⟨HC.out.cell 0 _ rfl, HC.out.cell 1 _ rfl, HC.out.cell 2 _ rfl, HC.out.cell 3 _ rfl, HC.out.cell 4 _ rfl, HC.out.cell 5 _ rfl, HC.out.cell 6 _ rfl, HC.out.cell 7 _ rfl⟩; have az := HC.out.sz
  rw [HF.out] at a5
  obtain ⟨g, o, rfl, hg, e0, e1, e2⟩ := bk_at (hR.below HB.out)
  clear hR
  dsimp only at e0 e1 e2
  go_upto_region 2 with (fail)
  generalize hW : World.alloc v _ = v2
  have HM := hide (show v2.ownsMap (H := Unit) Try.prog 3 (plainElem Try.prog 3) v.heap.size 0 (.map []) by rw [← hW]; exact World.ownsMap_made _ _ _ _)
  have HC2 := hide (show Cb v2 w.heap.size (h.cs (some ⟨g, o, none⟩) 1 c) by rw [← hW]; exact HC.out.alloc _)
  have HB2 := hide (show Below v.heap.size v v2 by rw [← hW]; exact (Below.refl _ _).alloc (Nat.le_refl _) _)
  obtain ⟨M, hM⟩ : ∃ M, M = v.heap.size := ⟨_, rfl⟩
  have hMg : w.heap.size < M ∧ g < M := by rw [hM]; exact ⟨az, hg⟩
  have hMz : M < v2.heap.size := by rw [hM]; exact HM.out.lt
  have HBw := hide (HB.out.trans (HB2.out.mono HB.out.size))
  have e0' := (HB2.out.cell (p := ⟨g, o, none⟩) (by simpa using hg)).trans e0
  have e1' := (HB2.out.cell (p := ⟨g, o + 1, none⟩) (by simpa using hg)).trans e1
  have e2' := (HB2.out.cell (p := ⟨g, o + 2, none⟩) (by simpa using hg)).trans e2
  have hg2 : g < v2.heap.size := Nat.lt_of_lt_of_le hg HB2.out.size
  rw [← hM] at HM ⊢
  clear a0 a1 a2 a3 a4 a5 a6 a7 az
  obtain ⟨a0, a1, a2, a3, a4, a5, a6, a7⟩ : _ ∧ _ ∧ _ ∧ _ ∧ _ ∧ _ ∧ _ ∧ _ := ⟨HC2.out.cell 0 _ rfl, HC2.out.cell 1 _ rfl, HC2.out.cell 2 _ rfl, HC2.out.cell 3 _ rfl, HC2.out.cell 4 _ rfl, HC2.out.cell 5 _ rfl, HC2.out.cell 6 _ rfl, HC2.out.cell 7 _ rfl⟩; have az := HC2.out.sz
  rw [HF.out] at a5
  clear hW hM e0 e1 e2 hg
  go_wp2
  refine wp_loop_rounds 2 ?_
  rw [rounds_succ]
  go_upto_region 5 with (fail)
  generalize hW : World.alloc v2 _ = v3
  have HX3 := hide (show Cb v3 v2.heap.size [.int .i64 f, .int .i64 f, .int .i64 1] by rw [← hW]; exact Cb.mk0 [.int .i64 f, .int .i64 f, .int .i64 1] (by simp) _ rfl)
  have HM3 := hide (show v3.ownsMap (H := Unit) Try.prog 3 (plainElem Try.prog 3) M 0 (.map []) by rw [← hW]; exact HM.out.alloc _)
  have HC3 := hide (show Cb v3 w.heap.size (h.cs (some ⟨g, o, none⟩) 1 c) by rw [← hW]; exact HC2.out.alloc _)
  have HB3 := hide (show Below v2.heap.size v2 v3 by rw [← hW]; exact (Below.refl _ _).alloc (Nat.le_refl _) _)
  obtain ⟨X, hX⟩ : ∃ X, X = v2.heap.size := ⟨_, rfl⟩
  have hXM : M < X := by rw [hX]; exact hMz
  have hXg : g < X := by rw [hX]; exact hg2
  have hXz : X < v3.heap.size := by rw [hX]; exact HX3.out.sz
  have f0 := (HB3.out.cell (p := ⟨g, o, none⟩) (by simpa using hg2)).trans e0'
  have f1 := (HB3.out.cell (p := ⟨g, o + 1, none⟩) (by simpa using hg2)).trans e1'
  have f2 := (HB3.out.cell (p := ⟨g, o + 2, none⟩) (by simpa using hg2)).trans e2'
  have hg3 : g < v3.heap.size := by omega
  have HBw3 := hide (HBw.out.trans (HB3.out.mono HBw.out.size))
  rw [← hX] at HX3 ⊢
  clear hW hX e0' e1' e2' hg2 hMz
  clear a0 a1 a2 a3 a4 a5 a6 a7 az
  obtain ⟨a0, a1, a2, a3, a4, a5, a6, a7⟩ : _ ∧ _ ∧ _ ∧ _ ∧ _ ∧ _ ∧ _ ∧ _ := ⟨HC3.out.cell 0 _ rfl, HC3.out.cell 1 _ rfl, HC3.out.cell 2 _ rfl, HC3.out.cell 3 _ rfl, HC3.out.cell 4 _ rfl, HC3.out.cell 5 _ rfl, HC3.out.cell 6 _ rfl, HC3.out.cell 7 _ rfl⟩; have az := HC3.out.sz
  rw [HF.out] at a5
  have x0 := HX3.out.cell 0 _ rfl
  have x1 := HX3.out.cell 1 _ rfl
  have x2 := HX3.out.cell 2 _ rfl
  have hkey : keyOf Try.prog 3 (.int .i64 1) = some (.int .i64 1) := keyOf_int_mk Try.underlying3 (by decide)
  have k0 : ((0 : Int) == h.k) = false := by simp; omega
  have k1 : decide ((0 : Int) = h.k) = false := decide_eq_false (by omega)
  have k2 : ¬ (0 : Int) = h.k := by omega
  clear hmm hkey
  have hr : ∀ m, (Instr.lookup 96 (.map (some M)) (.int .i64 1) false).run Try.prog (v3.drewN m) = .ok (.int .i64 0) (v3.drewN m) := fun m => look0 (show (v3.drewN m).ownsMap (H := Unit) Try.prog 3 (plainElem Try.prog 3) M 0 (.map []) from HM3.out)
  have hb0 : bits .and .i64 1 0 = 0 := by rfl
  go_cut [58] from 17 to 58 (fun s58 wx => s58 = .bool false ∧ Hid (∃ d, wx = v3.drewN d))
  case first =>
    go_quiet (fail)
    go_wp2_with fail
    go_meet
    case rel => exact ⟨rfl, hide ⟨_, rfl⟩⟩
  case rest =>
    obtain ⟨rfl, HW⟩ := hcut
    have HBX := hide (show Below v3.heap.size v3 wc by obtain ⟨d, hd⟩ := HW.out; rw [hd]; exact Dr.below ⟨d, rfl⟩)
    have HM4 := hide (HM3.out.kept (grown_of_below HBX.out none) (by simp))
    have HC4 := hide (HC3.out.below HBX.out)
    have HX4 := hide (HX3.out.below HBX.out)
    have hr4 := look0 HM4.out
    have g0 := (HBX.out.cell (p := ⟨g, o, none⟩) (by simpa using hg3)).trans f0
    have g1 := (HBX.out.cell (p := ⟨g, o + 1, none⟩) (by simpa using hg3)).trans f1
    have g2 := (HBX.out.cell (p := ⟨g, o + 2, none⟩) (by simpa using hg3)).trans f2
    have hg4 : g < wc.heap.size := Nat.lt_of_lt_of_le hg3 HBX.out.size
    have HBw4 := hide (HBw3.out.trans (HBX.out.mono HBw3.out.size))
    clear a0 a1 a2 a3 a4 a5 a6 a7 az
    obtain ⟨a0, a1, a2, a3, a4, a5, a6, a7⟩ : _ ∧ _ ∧ _ ∧ _ ∧ _ ∧ _ ∧ _ ∧ _ := ⟨HC4.out.cell 0 _ rfl, HC4.out.cell 1 _ rfl, HC4.out.cell 2 _ rfl, HC4.out.cell 3 _ rfl, HC4.out.cell 4 _ rfl, HC4.out.cell 5 _ rfl, HC4.out.cell 6 _ rfl, HC4.out.cell 7 _ rfl⟩; have az := HC4.out.sz
    rw [HF.out] at a5
    clear x0 x1 x2
    have x0 := HX4.out.cell 0 _ rfl
    have x1 := HX4.out.cell 1 _ rfl
    have x2 := HX4.out.cell 2 _ rfl
    have x3 := HX4.out.sz
    have hkey : keyOf Try.prog 3 (.int .i64 1) = some (.int .i64 1) := keyOf_int_mk Try.underlying3 (by decide)
    have HK := hide hkey
    clear hkey f0 f1 f2 hr
    go_wp2_with (at_mapUpdate; refine wpList_mapUpdate_own _ rfl _ _ _ 96 rfl 3 3 keyInt Try.underlying96 _ M 0 _ rfl HM4.out (by unfold maxLen; omega) _ _ _ rfl rfl HK.out _ [] (plainElem_int Try.underlying3 (by decide)) ?_; intro w1 hown1 hgrow1; have HG := hide hgrow1; clear hown1 hgrow1)
    have HFR := hide (show Fr wc w1 (fun b => b = M) from ⟨HG.out.os, HG.out.tape, HG.out.output, HG.out.size, fun k _ hne => HG.out.block k (by assumption) (fun e => hne (by injection e with e))⟩)
    have HC5 := hide (HC4.out.one HFR.out (by omega))
    have HB5 := hide (bw_one' HBw4.out HFR.out (by omega))
    have r0 := (World.cell?_of_block (w := wc) (a := ⟨g, o, none⟩) (HFR.out.block g hg4 (by omega))).trans g0
    have r1 := (World.cell?_of_block (w := wc) (a := ⟨g, o + 1, none⟩) (HFR.out.block g hg4 (by omega))).trans g1
    have r2 := (World.cell?_of_block (w := wc) (a := ⟨g, o + 2, none⟩) (HFR.out.block g hg4 (by omega))).trans g2
    have hg5 : g < w1.heap.size := Nat.lt_of_lt_of_le hg4 HFR.out.size
    clear a0 a1 a2 a3 a4 a5 a6 a7 az
    obtain ⟨a0, a1, a2, a3, a4, a5, a6, a7⟩ : _ ∧ _ ∧ _ ∧ _ ∧ _ ∧ _ ∧ _ ∧ _ := ⟨HC5.out.cell 0 _ rfl, HC5.out.cell 1 _ rfl, HC5.out.cell 2 _ rfl, HC5.out.cell 3 _ rfl, HC5.out.cell 4 _ rfl, HC5.out.cell 5 _ rfl, HC5.out.cell 6 _ rfl, HC5.out.cell 7 _ rfl⟩; have az := HC5.out.sz
    rw [HF.out] at a5
    clear x0 x1 x2 x3 g0 g1 g2
    rw [rounds_succ]
    go_wp2
    refine wp_loop_rounds 1 ?_
    rw [rounds_succ]
    go_wp2
    go_ret
    exact ⟨rfl, HB5.out⟩
end Go.Proofs.Ytnofljgmkdommaa

/- Contracts: Check, join, Add of a history of no or one bucket. -/
namespace Go.Proofs.Ytnofljgmkdommaa
open Go.RowKit

structure HOk (h : Hist) : Prop where
  us : usableB h.pk h.ts = true
  e0 : 0 ≤ h.env
  e1 : h.env ≤ 63
  k0 : 2 ≤ h.k
  k1 : h.k ≤ 16
  f0 : 0 ≤ h.fail
  fr : h.fail ≤ h.runs
  rm : h.runs ≤ 1073741824
  l0 : 0 ≤ h.last
  lm : h.last ≤ 1073741824
  lz : (h.last == 0) = (h.runs == 0)
set_option maxRecDepth 100000 in
set_option maxHeartbeats 8000000 in
theorem hcheck_of (w : World) (h : Hist) (A : Option Addr) (n c : Nat) (ok : HOk h) (hO : ∀ W, Below w.heap.size w W → Calls Try.prog 51 #[.agg #[.string h.pk, .string h.ts, .int .i64 h.env, .int .i64 h.k, .int .i64 h.runs, .int .i64 h.fail, .int .i64 h.last, .slice A n c]] W fun e w' => e = .returned (.bool true) ∧ Below W.heap.size W w') (hS : ∀ W, Below w.heap.size w W → Calls Try.prog 52 #[.agg #[.string h.pk, .string h.ts, .int .i64 h.env, .int .i64 h.k, .int .i64 h.runs, .int .i64 h.fail, .int .i64 h.last, .slice A n c]] W fun e w' => e = .returned (.bool true) ∧ Below W.heap.size W w') :
    Calls Try.prog 30 #[.agg #[.string h.pk, .string h.ts, .int .i64 h.env, .int .i64 h.k, .int .i64 h.runs, .int .i64 h.fail, .int .i64 h.last, .slice A n c]] w fun e w' => e = .returned (.bool true) ∧ Below w.heap.size w w' := by
  have HUS := hide ok.us
  have HO := hide hO
  have HS := hide hS
  have HLZ := hide ok.lz
  have q1 : decide (h.env < 0) = false := decide_eq_false (by have := ok.e0; omega)
  have q2 : decide (63 < h.env) = false := decide_eq_false (by have := ok.e1; omega)
  have q3 : decide (h.k < 2) = false := decide_eq_false (by have := ok.k0; omega)
  have q4 : decide (16 < h.k) = false := decide_eq_false (by have := ok.k1; omega)
  have q5 : decide (h.fail < 0) = false := decide_eq_false (by have := ok.f0; omega)
  have q6 : decide (h.runs < h.fail) = false := decide_eq_false (by have := ok.fr; omega)
  have q7 : decide (1073741824 < h.runs) = false := decide_eq_false (by have := ok.rm; omega)
  have q8 : decide (h.last < 0) = false := decide_eq_false (by have := ok.l0; omega)
  have q9 : decide (1073741824 < h.last) = false := decide_eq_false (by have := ok.lm; omega)
  obtain ⟨z, hz⟩ : ∃ z, (h.runs == 0) = z := ⟨_, rfl⟩
  have qa : (h.last == 0) = z := ok.lz.trans hz
  clear hO hS ok
  go_enter Try.func30, Try.ntmps30
  go_upto_region 1 with (fail)
  generalize hW : World.alloc w _ = v
  have HC := hide (show Cb v w.heap.size (h.cs A n c) by rw [← hW]; exact Cb.mk0 (h.cs A n c) (h.cs_nb A n c) _ rfl)
  have HB := hide (show Below w.heap.size w v by rw [← hW]; exact (Below.refl _ _).alloc (Nat.le_refl _) _)
  clear hW
  obtain ⟨a0, a1, a2, a3, a4, a5, a6, a7⟩ : _ ∧ _ ∧ _ ∧ _ ∧ _ ∧ _ ∧ _ ∧ _ := ⟨HC.out.cell 0 _ rfl, HC.out.cell 1 _ rfl, HC.out.cell 2 _ rfl, HC.out.cell 3 _ rfl, HC.out.cell 4 _ rfl, HC.out.cell 5 _ rfl, HC.out.cell 6 _ rfl, HC.out.cell 7 _ rfl⟩; have az := HC.out.sz
  go_wp2_with (first
    | (go_at_call 49; (with_reducible refine (usable_any h.pk h.ts _).mono ?_); rintro e w1 ⟨rfl, hb⟩; rw [HUS.out]; have HC1 := hide (HC.out.below hb); have HB1 := hide (HB.out.trans (hb.mono HB.out.size)); clear a0 a1 a2 a3 a4 a5 a6 a7 az; obtain ⟨a0, a1, a2, a3, a4, a5, a6, a7⟩ : _ ∧ _ ∧ _ ∧ _ ∧ _ ∧ _ ∧ _ ∧ _ := ⟨HC1.out.cell 0 _ rfl, HC1.out.cell 1 _ rfl, HC1.out.cell 2 _ rfl, HC1.out.cell 3 _ rfl, HC1.out.cell 4 _ rfl, HC1.out.cell 5 _ rfl, HC1.out.cell 6 _ rfl, HC1.out.cell 7 _ rfl⟩; have az := HC1.out.sz; clear hb)
    | (go_at_call 51; (with_reducible refine (HO.out _ HB1.out).mono ?_); rintro e w2 ⟨rfl, hb⟩; have HC2 := hide (HC1.out.below hb); have HB2 := hide (HB1.out.trans (hb.mono HB1.out.size)); clear a0 a1 a2 a3 a4 a5 a6 a7 az; obtain ⟨a0, a1, a2, a3, a4, a5, a6, a7⟩ : _ ∧ _ ∧ _ ∧ _ ∧ _ ∧ _ ∧ _ ∧ _ := ⟨HC2.out.cell 0 _ rfl, HC2.out.cell 1 _ rfl, HC2.out.cell 2 _ rfl, HC2.out.cell 3 _ rfl, HC2.out.cell 4 _ rfl, HC2.out.cell 5 _ rfl, HC2.out.cell 6 _ rfl, HC2.out.cell 7 _ rfl⟩; have az := HC2.out.sz; clear hb)
    | (go_at_call 52; (with_reducible refine (HS.out _ HB2.out).mono ?_); rintro e w3 ⟨rfl, hb⟩; have HB3 := hide (HB2.out.trans (hb.mono HB2.out.size)); clear hb))
  go_ret
  exact ⟨rfl, HB3.out⟩
set_option maxRecDepth 100000 in
set_option maxHeartbeats 8000000 in
theorem hjoin_1 (w : World) (A : Option Addr) (c : Nat) (k : Int) (hk : 1 ≤ k) (hk2 : k ≤ 16) :
    Calls Try.prog 50 #[.slice A 1 c, .int .i64 k] w fun e w' => e = .returned (.slice A 1 c) ∧ Below w.heap.size w w' := by
  go_enter Try.func50, Try.ntmps50
  go_wp2
  go_step3
  go_wp2
  go_step3
  go_wp2
  refine wp_loop_rounds 2 ?_
  rw [rounds_succ]
  go_upto_region 4 with (fail)
  have q0 : decide ((1 : Int) ≤ k) = true := decide_eq_true hk
  have q1 : IntKind.i64.wrap (0 + k) = k := by rw [Int.zero_add]; exact IntWalk.i64_in _ (by omega)
  have q2 : IntKind.i64.wrap k = k := IntWalk.i64_in _ (by omega)
  have q3 : wrap64 k = k := IntWalk.wrap64_in _ ⟨by omega, by omega⟩
  go_quiet (fail)
  go_wp2
  rw [rounds_succ]
  go_wp2
  rw [Exit.noGoto_ret]
  go_ret
  exact ⟨rfl, Dr.below ⟨_, rfl⟩⟩
end Go.Proofs.Ytnofljgmkdommaa

/- Contract: Add of a history of no or one bucket. -/
namespace Go.Proofs.Ytnofljgmkdommaa
open Go.RowKit

theorem info81 : (Try.prog.info? 81).map (fun i => (i.zero, i.size, i.bytes)) = some (some (.agg #[.int .i64 0, .int .i64 0, .int .i64 0]), 3, 24) := by kernel_rfl
theorem size81 : (Try.prog.info? 81).map (·.size) = some 3 := by kernel_rfl
theorem Bk.len (b : Bk) : b.vals.length = 3 := rfl
theorem Bk.one (b : Bk) : ∀ u ∈ b.vals, u.oneCell' = true := by
  intro u hu
  simp only [Bk.vals, List.mem_cons, List.not_mem_nil, or_false] at hu
  rcases hu with rfl | rfl | rfl <;> rfl
def hz8 : List Value := [.string ⟨#[]⟩, .string ⟨#[]⟩, .int .i64 0, .int .i64 0, .int .i64 0, .int .i64 0, .int .i64 0, .slice none 0 0]
theorem one_bk (w : World) (b : Bk) (t : TypeId) : Rs (w.alloc (.cells #[.int .i64 b.f, .int .i64 b.l, .int .i64 b.c] t)) none 3 Bk.vals (some ⟨w.heap.size, 0, none⟩) [b] :=
  rs_one (av := none) (by simp) (by simp) (fun j u hu => by rw [World.cell?_alloc_new]; simpa [Bk.vals] using hu)
theorem ab_of {A : Option Addr} {m c X Y p : Nat} {v : Value} (hl : ∀ g, (Value.slice A m c).ownBlock = some g → v.ownBlock = some g ∨ g = X) (hv : v.ownBlock = some Y) (h1 : p < Y) (h2 : p < X) : ∀ b o, A = some ⟨b, o, none⟩ → p < b := by
  intro b o hA
  subst hA
  rcases hl b (by simp [Value.ownBlock]) with h | h
  · rw [hv] at h; injection h with h; omega
  · omega
theorem fr_of_grown {w w' : World} {g : Nat} (h : w.grownBy w' (some g)) : Fr w w' (fun b => b = g) := ⟨h.os, h.tape, h.output, h.size, fun k hk hne => h.block k hk (fun e => hne (by injection e))⟩
set_option maxRecDepth 100000 in
set_option maxHeartbeats 8000000 in
theorem hadd_no (w : World) (h : Hist) (A : Option Addr) (n c : Nat) (rev : Int) (bs : List Bk) (hR : Rs w none 3 Bk.vals A bs) (hl : bs.length = n) (hn : n ≤ 1000) (hr1 : 1 ≤ rev) (hr2 : rev ≤ 1073741824) (hr3 : h.last ≤ rev) (hu0 : 0 ≤ h.runs) (hu1 : h.runs < 1073741824)
    (hCK : ∀ W, Below w.heap.size w W → Calls Try.prog 30 #[.agg #[.string h.pk, .string h.ts, .int .i64 h.env, .int .i64 h.k, .int .i64 h.runs, .int .i64 h.fail, .int .i64 h.last, .slice A n c]] W fun e w' => e = .returned (.bool true) ∧ Below W.heap.size W w') :
    Calls Try.prog 29 #[.agg #[.string h.pk, .string h.ts, .int .i64 h.env, .int .i64 h.k, .int .i64 h.runs, .int .i64 h.fail, .int .i64 h.last, .slice A n c], .int .i64 rev, .bool false] w fun e w' => ∃ A' c', e = .returned (.tuple #[.agg #[.string h.pk, .string h.ts, .int .i64 h.env, .int .i64 h.k, .int .i64 (h.runs + 1), .int .i64 h.fail, .int .i64 rev, .slice A' n c'], .int .i64 0]) ∧ Rs w' none 3 Bk.vals A' bs ∧ (∀ b o, A' = some ⟨b, o, none⟩ → w.heap.size < b) ∧ Below w.heap.size w w' := by
  have HR := hide hR
  have HL := hide hl
  have HCK := hide hCK
  clear hR hl hCK
  have q1 : decide (rev < 1) = false := decide_eq_false (by omega)
  have q2 : decide (1073741824 < rev) = false := decide_eq_false (by omega)
  have q3 : decide (rev < h.last) = false := decide_eq_false (by omega)
  have q4 : (h.runs == 1073741824) = false := by simp; omega
  have q5 : decide (h.runs = 1073741824) = false := decide_eq_false (by omega)
  go_enter Try.func29, Try.ntmps29
  go_upto_region 1 with (fail)
  generalize hW : World.alloc (World.alloc w _) _ = v
  have HC := hide (show Cb v w.heap.size (h.cs A n c) by rw [← hW]; exact (Cb.mk0 (h.cs A n c) (h.cs_nb A n c) _ rfl).alloc _)
  have HZ := hide (show Cb v (w.heap.size + 1) hz8 by rw [← hW]; exact Cb.mk0 hz8 (by simp [hz8]) _ (by simp))
  have HB := hide (show Below w.heap.size w v by rw [← hW]; exact ((Below.refl _ _).alloc (Nat.le_refl _) _).alloc (by simp) _)
  clear hW
  obtain ⟨a0, a1, a2, a3, a4, a5, a6, a7⟩ : _ ∧ _ ∧ _ ∧ _ ∧ _ ∧ _ ∧ _ ∧ _ := ⟨HC.out.cell 0 _ rfl, HC.out.cell 1 _ rfl, HC.out.cell 2 _ rfl, HC.out.cell 3 _ rfl, HC.out.cell 4 _ rfl, HC.out.cell 5 _ rfl, HC.out.cell 6 _ rfl, HC.out.cell 7 _ rfl⟩; have az := HC.out.sz
  go_upto_region 9 with (go_at_call 30; (with_reducible refine (HCK.out _ HB.out).mono ?_); rintro e w1 ⟨rfl, hb⟩; have HC1 := hide (HC.out.below hb); have HZ1 := hide (HZ.out.below hb); have HB1 := hide (HB.out.trans (hb.mono HB.out.size)); clear a0 a1 a2 a3 a4 a5 a6 a7 az; obtain ⟨a0, a1, a2, a3, a4, a5, a6, a7⟩ : _ ∧ _ ∧ _ ∧ _ ∧ _ ∧ _ ∧ _ ∧ _ := ⟨HC1.out.cell 0 _ rfl, HC1.out.cell 1 _ rfl, HC1.out.cell 2 _ rfl, HC1.out.cell 3 _ rfl, HC1.out.cell 4 _ rfl, HC1.out.cell 5 _ rfl, HC1.out.cell 6 _ rfl, HC1.out.cell 7 _ rfl⟩; have az := HC1.out.sz; have af := HC1.out.fz; clear hb)
  go_upto_region 10 with (fail)
  generalize hW : World.setCell (World.setCell w1 _ _) _ _ = v2
  obtain ⟨h', hh'⟩ : ∃ h' : Hist, h' = { h with runs := h.runs + 1, last := rev } := ⟨_, rfl⟩
  have HC2 := hide (show Cb v2 w.heap.size (h'.cs A n c) by rw [← hW, hh']; exact (HC1.out.put 4 (.int .i64 (h.runs + 1)) (by simp [Hist.cs]) (by simp)).put 6 (.int .i64 rev) (by simp [Hist.cs]) (by simp))
  have frp : Fr w1 v2 (fun b => b = w.heap.size) := by rw [← hW]; exact Fr.setCell (Fr.setCell (Fr.refl _ _) (Or.inr (by rfl)) _) (Or.inr (by rfl)) _
  have HZ2 := hide (HZ1.out.one frp (by omega))
  have HB2 := hide (bw_one' HB1.out frp (Nat.le_refl _))
  have HR2 := hide (HR.out.below HB2.out)
  have HH := hide hh'
  have hz2 : w.heap.size + 1 < v2.heap.size := HZ2.out.sz
  clear a0 a1 a2 a3 a4 a5 a6 a7 az
  clear hW hh' frp af
  obtain ⟨a0, a1, a2, a3, a4, a5, a6, a7⟩ : _ ∧ _ ∧ _ ∧ _ ∧ _ ∧ _ ∧ _ ∧ _ := ⟨HC2.out.cell 0 _ rfl, HC2.out.cell 1 _ rfl, HC2.out.cell 2 _ rfl, HC2.out.cell 3 _ rfl, HC2.out.cell 4 _ rfl, HC2.out.cell 5 _ rfl, HC2.out.cell 6 _ rfl, HC2.out.cell 7 _ rfl⟩; have az := HC2.out.sz
  go_upto_region 12 with (first
    | (at_make; refine wl_make _ rfl _ _ _ rfl w.heap.size 81 _ 3 24 Try.underlying24 info81 v2.heap.size n (n + 1) rfl _ _ rfl rfl rfl (by omega) (by omega) rfl (by omega) (by simp only [maxLen]; omega) (by omega) ?_; intro w3 ys hown1 _ hg1; have HOW1 := hide hown1; have HB3 := hide (below_of_grown hg1); have HC3 := hide (HC2.out.below HB3.out); clear a0 a1 a2 a3 a4 a5 a6 a7 az; obtain ⟨a0, a1, a2, a3, a4, a5, a6, a7⟩ : _ ∧ _ ∧ _ ∧ _ ∧ _ ∧ _ ∧ _ ∧ _ := ⟨HC3.out.cell 0 _ rfl, HC3.out.cell 1 _ rfl, HC3.out.cell 2 _ rfl, HC3.out.cell 3 _ rfl, HC3.out.cell 4 _ rfl, HC3.out.cell 5 _ rfl, HC3.out.cell 6 _ rfl, HC3.out.cell 7 _ rfl⟩; have az := HC3.out.sz; clear hown1 hg1)
    | (refine wl_copy _ rfl (.tmp 47) (.tmp 49) 24 24 rfl 81 3 Try.underlying24 size81 w.heap.size v2.heap.size n (n + 1) c ys A rfl rfl HOW1.out bs (HR2.out.below HB3.out) HL.out Bk.len Bk.one ?_; intro w4 hown2 hg2; have HOW2 := hide hown2; have HF4 := hide (fr_of_grown hg2); clear hown2 hg2))
  have HC4 := hide (HC3.out.one HF4.out (by omega))
  have HZ4 := hide ((HZ2.out.below HB3.out).one HF4.out (by omega))
  have HB4 := hide (bw_one' (HB2.out.trans (HB3.out.mono HB2.out.size)) HF4.out (by omega))
  clear a0 a1 a2 a3 a4 a5 a6 a7 az
  obtain ⟨a0, a1, a2, a3, a4, a5, a6, a7⟩ : _ ∧ _ ∧ _ ∧ _ ∧ _ ∧ _ ∧ _ ∧ _ := ⟨HC4.out.cell 0 _ rfl, HC4.out.cell 1 _ rfl, HC4.out.cell 2 _ rfl, HC4.out.cell 3 _ rfl, HC4.out.cell 4 _ rfl, HC4.out.cell 5 _ rfl, HC4.out.cell 6 _ rfl, HC4.out.cell 7 _ rfl⟩; have az := HC4.out.sz
  have af := HC4.out.fz
  go_upto_region 16 with (fail)
  generalize hW : World.setCell w4 _ _ = v5
  have HC5 := hide (show Cb v5 w.heap.size (h'.cs (some ⟨v2.heap.size, 0, none⟩) n (n + 1)) by rw [← hW]; exact HC4.out.put 7 (.slice (some ⟨v2.heap.size, 0, none⟩) n (n + 1)) (by simp [Hist.cs]) (by simp))
  have frp : Fr w4 v5 (fun b => b = w.heap.size) := by rw [← hW]; exact Fr.setCell (Fr.refl _ _) (Or.inr (by rfl)) _
  have HZ5 := hide (HZ4.out.one frp (by omega))
  have HB5 := hide (bw_one' HB4.out frp (Nat.le_refl _))
  have HR5 := hide (show Rs v5 none 3 Bk.vals (some ⟨v2.heap.size, 0, none⟩) bs from (Rs.of_own HOW2.out Bk.len HL.out (by simp)).fr frp (fun hl b o hA _ => by injection hA with hA; injection hA with hA; omega))
  clear a0 a1 a2 a3 a4 a5 a6 a7 az
  clear hW frp af
  obtain ⟨a0, a1, a2, a3, a4, a5, a6, a7⟩ : _ ∧ _ ∧ _ ∧ _ ∧ _ ∧ _ ∧ _ ∧ _ := ⟨HC5.out.cell 0 _ rfl, HC5.out.cell 1 _ rfl, HC5.out.cell 2 _ rfl, HC5.out.cell 3 _ rfl, HC5.out.cell 4 _ rfl, HC5.out.cell 5 _ rfl, HC5.out.cell 6 _ rfl, HC5.out.cell 7 _ rfl⟩; have az := HC5.out.sz
  obtain ⟨z0, z1, z2, z3, z4, z5, z6, z7⟩ : _ ∧ _ ∧ _ ∧ _ ∧ _ ∧ _ ∧ _ ∧ _ := ⟨HZ5.out.cell 0 _ rfl, HZ5.out.cell 1 _ rfl, HZ5.out.cell 2 _ rfl, HZ5.out.cell 3 _ rfl, HZ5.out.cell 4 _ rfl, HZ5.out.cell 5 _ rfl, HZ5.out.cell 6 _ rfl, HZ5.out.cell 7 _ rfl⟩; have zz := HZ5.out.sz; have zf := HZ5.out.fz
  go_wp2_with fail
  generalize hW : World.setCell (World.setCell (World.setCell (World.setCell (World.setCell (World.setCell (World.setCell (World.setCell v5 _ _) _ _) _ _) _ _) _ _) _ _) _ _) _ _ = v6
  have HZ6 := hide (show Cb v6 (w.heap.size + 1) (h'.cs (some ⟨v2.heap.size, 0, none⟩) n (n + 1)) by rw [← hW]; exact (((((((HZ5.out.put 0 (.string h'.pk) (by simp [hz8]) (by simp)).put 1 (.string h'.ts) (by simp [hz8]) (by simp)).put 2 (.int .i64 h'.env) (by simp [hz8]) (by simp)).put 3 (.int .i64 h'.k) (by simp [hz8]) (by simp)).put 4 (.int .i64 h'.runs) (by simp [hz8]) (by simp)).put 5 (.int .i64 h'.fail) (by simp [hz8]) (by simp)).put 6 (.int .i64 h'.last) (by simp [hz8]) (by simp)).put 7 (.slice (some ⟨v2.heap.size, 0, none⟩) n (n + 1)) (by simp [hz8]) (by simp))
  have frp : Fr v5 v6 (fun b => b = w.heap.size + 1) := by rw [← hW]; (iterate 8 (refine Fr.setCell ?_ (Or.inr (by rfl)) _)); exact Fr.refl _ _
  have HB6 := hide (bw_one' HB5.out frp (by omega))
  have HR6 := hide (show Rs v6 none 3 Bk.vals (some ⟨v2.heap.size, 0, none⟩) bs from HR5.out.fr frp (fun hl b o hA _ => by injection hA with hA; injection hA with hA; omega))
  clear a0 a1 a2 a3 a4 a5 a6 a7 az
  clear z0 z1 z2 z3 z4 z5 z6 z7 zz zf
  clear hW frp
  obtain ⟨z0, z1, z2, z3, z4, z5, z6, z7⟩ : _ ∧ _ ∧ _ ∧ _ ∧ _ ∧ _ ∧ _ ∧ _ := ⟨HZ6.out.cell 0 _ rfl, HZ6.out.cell 1 _ rfl, HZ6.out.cell 2 _ rfl, HZ6.out.cell 3 _ rfl, HZ6.out.cell 4 _ rfl, HZ6.out.cell 5 _ rfl, HZ6.out.cell 6 _ rfl, HZ6.out.cell 7 _ rfl⟩; have zz := HZ6.out.sz; have zf := HZ6.out.fz
  refine bodyPost_ret (v := .tuple #[.agg #[.string h'.pk, .string h'.ts, .int .i64 h'.env, .int .i64 h'.k, .int .i64 h'.runs, .int .i64 h'.fail, .int .i64 h'.last, .slice (some ⟨v2.heap.size, 0, none⟩) n (n + 1)], .int .i64 0]) (by simp [results, Try.results29, go_sem, *]) rfl ⟨_, _, by rw [HH.out], HR6.out, (fun b o hA => by injection hA with hA; injection hA with hA; omega), HB6.out⟩
set_option maxRecDepth 100000 in
set_option maxHeartbeats 8000000 in
theorem hadd_yes (w : World) (h : Hist) (A : Option Addr) (c : Nat) (rev : Int) (hr1 : 1 ≤ rev) (hr2 : rev ≤ 1073741824) (hr3 : h.last ≤ rev) (hu0 : 0 ≤ h.runs) (hu1 : h.runs < 1073741824) (hf0 : 0 ≤ h.fail) (hf1 : h.fail < 1073741824) (hk1 : 1 ≤ h.k) (hk2 : h.k ≤ 16)
    (hCK : ∀ W, Below w.heap.size w W → Calls Try.prog 30 #[.agg #[.string h.pk, .string h.ts, .int .i64 h.env, .int .i64 h.k, .int .i64 h.runs, .int .i64 h.fail, .int .i64 h.last, .slice A 0 c]] W fun e w' => e = .returned (.bool true) ∧ Below W.heap.size W w') :
    Calls Try.prog 29 #[.agg #[.string h.pk, .string h.ts, .int .i64 h.env, .int .i64 h.k, .int .i64 h.runs, .int .i64 h.fail, .int .i64 h.last, .slice A 0 c], .int .i64 rev, .bool true] w fun e w' => ∃ A' c', e = .returned (.tuple #[.agg #[.string h.pk, .string h.ts, .int .i64 h.env, .int .i64 h.k, .int .i64 (h.runs + 1), .int .i64 (h.fail + 1), .int .i64 rev, .slice A' 1 c'], .int .i64 0]) ∧ Rs w' none 3 Bk.vals A' [⟨rev, rev, 1⟩] ∧ (∀ b o, A' = some ⟨b, o, none⟩ → w.heap.size < b) ∧ Below w.heap.size w w' := by
  have HCK := hide hCK
  clear hCK
  have q1 : decide (rev < 1) = false := decide_eq_false (by omega)
  have q2 : decide (1073741824 < rev) = false := decide_eq_false (by omega)
  have q3 : decide (rev < h.last) = false := decide_eq_false (by omega)
  have q4 : (h.runs == 1073741824) = false := by simp; omega
  have q5 : decide (h.runs = 1073741824) = false := decide_eq_false (by omega)
  go_enter Try.func29, Try.ntmps29
  go_upto_region 1 with (fail)
  generalize hW : World.alloc (World.alloc w _) _ = v
  have HC := hide (show Cb v w.heap.size (h.cs A 0 c) by rw [← hW]; exact (Cb.mk0 (h.cs A 0 c) (h.cs_nb A 0 c) _ rfl).alloc _)
  have HZ := hide (show Cb v (w.heap.size + 1) hz8 by rw [← hW]; exact Cb.mk0 hz8 (by simp [hz8]) _ (by simp))
  have HB := hide (show Below w.heap.size w v by rw [← hW]; exact ((Below.refl _ _).alloc (Nat.le_refl _) _).alloc (by simp) _)
  clear hW
  obtain ⟨a0, a1, a2, a3, a4, a5, a6, a7⟩ : _ ∧ _ ∧ _ ∧ _ ∧ _ ∧ _ ∧ _ ∧ _ := ⟨HC.out.cell 0 _ rfl, HC.out.cell 1 _ rfl, HC.out.cell 2 _ rfl, HC.out.cell 3 _ rfl, HC.out.cell 4 _ rfl, HC.out.cell 5 _ rfl, HC.out.cell 6 _ rfl, HC.out.cell 7 _ rfl⟩; have az := HC.out.sz
  go_upto_region 9 with (go_at_call 30; (with_reducible refine (HCK.out _ HB.out).mono ?_); rintro e w1 ⟨rfl, hb⟩; have HC1 := hide (HC.out.below hb); have HZ1 := hide (HZ.out.below hb); have HB1 := hide (HB.out.trans (hb.mono HB.out.size)); clear a0 a1 a2 a3 a4 a5 a6 a7 az; obtain ⟨a0, a1, a2, a3, a4, a5, a6, a7⟩ : _ ∧ _ ∧ _ ∧ _ ∧ _ ∧ _ ∧ _ ∧ _ := ⟨HC1.out.cell 0 _ rfl, HC1.out.cell 1 _ rfl, HC1.out.cell 2 _ rfl, HC1.out.cell 3 _ rfl, HC1.out.cell 4 _ rfl, HC1.out.cell 5 _ rfl, HC1.out.cell 6 _ rfl, HC1.out.cell 7 _ rfl⟩; have az := HC1.out.sz; have af := HC1.out.fz; clear hb)
  go_upto_region 10 with (fail)
  generalize hW : World.setCell (World.setCell w1 _ _) _ _ = v2
  obtain ⟨h', hh'⟩ : ∃ h' : Hist, h' = { h with runs := h.runs + 1, last := rev } := ⟨_, rfl⟩
  have HC2 := hide (show Cb v2 w.heap.size (h'.cs A 0 c) by rw [← hW, hh']; exact (HC1.out.put 4 (.int .i64 (h.runs + 1)) (by simp [Hist.cs]) (by simp)).put 6 (.int .i64 rev) (by simp [Hist.cs]) (by simp))
  have frp : Fr w1 v2 (fun b => b = w.heap.size) := by rw [← hW]; exact Fr.setCell (Fr.setCell (Fr.refl _ _) (Or.inr (by rfl)) _) (Or.inr (by rfl)) _
  have HZ2 := hide (HZ1.out.one frp (by omega))
  have HB2 := hide (bw_one' HB1.out frp (Nat.le_refl _))
  have HH := hide hh'
  have hz2 : w.heap.size + 1 < v2.heap.size := HZ2.out.sz
  clear a0 a1 a2 a3 a4 a5 a6 a7 az
  clear hW hh' frp af
  obtain ⟨a0, a1, a2, a3, a4, a5, a6, a7⟩ : _ ∧ _ ∧ _ ∧ _ ∧ _ ∧ _ ∧ _ ∧ _ := ⟨HC2.out.cell 0 _ rfl, HC2.out.cell 1 _ rfl, HC2.out.cell 2 _ rfl, HC2.out.cell 3 _ rfl, HC2.out.cell 4 _ rfl, HC2.out.cell 5 _ rfl, HC2.out.cell 6 _ rfl, HC2.out.cell 7 _ rfl⟩; have az := HC2.out.sz
  go_upto_region 12 with (first
    | (at_make; refine wl_make _ rfl _ _ _ rfl w.heap.size 81 _ 3 24 Try.underlying24 info81 v2.heap.size 0 1 rfl _ _ rfl rfl rfl (by omega) (by omega) rfl (by omega) (by simp only [maxLen]; omega) (by omega) ?_; intro w3 ys hown1 _ hg1; have HOW1 := hide hown1; have HB3 := hide (below_of_grown hg1); have HC3 := hide (HC2.out.below HB3.out); clear a0 a1 a2 a3 a4 a5 a6 a7 az; obtain ⟨a0, a1, a2, a3, a4, a5, a6, a7⟩ : _ ∧ _ ∧ _ ∧ _ ∧ _ ∧ _ ∧ _ ∧ _ := ⟨HC3.out.cell 0 _ rfl, HC3.out.cell 1 _ rfl, HC3.out.cell 2 _ rfl, HC3.out.cell 3 _ rfl, HC3.out.cell 4 _ rfl, HC3.out.cell 5 _ rfl, HC3.out.cell 6 _ rfl, HC3.out.cell 7 _ rfl⟩; have az := HC3.out.sz; clear hown1 hg1)
    | (refine wl_copy _ rfl (.tmp 47) (.tmp 49) 24 24 rfl 81 3 Try.underlying24 size81 w.heap.size v2.heap.size 0 1 c ys A rfl rfl HOW1.out ([] : List Bk) (av := none) (fun h => absurd rfl h) rfl Bk.len Bk.one ?_; intro w4 hown2 hg2; have HOW2 := hide hown2; have HF4 := hide (fr_of_grown hg2); clear hown2 hg2))
  have HC4 := hide (HC3.out.one HF4.out (by omega))
  have HZ4 := hide ((HZ2.out.below HB3.out).one HF4.out (by omega))
  have HB4 := hide (bw_one' (HB2.out.trans (HB3.out.mono HB2.out.size)) HF4.out (by omega))
  clear a0 a1 a2 a3 a4 a5 a6 a7 az
  obtain ⟨a0, a1, a2, a3, a4, a5, a6, a7⟩ : _ ∧ _ ∧ _ ∧ _ ∧ _ ∧ _ ∧ _ ∧ _ := ⟨HC4.out.cell 0 _ rfl, HC4.out.cell 1 _ rfl, HC4.out.cell 2 _ rfl, HC4.out.cell 3 _ rfl, HC4.out.cell 4 _ rfl, HC4.out.cell 5 _ rfl, HC4.out.cell 6 _ rfl, HC4.out.cell 7 _ rfl⟩; have az := HC4.out.sz
  have af := HC4.out.fz
  have hp0 : 0 ≤ h'.fail := by rw [HH.out]; exact hf0
  have hp1 : h'.fail < 1073741824 := by rw [HH.out]; exact hf1
  go_upto_region 14 with (fail)
  generalize hW : World.setCell w4 _ _ = v5
  obtain ⟨h2, hh2⟩ : ∃ h2 : Hist, h2 = { h' with fail := h'.fail + 1 } := ⟨_, rfl⟩
  have HC5 := hide (show Cb v5 w.heap.size (h2.cs A 0 c) by rw [← hW, hh2]; exact HC4.out.put 5 (.int .i64 (h'.fail + 1)) (by simp [Hist.cs]) (by simp))
  have frp : Fr w4 v5 (fun b => b = w.heap.size) := by rw [← hW]; exact Fr.setCell (Fr.refl _ _) (Or.inr (by rfl)) _
  have HZ5 := hide (HZ4.out.one frp (by omega))
  have HB5 := hide (bw_one' HB4.out frp (Nat.le_refl _))
  have HOW5 := hide (show v5.ownsRow w.heap.size 81 3 (.slice (some ⟨v2.heap.size, 0, none⟩) 0 1) 0 (([] : List Bk).flatMap Bk.vals) by rw [← hW]; exact own_far HOW2.out (by simp [Value.ownBlock]; omega) _)
  have HH2 := hide hh2
  clear a0 a1 a2 a3 a4 a5 a6 a7 az
  clear hW frp af hh2
  obtain ⟨a0, a1, a2, a3, a4, a5, a6, a7⟩ : _ ∧ _ ∧ _ ∧ _ ∧ _ ∧ _ ∧ _ ∧ _ := ⟨HC5.out.cell 0 _ rfl, HC5.out.cell 1 _ rfl, HC5.out.cell 2 _ rfl, HC5.out.cell 3 _ rfl, HC5.out.cell 4 _ rfl, HC5.out.cell 5 _ rfl, HC5.out.cell 6 _ rfl, HC5.out.cell 7 _ rfl⟩; have az := HC5.out.sz
  have hk3 : 1 ≤ h2.k := by rw [HH2.out, HH.out]; exact hk1
  have hk4 : h2.k ≤ 16 := by rw [HH2.out, HH.out]; exact hk2
  have hz5 : w.heap.size ≤ v5.heap.size := HB5.out.size
  have hpx : w.heap.size ≠ v2.heap.size := by omega
  go_region_law (first
    | (refine step_append _ rfl (.tmp 56) (.tmp 60) 24 rfl w.heap.size 81 _ 3 24 Try.underlying24 info81 rfl (by omega) (.slice (some ⟨v2.heap.size, 0, none⟩) 0 1) 0 ([] : List Bk) (by simp [Act.eval, Act.put]) (own_below HOW5.out ((Below.refl _ _).drew.alloc (Nat.le_refl _) _)) _ 1 1 [⟨rev, rev, 1⟩] (by simp [Act.eval, Act.put]) (one_bk _ ⟨rev, rev, 1⟩ _) rfl Bk.len Bk.one (by omega) (by omega) (by simp; omega) ?_; intro A' c' w6 hown6 hgr6 hloc6; have HAB := hide (ab_of (Y := v2.heap.size) (p := w.heap.size + 1) hloc6 (by simp [Value.ownBlock]) hz2 (by simp; omega)); have HOW6 := hide hown6; have HF6 := hide (fr_of_grown (g := v2.heap.size) hgr6); have HC6 := hide ((HC5.out.below ((Below.refl _ _).drew.alloc (Nat.le_refl _) _)).one (g' := v2.heap.size) HF6.out hpx); clear a0 a1 a2 a3 a4 a5 a6 a7 az; obtain ⟨a0, a1, a2, a3, a4, a5, a6, a7⟩ : _ ∧ _ ∧ _ ∧ _ ∧ _ ∧ _ ∧ _ ∧ _ := ⟨HC6.out.cell 0 _ rfl, HC6.out.cell 1 _ rfl, HC6.out.cell 2 _ rfl, HC6.out.cell 3 _ rfl, HC6.out.cell 4 _ rfl, HC6.out.cell 5 _ rfl, HC6.out.cell 6 _ rfl, HC6.out.cell 7 _ rfl⟩; have az := HC6.out.sz; clear hown6 hgr6 hloc6)
    | (go_simp; (with_reducible refine (hjoin_1 _ A' c' h2.k hk3 hk4).mono ?_); rintro e w7 ⟨rfl, hb⟩; have HB7 := hide hb; clear hb; dsimp only))
  all_goals
    have HC7 := hide (HC6.out.below HB7.out)
    have HZ7 := hide (((HZ5.out.below ((Below.refl _ _).drew.alloc (Nat.le_refl _) _)).one (g' := v2.heap.size) HF6.out (by omega)).below HB7.out)
    have HBx := hide (bw_one' (HB5.out.trans (((Below.refl _ _).drew.alloc (Nat.le_refl _) _).mono hz5)) HF6.out (by omega))
    have HBw7 := hide (HBx.out.trans (HB7.out.mono HBx.out.size))
    have HR7 := hide (show Rs w7 none 3 Bk.vals A' [⟨rev, rev, 1⟩] from (Rs.of_own HOW6.out Bk.len rfl (by simp)).below HB7.out)
    clear a0 a1 a2 a3 a4 a5 a6 a7 az
    obtain ⟨a0, a1, a2, a3, a4, a5, a6, a7⟩ : _ ∧ _ ∧ _ ∧ _ ∧ _ ∧ _ ∧ _ ∧ _ := ⟨HC7.out.cell 0 _ rfl, HC7.out.cell 1 _ rfl, HC7.out.cell 2 _ rfl, HC7.out.cell 3 _ rfl, HC7.out.cell 4 _ rfl, HC7.out.cell 5 _ rfl, HC7.out.cell 6 _ rfl, HC7.out.cell 7 _ rfl⟩; have az := HC7.out.sz
    have af := HC7.out.fz
    go_upto_region 16 with (fail)
    generalize hW : World.setCell w7 _ _ = v8
    have HC8 := hide (show Cb v8 w.heap.size (h2.cs A' 1 c') by rw [← hW]; exact HC7.out.put 7 (.slice A' 1 c') (by simp [Hist.cs]) (by simp))
    have frp : Fr w7 v8 (fun b => b = w.heap.size) := by rw [← hW]; exact Fr.setCell (Fr.refl _ _) (Or.inr (by rfl)) _
    have HZ8 := hide (HZ7.out.one frp (by omega))
    have HB8 := hide (bw_one' HBw7.out frp (Nat.le_refl _))
    have HR8 := hide (show Rs v8 none 3 Bk.vals A' [⟨rev, rev, 1⟩] from HR7.out.fr frp (fun hl b o hA _ => by have := HAB.out b o hA; omega))
    clear a0 a1 a2 a3 a4 a5 a6 a7 az
    clear hW frp af
    obtain ⟨a0, a1, a2, a3, a4, a5, a6, a7⟩ : _ ∧ _ ∧ _ ∧ _ ∧ _ ∧ _ ∧ _ ∧ _ := ⟨HC8.out.cell 0 _ rfl, HC8.out.cell 1 _ rfl, HC8.out.cell 2 _ rfl, HC8.out.cell 3 _ rfl, HC8.out.cell 4 _ rfl, HC8.out.cell 5 _ rfl, HC8.out.cell 6 _ rfl, HC8.out.cell 7 _ rfl⟩; have az := HC8.out.sz
    obtain ⟨z0, z1, z2, z3, z4, z5, z6, z7⟩ : _ ∧ _ ∧ _ ∧ _ ∧ _ ∧ _ ∧ _ ∧ _ := ⟨HZ8.out.cell 0 _ rfl, HZ8.out.cell 1 _ rfl, HZ8.out.cell 2 _ rfl, HZ8.out.cell 3 _ rfl, HZ8.out.cell 4 _ rfl, HZ8.out.cell 5 _ rfl, HZ8.out.cell 6 _ rfl, HZ8.out.cell 7 _ rfl⟩; have zz := HZ8.out.sz; have zf := HZ8.out.fz
    go_wp2_with fail
    generalize hW : World.setCell (World.setCell (World.setCell (World.setCell (World.setCell (World.setCell (World.setCell (World.setCell v8 _ _) _ _) _ _) _ _) _ _) _ _) _ _) _ _ = v9
    have HZ9 := hide (show Cb v9 (w.heap.size + 1) (h2.cs A' 1 c') by rw [← hW]; exact (((((((HZ8.out.put 0 (.string h2.pk) (by simp [hz8]) (by simp)).put 1 (.string h2.ts) (by simp [hz8]) (by simp)).put 2 (.int .i64 h2.env) (by simp [hz8]) (by simp)).put 3 (.int .i64 h2.k) (by simp [hz8]) (by simp)).put 4 (.int .i64 h2.runs) (by simp [hz8]) (by simp)).put 5 (.int .i64 h2.fail) (by simp [hz8]) (by simp)).put 6 (.int .i64 h2.last) (by simp [hz8]) (by simp)).put 7 (.slice A' 1 c') (by simp [hz8]) (by simp))
    have frp : Fr v8 v9 (fun b => b = w.heap.size + 1) := by rw [← hW]; (iterate 8 (refine Fr.setCell ?_ (Or.inr (by rfl)) _)); exact Fr.refl _ _
    have HB9 := hide (bw_one' HB8.out frp (by omega))
    have HR9 := hide (show Rs v9 none 3 Bk.vals A' [⟨rev, rev, 1⟩] from HR8.out.fr frp (fun hl b o hA _ => by have := HAB.out b o hA; omega))
    clear a0 a1 a2 a3 a4 a5 a6 a7 az
    clear z0 z1 z2 z3 z4 z5 z6 z7 zz zf
    clear hW frp
    obtain ⟨z0, z1, z2, z3, z4, z5, z6, z7⟩ : _ ∧ _ ∧ _ ∧ _ ∧ _ ∧ _ ∧ _ ∧ _ := ⟨HZ9.out.cell 0 _ rfl, HZ9.out.cell 1 _ rfl, HZ9.out.cell 2 _ rfl, HZ9.out.cell 3 _ rfl, HZ9.out.cell 4 _ rfl, HZ9.out.cell 5 _ rfl, HZ9.out.cell 6 _ rfl, HZ9.out.cell 7 _ rfl⟩; have zz := HZ9.out.sz; have zf := HZ9.out.fz
    refine bodyPost_ret (v := .tuple #[.agg #[.string h2.pk, .string h2.ts, .int .i64 h2.env, .int .i64 h2.k, .int .i64 h2.runs, .int .i64 h2.fail, .int .i64 h2.last, .slice A' 1 c'], .int .i64 0]) (by simp [results, Try.results29, go_sem, *]) rfl ⟨_, _, by rw [HH2.out, HH.out], HR9.out, (fun b o hA => by have := HAB.out b o hA; omega), HB9.out⟩
end Go.Proofs.Ytnofljgmkdommaa

/- Plain laws of the verdicts of attempts. -/
namespace Go.Proofs.Ytnofljgmkdommaa
open Go.RowKit

/-- What a number of runs that passed and one of runs that failed mean. -/
def aftQ (d : Nat → Nat → Int) (M p f : Nat) : Int := if d p f = 2 then 1 else if d p f = 1 then 2 else if p + f = M then 3 else 0
theorem aft_go {d : Nat → Nat → Int} {M p f : Nat} (hpf : p + f ≤ M) (h : aftQ d M p f = 0) : p + f < M := by
  unfold aftQ at h
  split at h
  · simp at h
  · split at h
    · simp at h
    · split at h
      · simp at h
      · omega
theorem aft_range (d : Nat → Nat → Int) (M p f : Nat) : aftQ d M p f = 0 ∨ aftQ d M p f = 1 ∨ aftQ d M p f = 2 ∨ aftQ d M p f = 3 := by
  unfold aftQ
  split
  · exact .inr (.inl rfl)
  · split
    · exact .inr (.inr (.inl rfl))
    · split
      · exact .inr (.inr (.inr rfl))
      · exact .inl rfl
/-- The attempts behind the first one: (failed, random). -/
def judL (g : Nat → Nat → Int) (r0 : Bool) : List (Bool × Bool) → Nat → Nat → Nat → Int × Nat
  | [], k, _, _ => (0, k)
  | (fl, rd) :: t, k, p, f =>
    if rd ≠ r0 then (4, k + 1)
    else if rd = false then (if fl then (1, k + 1) else (4, k + 1))
    else if g (if fl then p else p + 1) (if fl then f + 1 else f) = 0 then judL g r0 t (k + 1) (if fl then p else p + 1) (if fl then f + 1 else f)
    else (g (if fl then p else p + 1) (if fl then f + 1 else f), k + 1)
def jud (g : Nat → Nat → Int) : List (Bool × Bool) → Int × Nat
  | [] => (0, 0)
  | (fl, rd) :: t => if fl = false then (5, 1) else judL g rd t 1 0 0
/-- Two cells of an attempt. -/
def atv (x : Bool × Bool) : List Value := [.bool x.1, .bool x.2]
theorem atv_len : ∀ x, (atv x).length = 2 := fun _ => rfl
end Go.Proofs.Ytnofljgmkdommaa

/- Contracts: rerun.after, rerun.check. -/
namespace Go.Proofs.Ytnofljgmkdommaa
open Go.RowKit

/-- The first error of a specification and attempts. -/
def vckE (s : Sv) (n : Nat) : Int := if s.ok = false then 1 else if 33 < n then 2 else 0
end Go.Proofs.Ytnofljgmkdommaa

/- Contracts: rerun.taken; the iterator. -/
namespace Go.Proofs.Ytnofljgmkdommaa
open Go.RowKit Go.Shelf
attribute [local go_sem] Oper.semAt_some

end Go.Proofs.Ytnofljgmkdommaa
