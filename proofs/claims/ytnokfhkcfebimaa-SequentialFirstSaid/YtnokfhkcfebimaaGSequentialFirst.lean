/- SequentialFirst: a decision is that of the first prefix whose counts decide, and more outcomes do not change it; no conditions. -/
import Derived.Test.YtnokfhkcfebimaaRows
import Derived.Test.YtnokfhkcfebimaaGxYd
import Derived.WalkKit
import Derived.ProofKit
import Derived.OpenShut
import Derived.ShutString
import Derived.ChangeOld
import Derived.Below
import Derived.WideShapes
import Derived.JoinedOf
namespace Go.Proofs.Ytnokfhkcfebimaa.sequentialFirst
open Go.ChangeShapes Go.WideShapes Go.ChangeAt Go.RowKit
open Go.ChangeMaps (open_string shut_string)
set_option linter.unusedVariables false
set_option linter.unusedSimpArgs false

theorem own : ownKnob Try.prog.godebug = none := by kernel_rfl
theorem laidOut : laidOutB Try.prog = true := by kernel_rfl
theorem jint {a : Int} (h : (Lit.int .i64 a).wf = true) : -9223372036854775808 ≤ a ∧ a < 9223372036854775808 := by
  have h1 : IntKind.i64.min = -9223372036854775808 := by rfl
  have h2 : IntKind.i64.max = 9223372036854775807 := by rfl
  simp [Lit.wf] at h
  omega

set_option maxRecDepth 100000 in
theorem lifted (os : Os) (started : os.Started) (H : Type) (enc : TypeId × Value → H) :
    ReturnsInHanded {} Try.checked os 6 .any (Rows.sequentialFirstSpec.pre6 enc Try.prog Try.f6 Rows.sequentialFirstRow.domain false) (Rows.sequentialFirstSpec.post enc Try.prog Try.f6 false true false false) := by
  refine returnsInHanded_of_change_sized (C := Try.checked) own started (by kernel_rfl) Try.func6
    (ChangeSpec.witness6 (enc := enc) (C := Try.checked) false ⟨#[], #[.slice none 0 0, .slice none 0 0, .slice none 0 0], []⟩ 8 (by kernel_rfl) (by kernel_rfl) (by kernel_rfl) (by kernel_rfl)) ?_
  intro W base args ds gs before hval0 hW hcnd hsz0 _
  have hval : ∀ (j : Nat) t v, Try.f6.params[j]? = some t → args[j]? = some v → Value.okWide Try.prog W .any base t v := hval0
  have hW' := hW
  obtain ⟨p, q, hA0, hV, rfl, hfz, hnd⟩ := hW
  have hA : DataW.TrodAll enc Try.prog W 0 (fun _ => true) true Try.f6.params.toList args.toList ds p := hA0
  rw [Try.params6] at hA hval
  obtain ⟨v0, vs0, d0, ds0, pp0, qq0, hargs, rfl, rfl, h0, r0⟩ := trodAll_cons hA
  obtain ⟨v1, vs1, d1, ds1, pp1, qq1, rfl, rfl, rfl, h1, r1⟩ := trodAll_cons r0
  obtain ⟨v2, vs2, d2, ds2, pp2, qq2, rfl, rfl, rfl, h2, r2⟩ := trodAll_cons r1
  obtain ⟨rfl, rfl, rfl⟩ := trodAll_nil r2
  obtain rfl : args = #[v0, v1, v2] := by cases args; simp_all
  obtain ⟨rfl, rfl⟩ := trodVars_none hV
  obtain ⟨A0, n0, c0, rfl⟩ := okWide_slice Try.underlying22 (hval 0 22 v0 rfl rfl)
  have k0 := h0
  have lt0 : ∀ x ∈ pp0, x.block < W.heap.size := by obtain ⟨m, hm⟩ := k0; exact DataW.trod_lt m _ _ _ hm
  obtain ⟨l0, hl0, hn0, hc0, hR0⟩ : ∃ l : List Int, l.length = n0 ∧ n0 ≤ c0 ∧ c0 ≤ maxLen ∧ Rs W none 1 iv A0 l := by
    obtain ⟨fuel, hf⟩ := h0
    obtain ⟨A', n', c', l, h5, h6, h7, h8, h9⟩ := came_intsI hf
    simp [Value.cells] at h5
    obtain ⟨rfl, rfl, rfl⟩ := h5
    exact ⟨l, h6, h7, h8, h9⟩
  have hb0 : n0 ≤ 9223372036854775807 := Nat.le_trans hn0 hc0
  obtain ⟨A1, n1, c1, rfl⟩ := okWide_slice Try.underlying47 (hval 1 47 v1 rfl rfl)
  have k1 := h1
  have lt1 : ∀ x ∈ pp1, x.block < W.heap.size := by obtain ⟨m, hm⟩ := k1; exact DataW.trod_lt m _ _ _ hm
  obtain ⟨l1, hl1, hn1, hc1, hR1⟩ : ∃ l : List Bool, l.length = n1 ∧ n1 ≤ c1 ∧ c1 ≤ maxLen ∧ Rs W none 1 bv A1 l := by
    obtain ⟨fuel, hf⟩ := h1
    obtain ⟨A', n', c', l, h5, h6, h7, h8, h9⟩ := came_bools hf
    simp [Value.cells] at h5
    obtain ⟨rfl, rfl, rfl⟩ := h5
    exact ⟨l, h6, h7, h8, h9⟩
  have hb1 : n1 ≤ 9223372036854775807 := Nat.le_trans hn1 hc1
  have hs1 : n1 ≤ 140737488355328 := by
    obtain ⟨fuel, hf⟩ := h1
    exact sized_bools hsz0 (j := 1) rfl rfl hf
  obtain ⟨A2, n2, c2, rfl⟩ := okWide_slice Try.underlying47 (hval 2 47 v2 rfl rfl)
  have k2 := h2
  have lt2 : ∀ x ∈ pp2, x.block < W.heap.size := by obtain ⟨m, hm⟩ := k2; exact DataW.trod_lt m _ _ _ hm
  obtain ⟨l2, hl2, hn2, hc2, hR2⟩ : ∃ l : List Bool, l.length = n2 ∧ n2 ≤ c2 ∧ c2 ≤ maxLen ∧ Rs W none 1 bv A2 l := by
    obtain ⟨fuel, hf⟩ := h2
    obtain ⟨A', n', c', l, h5, h6, h7, h8, h9⟩ := came_bools hf
    simp [Value.cells] at h5
    obtain ⟨rfl, rfl, rfl⟩ := h5
    exact ⟨l, h6, h7, h8, h9⟩
  have hb2 : n2 ≤ 9223372036854775807 := Nat.le_trans hn2 hc2
  have hs2 : n2 ≤ 140737488355328 := by
    obtain ⟨fuel, hf⟩ := h2
    exact sized_bools hsz0 (j := 2) rfl rfl hf
  clear hA0 hval0
  refine (first_walk W A0 n0 c0 l0 A1 n1 c1 l1 A2 n2 c2 l2 hR0 hl0 hR1 hl1 hn1 (by simpa [maxLen] using hc1) hR2 hl2 hs1 hs2).mono fun e W' ⟨he, bel⟩ => ?_
  subst he
  exact ⟨_, rfl, _, _, _, [], _, [], hW', trodAll_mk1 (shut_bool Try.underlying4 _), (trodAll_cons_mk (Below.trod laidOut (by kernel_rfl) (of_decide_eq_true (by kernel_rfl)) k0 bel lt0) (trodAll_cons_mk (Below.trod laidOut (by kernel_rfl) (of_decide_eq_true (by kernel_rfl)) k1 bel lt1) (trodAll_cons_mk (Below.trod laidOut (by kernel_rfl) (of_decide_eq_true (by kernel_rfl)) k2 bel lt2) trodAll_mk0))), rfl, bel.frame _, fun h => by cases h⟩

theorem fact1 : (Rows.sequentialFirstRow.inPlace == Try.prog.inPlace 6) = true := by kernel_rfl
theorem fact2 : (Rows.sequentialFirstRow.unfollowed == Try.prog.unfollowed 6) = true := by kernel_rfl
theorem fact3 : (Rows.sequentialFirstRow.recurses == Try.prog.recurses 6) = true := by kernel_rfl
theorem fact4 : (Rows.sequentialFirstRow.named == Try.prog.varsNamed 6) = true := by kernel_rfl
theorem closed : joinedFacts Try.prog 6 Try.f6 Rows.sequentialFirstSpec Rows.sequentialFirstRow = true := by
  unfold joinedFacts
  rw [fact1, fact2, fact3, fact4]
  kernel_rfl
theorem over : Rows.sequentialFirstRow.holds Try.pinned (OpenSpec.ofChange Rows.sequentialFirstSpec) :=
  OpenClaim.holds_of_wide 6 Try.f6 rfl rfl rfl rfl rfl rfl rfl ⟨rfl, rfl, rfl, rfl, rfl⟩ rfl rfl rfl rfl rfl (by kernel_rfl) Try.func6 closed
    (of_decide_eq_true (by kernel_rfl)) (by unfold Func.isWrapper; first | (rw [if_pos (by decide +kernel)]; kernel_rfl) | (rw [if_neg (by decide +kernel)]; exact ⟨rfl, rfl⟩))
    (fun os started H enc _ => lifted os started H enc)

/-- The statement. -/
theorem proved : Rows.SequentialFirstSaid := over
#print axioms proved
end Go.Proofs.Ytnokfhkcfebimaa.sequentialFirst
