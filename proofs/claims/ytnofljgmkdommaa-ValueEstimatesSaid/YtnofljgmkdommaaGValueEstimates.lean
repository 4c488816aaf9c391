/- For every history, and every list of outcomes, the estimate of the history, and of the history of the outcomes, is that of the document, or both report the same error. -/
import Derived.Test.YtnofljgmkdommaaRows
import Derived.Test.YtnofljgmkdommaaGxEi
import Derived.WalkKit
import Derived.ProofKit
import Derived.OpenShut
import Derived.ShutString
import Derived.ChangeOld
import Derived.Below
import Derived.WideShapes
import Derived.JoinedOf
namespace Go.Proofs.Ytnofljgmkdommaa.valueEstimates
open Go.ChangeShapes Go.WideShapes Go.ChangeAt Go.RowKit
open Go.ChangeMaps (open_string shut_string)
set_option linter.unusedVariables false
set_option linter.unusedSimpArgs false

theorem own : ownKnob Try.prog.godebug = none := by kernel_rfl
theorem laidOut : laidOutB Try.prog = true := by kernel_rfl
theorem jint {a : Int} (h : (Lit.int .i64 a).wf = true) : -9223372036854775808 ≤ a ∧ a < 9223372036854775808 := by
  have h1 : IntKind.i64.min = -9223372036854775808 := by rfl
  have h2 : IntKind.i64.max = 9223372036854775807 := by rfl
  simp [Lit.wf] at h
  omega

set_option maxRecDepth 100000 in
theorem lifted (os : Os) (started : os.Started) (H : Type) (enc : TypeId × Value → H) :
    ReturnsInHanded {} Try.checked os 3 .any (Rows.valueEstimatesSpec.pre6 enc Try.prog Try.f3 Rows.valueEstimatesRow.domain false) (Rows.valueEstimatesSpec.post enc Try.prog Try.f3 false true false false) := by
  refine returnsInHanded_of_change_sized (C := Try.checked) own started (by kernel_rfl) Try.func3
    (ChangeSpec.witness6 (enc := enc) (C := Try.checked) false ⟨#[], #[.agg #[.string ⟨#[]⟩, .string ⟨#[]⟩, .int .i64 0, .int .i64 0, .int .i64 0, .int .i64 0, .int .i64 0, .slice none 0 0], .slice none 0 0], []⟩ 8 (by kernel_rfl) (by kernel_rfl) (by kernel_rfl) (by kernel_rfl)) ?_
  intro W base args ds gs before hval0 hW hcnd hsz0 _
  have hval : ∀ (j : Nat) t v, Try.f3.params[j]? = some t → args[j]? = some v → Value.okWide Try.prog W .any base t v := hval0
  have hW' := hW
  obtain ⟨p, q, hA0, hV, rfl, hfz, hnd⟩ := hW
  have hA : DataW.TrodAll enc Try.prog W 0 (fun _ => true) true Try.f3.params.toList args.toList ds p := hA0
  rw [Try.params3] at hA hval
  obtain ⟨v0, vs0, d0, ds0, pp0, qq0, hargs, rfl, rfl, h0, r0⟩ := trodAll_cons hA
  obtain ⟨v1, vs1, d1, ds1, pp1, qq1, rfl, rfl, rfl, h1, r1⟩ := trodAll_cons r0
  obtain ⟨rfl, rfl, rfl⟩ := trodAll_nil r1
  obtain rfl : args = #[v0, v1] := by cases args; simp_all
  obtain ⟨rfl, rfl⟩ := trodVars_none hV
  obtain ⟨cs0, rfl, -⟩ := okWide_struct Try.underlying26 (hval 0 26 v0 rfl rfl)
  have k0 := h0
  have lt0 : ∀ x ∈ pp0, x.block < W.heap.size := by obtain ⟨m, hm⟩ := k0; exact DataW.trod_lt m _ _ _ hm
  obtain ⟨y0, A0, n0, c0, l0, hcs0, F0⟩ : ∃ (y0 : Hist) (A0 : Option Addr) (n0 c0 : Nat) (l0 : List Bk), cs0 = #[.string y0.pk, .string y0.ts, .int .i64 y0.env, .int .i64 y0.k, .int .i64 y0.runs, .int .i64 y0.fail, .int .i64 y0.last, .slice A0 n0 c0] ∧ CameH W A0 n0 c0 l0 := by
    obtain ⟨fuel, hf⟩ := h0
    obtain ⟨y, A, n, c, l, h5, h6⟩ := came_history hf
    refine ⟨y, A, n, c, l, ?_, h6⟩
    simp only [Value.cells] at h5
    cases cs0
    simp_all
  subst hcs0
  have hs0 : n0 ≤ 140737488355328 := by
    obtain ⟨fuel, hf⟩ := k0
    exact sized_history hsz0 (j := 0) rfl rfl hf
  obtain ⟨A1, n1, c1, rfl⟩ := okWide_slice Try.underlying27 (hval 1 27 v1 rfl rfl)
  have k1 := h1
  have lt1 : ∀ x ∈ pp1, x.block < W.heap.size := by obtain ⟨m, hm⟩ := k1; exact DataW.trod_lt m _ _ _ hm
  obtain ⟨l1, hl1, hn1, hc1, hR1⟩ : ∃ l : List Bool, l.length = n1 ∧ n1 ≤ c1 ∧ c1 ≤ maxLen ∧ Rs W none 1 bv A1 l := by
    obtain ⟨fuel, hf⟩ := h1
    obtain ⟨A', n', c', l, h5, h6, h7, h8, h9⟩ := came_bools hf
    simp [Value.cells] at h5
    obtain ⟨rfl, rfl, rfl⟩ := h5
    exact ⟨l, h6, h7, h8, h9⟩
  have hb1 : n1 ≤ 9223372036854775807 := Nat.le_trans hn1 hc1
  have hs1 : n1 ≤ 140737488355328 := by
    obtain ⟨fuel, hf⟩ := h1
    exact sized_bools hsz0 (j := 1) rfl rfl hf
  clear hA0 hval0
  refine (vaests28_walk W y0 A0 n0 c0 l0 A1 n1 c1 l1 F0.rs F0.ln F0.wc hs0 hR1 hl1 hs1).mono fun e W' ⟨he, bel⟩ => ?_
  subst he
  exact ⟨_, rfl, _, _, _, [], _, [], hW', trodAll_mk1 (shut_bool Try.underlying4 _), (trodAll_cons_mk (Below.trod laidOut (by kernel_rfl) (of_decide_eq_true (by kernel_rfl)) k0 bel lt0) (trodAll_cons_mk (Below.trod laidOut (by kernel_rfl) (of_decide_eq_true (by kernel_rfl)) k1 bel lt1) trodAll_mk0)), rfl, bel.frame _, fun h => by cases h⟩

theorem fact1 : (Rows.valueEstimatesRow.inPlace == Try.prog.inPlace 3) = true := by kernel_rfl
theorem fact2 : (Rows.valueEstimatesRow.unfollowed == Try.prog.unfollowed 3) = true := by kernel_rfl
theorem fact3 : (Rows.valueEstimatesRow.recurses == Try.prog.recurses 3) = true := by kernel_rfl
theorem fact4 : (Rows.valueEstimatesRow.named == Try.prog.varsNamed 3) = true := by kernel_rfl
theorem closed : joinedFacts Try.prog 3 Try.f3 Rows.valueEstimatesSpec Rows.valueEstimatesRow = true := by
  unfold joinedFacts
  rw [fact1, fact2, fact3, fact4]
  kernel_rfl
theorem over : Rows.valueEstimatesRow.holds Try.pinned (OpenSpec.ofChange Rows.valueEstimatesSpec) :=
  OpenClaim.holds_of_wide 3 Try.f3 rfl rfl rfl rfl rfl rfl rfl ⟨rfl, rfl, rfl, rfl, rfl⟩ rfl rfl rfl rfl rfl (by kernel_rfl) Try.func3 closed
    (of_decide_eq_true (by kernel_rfl)) (by unfold Func.isWrapper; first | (rw [if_pos (by decide +kernel)]; kernel_rfl) | (rw [if_neg (by decide +kernel)]; exact ⟨rfl, rfl⟩))
    (fun os started H enc _ => lifted os started H enc)

/-- The statement. -/
theorem proved : Rows.ValueEstimatesSaid := over
#print axioms proved
end Go.Proofs.Ytnofljgmkdommaa.valueEstimates
