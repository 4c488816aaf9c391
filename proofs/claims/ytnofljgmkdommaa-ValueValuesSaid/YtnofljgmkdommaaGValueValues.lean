/- For all arguments, ValueValues returns true, without a panic and without a change to what was there before: the values of any estimates, and the mixtures of any two fractions, are those that the document defines, or their errors; conditions: none. -/
import Derived.Test.YtnofljgmkdommaaRows
import Derived.Test.YtnofljgmkdommaaGxDt
import Derived.WalkKit
import Derived.ProofKit
import Derived.OpenShut
import Derived.ShutString
import Derived.ChangeOld
import Derived.Below
import Derived.WideShapes
import Derived.JoinedOf
namespace Go.Proofs.Ytnofljgmkdommaa.valueValues
open Go.ChangeShapes Go.WideShapes Go.ChangeAt Go.RowKit
open Go.ChangeMaps (open_string shut_string)
set_option linter.unusedVariables false
set_option linter.unusedSimpArgs false

theorem own : ownKnob Try.prog.godebug = none := by kernel_rfl
theorem laidOut : laidOutB Try.prog = true := by kernel_rfl
theorem jint {a : Int} (h : (Lit.int .i64 a).wf = true) : -9223372036854775808 ≤ a ∧ a < 9223372036854775808 := by
  have h1 : IntKind.i64.min = -9223372036854775808 := by rfl
  have h2 : IntKind.i64.max = 9223372036854775807 := by rfl
  simp [Lit.wf] at h
  omega

set_option maxRecDepth 100000 in
theorem lifted (os : Os) (started : os.Started) (H : Type) (enc : TypeId × Value → H) :
    ReturnsInHanded {} Try.checked os 8 .any (Rows.valueValuesSpec.pre6 enc Try.prog Try.f8 Rows.valueValuesRow.domain false) (Rows.valueValuesSpec.post enc Try.prog Try.f8 false true false false) := by
  refine returnsInHanded_of_change (C := Try.checked) own started (by kernel_rfl) Try.func8
    (ChangeSpec.witness6 (enc := enc) (C := Try.checked) false ⟨#[], #[.slice none 0 0, .agg #[.slice none 0 0, .slice none 0 0], .agg #[.slice none 0 0, .slice none 0 0], .int .i64 0, .int .i64 0], []⟩ 8 (by kernel_rfl) (by kernel_rfl) (by kernel_rfl) (by kernel_rfl)) ?_
  intro W base args ds gs before hval0 hW hcnd _
  have hval : ∀ (j : Nat) t v, Try.f8.params[j]? = some t → args[j]? = some v → Value.okWide Try.prog W .any base t v := hval0
  have hW' := hW
  obtain ⟨p, q, hA0, hV, rfl, hfz, hnd⟩ := hW
  have hA : DataW.TrodAll enc Try.prog W 0 (fun _ => true) true Try.f8.params.toList args.toList ds p := hA0
  rw [Try.params8] at hA hval
  obtain ⟨v0, vs0, d0, ds0, pp0, qq0, hargs, rfl, rfl, h0, r0⟩ := trodAll_cons hA
  obtain ⟨v1, vs1, d1, ds1, pp1, qq1, rfl, rfl, rfl, h1, r1⟩ := trodAll_cons r0
  obtain ⟨v2, vs2, d2, ds2, pp2, qq2, rfl, rfl, rfl, h2, r2⟩ := trodAll_cons r1
  obtain ⟨v3, vs3, d3, ds3, pp3, qq3, rfl, rfl, rfl, h3, r3⟩ := trodAll_cons r2
  obtain ⟨v4, vs4, d4, ds4, pp4, qq4, rfl, rfl, rfl, h4, r4⟩ := trodAll_cons r3
  obtain ⟨rfl, rfl, rfl⟩ := trodAll_nil r4
  obtain rfl : args = #[v0, v1, v2, v3, v4] := by cases args; simp_all
  obtain ⟨rfl, rfl⟩ := trodVars_none hV
  obtain ⟨A0, n0, c0, rfl⟩ := okWide_slice Try.underlying42 (hval 0 42 v0 rfl rfl)
  have k0 := h0
  have lt0 : ∀ x ∈ pp0, x.block < W.heap.size := by obtain ⟨m, hm⟩ := k0; exact DataW.trod_lt m _ _ _ hm
  obtain ⟨l0, hl0, hn0, hc0, hR0⟩ : ∃ l : List Int, l.length = n0 ∧ n0 ≤ c0 ∧ c0 ≤ maxLen ∧ Rs W none 1 iv A0 l := by
    obtain ⟨fuel, hf⟩ := h0
    obtain ⟨A', n', c', l, h5, h6, h7, h8, h9⟩ := came_intsI hf
    simp [Value.cells] at h5
    obtain ⟨rfl, rfl, rfl⟩ := h5
    exact ⟨l, h6, h7, h8, h9⟩
  have hb0 : n0 ≤ 9223372036854775807 := Nat.le_trans hn0 hc0
  obtain ⟨cs1, rfl, -⟩ := okWide_struct Try.underlying36 (hval 1 36 v1 rfl rfl)
  have k1 := h1
  have lt1 : ∀ x ∈ pp1, x.block < W.heap.size := by obtain ⟨m, hm⟩ := k1; exact DataW.trod_lt m _ _ _ hm
  obtain ⟨p1, L1, K1, hcs1, F1⟩ : ∃ (p1 : Fa) (L1 K1 : List Nat), cs1 = #[.slice p1.A p1.n p1.c, .slice p1.B p1.m p1.d] ∧ CameF W p1 L1 K1 := by
    obtain ⟨fuel, hf⟩ := h1
    obtain ⟨p, l, k, h5, h6⟩ := came_frac hf
    refine ⟨p, l, k, ?_, h6⟩
    simp only [Value.cells] at h5
    cases cs1
    simp_all
  subst hcs1
  obtain ⟨cs2, rfl, -⟩ := okWide_struct Try.underlying36 (hval 2 36 v2 rfl rfl)
  have k2 := h2
  have lt2 : ∀ x ∈ pp2, x.block < W.heap.size := by obtain ⟨m, hm⟩ := k2; exact DataW.trod_lt m _ _ _ hm
  obtain ⟨p2, L2, K2, hcs2, F2⟩ : ∃ (p2 : Fa) (L2 K2 : List Nat), cs2 = #[.slice p2.A p2.n p2.c, .slice p2.B p2.m p2.d] ∧ CameF W p2 L2 K2 := by
    obtain ⟨fuel, hf⟩ := h2
    obtain ⟨p, l, k, h5, h6⟩ := came_frac hf
    refine ⟨p, l, k, ?_, h6⟩
    simp only [Value.cells] at h5
    cases cs2
    simp_all
  subst hcs2
  obtain ⟨a3, rfl, rfl, rfl, w3⟩ := open_int Try.underlying3 (hval 3 3 v3 rfl rfl) h3
  have wi3 := jint w3
  obtain ⟨a4, rfl, rfl, rfl, w4⟩ := open_int Try.underlying3 (hval 4 3 v4 rfl rfl) h4
  have wi4 := jint w4
  clear hA0 hval0
  refine (vaval28_walk W A0 n0 c0 l0 p1 p2 L1 K1 L2 K2 a3 a4 hR0 hl0 ⟨F1.u, F1.v, F1.c, F1.d, F1.n, F1.m⟩ ⟨F2.u, F2.v, F2.c, F2.d, F2.n, F2.m⟩).mono fun e W' ⟨he, bel⟩ => ?_
  subst he
  exact ⟨_, rfl, _, _, _, [], _, [], hW', trodAll_mk1 (shut_bool Try.underlying4 _), (trodAll_cons_mk (Below.trod laidOut (by kernel_rfl) (of_decide_eq_true (by kernel_rfl)) k0 bel lt0) (trodAll_cons_mk (Below.trod laidOut (by kernel_rfl) (of_decide_eq_true (by kernel_rfl)) k1 bel lt1) (trodAll_cons_mk (Below.trod laidOut (by kernel_rfl) (of_decide_eq_true (by kernel_rfl)) k2 bel lt2) (trodAll_cons_mk (shut_int Try.underlying3 w3) (trodAll_cons_mk (shut_int Try.underlying3 w4) trodAll_mk0))))), rfl, bel.frame _, fun h => by cases h⟩

theorem fact1 : (Rows.valueValuesRow.inPlace == Try.prog.inPlace 8) = true := by kernel_rfl
theorem fact2 : (Rows.valueValuesRow.unfollowed == Try.prog.unfollowed 8) = true := by kernel_rfl
theorem fact3 : (Rows.valueValuesRow.recurses == Try.prog.recurses 8) = true := by kernel_rfl
theorem fact4 : (Rows.valueValuesRow.named == Try.prog.varsNamed 8) = true := by kernel_rfl
theorem closed : joinedFacts Try.prog 8 Try.f8 Rows.valueValuesSpec Rows.valueValuesRow = true := by
  unfold joinedFacts
  rw [fact1, fact2, fact3, fact4]
  kernel_rfl
theorem over : Rows.valueValuesRow.holds Try.pinned (OpenSpec.ofChange Rows.valueValuesSpec) :=
  OpenClaim.holds_of_wide 8 Try.f8 rfl rfl rfl rfl rfl rfl rfl ⟨rfl, rfl, rfl, rfl, rfl⟩ rfl rfl rfl rfl rfl (by kernel_rfl) Try.func8 closed
    (of_decide_eq_true (by kernel_rfl)) (by unfold Func.isWrapper; first | (rw [if_pos (by decide +kernel)]; kernel_rfl) | (rw [if_neg (by decide +kernel)]; exact ⟨rfl, rfl⟩))
    (fun os started H enc _ => lifted os started H enc)

/-- The statement. -/
theorem proved : Rows.ValueValuesSaid := over
#print axioms proved
end Go.Proofs.Ytnofljgmkdommaa.valueValues
