/- For all arguments, RerunSpecs returns true, without a panic and without a change to what was there before: specifications that are not right are refused by all functions, and the others answer as the document defines; conditions: none. -/
import Derived.Test.YtnokfhkcfebimaaGreatRows
import Derived.Test.YtnokfhkcfebimaaGreatPxOv
import Derived.WalkKit
import Derived.ProofKit
import Derived.OpenShut
import Derived.ShutString
import Derived.ChangeOld
import Derived.Below
import Derived.WideShapes
import Derived.JoinedOf
namespace Go.Proofs.YtnokfhkcfebimaaGreat.rerunSpecs
open Go.ChangeShapes Go.WideShapes Go.ChangeAt Go.RowKit
open Go.ChangeMaps (open_string shut_string)
set_option linter.unusedVariables false
set_option linter.unusedSimpArgs false

theorem own : ownKnob Tryz.prog.godebug = none := by kernel_rfl
theorem laidOut : laidOutB Tryz.prog = true := by kernel_rfl
theorem jint {a : Int} (h : (Lit.int .i64 a).wf = true) : -9223372036854775808 ≤ a ∧ a < 9223372036854775808 := by
  have h1 : IntKind.i64.min = -9223372036854775808 := by rfl
  have h2 : IntKind.i64.max = 9223372036854775807 := by rfl
  simp [Lit.wf] at h
  omega

set_option maxRecDepth 100000 in
theorem lifted (os : Os) (started : os.Started) (H : Type) (enc : TypeId × Value → H) :
    ReturnsInHanded {} Tryz.checked os 6 .any (Rows.rerunSpecsSpec.pre6 enc Tryz.prog Tryz.f6 Rows.rerunSpecsRow.domain false) (Rows.rerunSpecsSpec.post enc Tryz.prog Tryz.f6 false true false false) := by
  refine returnsInHanded_of_change (C := Tryz.checked) own started (by kernel_rfl) Tryz.func6
    (ChangeSpec.witness6 (enc := enc) (C := Tryz.checked) false ⟨#[], #[.slice none 0 0, .agg #[.slice none 0 0, .slice none 0 0, .slice none 0 0, .slice none 0 0, .slice none 0 0, .slice none 0 0, .slice none 0 0, .slice none 0 0, .int .i64 0], .agg #[.slice none 0 0, .slice none 0 0]], []⟩ 8 (by kernel_rfl) (by kernel_rfl) (by kernel_rfl) (by kernel_rfl)) ?_
  intro W base args ds gs before hval0 hW hcnd _
  have hval : ∀ (j : Nat) t v, Tryz.f6.params[j]? = some t → args[j]? = some v → Value.okWide Tryz.prog W .any base t v := hval0
  have hW' := hW
  obtain ⟨p, q, hA0, hV, rfl, hfz, hnd⟩ := hW
  have hA : DataW.TrodAll enc Tryz.prog W 0 (fun _ => true) true Tryz.f6.params.toList args.toList ds p := hA0
  rw [Tryz.params6] at hA hval
  obtain ⟨v0, vs0, d0, ds0, pp0, qq0, hargs, rfl, rfl, h0, r0⟩ := trodAll_cons hA
  obtain ⟨v1, vs1, d1, ds1, pp1, qq1, rfl, rfl, rfl, h1, r1⟩ := trodAll_cons r0
  obtain ⟨v2, vs2, d2, ds2, pp2, qq2, rfl, rfl, rfl, h2, r2⟩ := trodAll_cons r1
  obtain ⟨rfl, rfl, rfl⟩ := trodAll_nil r2
  obtain rfl : args = #[v0, v1, v2] := by cases args; simp_all
  obtain ⟨rfl, rfl⟩ := trodVars_none hV
  obtain ⟨A0, n0, c0, rfl⟩ := okWide_slice Tryz.underlying22 (hval 0 22 v0 rfl rfl)
  have k0 := h0
  have lt0 : ∀ x ∈ pp0, x.block < W.heap.size := by obtain ⟨m, hm⟩ := k0; exact DataW.trod_lt m _ _ _ hm
  obtain ⟨l0, hl0, hn0, hc0, hR0⟩ : ∃ l : List Int, l.length = n0 ∧ n0 ≤ c0 ∧ c0 ≤ maxLen ∧ Rs W none 1 iv A0 l := by
    obtain ⟨fuel, hf⟩ := h0
    obtain ⟨A', n', c', l, h5, h6, h7, h8, h9⟩ := came_intsI hf
    simp [Value.cells] at h5
    obtain ⟨rfl, rfl, rfl⟩ := h5
    exact ⟨l, h6, h7, h8, h9⟩
  have hb0 : n0 ≤ 9223372036854775807 := Nat.le_trans hn0 hc0
  obtain ⟨cs1, rfl, -⟩ := okWide_struct Tryz.underlying32 (hval 1 32 v1 rfl rfl)
  have k1 := h1
  have lt1 : ∀ x ∈ pp1, x.block < W.heap.size := by obtain ⟨m, hm⟩ := k1; exact DataW.trod_lt m _ _ _ hm
  obtain ⟨s1, hcs1, Q1⟩ : ∃ s1 : Sv, cs1 = #[.slice s1.l.A s1.l.n s1.l.c, .slice s1.l.B s1.l.m s1.l.d, .slice s1.h.A s1.h.n s1.h.c, .slice s1.h.B s1.h.m s1.h.d, .slice s1.a.A s1.a.n s1.a.c, .slice s1.a.B s1.a.m s1.a.d, .slice s1.b.A s1.b.n s1.b.c, .slice s1.b.B s1.b.m s1.b.d, .int .i64 s1.m] ∧ SQ W s1 := by
    obtain ⟨fuel, hf⟩ := h1
    obtain ⟨s, h5, h6⟩ := came_spec hf
    refine ⟨s, ?_, h6⟩
    simp only [Value.cells] at h5
    cases cs1
    simp_all
  subst hcs1
  obtain ⟨cs2, rfl, -⟩ := okWide_struct Tryz.underlying26 (hval 2 26 v2 rfl rfl)
  have k2 := h2
  have lt2 : ∀ x ∈ pp2, x.block < W.heap.size := by obtain ⟨m, hm⟩ := k2; exact DataW.trod_lt m _ _ _ hm
  obtain ⟨p2, L2, K2, hcs2, F2⟩ : ∃ (p2 : Fa) (L2 K2 : List Nat), cs2 = #[.slice p2.A p2.n p2.c, .slice p2.B p2.m p2.d] ∧ CameF W p2 L2 K2 := by
    obtain ⟨fuel, hf⟩ := h2
    obtain ⟨p, l, k, h5, h6⟩ := came_frac hf
    refine ⟨p, l, k, ?_, h6⟩
    simp only [Value.cells] at h5
    cases cs2
    simp_all
  subst hcs2
  clear hA0 hval0
  refine (rspecs_walk W A0 n0 c0 l0 s1 p2 L2 K2 hR0 hl0 Q1 F2.fq).mono fun e W' ⟨he, bel⟩ => ?_
  subst he
  exact ⟨_, rfl, _, _, _, [], _, [], hW', trodAll_mk1 (shut_bool Tryz.underlying4 _), (trodAll_cons_mk (Below.trod laidOut (by kernel_rfl) (of_decide_eq_true (by kernel_rfl)) k0 bel lt0) (trodAll_cons_mk (Below.trod laidOut (by kernel_rfl) (of_decide_eq_true (by kernel_rfl)) k1 bel lt1) (trodAll_cons_mk (Below.trod laidOut (by kernel_rfl) (of_decide_eq_true (by kernel_rfl)) k2 bel lt2) trodAll_mk0))), rfl, bel.frame _, fun h => by cases h⟩

theorem fact1 : (Rows.rerunSpecsRow.inPlace == Tryz.prog.inPlace 6) = true := by kernel_rfl
theorem fact2 : (Rows.rerunSpecsRow.unfollowed == Tryz.prog.unfollowed 6) = true := by kernel_rfl
theorem fact3 : (Rows.rerunSpecsRow.recurses == Tryz.prog.recurses 6) = true := by kernel_rfl
theorem fact4 : (Rows.rerunSpecsRow.named == Tryz.prog.varsNamed 6) = true := by kernel_rfl
theorem closed : joinedFacts Tryz.prog 6 Tryz.f6 Rows.rerunSpecsSpec Rows.rerunSpecsRow = true := by
  unfold joinedFacts
  rw [fact1, fact2, fact3, fact4]
  kernel_rfl
theorem over : Rows.rerunSpecsRow.holds Tryz.pinned (OpenSpec.ofChange Rows.rerunSpecsSpec) :=
  OpenClaim.holds_of_wide 6 Tryz.f6 rfl rfl rfl rfl rfl rfl rfl ⟨rfl, rfl, rfl, rfl, rfl⟩ rfl rfl rfl rfl rfl (by kernel_rfl) Tryz.func6 closed
    (of_decide_eq_true (by kernel_rfl)) (by unfold Func.isWrapper; first | (rw [if_pos (by decide +kernel)]; kernel_rfl) | (rw [if_neg (by decide +kernel)]; exact ⟨rfl, rfl⟩))
    (fun os started H enc _ => lifted os started H enc)

/-- The statement. -/
theorem proved : Rows.RerunSpecsSaid := over
#print axioms proved
end Go.Proofs.YtnokfhkcfebimaaGreat.rerunSpecs
