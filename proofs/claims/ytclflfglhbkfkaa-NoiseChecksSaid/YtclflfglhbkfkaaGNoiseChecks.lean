/- NoiseChecks returns true for every tape of ints, every raw noise model and every bool, and leaves them as they were. No condition. -/
import Derived.Test.YtclflfglhbkfkaaRows
import Derived.Test.YtclflfglhbkfkaaGxUi
import Derived.WalkKit
import Derived.ProofKit
import Derived.OpenShut
import Derived.ShutString
import Derived.ChangeOld
import Derived.Below
import Derived.WideShapes
namespace Go.Proofs.Ytclflfglhbkfkaa.noiseChecks
open Go.ChangeShapes Go.WideShapes Go.ChangeAt Go.RowKit
open Go.ChangeMaps (open_string shut_string)
set_option linter.unusedVariables false
set_option linter.unusedSimpArgs false

theorem own : ownKnob Try.prog.godebug = none := by kernel_rfl
theorem laidOut : laidOutB Try.prog = true := by kernel_rfl
theorem jint {a : Int} (h : (Lit.int .i64 a).wf = true) : -9223372036854775808 ≤ a ∧ a < 9223372036854775808 := by
  have h1 : IntKind.i64.min = -9223372036854775808 := by rfl
  have h2 : IntKind.i64.max = 9223372036854775807 := by rfl
  simp [Lit.wf] at h
  omega

set_option maxRecDepth 100000 in
theorem lifted (os : Os) (started : os.Started) (H : Type) (enc : TypeId × Value → H) :
    ReturnsInHanded {} Try.checked os 7 .any (Rows.noiseChecksSpec.pre6 enc Try.prog Try.f7 Rows.noiseChecksRow.domain false) (Rows.noiseChecksSpec.post enc Try.prog Try.f7 false true false false) := by
  refine returnsInHanded_of_change (C := Try.checked) own started (by kernel_rfl) Try.func7
    (ChangeSpec.witness6 (enc := enc) (C := Try.checked) false ⟨#[], #[.slice none 0 0, .agg #[.slice none 0 0, .slice none 0 0, .slice none 0 0, .slice none 0 0], .bool false], []⟩ 8 (by kernel_rfl) (by kernel_rfl) (by kernel_rfl) (by kernel_rfl)) ?_
  intro W base args ds gs before hval0 hW hcnd _
  have hval : ∀ (j : Nat) t v, Try.f7.params[j]? = some t → args[j]? = some v → Value.okWide Try.prog W .any base t v := hval0
  have hW' := hW
  obtain ⟨p, q, hA0, hV, rfl, hfz, hnd⟩ := hW
  have hA : DataW.TrodAll enc Try.prog W 0 (fun _ => true) true Try.f7.params.toList args.toList ds p := hA0
  rw [Try.params7] at hA hval
  obtain ⟨v0, vs0, d0, ds0, pp0, qq0, hargs, rfl, rfl, h0, r0⟩ := trodAll_cons hA
  obtain ⟨v1, vs1, d1, ds1, pp1, qq1, rfl, rfl, rfl, h1, r1⟩ := trodAll_cons r0
  obtain ⟨v2, vs2, d2, ds2, pp2, qq2, rfl, rfl, rfl, h2, r2⟩ := trodAll_cons r1
  obtain ⟨rfl, rfl, rfl⟩ := trodAll_nil r2
  obtain rfl : args = #[v0, v1, v2] := by cases args; simp_all
  obtain ⟨rfl, rfl⟩ := trodVars_none hV
  obtain ⟨A0, n0, c0, rfl⟩ := okWide_slice Try.underlying22 (hval 0 22 v0 rfl rfl)
  have k0 := h0
  have lt0 : ∀ x ∈ pp0, x.block < W.heap.size := by obtain ⟨m, hm⟩ := k0; exact DataW.trod_lt m _ _ _ hm
  obtain ⟨l0, hl0, hn0, hc0, hR0⟩ : ∃ l : List Int, l.length = n0 ∧ n0 ≤ c0 ∧ c0 ≤ maxLen ∧ Rs W none 1 iv A0 l := by
    obtain ⟨fuel, hf⟩ := h0
    obtain ⟨A', n', c', l, h5, h6, h7, h8, h9⟩ := came_intsI hf
    simp [Value.cells] at h5
    obtain ⟨rfl, rfl, rfl⟩ := h5
    exact ⟨l, h6, h7, h8, h9⟩
  have hb0 : n0 ≤ 9223372036854775807 := Nat.le_trans hn0 hc0
  obtain ⟨cs1, rfl, -⟩ := okWide_struct Try.underlying50 (hval 1 50 v1 rfl rfl)
  have k1 := h1
  have lt1 : ∀ x ∈ pp1, x.block < W.heap.size := by obtain ⟨m, hm⟩ := k1; exact DataW.trod_lt m _ _ _ hm
  obtain ⟨p1, q1, L1, K1, M1, J1, hcs1, F1, G1⟩ : ∃ (p1 q1 : Fa) (L1 K1 M1 J1 : List Nat), cs1 = #[.slice p1.A p1.n p1.c, .slice p1.B p1.m p1.d, .slice q1.A q1.n q1.c, .slice q1.B q1.m q1.d] ∧ CameF W p1 L1 K1 ∧ CameF W q1 M1 J1 := by
    obtain ⟨fuel, hf⟩ := h1
    obtain ⟨p, q, l, k, l2, k2, h5, h6, h7⟩ := came_noise hf
    refine ⟨p, q, l, k, l2, k2, ?_, h6, h7⟩
    simp only [Value.cells] at h5
    cases cs1
    simp_all
  subst hcs1
  obtain ⟨a2, rfl, rfl, rfl⟩ := open_bool Try.underlying4 (hval 2 4 v2 rfl rfl) h2
  clear hA0 hval0
  refine (checks_walk W A0 n0 c0 l0 p1 q1 L1 K1 M1 J1 a2 hR0 hl0 ⟨F1.u, F1.v, F1.c, F1.d, F1.n, F1.m⟩ ⟨G1.u, G1.v, G1.c, G1.d, G1.n, G1.m⟩).mono fun e W' ⟨he, bel⟩ => ?_
  subst he
  exact ⟨_, rfl, _, _, _, [], _, [], hW', trodAll_mk1 (shut_bool Try.underlying4 _), (trodAll_cons_mk (Below.trod laidOut (by kernel_rfl) (of_decide_eq_true (by kernel_rfl)) k0 bel lt0) (trodAll_cons_mk (Below.trod laidOut (by kernel_rfl) (of_decide_eq_true (by kernel_rfl)) k1 bel lt1) (trodAll_cons_mk (shut_bool Try.underlying4 _) trodAll_mk0))), rfl, bel.frame _, fun h => by cases h⟩

theorem over : Rows.noiseChecksRow.holds Try.pinned (OpenSpec.ofChange Rows.noiseChecksSpec) :=
  OpenClaim.holds_of_wide 7 Try.f7 rfl rfl rfl rfl rfl rfl rfl ⟨rfl, rfl, rfl, rfl, rfl⟩ rfl rfl rfl rfl rfl (by kernel_rfl) Try.func7 (by kernel_rfl)
    (of_decide_eq_true (by kernel_rfl)) (by unfold Func.isWrapper; first | (rw [if_pos (by decide +kernel)]; kernel_rfl) | (rw [if_neg (by decide +kernel)]; exact ⟨rfl, rfl⟩))
    (fun os started H enc _ => lifted os started H enc)

/-- The statement. -/
theorem proved : Rows.NoiseChecksSaid := over
#print axioms proved
end Go.Proofs.Ytclflfglhbkfkaa.noiseChecks
