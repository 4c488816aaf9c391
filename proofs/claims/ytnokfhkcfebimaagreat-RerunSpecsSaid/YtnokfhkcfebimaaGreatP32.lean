/- Contracts of the functions that these laws reach: part 32: Contract: the rerun laws' known; Plain laws of verdicts; boxes and the tape; Plain laws of verdicts: what hides behind each; Plain laws of verdicts: more attempts, fewer attempts; a row of attempts is appended; Plain laws: how many further attempts can decide; Plain law: the verdict of attempts is that of the first prefix which has one. -/
import Derived.Test.YtnokfhkcfebimaaGreatP31
import Derived.Test.YtnokfhkcfebimaaGreatP29
set_option linter.unusedVariables false
set_option linter.unusedSimpArgs false

/- Contract: the rerun laws' known. -/
namespace Go.Proofs.YtnokfhkcfebimaaGreat
open Go.RowKit

theorem rs_newf {α : Type} {f : α → List Value} {s : Nat} (hs : ∀ a, (f a).length = s) {w : World} (l : List α) (t : TypeId) (cs : Array Value) (hcs : cs = (l.flatMap f).toArray) : Rs (w.alloc (.cells cs t)) none s f (some ⟨w.heap.size, 0, none⟩) l := by
  intro _
  refine ⟨w.heap.size, 0, rfl, by simp, by simp, fun k a hk j u hu => ?_⟩
  have h1 := flat_get hs l k a j u hk hu
  rw [World.cell?_alloc_new, hcs]
  simpa using h1
theorem kj1 (w : World) (s : Sv) (g : Nat) (hq : SQ w s) (hk : OKex s) (hR : Rs w none 2 atv (some ⟨g, 0, none⟩) [(true, true), (true, true), (true, true)]) :
    Calls Tryz.prog 20 #[.agg #[.slice s.l.A s.l.n s.l.c, .slice s.l.B s.l.m s.l.d, .slice s.h.A s.h.n s.h.c, .slice s.h.B s.h.m s.h.d, .slice s.a.A s.a.n s.a.c, .slice s.a.B s.a.m s.a.d, .slice s.b.A s.b.n s.b.c, .slice s.b.B s.b.m s.b.d, .int .i64 s.m], .slice (some ⟨g, 0, none⟩) 3 3] w fun e w' => e = .returned (.tuple #[.int .i64 1, .int .i64 3, .int .i64 0]) ∧ Below w.heap.size w w' := by
  have h := vjudgex_ok w s _ _ _ _ 10 _ 3 3 _ hq hk hR rfl (by omega)
  rwa [show jud (aftQ (decQ (mkRat 1 10) (mkRat 1 2) (mkRat 1 20) (mkRat 1 10)) 10) [(true, true), (true, true), (true, true)] = (1, 3) by decide +kernel] at h
theorem kj2 (w : World) (s : Sv) (g : Nat) (hq : SQ w s) (hk : OKex s) (hR : Rs w none 2 atv (some ⟨g, 0, none⟩) [(true, true), (false, true), (false, true), (false, true), (false, true), (true, true)]) :
    Calls Tryz.prog 20 #[.agg #[.slice s.l.A s.l.n s.l.c, .slice s.l.B s.l.m s.l.d, .slice s.h.A s.h.n s.h.c, .slice s.h.B s.h.m s.h.d, .slice s.a.A s.a.n s.a.c, .slice s.a.B s.a.m s.a.d, .slice s.b.A s.b.n s.b.c, .slice s.b.B s.b.m s.b.d, .int .i64 s.m], .slice (some ⟨g, 0, none⟩) 6 6] w fun e w' => e = .returned (.tuple #[.int .i64 2, .int .i64 5, .int .i64 0]) ∧ Below w.heap.size w w' := by
  have h := vjudgex_ok w s _ _ _ _ 10 _ 6 6 _ hq hk hR rfl (by omega)
  rwa [show jud (aftQ (decQ (mkRat 1 10) (mkRat 1 2) (mkRat 1 20) (mkRat 1 10)) 10) [(true, true), (false, true), (false, true), (false, true), (false, true), (true, true)] = (2, 5) by decide +kernel] at h
theorem kj3 (w : World) (s : Sv) (g : Nat) (hq : SQ w s) (hk : OKex s) (hR : Rs w none 2 atv (some ⟨g, 0, none⟩) [(true, false), (false, false)]) :
    Calls Tryz.prog 20 #[.agg #[.slice s.l.A s.l.n s.l.c, .slice s.l.B s.l.m s.l.d, .slice s.h.A s.h.n s.h.c, .slice s.h.B s.h.m s.h.d, .slice s.a.A s.a.n s.a.c, .slice s.a.B s.a.m s.a.d, .slice s.b.A s.b.n s.b.c, .slice s.b.B s.b.m s.b.d, .int .i64 s.m], .slice (some ⟨g, 0, none⟩) 2 2] w fun e w' => e = .returned (.tuple #[.int .i64 4, .int .i64 2, .int .i64 0]) ∧ Below w.heap.size w w' := by
  have h := vjudgex_ok w s _ _ _ _ 10 _ 2 2 _ hq hk hR rfl (by omega)
  rwa [show jud (aftQ (decQ (mkRat 1 10) (mkRat 1 2) (mkRat 1 20) (mkRat 1 10)) 10) [(true, false), (false, false)] = (4, 2) by decide +kernel] at h
set_option maxRecDepth 100000 in
set_option maxHeartbeats 8000000 in
theorem vknown_any (w : World) : Calls Tryz.prog 17 #[] w fun e w' => e = .returned (.bool true) ∧ Below w.heap.size w w' := by
  go_enter Tryz.func17, Tryz.ntmps17
  go_upto_region 2 with (fail)
  generalize hW : World.alloc (World.alloc w _) _ = v
  have HB := hide (show Below w.heap.size w v by rw [← hW]; exact ((Below.refl _ _).alloc (Nat.le_refl _) _).alloc (by simp) _)
  have HG := hide (show Cb v w.heap.size [.bool true, .bool true] by rw [← hW]; exact (Cb.mk0 [.bool true, .bool true] (by simp) _ rfl).alloc _)
  have HH := hide (show Cb v (w.heap.size + 1) [.bool false, .bool true] by rw [← hW]; exact Cb.mk0 [.bool false, .bool true] (by simp) _ (by simp))
  clear hW
  have x0 := HG.out.cell 0 _ rfl
  have x1 := HG.out.cell 1 _ rfl
  have x2 := HG.out.sz
  have y0 := HH.out.cell 0 _ rfl
  have y1 := HH.out.cell 1 _ rfl
  have y2 := HH.out.sz
  go_region_held3 (fun W => W.cell? ⟨w.heap.size, 0, none⟩ = some (.bool true) ∧ W.cell? ⟨w.heap.size, 1, none⟩ = some (.bool true)) (first | (go_keep; done) | ((try dsimp only); (repeat' apply And.intro) <;> first | (go_keep; done) | ((repeat rw [World.cell?_setCell_other _ _ _ _ (by intro h; injection h; omega)]); go_keep; done))) (first
    | (go_at_call 50; (with_reducible refine (vexample_any _).mono ?_); rintro e u1 ⟨s1, rfl, hq, hk, hb⟩; have HQ1 := hide hq; have HK1 := hide hk; (first | have HRS1 := hide (show Rs u1 none 2 atv (some ⟨v.heap.size, 0, none⟩) [(true, true), (true, true), (true, true)] from ((rs_newf (w := v) atv_len [(true, true), (true, true), (true, true)] _ _ rfl).below (Dr.below ⟨1, rfl⟩)).below hb) | skip); have HB1 := hide (show Below w.heap.size w u1 from (by first | exact HB.out.drew.trans (hb.mono HB.out.drew.size) | exact HB.out.trans (hb.mono HB.out.size) | exact (HB.out.alloc HB.out.size _).drew.trans (hb.mono (HB.out.alloc HB.out.size _).drew.size))); have HG1 := hide (show Cb u1 w.heap.size [.bool true, .bool true] from (by first | exact HG.out.drew.below hb | exact HG.out.below hb | exact (HG.out.alloc _).drew.below hb)); have HH1 := hide (show Cb u1 (w.heap.size + 1) [.bool false, .bool true] from (by first | exact HH.out.drew.below hb | exact HH.out.below hb | exact (HH.out.alloc _).drew.below hb)); have x0 := HG1.out.cell 0 _ rfl; have x1 := HG1.out.cell 1 _ rfl; have x2 := HG1.out.sz; have y0 := HH1.out.cell 0 _ rfl; have y1 := HH1.out.cell 1 _ rfl; have y2 := HH1.out.sz; clear hq hk hb)
    | (go_at_call 20; (with_reducible refine (kj1 _ s1 _ ?hq HK1.out ?hr).mono ?_); (case hq => first | exact HQ1.out.alloc _ | exact HQ1.out); (case hr => first | exact rs_newf atv_len _ _ _ rfl | exact HRS1.out); rintro e v1 ⟨rfl, hb⟩; have HC1 := hide (show Below w.heap.size w v1 from (by first | exact (HB1.out.alloc HB1.out.size _).trans (hb.mono (HB1.out.alloc HB1.out.size _).size) | exact HB1.out.trans (hb.mono HB1.out.size))); have HGJ1 := hide (show Cb v1 w.heap.size [.bool true, .bool true] from (by first | exact (HG1.out.alloc _).below hb | exact HG1.out.below hb)); have HHJ1 := hide (show Cb v1 (w.heap.size + 1) [.bool false, .bool true] from (by first | exact (HH1.out.alloc _).below hb | exact HH1.out.below hb)); have x0 := HGJ1.out.cell 0 _ rfl; have x1 := HGJ1.out.cell 1 _ rfl; have x2 := HGJ1.out.sz; have y0 := HHJ1.out.cell 0 _ rfl; have y1 := HHJ1.out.cell 1 _ rfl; have y2 := HHJ1.out.sz; clear hb))
  all_goals go_upto_region 3 with (fail)
  all_goals go_region_held3 (fun W => W.cell? ⟨w.heap.size, 0, none⟩ = some (.bool true) ∧ W.cell? ⟨w.heap.size, 1, none⟩ = some (.bool true) ∧ W.cell? ⟨w.heap.size + 1, 0, none⟩ = some (.bool false) ∧ W.cell? ⟨w.heap.size + 1, 1, none⟩ = some (.bool true)) (first | (go_keep; done) | ((try dsimp only); (repeat' apply And.intro) <;> first | (go_keep; done) | ((repeat rw [World.cell?_setCell_other _ _ _ _ (by intro h; injection h; omega)]); go_keep; done))) (first
    | (go_at_call 50; (with_reducible refine (vexample_any _).mono ?_); rintro e u2 ⟨s2, rfl, hq, hk, hb⟩; have HQ2 := hide hq; have HK2 := hide hk; (first | have HRS2 := hide (show Rs u2 none 2 atv (some ⟨v1.heap.size, 0, none⟩) [(true, true), (false, true), (false, true), (false, true), (false, true), (true, true)] from ((rs_newf (w := v1) atv_len [(true, true), (false, true), (false, true), (false, true), (false, true), (true, true)] _ _ rfl).below (Dr.below ⟨1, rfl⟩)).below hb) | skip); have HB2 := hide (show Below w.heap.size w u2 from (by first | exact HC1.out.drew.trans (hb.mono HC1.out.drew.size) | exact HC1.out.trans (hb.mono HC1.out.size) | exact (HC1.out.alloc HC1.out.size _).drew.trans (hb.mono (HC1.out.alloc HC1.out.size _).drew.size))); have HG2 := hide (show Cb u2 w.heap.size [.bool true, .bool true] from (by first | exact HGJ1.out.drew.below hb | exact HGJ1.out.below hb | exact (HGJ1.out.alloc _).drew.below hb)); have HH2 := hide (show Cb u2 (w.heap.size + 1) [.bool false, .bool true] from (by first | exact HHJ1.out.drew.below hb | exact HHJ1.out.below hb | exact (HHJ1.out.alloc _).drew.below hb)); have x0 := HG2.out.cell 0 _ rfl; have x1 := HG2.out.cell 1 _ rfl; have x2 := HG2.out.sz; have y0 := HH2.out.cell 0 _ rfl; have y1 := HH2.out.cell 1 _ rfl; have y2 := HH2.out.sz; clear hq hk hb)
    | (go_at_call 20; (with_reducible refine (kj2 _ s2 _ ?hq HK2.out ?hr).mono ?_); (case hq => first | exact HQ2.out.alloc _ | exact HQ2.out); (case hr => first | exact rs_newf atv_len _ _ _ rfl | exact HRS2.out); rintro e v2 ⟨rfl, hb⟩; have HC2 := hide (show Below w.heap.size w v2 from (by first | exact (HB2.out.alloc HB2.out.size _).trans (hb.mono (HB2.out.alloc HB2.out.size _).size) | exact HB2.out.trans (hb.mono HB2.out.size))); have HGJ2 := hide (show Cb v2 w.heap.size [.bool true, .bool true] from (by first | exact (HG2.out.alloc _).below hb | exact HG2.out.below hb)); have HHJ2 := hide (show Cb v2 (w.heap.size + 1) [.bool false, .bool true] from (by first | exact (HH2.out.alloc _).below hb | exact HH2.out.below hb)); have x0 := HGJ2.out.cell 0 _ rfl; have x1 := HGJ2.out.cell 1 _ rfl; have x2 := HGJ2.out.sz; have y0 := HHJ2.out.cell 0 _ rfl; have y1 := HHJ2.out.cell 1 _ rfl; have y2 := HHJ2.out.sz; clear hb))
  all_goals go_wp2_with (first
    | (go_at_call 50; (with_reducible refine (vexample_any _).mono ?_); rintro e u3 ⟨s3, rfl, hq, hk, hb⟩; have HQ3 := hide hq; have HK3 := hide hk; (first | have HRS3 := hide (show Rs u3 none 2 atv (some ⟨v2.heap.size, 0, none⟩) [(true, false), (false, false)] from ((rs_newf (w := v2) atv_len [(true, false), (false, false)] _ _ rfl).below (Dr.below ⟨1, rfl⟩)).below hb) | skip); have HB3 := hide (show Below w.heap.size w u3 from (by first | exact HC2.out.drew.trans (hb.mono HC2.out.drew.size) | exact HC2.out.trans (hb.mono HC2.out.size) | exact (HC2.out.alloc HC2.out.size _).drew.trans (hb.mono (HC2.out.alloc HC2.out.size _).drew.size))); have HG3 := hide (show Cb u3 w.heap.size [.bool true, .bool true] from (by first | exact HGJ2.out.drew.below hb | exact HGJ2.out.below hb | exact (HGJ2.out.alloc _).drew.below hb)); have HH3 := hide (show Cb u3 (w.heap.size + 1) [.bool false, .bool true] from (by first | exact HHJ2.out.drew.below hb | exact HHJ2.out.below hb | exact (HHJ2.out.alloc _).drew.below hb)); have x0 := HG3.out.cell 0 _ rfl; have x1 := HG3.out.cell 1 _ rfl; have x2 := HG3.out.sz; have y0 := HH3.out.cell 0 _ rfl; have y1 := HH3.out.cell 1 _ rfl; have y2 := HH3.out.sz; clear hq hk hb)
    | (go_at_call 20; (with_reducible refine (kj3 _ s3 _ ?hq HK3.out ?hr).mono ?_); (case hq => first | exact HQ3.out.alloc _ | exact HQ3.out); (case hr => first | exact rs_newf atv_len _ _ _ rfl | exact HRS3.out); rintro e v3 ⟨rfl, hb⟩; have HC3 := hide (show Below w.heap.size w v3 from (by first | exact (HB3.out.alloc HB3.out.size _).trans (hb.mono (HB3.out.alloc HB3.out.size _).size) | exact HB3.out.trans (hb.mono HB3.out.size))); have HGJ3 := hide (show Cb v3 w.heap.size [.bool true, .bool true] from (by first | exact (HG3.out.alloc _).below hb | exact HG3.out.below hb)); have HHJ3 := hide (show Cb v3 (w.heap.size + 1) [.bool false, .bool true] from (by first | exact (HH3.out.alloc _).below hb | exact HH3.out.below hb)); have x0 := HGJ3.out.cell 0 _ rfl; have x1 := HGJ3.out.cell 1 _ rfl; have x2 := HGJ3.out.sz; have y0 := HHJ3.out.cell 0 _ rfl; have y1 := HHJ3.out.cell 1 _ rfl; have y2 := HHJ3.out.sz; clear hb))
  all_goals go_ret
  all_goals exact ⟨rfl, HC3.out⟩
end Go.Proofs.YtnokfhkcfebimaaGreat

/- Plain laws of verdicts; boxes and the tape. -/
namespace Go.Proofs.YtnokfhkcfebimaaGreat
open Go.RowKit

theorem FS.tape {w0 v v' : World} {g T : Nat} {s : Sv} (h : FS w0 v g s) (hf : Fr v v' (fun b => b = T)) (hT : w0.heap.size ≤ T) (hg : g ≠ T) (hn : NB v T) : FS w0 v' g s := ⟨bw_one h.bw hf hT, h.cb.one hf hg, h.q.one hf hn⟩
end Go.Proofs.YtnokfhkcfebimaaGreat

/- Plain laws of verdicts: what hides behind each. -/
namespace Go.Proofs.YtnokfhkcfebimaaGreat
open Go.RowKit

/-- How many failed. -/
def cntF (xs : List (Bool × Bool)) : Nat := xs.countP (·.1)
/-- What a verdict says of the attempts used. -/
def Hides (M : Nat) (n : Nat) (r0 : Bool) (v : Int) (u F : Nat) : Prop :=
  u ≤ n ∧ 1 ≤ F ∧ ((v = 1 ∧ 2 ≤ F) ∨ (v = 2 ∧ F < u ∧ r0 = true) ∨ (v = 4 ∧ 2 ≤ u) ∨ (v = 3 ∧ u = M + 1) ∨ (v = 0 ∧ u = n))
end Go.Proofs.YtnokfhkcfebimaaGreat

/- Plain laws of verdicts: more attempts, fewer attempts; a row of attempts is appended. -/
namespace Go.Proofs.YtnokfhkcfebimaaGreat
open Go.RowKit

end Go.Proofs.YtnokfhkcfebimaaGreat

/- Plain laws: how many further attempts can decide. -/
namespace Go.Proofs.YtnokfhkcfebimaaGreat
open Go.RowKit

theorem judL_zero {d : Nat → Nat → Int} {M : Nat} (r0 : Bool) : ∀ (t : List (Bool × Bool)) (k p f : Nat), (judL (aftQ d M) r0 t k p f).1 = 0 → p + f < M →
    (∀ x ∈ t, x.2 = r0) ∧ (t ≠ [] → r0 = true) ∧ p + f + t.length < M ∧ cntF t ≤ t.length ∧
      ∀ y, judL (aftQ d M) r0 (t ++ y) k p f = judL (aftQ d M) r0 y (k + t.length) (p + (t.length - cntF t)) (f + cntF t)
  | [], k, p, f, _, hM => ⟨by simp, by simp, by simpa using hM, by simp [cntF], fun y => by simp [cntF]⟩
  | (fl, rd) :: t, k, p, f, h, hM => by
    rw [judL] at h
    by_cases h1 : rd ≠ r0
    · rw [if_pos h1] at h; simp at h
    · rw [if_neg h1] at h
      have h1 : rd = r0 := Classical.not_not.1 h1
      by_cases h2 : rd = false
      · rw [if_pos h2] at h
        cases fl <;> simp at h
      · rw [if_neg h2] at h
        have hr : r0 = true := by rw [← h1]; simpa using h2
        obtain ⟨z, hz, hz1⟩ : ∃ z : Nat, z = (if fl then 1 else 0) ∧ z ≤ 1 := ⟨_, rfl, by cases fl <;> simp⟩
        have ep : (if fl then p else p + 1) = p + (1 - z) := by rw [hz]; cases fl <;> rfl
        have ef : (if fl then f + 1 else f) = f + z := by rw [hz]; cases fl <;> rfl
        rw [ep, ef] at h
        by_cases h3 : aftQ d M (p + (1 - z)) (f + z) = 0
        · rw [if_pos h3] at h
          have h4 := aft_go (by omega) h3
          obtain ⟨h5, -, h6, h7, h8⟩ := judL_zero r0 t (k + 1) _ _ h h4
          have hc : cntF ((fl, rd) :: t) = z + cntF t := by
            unfold cntF
            rw [hz]
            cases fl <;> simp [List.countP_cons] <;> omega
          refine ⟨fun x hx => ?_, fun _ => hr, by rw [List.length_cons]; omega, by rw [hc, List.length_cons]; omega, fun y => ?_⟩
          · rcases List.mem_cons.1 hx with rfl | hx
            · exact h1
            · exact h5 x hx
          · rw [List.cons_append, judL, if_neg (by simp [h1]), if_neg h2, ep, ef, if_pos h3, h8, hc, List.length_cons]
            rw [show k + 1 + t.length = k + (t.length + 1) by omega, show p + (1 - z) + (t.length - cntF t) = p + (t.length + 1 - (z + cntF t)) by omega, show f + z + cntF t = f + (z + cntF t) by omega]
        · rw [if_neg h3] at h; exact absurd h h3
/-- m further runs, all alike, can decide, and no fewer. -/
def lstP (g : Nat → Nat → Int) (p f m : Nat) : Prop := 1 ≤ m ∧ (g (p + m) f ≠ 0 ∨ g p (f + m) ≠ 0) ∧ ∀ j, 1 ≤ j → j < m → g (p + j) f = 0 ∧ g p (f + j) = 0
/-- What Least returns. -/
def IsLv (g : Nat → Nat → Int) (M : Nat) (xs : List (Bool × Bool)) (L : Nat) : Prop :=
  ((jud g xs).1 ≠ 0 ∧ L = 0) ∨
  ((jud g xs).1 = 0 ∧ xs = [] ∧ L = 1) ∨
  ((jud g xs).1 = 0 ∧ xs = [(true, false)] ∧ L = 1) ∨
  ∃ (t : List (Bool × Bool)), (jud g xs).1 = 0 ∧ xs = (true, true) :: t ∧ cntF t ≤ t.length ∧ t.length < M ∧ lstP g (t.length - cntF t) (cntF t) L ∧ (∀ x ∈ t, x.2 = true) ∧
    ∀ y, jud g (xs ++ y) = judL g true y (1 + t.length) (t.length - cntF t) (cntF t)
theorem jud_zero {d : Nat → Nat → Int} {M : Nat} (hM : 1 ≤ M) {xs : List (Bool × Bool)} (h : (jud (aftQ d M) xs).1 = 0) :
    xs = [] ∨ xs = [(true, false)] ∨ ∃ t, xs = (true, true) :: t ∧ cntF t ≤ t.length ∧ t.length < M ∧ (∀ x ∈ t, x.2 = true) ∧ ∀ y, jud (aftQ d M) (xs ++ y) = judL (aftQ d M) true y (1 + t.length) (t.length - cntF t) (cntF t) := by
  cases xs with
  | nil => exact .inl rfl
  | cons x t =>
    obtain ⟨fl, rd⟩ := x
    cases fl
    · simp [jud] at h
    · have e : ∀ t, jud (aftQ d M) ((true, rd) :: t) = judL (aftQ d M) rd t 1 0 0 := fun t => rfl
      rw [e] at h
      obtain ⟨h1, h2, h3, h4, h5⟩ := judL_zero rd t 1 0 0 h (by omega)
      cases rd
      · cases t with
        | nil => exact .inr (.inl rfl)
        | cons y t => exact absurd (h2 (by simp)) (by simp)
      · refine .inr (.inr ⟨t, rfl, h4, by omega, h1, fun y => ?_⟩)
        rw [List.cons_append, e, h5 y]
        simp
end Go.Proofs.YtnokfhkcfebimaaGreat

/- Plain law: the verdict of attempts is that of the first prefix which has one. -/
namespace Go.Proofs.YtnokfhkcfebimaaGreat
open Go.RowKit

/-- The verdict after all attempts: the first one x, the last one y, those behind the first t. -/
def lastV (g : Nat → Nat → Int) (x y : Bool × Bool) (t : List (Bool × Bool)) : Int :=
  if x.1 = false then 5 else if y.2 ≠ x.2 then 4 else if t = [] then 0 else if x.2 = false then (if ((t.head?.map (·.1)).getD false) = true then 1 else 4) else g (t.length - cntF t) (cntF t)
def lastQ (g : Nat → Nat → Int) (xs : List (Bool × Bool)) : Int := match xs with
  | [] => 0
  | x :: t => lastV g x ((x :: t).getLast?.getD x) t
theorem lastQ_one (g : Nat → Nat → Int) (r0 : Bool) : lastQ g [(true, r0)] = 0 := by simp [lastQ, lastV]
theorem cntF_snoc (pre : List (Bool × Bool)) (x : Bool × Bool) : cntF (pre ++ [x]) = cntF pre + if x.1 then 1 else 0 := by
  unfold cntF
  rw [List.countP_append]
  obtain ⟨a, b⟩ := x
  cases a <;> simp
theorem cntF_le' (l : List (Bool × Bool)) : cntF l ≤ l.length := List.countP_le_length
theorem lastQ_snoc (g : Nat → Nat → Int) (r0 : Bool) (pre : List (Bool × Bool)) (fl rd : Bool) (hp : pre ≠ [] → r0 = true) :
    lastQ g ((true, r0) :: (pre ++ [(fl, rd)])) = if rd ≠ r0 then 4 else if rd = false then (if fl then 1 else 4) else g (pre.length - cntF pre + if fl then 0 else 1) (cntF pre + if fl then 1 else 0) := by
  have e1 : ((true, r0) :: (pre ++ [(fl, rd)])).getLast? = some (fl, rd) := by
    rw [← List.cons_append, List.getLast?_append]; rfl
  show lastV g (true, r0) (((true, r0) :: (pre ++ [(fl, rd)])).getLast?.getD (true, r0)) (pre ++ [(fl, rd)]) = _
  rw [e1]
  unfold lastV
  simp only [Option.getD_some]
  rw [if_neg (by simp)]
  by_cases h : rd ≠ r0
  · rw [if_pos h, if_pos h]
  · rw [if_neg h, if_neg h, if_neg (by simp)]
    have h' : rd = r0 := Classical.not_not.1 h
    by_cases h2 : rd = false
    · rw [if_pos h2, if_pos (by rw [← h', h2])]
      obtain rfl : pre = [] := Classical.byContradiction fun hne => by have := hp hne; rw [← h', h2] at this; cases this
      rfl
    · rw [if_neg h2, if_neg (by rw [← h']; exact h2), cntF_snoc, List.length_append]
      have := cntF_le' pre
      cases fl
      · simp only [Bool.false_eq_true, if_false, Nat.add_zero, List.length_singleton]
        rw [show pre.length + 1 - cntF pre = pre.length - cntF pre + 1 by omega]
      · simp only [if_true, Nat.add_zero, List.length_singleton]
        rw [show pre.length + 1 - (cntF pre + 1) = pre.length - cntF pre by omega]
theorem judL_first (g : Nat → Nat → Int) (r0 : Bool) : ∀ (t pre : List (Bool × Bool)), (pre ≠ [] → r0 = true) →
    (∃ j, 1 ≤ j ∧ j ≤ t.length ∧ lastQ g ((true, r0) :: (pre ++ t.take j)) ≠ 0 ∧ (∀ i, 1 ≤ i → i < j → lastQ g ((true, r0) :: (pre ++ t.take i)) = 0) ∧ judL g r0 t (1 + pre.length) (pre.length - cntF pre) (cntF pre) = (lastQ g ((true, r0) :: (pre ++ t.take j)), 1 + pre.length + j)) ∨
    ((∀ i, 1 ≤ i → i ≤ t.length → lastQ g ((true, r0) :: (pre ++ t.take i)) = 0) ∧ judL g r0 t (1 + pre.length) (pre.length - cntF pre) (cntF pre) = (0, 1 + pre.length + t.length))
  | [], pre, hp => .inr ⟨fun i h1 h2 => by simp at h2; omega, rfl⟩
  | (fl, rd) :: t, pre, hp => by
    have h1 := lastQ_snoc g r0 pre fl rd hp
    have hc := cntF_le' pre
    have step : judL g r0 ((fl, rd) :: t) (1 + pre.length) (pre.length - cntF pre) (cntF pre) = if lastQ g ((true, r0) :: (pre ++ [(fl, rd)])) = 0 then judL g r0 t (1 + (pre ++ [(fl, rd)]).length) ((pre ++ [(fl, rd)]).length - cntF (pre ++ [(fl, rd)])) (cntF (pre ++ [(fl, rd)])) else (lastQ g ((true, r0) :: (pre ++ [(fl, rd)])), 1 + pre.length + 1) := by
      rw [judL, h1]
      by_cases h2 : rd ≠ r0
      · rw [if_pos h2, if_pos h2, if_neg (by decide)]
      · rw [if_neg h2, if_neg h2]
        by_cases h3 : rd = false
        · rw [if_pos h3, if_pos h3]
          cases fl
          · simp
          · simp
        · rw [if_neg h3, if_neg h3, cntF_snoc, List.length_append, List.length_singleton]
          cases fl
          · simp only [Bool.false_eq_true, if_false, Nat.add_zero]
            rw [show pre.length + 1 - cntF pre = pre.length - cntF pre + 1 by omega, show 1 + (pre.length + 1) = 1 + pre.length + 1 by omega]
          · simp only [if_true, Nat.add_zero]
            rw [show pre.length + 1 - (cntF pre + 1) = pre.length - cntF pre by omega, show 1 + (pre.length + 1) = 1 + pre.length + 1 by omega]
    rw [step]
    by_cases h0 : lastQ g ((true, r0) :: (pre ++ [(fl, rd)])) = 0
    · rw [if_pos h0]
      have hr : r0 = true := by
        rw [h1] at h0
        by_cases h2 : rd ≠ r0
        · rw [if_pos h2] at h0; simp at h0
        · rw [if_neg h2] at h0
          by_cases h3 : rd = false
          · rw [if_pos h3] at h0; cases fl <;> simp at h0
          · have := Classical.not_not.1 h2
            rw [← this]; simpa using h3
      have ih := judL_first g r0 t (pre ++ [(fl, rd)]) (fun _ => hr)
      have e : ∀ j, (true, r0) :: ((pre ++ [(fl, rd)]) ++ t.take j) = (true, r0) :: (pre ++ ((fl, rd) :: t).take (j + 1)) := fun j => by
        rw [List.take_succ_cons, List.append_assoc]; rfl
      have el : (pre ++ [(fl, rd)]).length = pre.length + 1 := by simp
      rcases ih with ⟨j, j1, j2, j3, j4, j5⟩ | ⟨j1, j2⟩
      · rw [e] at j3 j5
        refine .inl ⟨j + 1, by omega, by rw [List.length_cons]; omega, j3, fun i i1 i2 => ?_, by rw [j5, el]; congr 1; omega⟩
        by_cases hi : i = 1
        · subst hi; simpa using h0
        · have := j4 (i - 1) (by omega) (by omega)
          rw [e, show i - 1 + 1 = i by omega] at this
          exact this
      · refine .inr ⟨fun i i1 i2 => ?_, by rw [j2, el, List.length_cons]; congr 1; omega⟩
        rw [List.length_cons] at i2
        by_cases hi : i = 1
        · subst hi; simpa using h0
        · have := j1 (i - 1) (by omega) (by omega)
          rw [e, show i - 1 + 1 = i by omega] at this
          exact this
    · rw [if_neg h0]
      exact .inl ⟨1, by omega, by rw [List.length_cons]; omega, by simpa using h0, fun i h2 h3 => by omega, by simp⟩
/-- The first prefix with a verdict. -/
theorem jud_pref (g : Nat → Nat → Int) (xs : List (Bool × Bool)) :
    (∃ n, 1 ≤ n ∧ n ≤ xs.length ∧ lastQ g (xs.take n) ≠ 0 ∧ (∀ i, 1 ≤ i → i < n → lastQ g (xs.take i) = 0) ∧ jud g xs = (lastQ g (xs.take n), n)) ∨
    ((∀ i, 1 ≤ i → i ≤ xs.length → lastQ g (xs.take i) = 0) ∧ jud g xs = (0, xs.length)) := by
  cases xs with
  | nil => exact .inr ⟨fun i h1 h2 => by simp at h2; omega, rfl⟩
  | cons x t =>
    obtain ⟨fl, r0⟩ := x
    cases fl
    · exact .inl ⟨1, by omega, by simp, by simp [lastQ, lastV], fun i h1 h2 => by omega, by simp [lastQ, lastV, jud]⟩
    · have h := judL_first g r0 t [] (fun h => absurd rfl h)
      have e : jud g ((true, r0) :: t) = judL g r0 t (1 + ([] : List (Bool × Bool)).length) (([] : List (Bool × Bool)).length - cntF []) (cntF []) := rfl
      rw [e]
      have e2 : ∀ j, (true, r0) :: ([] ++ t.take j) = ((true, r0) :: t).take (j + 1) := fun j => rfl
      rcases h with ⟨j, j1, j2, j3, j4, j5⟩ | ⟨j1, j2⟩
      · rw [e2] at j3 j5
        refine .inl ⟨j + 1, by omega, by rw [List.length_cons]; omega, j3, fun i i1 i2 => ?_, by rw [j5]; simp; omega⟩
        by_cases hi : i = 1
        · subst hi; exact lastQ_one g r0
        · have := j4 (i - 1) (by omega) (by omega)
          rw [e2, show i - 1 + 1 = i by omega] at this
          exact this
      · refine .inr ⟨fun i i1 i2 => ?_, by rw [j2]; simp; omega⟩
        rw [List.length_cons] at i2
        by_cases hi : i = 1
        · subst hi; exact lastQ_one g r0
        · have := j1 (i - 1) (by omega) (by omega)
          rw [e2, show i - 1 + 1 = i by omega] at this
          exact this
theorem jud_stop {g : Nat → Nat → Int} {xs : List (Bool × Bool)} {n : Nat} (h1 : 1 ≤ n) (h2 : n ≤ xs.length) (h3 : lastQ g (xs.take n) ≠ 0) (h4 : ∀ i, 1 ≤ i → i < n → lastQ g (xs.take i) = 0) : jud g xs = (lastQ g (xs.take n), n) := by
  rcases jud_pref g xs with ⟨m, m1, m2, m3, m4, m5⟩ | ⟨m1, m2⟩
  · obtain rfl : m = n := by
      rcases Nat.lt_trichotomy m n with h | h | h
      · exact absurd (h4 m m1 h) m3
      · exact h
      · exact absurd (m4 n h1 h) h3
    exact m5
  · exact absurd (m1 n h1 h2) h3
theorem jud_none {g : Nat → Nat → Int} {xs : List (Bool × Bool)} (h4 : ∀ i, 1 ≤ i → i ≤ xs.length → lastQ g (xs.take i) = 0) : jud g xs = (0, xs.length) := by
  rcases jud_pref g xs with ⟨m, m1, m2, m3, m4, m5⟩ | ⟨m1, m2⟩
  · exact absurd (h4 m m1 m2) m3
  · exact m2
theorem lst_uniq {g : Nat → Nat → Int} {p f m n : Nat} (h : lstP g p f m) (k : lstP g p f n) : m = n := by
  obtain ⟨h1, h2, h3⟩ := h
  obtain ⟨k1, k2, k3⟩ := k
  rcases Nat.lt_trichotomy m n with h | h | h
  · obtain ⟨a, b⟩ := k3 m h1 h; rcases h2 with c | c; exact absurd a c; exact absurd b c
  · exact h
  · obtain ⟨a, b⟩ := h3 n k1 h; rcases k2 with c | c; exact absurd a c; exact absurd b c
theorem lv_uniq {g : Nat → Nat → Int} {M : Nat} {xs : List (Bool × Bool)} {m n : Nat} (h : IsLv g M xs m) (k : IsLv g M xs n) : m = n := by
  rcases h with ⟨h0, rfl⟩ | ⟨h0, rfl, rfl⟩ | ⟨h0, rfl, rfl⟩ | ⟨t, h0, rfl, h1, h2, h3, h4, h5⟩
  · rcases k with ⟨k0, rfl⟩ | ⟨k0, _⟩ | ⟨k0, _⟩ | ⟨t, k0, _⟩
    · rfl
    · exact absurd k0 h0
    · exact absurd k0 h0
    · exact absurd k0 h0
  · rcases k with ⟨k0, rfl⟩ | ⟨k0, _, rfl⟩ | ⟨k0, k1, rfl⟩ | ⟨t, k0, k1, _⟩
    · exact absurd h0 k0
    · rfl
    · cases k1
    · cases k1
  · rcases k with ⟨k0, rfl⟩ | ⟨k0, k1, rfl⟩ | ⟨k0, k1, rfl⟩ | ⟨t, k0, k1, _⟩
    · exact absurd h0 k0
    · cases k1
    · rfl
    · simp at k1
  · rcases k with ⟨k0, rfl⟩ | ⟨k0, k1, rfl⟩ | ⟨k0, k1, rfl⟩ | ⟨t', k0, k1, k2, k3, k4, k5⟩
    · exact absurd h0 k0
    · cases k1
    · simp at k1
    · obtain rfl : t = t' := by simpa using k1
      exact lst_uniq h3 k4
/-- All alike behind the attempts. -/
theorem lastQ_rep (g : Nat → Nat → Int) (t : List (Bool × Bool)) (b : Bool) (n : Nat) (hn : 1 ≤ n) : lastQ g ((true, true) :: (t ++ List.replicate n (b, true))) = g (t.length - cntF t + if b then 0 else n) (cntF t + if b then n else 0) := by
  obtain ⟨m, rfl⟩ : ∃ m, n = m + 1 := ⟨n - 1, by omega⟩
  have hc : ∀ m, cntF (t ++ List.replicate m (b, true)) = cntF t + if b then m else 0 := fun m => by
    unfold cntF
    rw [List.countP_append, List.countP_replicate]
  rw [List.replicate_succ', ← List.append_assoc, lastQ_snoc g true _ b true (fun _ => rfl), if_neg (by simp), if_neg (by simp), hc, List.length_append, List.length_replicate]
  have := cntF_le' t
  cases b
  · simp only [Bool.false_eq_true, if_false, Nat.add_zero]
    rw [show t.length + m - cntF t + 1 = t.length - cntF t + (m + 1) by omega]
  · simp only [if_true, Nat.add_zero]
    rw [show t.length + m - (cntF t + m) = t.length - cntF t by omega, Nat.add_assoc]
end Go.Proofs.YtnokfhkcfebimaaGreat
