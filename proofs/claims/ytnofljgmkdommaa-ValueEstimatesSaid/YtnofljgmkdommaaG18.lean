/- Contracts of the functions that these laws reach: part 18: The state of rerun.judge between two rounds; contract: the iterator; A range over a function at the wide fence, for an iterator that keeps a count in a cell; plain facts of rerun.judge; Plain laws of the sequential tests' chances: the value of a run, the rows of chances, Wald's bounds. -/
import Derived.Test.YtnofljgmkdommaaG16
import Derived.Test.YtnofljgmkdommaaG17
import Derived.Test.YtnofljgmkdommaaG14
set_option linter.unusedVariables false
set_option linter.unusedSimpArgs false

/- The state of rerun.judge between two rounds; contract: the iterator. -/
namespace Go.Proofs.Ytnofljgmkdommaa
open Go.RowKit Go.Shelf
attribute [local go_sem] Oper.semAt_some

/-- Nothing of the old has turned, and the verdict, the attempts used, the runs that failed lie in their boxes; so do the loop's record and the block of its deferred calls. -/
structure JW (w0 : World) (s : Sv) (A : Option Addr) (n c : Nat) (u f : Int) (D : Nat) (rc : Loop) (W : World) : Prop where
  bw : Below w0.heap.size w0 W
  sp : Cb W w0.heap.size s.cs
  li : Cb W (w0.heap.size + 1) [.slice A n c]
  vd : Cb W (w0.heap.size + 1 + 1) [.int .i64 0]
  us : Cb W (w0.heap.size + 1 + 1 + 1) [.int .i64 u]
  fa : Cb W (w0.heap.size + 1 + 1 + 1 + 1) [.int .i64 f]
  i0 : Cb W (w0.heap.size + 1 + 1 + 1 + 1 + 1) [.slice A n c]
  i1 : Cb W (w0.heap.size + 1 + 1 + 1 + 1 + 1 + 1) [.pointer (some ⟨w0.heap.size + 1 + 1 + 1, 0, none⟩)]
  df : W.heap[D]? = some (.deferred (some []))
  lo : W.heap[D + 1]? = some (.loop rc)
  dl : w0.heap.size + 7 ≤ D
theorem bw_one {w0 W W' : World} {g : Nat} (hb : Below w0.heap.size w0 W) (hf : Fr W W' (fun b => b = g)) (hg : w0.heap.size ≤ g) : Below w0.heap.size w0 W' :=
  ((Fr.of_below (fun _ => False) hb).step hf (fun i hi e => by omega)).below (Nat.le_refl _) (fun _ _ h => h)
theorem fr_set (W : World) (g i : Nat) (v : Value) : Fr W (W.setCell ⟨g, i, none⟩ v) (fun b => b = g) := (Fr.refl _ _).setCell (Or.inr (by rfl)) _
theorem fr_putObj (W : World) (g : Nat) (o : Obj) : Fr W (W.putObj g o) (fun b => b = g) := ⟨rfl, rfl, rfl, by simp, fun k _ hk => World.putObj_heap_other hk⟩
section
variable {w0 : World} {s : Sv} {A : Option Addr} {n c : Nat} {u f : Int} {D : Nat} {rc : Loop} {W W' : World}
theorem JW.below (h : JW w0 s A n c u f D rc W) (hb : Below W.heap.size W W') : JW w0 s A n c u f D rc W' :=
  ⟨h.bw.trans (hb.mono h.bw.size), h.sp.below hb, h.li.below hb, h.vd.below hb, h.us.below hb, h.fa.below hb, h.i0.below hb, h.i1.below hb,
    (hb.block _ (Array.getElem?_eq_some_iff.1 h.df).1).trans h.df, (hb.block _ (Array.getElem?_eq_some_iff.1 h.lo).1).trans h.lo, h.dl⟩
theorem JW.used (h : JW w0 s A n c u f D rc W) (u' : Int) : JW w0 s A n c u' f D rc (W.setCell ⟨w0.heap.size + 1 + 1 + 1, 0, none⟩ (.int .i64 u')) := by
  have hd := h.dl
  have hf := fr_set W (w0.heap.size + 1 + 1 + 1) 0 (.int .i64 u')
  exact ⟨bw_one h.bw hf (by omega), h.sp.one hf (by omega), h.li.one hf (by omega), h.vd.one hf (by omega), h.us.put 0 _ (by simp) (by simp), h.fa.one hf (by omega), h.i0.one hf (by omega), h.i1.one hf (by omega),
    (hf.block _ (Array.getElem?_eq_some_iff.1 h.df).1 (by omega)).trans h.df, (hf.block _ (Array.getElem?_eq_some_iff.1 h.lo).1 (by omega)).trans h.lo, h.dl⟩
theorem JW.failed (h : JW w0 s A n c u f D rc W) (f' : Int) : JW w0 s A n c u f' D rc (W.setCell ⟨w0.heap.size + 1 + 1 + 1 + 1, 0, none⟩ (.int .i64 f')) := by
  have hd := h.dl
  have hf := fr_set W (w0.heap.size + 1 + 1 + 1 + 1) 0 (.int .i64 f')
  exact ⟨bw_one h.bw hf (by omega), h.sp.one hf (by omega), h.li.one hf (by omega), h.vd.one hf (by omega), h.us.one hf (by omega), h.fa.put 0 _ (by simp) (by simp), h.i0.one hf (by omega), h.i1.one hf (by omega),
    (hf.block _ (Array.getElem?_eq_some_iff.1 h.df).1 (by omega)).trans h.df, (hf.block _ (Array.getElem?_eq_some_iff.1 h.lo).1 (by omega)).trans h.lo, h.dl⟩
theorem JW.again (h : JW w0 s A n c u f D rc W) : JW w0 s A n c u f D rc (W.setCell ⟨w0.heap.size + 1 + 1, 0, none⟩ (.int .i64 0)) := by
  have hd := h.dl
  have hf := fr_set W (w0.heap.size + 1 + 1) 0 (.int .i64 0)
  exact ⟨bw_one h.bw hf (by omega), h.sp.one hf (by omega), h.li.one hf (by omega), h.vd.put 0 _ (by simp) (by simp), h.us.one hf (by omega), h.fa.one hf (by omega), h.i0.one hf (by omega), h.i1.one hf (by omega),
    (hf.block _ (Array.getElem?_eq_some_iff.1 h.df).1 (by omega)).trans h.df, (hf.block _ (Array.getElem?_eq_some_iff.1 h.lo).1 (by omega)).trans h.lo, h.dl⟩
theorem JW.put (h : JW w0 s A n c u f D rc W) (rc' : Loop) : JW w0 s A n c u f D rc' (W.putObj (D + 1) (.loop rc')) := by
  have hd := h.dl
  have hf := fr_putObj W (D + 1) (.loop rc')
  exact ⟨bw_one h.bw hf (by omega), h.sp.one hf (by omega), h.li.one hf (by omega), h.vd.one hf (by omega), h.us.one hf (by omega), h.fa.one hf (by omega), h.i0.one hf (by omega), h.i1.one hf (by omega),
    (hf.block _ (Array.getElem?_eq_some_iff.1 h.df).1 (by omega)).trans h.df, World.putObj_heap_same (Array.getElem?_eq_some_iff.1 h.lo).1, h.dl⟩
theorem atts_at {xs : List (Bool × Bool)} (h : Rs w0 none 2 atv A xs) {k : Nat} {x : Bool × Bool} (hk : xs[k]? = some x) :
    ∃ b o, A = some ⟨b, o, none⟩ ∧ b < w0.heap.size ∧ w0.cell? ⟨b, o + k * 2, none⟩ = some (.bool x.1) ∧ w0.cell? ⟨b, o + k * 2 + 1, none⟩ = some (.bool x.2) := by
  obtain ⟨b, o, g1, -, g3, g4⟩ := h.at hk
  exact ⟨b, o, g1, g3, g4 0 _ rfl, g4 1 _ rfl⟩
end

end Go.Proofs.Ytnofljgmkdommaa

/- A range over a function at the wide fence, for an iterator that keeps a count in a cell; plain facts of rerun.judge. -/
namespace Go.Proofs.Ytnofljgmkdommaa
open Go.RowKit Go.Shelf
attribute [local go_sem] Oper.semAt_some

theorem rf_law {P : Program} {n : Nat} {g : Operand} {ps : Array Tmp} {assign body : Code} {Q : Exit → Act → World → Prop} {a : Act} {w : World} {gf : Nat} {lb ar : Array Value}
    (har : #[.func (.yield (w.heap.size + 1)) #[] #[]] ++ lb = ar) (hg : a.eval g = .func (.func gf) #[] lb) (eg : ∀ args w, (callFunc gf args).run P w = .ok (.enter gf args) w)
    (h : ∀ (fn : FuncId) (rc : Loop), rc.state = .ready → rc.pending = none →
      (∀ W args, W.heap[w.heap.size + 1]? = some (.loop rc) → args.size = ps.size → (Instr.yield (w.heap.size + 1) args).run P W = .ok (.round (w.heap.size + 1) fn ((ps.zip args).foldl (fun t (p, v) => t.setIfInBounds p v) a.tmps) assign body) W) →
      CallsIn Fence.wide (n - 1) P gf ar ((w.alloc (.deferred (some []))).alloc (.loop rc))
        (rangePost Fence.wide n P (w.heap.size + 1) Q { a with defers := { target := .collected w.heap.size, args := #[] } :: a.defers })) :
    (Code.rangeFunc g ps assign body).wpIn Fence.wide n P Q a w := by
  refine wpIn_rangeFunc ?_
  intro fn hfn
  obtain ⟨rc, hrc⟩ : ∃ rc : Loop, rc = { state := .ready, pending := none, fn, tmps := a.tmps, params := ps, assign, body, defers := w.heap.size } := ⟨_, rfl⟩
  obtain ⟨W1, hW1⟩ : ∃ W1, (w.alloc (.deferred (some []))).alloc (.loop rc) = W1 := ⟨_, rfl⟩
  refine ⟨w.heap.size + 1, [{ target := .collected w.heap.size, args := #[] }], W1, { target := .fn (.func gf) lb, args := #[.func (.yield (w.heap.size + 1)) #[] #[]] }, W1, gf, #[.func (.yield (w.heap.size + 1)) #[] #[]] ++ lb, W1, ?_, ?_, fun f' _ => trivial, ?_, fun hd => by simp [Fence.wide] at hd, ?_⟩
  · rw [← hW1, hrc]; exact run_enterLoop_outer fn a.tmps ps assign body
  · simp only [resolve, hg]
    simp [go_sem]
  · simp [invoke, go_sem, eg]
  · rw [← hW1, har]
    refine h fn rc (by rw [hrc]) (by rw [hrc]) ?_
    intro W args hl hs
    have := run_yield (P := P) hl (by rw [hrc]; exact hs)
    rw [this, hrc]

/-- What a run of rounds has come to: k attempts are used, f of the random ones failed. -/
def JI (g : Nat → Nat → Int) (M : Nat) (xs : List (Bool × Bool)) (k : Nat) (f : Int) : Prop :=
  ∃ m : Nat, f = (m : Int) ∧ ((k = 0 ∧ m = 0) ∨ ∃ r0, xs[0]? = some (true, r0) ∧ 1 ≤ k ∧ m + 1 ≤ k ∧ k ≤ M ∧ (2 ≤ k → r0 = true) ∧ jud g xs = judL g r0 (xs.drop k) k (k - 1 - m) m)
theorem JI.zero (g : Nat → Nat → Int) (M : Nat) (xs : List (Bool × Bool)) : JI g M xs 0 0 := ⟨0, rfl, .inl ⟨rfl, rfl⟩⟩
theorem JI.done {g : Nat → Nat → Int} {M : Nat} {xs : List (Bool × Bool)} {f : Int} (h : JI g M xs xs.length f) : jud g xs = (0, xs.length) := by
  obtain ⟨m, -, h | ⟨r0, h0, h1, h2, h3, h4, h5⟩⟩ := h
  · rw [List.length_eq_zero_iff.1 h.1]; rfl
  · rw [h5, List.drop_of_length_le (Nat.le_refl _)]; rfl
/-- The first attempt. -/
theorem jud_fine {g : Nat → Nat → Int} {xs : List (Bool × Bool)} {rd : Bool} (h : xs[0]? = some (false, rd)) : jud g xs = (5, 1) := by
  cases xs with
  | nil => simp at h
  | cons y t => obtain rfl : y = (false, rd) := by simpa using h
                rfl
theorem JI.first {g : Nat → Nat → Int} {M : Nat} {xs : List (Bool × Bool)} {rd : Bool} (hM : 1 ≤ M) (h : xs[0]? = some (true, rd)) : JI g M xs 1 0 := by
  cases xs with
  | nil => simp at h
  | cons y t =>
    obtain rfl : y = (true, rd) := by simpa using h
    exact ⟨0, rfl, .inr ⟨rd, rfl, by omega, by omega, hM, fun h => by omega, rfl⟩⟩
/-- An attempt behind the first one. -/
theorem drop_at {xs : List (Bool × Bool)} {k : Nat} {x : Bool × Bool} (h : xs[k]? = some x) : xs.drop k = x :: xs.drop (k + 1) := by
  obtain ⟨h1, h2⟩ := List.getElem?_eq_some_iff.1 h
  rw [List.drop_eq_getElem_cons h1, h2]
theorem JI.next {g : Nat → Nat → Int} {M : Nat} {xs : List (Bool × Bool)} {k : Nat} {f : Int} {fl rd : Bool} (hJ : JI g M xs k f) (hk : k ≠ 0) (hx : xs[k]? = some (fl, rd)) :
    ∃ (m : Nat) (r0 : Bool), f = (m : Int) ∧ xs[0]? = some (true, r0) ∧ m + 1 ≤ k ∧ k ≤ M ∧ (2 ≤ k → r0 = true) ∧
      (rd ≠ r0 → jud g xs = (4, k + 1)) ∧ (rd = r0 → rd = false → jud g xs = (if fl then 1 else 4, k + 1)) ∧
      (rd = r0 → rd = true → g (if fl then k - 1 - m else k - m) (if fl then m + 1 else m) ≠ 0 → jud g xs = (g (if fl then k - 1 - m else k - m) (if fl then m + 1 else m), k + 1)) ∧
      (rd = r0 → rd = true → g (if fl then k - 1 - m else k - m) (if fl then m + 1 else m) = 0 → k < M → JI g M xs (k + 1) (((if fl then m + 1 else m : Nat)) : Int)) := by
  obtain ⟨m, rfl, h | ⟨r0, h0, h1, h2, h3, h4, h5⟩⟩ := hJ
  · exact absurd h.1 hk
  · have ep : k - 1 - m + 1 = k - m := by omega
    rw [drop_at hx, judL, ep] at h5
    refine ⟨m, r0, rfl, h0, h2, h3, h4, fun h => ?_, fun h h' => ?_, fun h h' hg => ?_, fun h h' hg hM => ?_⟩
    · rw [h5, if_pos h]
    · rw [h5, if_neg (by simp [h]), if_pos h']
      cases fl <;> rfl
    · rw [h5, if_neg (by simp [h]), if_neg (by simp [h']), if_neg hg]
    · rw [if_neg (by simp [h]), if_neg (by simp [h']), if_pos hg] at h5
      refine ⟨_, rfl, .inr ⟨r0, h0, by omega, ?_, by omega, fun _ => by rw [← h]; exact h', ?_⟩⟩
      · cases fl <;> simp <;> omega
      · rw [h5]
        cases fl
        · simp only [Bool.false_eq_true, if_false]
          rw [show k + 1 - 1 - m = k - m by omega]
        · simp only [if_true]
          rw [show k + 1 - 1 - (m + 1) = k - 1 - m by omega]
/-- A round has left: the verdict and the attempts used lie in their boxes. -/
structure JX (w0 : World) (v u : Int) (D : Nat) (rc : Loop) (W : World) : Prop where
  bw : Below w0.heap.size w0 W
  vd : Cb W (w0.heap.size + 1 + 1) [.int .i64 v]
  us : Cb W (w0.heap.size + 1 + 1 + 1) [.int .i64 u]
  df : W.heap[D]? = some (.deferred (some []))
  lo : W.heap[D + 1]? = some (.loop rc)
  dl : w0.heap.size + 7 ≤ D
section
variable {w0 : World} {s : Sv} {A : Option Addr} {n c : Nat} {u f v : Int} {D : Nat} {rc : Loop} {W W' : World}
theorem JW.x (h : JW w0 s A n c u f D rc W) : JX w0 0 u D rc W := ⟨h.bw, h.vd, h.us, h.df, h.lo, h.dl⟩
theorem JX.drew (h : JX w0 v u D rc W) : JX w0 v u D rc W.drew := ⟨h.bw.drew, h.vd.drew, h.us.drew, h.df, h.lo, h.dl⟩
theorem JX.verdict (h : JX w0 v u D rc W) (v' : Int) : JX w0 v' u D rc (W.setCell ⟨w0.heap.size + 1 + 1, 0, none⟩ (.int .i64 v')) := by
  have hd := h.dl
  have hf := fr_set W (w0.heap.size + 1 + 1) 0 (.int .i64 v')
  exact ⟨bw_one h.bw hf (by omega), h.vd.put 0 _ (by simp) (by simp), h.us.one hf (by omega),
    (hf.block _ (Array.getElem?_eq_some_iff.1 h.df).1 (by omega)).trans h.df, (hf.block _ (Array.getElem?_eq_some_iff.1 h.lo).1 (by omega)).trans h.lo, h.dl⟩
theorem JX.used (h : JX w0 v u D rc W) (u' : Int) : JX w0 v u' D rc (W.setCell ⟨w0.heap.size + 1 + 1 + 1, 0, none⟩ (.int .i64 u')) := by
  have hd := h.dl
  have hf := fr_set W (w0.heap.size + 1 + 1 + 1) 0 (.int .i64 u')
  exact ⟨bw_one h.bw hf (by omega), h.vd.one hf (by omega), h.us.put 0 _ (by simp) (by simp),
    (hf.block _ (Array.getElem?_eq_some_iff.1 h.df).1 (by omega)).trans h.df, (hf.block _ (Array.getElem?_eq_some_iff.1 h.lo).1 (by omega)).trans h.lo, h.dl⟩
theorem JX.put (h : JX w0 v u D rc W) (rc' : Loop) : JX w0 v u D rc' (W.putObj (D + 1) (.loop rc')) := by
  have hd := h.dl
  have hf := fr_putObj W (D + 1) (.loop rc')
  exact ⟨bw_one h.bw hf (by omega), h.vd.one hf (by omega), h.us.one hf (by omega),
    (hf.block _ (Array.getElem?_eq_some_iff.1 h.df).1 (by omega)).trans h.df, World.putObj_heap_same (Array.getElem?_eq_some_iff.1 h.lo).1, h.dl⟩
end
theorem JX.fin {w0 : World} {v u : Int} {D : Nat} {rc : Loop} {W : World} (h : JX w0 v u D rc W) (o : Obj) :
    Below w0.heap.size w0 (W.putObj D o) ∧ (W.putObj D o).cell? ⟨w0.heap.size + 1 + 1, 0, none⟩ = some (.int .i64 v) ∧ (W.putObj D o).cell? ⟨w0.heap.size + 1 + 1 + 1, 0, none⟩ = some (.int .i64 u) := by
  have hd := h.dl
  have hf := fr_putObj W D o
  exact ⟨bw_one h.bw hf (by omega), (h.vd.one hf (by omega)).cell 0 _ rfl, (h.us.one hf (by omega)).cell 0 _ rfl⟩
theorem JW.round {P : Program} {w0 : World} {s : Sv} {A : Option Addr} {n c : Nat} {u f : Int} {D : Nat} {rc : Loop} {W : World} (h : JW w0 s A n c u f D { rc with state := .busy } W) (hr1 : rc.state = .ready) (hr2 : rc.pending = none) :
    ∃ v w', (Instr.endRound (D + 1) none).run P W = .ok v w' ∧ v = .bool true ∧ JW w0 s A n c u f D rc w' := by
  have e : ({ { rc with state := .busy } with state := .ready, pending := none } : Loop) = rc := by
    cases rc
    simp only at hr1 hr2
    subst hr1
    subst hr2
    rfl
  have h2 := h.put rc
  refine ⟨_, _, run_endRound none h.lo, rfl, ?_⟩
  have e2 : ({ { rc with state := .busy } with state := if (none : Option Code).isNone then .ready else .done, pending := none } : Loop) = rc := e
  rw [e2]
  exact h2
theorem JX.round {P : Program} {w0 : World} {v u : Int} {D : Nat} {rc : Loop} {W : World} (h : JX w0 v u D rc W) :
    ∃ v' w' rc', (Instr.endRound (D + 1) (some .ret)).run P W = .ok v' w' ∧ v' = .bool false ∧ rc'.state = .done ∧ rc'.pending = some .ret ∧ JX w0 v u D rc' w' :=
  ⟨_, _, _, run_endRound (some .ret) h.lo, rfl, rfl, rfl, h.put _⟩
theorem JW.post {P : Program} {w0 : World} {s : Sv} {A : Option Addr} {n c : Nat} {u f : Int} {D : Nat} {rc : Loop} {W : World} {R : Ending → World → Prop} {a : Act} (h : JW w0 s A n c u f D { rc with state := .busy } W) (hr1 : rc.state = .ready) (hr2 : rc.pending = none)
    (hR : ∀ w', JW w0 s A n c u f D rc w' → R (.returned (.bool true)) w') : roundPost P (D + 1) R .normal a W := by
  obtain ⟨v, w', hr, rfl, hw⟩ := h.round (P := P) hr1 hr2
  exact ⟨_, w', hr, hR w' hw⟩
theorem JX.post {P : Program} {w0 : World} {v u : Int} {D : Nat} {rc : Loop} {W : World} {R : Ending → World → Prop} {a : Act} (h : JX w0 v u D rc W)
    (hR : ∀ w' rc', rc'.state = .done → rc'.pending = some .ret → JX w0 v u D rc' w' → R (.returned (.bool false)) w') : roundPost P (D + 1) R .ret a W := by
  obtain ⟨v', w', rc', hr, rfl, hs, hp, hx⟩ := h.round (P := P)
  exact ⟨_, w', hr, hR w' rc' hs hp hx⟩
theorem JX.below {w0 : World} {v u : Int} {D : Nat} {rc : Loop} {W W' : World} (h : JX w0 v u D rc W) (hb : Below W.heap.size W W') : JX w0 v u D rc W' :=
  ⟨h.bw.trans (hb.mono h.bw.size), h.vd.below hb, h.us.below hb, (hb.block _ (Array.getElem?_eq_some_iff.1 h.df).1).trans h.df, (hb.block _ (Array.getElem?_eq_some_iff.1 h.lo).1).trans h.lo, h.dl⟩
theorem JX.alloc {w0 : World} {v u : Int} {D : Nat} {rc : Loop} {W : World} (h : JX w0 v u D rc W) (o : Obj) : JX w0 v u D rc (W.alloc o) := h.below ((Below.refl _ _).alloc (Nat.le_refl _) _)
/-- Behind the call of the iterator's maker. -/
structure JP (w0 : World) (s : Sv) (A : Option Addr) (n c : Nat) (W : World) : Prop where
  bw : Below w0.heap.size w0 W
  sp : Cb W w0.heap.size s.cs
  li : Cb W (w0.heap.size + 1) [.slice A n c]
  vd : Cb W (w0.heap.size + 1 + 1) [.int .i64 0]
  us : Cb W (w0.heap.size + 1 + 1 + 1) [.int .i64 0]
  fa : Cb W (w0.heap.size + 1 + 1 + 1 + 1) [.int .i64 0]
  i0 : Cb W (w0.heap.size + 1 + 1 + 1 + 1 + 1) [.slice A n c]
  i1 : Cb W (w0.heap.size + 1 + 1 + 1 + 1 + 1 + 1) [.pointer (some ⟨w0.heap.size + 1 + 1 + 1, 0, none⟩)]
  sz : W.heap.size = w0.heap.size + 7
theorem JP.mk0 {w v W : World} {s : Sv} {A : Option Addr} {n c : Nat} (t1 t2 t3 t4 t5 : TypeId) (hv : v = (((((w.alloc (.cells s.cs.toArray t1)).alloc (.cells #[.slice A n c] t2)).alloc (.cells #[.int .i64 0] t3)).alloc (.cells #[.int .i64 0] t4)).alloc (.cells #[.int .i64 0] t5)))
    (h0 : Cb W (w.heap.size + 1 + 1 + 1 + 1 + 1) [.slice A n c]) (h1 : Cb W (w.heap.size + 1 + 1 + 1 + 1 + 1 + 1) [.pointer (some ⟨w.heap.size + 1 + 1 + 1, 0, none⟩)]) (hz : W.heap.size = v.heap.size + 2) (hb : Below v.heap.size v W) : JP w s A n c W := by
  have hv1 : Below w.heap.size w v := by
    rw [hv]
    exact (((((Below.refl _ _).alloc (Nat.le_refl _) _).alloc (by simp) _).alloc (by simp; omega) _).alloc (by simp; omega) _).alloc (by simp; omega) _
  have b0 : Cb v w.heap.size s.cs := by
    rw [hv]; exact ((((Cb.mk0 s.cs (by simp [Sv.cs]) t1 rfl).alloc _).alloc _).alloc _).alloc _
  have b1 : Cb v (w.heap.size + 1) [.slice A n c] := by
    rw [hv]; exact (((Cb.mk0 [.slice A n c] (by simp) t2 (by simp)).alloc _).alloc _).alloc _
  have b2 : Cb v (w.heap.size + 1 + 1) [.int .i64 0] := by
    rw [hv]; exact ((Cb.mk0 [.int .i64 0] (by simp) t3 (by simp)).alloc _).alloc _
  have b3 : Cb v (w.heap.size + 1 + 1 + 1) [.int .i64 0] := by
    rw [hv]; exact (Cb.mk0 [.int .i64 0] (by simp) t4 (by simp)).alloc _
  have b4 : Cb v (w.heap.size + 1 + 1 + 1 + 1) [.int .i64 0] := by
    rw [hv]; exact Cb.mk0 [.int .i64 0] (by simp) t5 (by simp)
  have hs : v.heap.size = w.heap.size + 5 := by rw [hv]; simp
  exact ⟨hv1.trans (hb.mono hv1.size), b0.below hb, b1.below hb, b2.below hb, b3.below hb, b4.below hb, h0, h1, by omega⟩
theorem JP.start {w0 W : World} {s : Sv} {A : Option Addr} {n c : Nat} (h : JP w0 s A n c W) (rc : Loop) : JW w0 s A n c 0 0 W.heap.size rc ((W.alloc (.deferred (some []))).alloc (.loop rc)) := by
  have hb : Below W.heap.size W ((W.alloc (.deferred (some []))).alloc (.loop rc)) := ((Below.refl _ _).alloc (Nat.le_refl _) _).alloc (by simp) _
  refine ⟨h.bw.trans (hb.mono h.bw.size), h.sp.below hb, h.li.below hb, h.vd.below hb, h.us.below hb, h.fa.below hb, h.i0.below hb, h.i1.below hb, ?_, ?_, by have := h.sz; omega⟩
  · exact (Below.heap_alloc _ _ _ (by simp)).trans (World.alloc_heap_new W _)
  · have := World.alloc_heap_new (W.alloc (.deferred (some []))) (.loop rc)
    rwa [World.size_alloc] at this
end Go.Proofs.Ytnofljgmkdommaa

/- Plain laws of the sequential tests' chances: the value of a run, the rows of chances, Wald's bounds. -/
namespace Go.Proofs.Ytnofljgmkdommaa

/-- The value of a run that ends with a decision, or after k more outcomes. -/
def val (d : Nat → Nat → Int) (x : Rat) (g : Int → Nat → Rat) : Nat → Nat → Nat → Rat
  | 0, p, f => g (d p f) (p + f)
  | k + 1, p, f => if d p f ≠ 0 then g (d p f) (p + f) else x * val d x g k p (f + 1) + (1 - x) * val d x g k (p + 1) f
def gF (D : Int) (_ : Nat) : Rat := if D = 2 then 1 else 0
def gS (D : Int) (_ : Nat) : Rat := if D = 1 then 1 else 0
def gO (D : Int) (_ : Nat) : Rat := if D = 0 then 1 else 0
def gN (_ : Int) (n : Nat) : Rat := (n : Rat)
theorem val_dec {d : Nat → Nat → Int} {x : Rat} {g : Int → Nat → Rat} {k p f : Nat} (h : d p f ≠ 0) : val d x g k p f = g (d p f) (p + f) := by
  cases k with
  | zero => rfl
  | succ k => show (if d p f ≠ 0 then _ else _) = _; rw [if_pos h]
theorem val_open {d : Nat → Nat → Int} {x : Rat} {g : Int → Nat → Rat} {k p f : Nat} (h : d p f = 0) : val d x g (k + 1) p f = x * val d x g k p (f + 1) + (1 - x) * val d x g k (p + 1) f := by
  show (if d p f ≠ 0 then _ else _) = _; rw [if_neg (by simp [h])]
theorem val_zero (d : Nat → Nat → Int) (x : Rat) (g : Int → Nat → Rat) (p f : Nat) : val d x g 0 p f = g (d p f) (p + f) := rfl

/-! ### Rows -/
/-- The sum of a row's chances, each with its value. -/
def dp (V : Nat → Rat) : List Rat → Nat → Rat
  | [], _ => 0
  | a :: t, i => a * V i + dp V t (i + 1)
/-- The next row: what was carried, and what passes and fails. -/
def spr (q x c : Rat) : List Rat → List Rat
  | [] => [c]
  | a :: t => (c + a * q) :: spr q x (a * x) t
/-- What is decided so. -/
def hit (d : Nat → Nat → Int) (D : Int) (n : Nat) : List Rat → Nat → Rat
  | [], _ => 0
  | a :: t, i => (if d (n - i) i = D then a else 0) + hit d D n t (i + 1)
/-- What is not decided. -/
def cln (d : Nat → Nat → Int) (n : Nat) : List Rat → Nat → List Rat
  | [], _ => []
  | a :: t, i => (if d (n - i) i = 0 then a else 0) :: cln d n t (i + 1)
def sumL : List Rat → Rat
  | [] => 0
  | a :: t => a + sumL t
theorem spr_length (q x c : Rat) : ∀ l : List Rat, (spr q x c l).length = l.length + 1
  | [] => rfl
  | a :: t => by simp [spr, spr_length q x (a * x) t]
theorem cln_length (d : Nat → Nat → Int) (n : Nat) : ∀ (l : List Rat) (i : Nat), (cln d n l i).length = l.length
  | [], _ => rfl
  | a :: t, i => by simp [cln, cln_length d n t (i + 1)]
theorem dp_spr (V : Nat → Rat) (q x : Rat) : ∀ (l : List Rat) (c : Rat) (i : Nat), dp V (spr q x c l) i = c * V i + dp (fun f => x * V (f + 1) + q * V f) l i
  | [], c, i => by simp only [spr, dp]
  | a :: t, c, i => by
    simp only [spr, dp, dp_spr V q x t (a * x) (i + 1)]
    grind
theorem dp_one : ∀ (l : List Rat) (i : Nat), dp (fun _ => 1) l i = sumL l
  | [], _ => rfl
  | a :: t, i => by simp only [dp, sumL, dp_one t (i + 1), Rat.mul_one]
theorem sumL_spr (q x : Rat) (h : q + x = 1) (l : List Rat) (c : Rat) : sumL (spr q x c l) = c + sumL l := by
  rw [← dp_one _ 0, dp_spr, ← dp_one l 0, Rat.mul_one]
  congr 1
  congr 1
  funext f
  grind
/-- Chances stand only at open places. -/
def Und (d : Nat → Nat → Int) (n : Nat) : List Rat → Nat → Prop
  | [], _ => True
  | a :: t, i => (a ≠ 0 → d (n - i) i = 0) ∧ Und d n t (i + 1)
theorem und_cln (d : Nat → Nat → Int) (n : Nat) : ∀ (l : List Rat) (i : Nat), Und d n (cln d n l i) i
  | [], _ => trivial
  | a :: t, i => ⟨fun h => by by_cases h1 : d (n - i) i = 0; · exact h1
                              · exact absurd (if_neg h1) h, und_cln d n t (i + 1)⟩
theorem dp_congr {d : Nat → Nat → Int} {n : Nat} {V W : Nat → Rat} : ∀ (l : List Rat) (i : Nat), Und d n l i → (∀ j, i ≤ j → j < i + l.length → d (n - j) j = 0 → V j = W j) → dp V l i = dp W l i
  | [], _, _, _ => rfl
  | a :: t, i, h, hV => by
    simp only [dp]
    rw [dp_congr t (i + 1) h.2 (fun j h1 h2 h3 => hV j (by omega) (by simp only [List.length_cons]; omega) h3)]
    by_cases ha : a = 0
    · subst ha; simp
    · rw [hV i (Nat.le_refl _) (by simp) (h.1 ha)]
theorem dp_cln (d : Nat → Nat → Int) (hd : ∀ p f, d p f = 0 ∨ d p f = 1 ∨ d p f = 2) (n : Nat) (V : Nat → Rat) (u v : Rat) : ∀ (l : List Rat) (i : Nat), (∀ j, d (n - j) j = 1 → V j = u) → (∀ j, d (n - j) j = 2 → V j = v) →
    dp V l i = dp V (cln d n l i) i + u * hit d 1 n l i + v * hit d 2 n l i
  | [], _, _, _ => by simp [dp, cln, hit]; grind
  | a :: t, i, h1, h2 => by
    simp only [dp, cln, hit, dp_cln d hd n V u v t (i + 1) h1 h2]
    rcases hd (n - i) i with h | h | h
    · rw [h]; simp only [if_true]; rw [if_neg (by decide), if_neg (by decide)]; grind
    · have := h1 i h
      rw [h]; simp only [if_true]; rw [if_neg (by decide), if_neg (by decide), this]; grind
    · have := h2 i h
      rw [h]; simp only [if_true]; rw [if_neg (by decide), if_neg (by decide), this]; grind

/-- Without a value where it is decided. -/
theorem dp_clean (d : Nat → Nat → Int) (n : Nat) (V : Nat → Rat) : ∀ (l : List Rat) (i : Nat), (∀ j, i ≤ j → j < i + l.length → d (n - j) j ≠ 0 → V j = 0) → dp V l i = dp V (cln d n l i) i
  | [], _, _ => rfl
  | a :: t, i, h => by
    simp only [dp, cln]
    rw [dp_clean d n V t (i + 1) (fun j h1 h2 h3 => h j (by omega) (by simp only [List.length_cons]; omega) h3)]
    by_cases hd : d (n - i) i = 0
    · rw [if_pos hd]
    · rw [if_neg hd, h i (Nat.le_refl _) (by simp) hd]; simp
/-- The state of a run of rows: the row, the chances of Flaky and Stable, the expected number. -/
structure Wk where
  row : List Rat
  fl : Rat
  st : Rat
  ex : Rat
def Wk.zero : Wk := ⟨[1], 0, 0, 0⟩
def Wk.next (d : Nat → Nat → Int) (x : Rat) (n : Nat) (s : Wk) : Wk :=
  ⟨cln d n (spr (1 - x) x 0 s.row) 0, s.fl + hit d 2 n (spr (1 - x) x 0 s.row) 0, s.st + hit d 1 n (spr (1 - x) x 0 s.row) 0, s.ex + sumL s.row⟩
def Wk.after (d : Nat → Nat → Int) (x : Rat) : Nat → Wk
  | 0 => Wk.zero
  | n + 1 => (Wk.after d x n).next d x (n + 1)
theorem after_len (d : Nat → Nat → Int) (x : Rat) : ∀ n, (Wk.after d x n).row.length = n + 1
  | 0 => rfl
  | n + 1 => by show (cln d (n + 1) (spr _ _ _ _) 0).length = _; rw [cln_length, spr_length, after_len d x n]
theorem after_und (d : Nat → Nat → Int) (h0 : d 0 0 = 0) (x : Rat) : ∀ n, Und d n (Wk.after d x n).row 0
  | 0 => ⟨fun _ => h0, trivial⟩
  | n + 1 => und_cln d (n + 1) _ 0
theorem sub_succ_left {n f : Nat} (h : f ≤ n) : n + 1 - f = n - f + 1 := by omega
/-- One step, for a payoff that does not count the outcomes. -/
theorem after_val (d : Nat → Nat → Int) (hd : ∀ p f, d p f = 0 ∨ d p f = 1 ∨ d p f = 2) (h0 : d 0 0 = 0) (x : Rat) (g : Int → Nat → Rat) (M : Nat) (u v : Rat) (hu : ∀ n, g 1 n = u) (hv : ∀ n, g 2 n = v) :
    ∀ n, n ≤ M → val d x g M 0 0 = dp (fun f => val d x g (M - n) (n - f) f) (Wk.after d x n).row 0 + u * (Wk.after d x n).st + v * (Wk.after d x n).fl
  | 0, _ => by simp only [Wk.after, Wk.zero, dp, Nat.sub_zero]; grind
  | n + 1, h => by
    rw [after_val d hd h0 x g M u v hu hv n (by omega)]
    have e1 : dp (fun f => val d x g (M - n) (n - f) f) (Wk.after d x n).row 0 = dp (fun f => x * val d x g (M - (n + 1)) (n + 1 - (f + 1)) (f + 1) + (1 - x) * val d x g (M - (n + 1)) (n + 1 - f) f) (Wk.after d x n).row 0 := by
      refine dp_congr _ 0 (after_und d h0 x n) (fun j _ hj hdj => ?_)
      rw [after_len] at hj
      rw [show M - n = (M - (n + 1)) + 1 by omega, val_open hdj, Nat.add_sub_add_right, sub_succ_left (by omega)]
    have e2 := dp_spr (fun f => val d x g (M - (n + 1)) (n + 1 - f) f) (1 - x) x (Wk.after d x n).row 0 0
    have e3 := dp_cln d hd (n + 1) (fun f => val d x g (M - (n + 1)) (n + 1 - f) f) u v (spr (1 - x) x 0 (Wk.after d x n).row) 0 (fun j hj => by show val _ _ _ _ _ _ = _; rw [val_dec (by rw [hj]; decide), hj, hu]) (fun j hj => by show val _ _ _ _ _ _ = _; rw [val_dec (by rw [hj]; decide), hj, hv])
    show _ = dp _ (cln d (n + 1) (spr (1 - x) x 0 (Wk.after d x n).row) 0) 0 + u * ((Wk.after d x n).st + hit d 1 (n + 1) (spr (1 - x) x 0 (Wk.after d x n).row) 0) + v * ((Wk.after d x n).fl + hit d 2 (n + 1) (spr (1 - x) x 0 (Wk.after d x n).row) 0)
    rw [e1]
    grind
theorem dp_add_one (V : Nat → Rat) : ∀ (l : List Rat) (i : Nat), dp (fun f => V f + 1) l i = dp V l i + sumL l
  | [], _ => by simp only [dp, sumL]; grind
  | a :: t, i => by simp only [dp, sumL, dp_add_one V t (i + 1)]; grind
/-- The same for the number of outcomes. -/
theorem after_num (d : Nat → Nat → Int) (hd : ∀ p f, d p f = 0 ∨ d p f = 1 ∨ d p f = 2) (h0 : d 0 0 = 0) (x : Rat) (M : Nat) :
    ∀ n, n ≤ M → val d x gN M 0 0 = dp (fun f => val d x gN (M - n) (n - f) f - (n : Rat)) (Wk.after d x n).row 0 + (Wk.after d x n).ex
  | 0, _ => by simp only [Wk.after, Wk.zero, dp, Nat.sub_zero]; grind
  | n + 1, h => by
    rw [after_num d hd h0 x M n (by omega)]
    have e1 : dp (fun f => val d x gN (M - n) (n - f) f - (n : Rat)) (Wk.after d x n).row 0 = dp (fun f => (x * (val d x gN (M - (n + 1)) (n + 1 - (f + 1)) (f + 1) - ((n + 1 : Nat) : Rat)) + (1 - x) * (val d x gN (M - (n + 1)) (n + 1 - f) f - ((n + 1 : Nat) : Rat))) + 1) (Wk.after d x n).row 0 := by
      refine dp_congr _ 0 (after_und d h0 x n) (fun j _ hj hdj => ?_)
      rw [after_len] at hj
      rw [show M - n = (M - (n + 1)) + 1 by omega, val_open hdj, Nat.add_sub_add_right, sub_succ_left (by omega)]
      have : ((n + 1 : Nat) : Rat) = (n : Rat) + 1 := by simp
      rw [this]
      grind
    rw [dp_add_one] at e1
    have e2 := dp_spr (fun f => val d x gN (M - (n + 1)) (n + 1 - f) f - ((n + 1 : Nat) : Rat)) (1 - x) x (Wk.after d x n).row 0 0
    have e4 : dp (fun f => val d x gN (M - (n + 1)) (n + 1 - f) f - ((n + 1 : Nat) : Rat)) (spr (1 - x) x 0 (Wk.after d x n).row) 0 = dp (fun f => val d x gN (M - (n + 1)) (n + 1 - f) f - ((n + 1 : Nat) : Rat)) (cln d (n + 1) (spr (1 - x) x 0 (Wk.after d x n).row) 0) 0 := by
      refine dp_clean d (n + 1) _ _ 0 (fun j _ hj hdj => ?_)
      rw [spr_length, after_len] at hj
      show val _ _ _ _ _ _ - _ = _
      rw [val_dec hdj]
      show ((n + 1 - j + j : Nat) : Rat) - _ = _
      rw [show n + 1 - j + j = n + 1 by omega]
      grind
    show _ = dp _ (cln d (n + 1) (spr (1 - x) x 0 (Wk.after d x n).row) 0) 0 + ((Wk.after d x n).ex + sumL (Wk.after d x n).row)
    rw [e1]
    grind
theorem dp_const (c : Rat) : ∀ (l : List Rat) (i : Nat), dp (fun _ => c) l i = c * sumL l
  | [], _ => by simp only [dp, sumL]; grind
  | a :: t, i => by simp only [dp, sumL, dp_const c t (i + 1)]; grind
section
variable {d : Nat → Nat → Int} (hd : ∀ p f, d p f = 0 ∨ d p f = 1 ∨ d p f = 2) (h0 : d 0 0 = 0) (x : Rat) (M : Nat)
include hd h0
theorem after_end (g : Int → Nat → Rat) (u v c : Rat) (hu : ∀ n, g 1 n = u) (hv : ∀ n, g 2 n = v) (hc : ∀ n, g 0 n = c) : val d x g M 0 0 = c * sumL (Wk.after d x M).row + u * (Wk.after d x M).st + v * (Wk.after d x M).fl := by
  rw [after_val d hd h0 x g M u v hu hv M (Nat.le_refl _), ← dp_const c _ 0]
  congr 2
  refine dp_congr _ 0 (after_und d h0 x M) (fun j _ _ hdj => ?_)
  rw [Nat.sub_self, val_zero, hdj, hc]
theorem after_fl : val d x gF M 0 0 = (Wk.after d x M).fl := by
  rw [after_end hd h0 x M gF 0 1 0 (fun _ => rfl) (fun _ => rfl) (fun _ => rfl)]; grind
theorem after_st : val d x gS M 0 0 = (Wk.after d x M).st := by
  rw [after_end hd h0 x M gS 1 0 0 (fun _ => rfl) (fun _ => rfl) (fun _ => rfl)]; grind
theorem after_op : val d x gO M 0 0 = sumL (Wk.after d x M).row := by
  rw [after_end hd h0 x M gO 0 0 1 (fun _ => rfl) (fun _ => rfl) (fun _ => rfl)]; grind
theorem after_ex : val d x gN M 0 0 = (Wk.after d x M).ex := by
  rw [after_num d hd h0 x M M (Nat.le_refl _), Nat.sub_self]
  have : dp (fun f => val d x gN 0 (M - f) f - (M : Rat)) (Wk.after d x M).row 0 = dp (fun _ => 0) (Wk.after d x M).row 0 := by
    refine dp_congr _ 0 (after_und d h0 x M) (fun j _ hj hdj => ?_)
    rw [after_len] at hj
    rw [val_zero]
    show ((M - j + j : Nat) : Rat) - _ = _
    rw [show M - j + j = M by omega]
    grind
  rw [this, dp_const]
  grind
end

/-! ### Chances -/
theorem one_sub_nonneg {x : Rat} (h : x ≤ 1) : 0 ≤ 1 - x := by grind
theorem mix_mono {x a b a' b' : Rat} (h0 : 0 ≤ x) (h1 : x ≤ 1) (ha : a ≤ a') (hb : b ≤ b') : x * a + (1 - x) * b ≤ x * a' + (1 - x) * b' := by
  have k1 := Rat.mul_le_mul_of_nonneg_left ha h0
  have k2 := Rat.mul_le_mul_of_nonneg_left hb (one_sub_nonneg h1)
  grind
theorem mix_const (x c : Rat) : x * c + (1 - x) * c = c := by grind
theorem mix_up {x y a b : Rat} (hxy : x ≤ y) (hba : b ≤ a) : x * a + (1 - x) * b ≤ y * a + (1 - y) * b := by
  have : 0 ≤ (y - x) * (a - b) := Rat.mul_nonneg (by grind) (by grind)
  grind
theorem val_le {d : Nat → Nat → Int} {x : Rat} (hx0 : 0 ≤ x) (hx1 : x ≤ 1) {g g' : Int → Nat → Rat} (h : ∀ D n, g D n ≤ g' D n) : ∀ k p f, val d x g k p f ≤ val d x g' k p f
  | 0, p, f => h _ _
  | k + 1, p, f => by
    by_cases hd : d p f = 0
    · rw [val_open hd, val_open hd]
      exact mix_mono hx0 hx1 (val_le hx0 hx1 h k p (f + 1)) (val_le hx0 hx1 h k (p + 1) f)
    · rw [val_dec hd, val_dec hd]
      exact h _ _
theorem val_const (d : Nat → Nat → Int) (x c : Rat) : ∀ k p f, val d x (fun _ _ => c) k p f = c
  | 0, _, _ => rfl
  | k + 1, p, f => by
    by_cases hd : d p f = 0
    · rw [val_open hd, val_const d x c k, val_const d x c k, mix_const]
    · rw [val_dec hd]
theorem val_nonneg {d : Nat → Nat → Int} {x : Rat} (hx0 : 0 ≤ x) (hx1 : x ≤ 1) {g : Int → Nat → Rat} (h : ∀ D n, 0 ≤ g D n) (k p f : Nat) : 0 ≤ val d x g k p f := by
  have := val_le (d := d) hx0 hx1 (g := fun _ _ => 0) h k p f
  rwa [val_const] at this
theorem val_le_one {d : Nat → Nat → Int} {x : Rat} (hx0 : 0 ≤ x) (hx1 : x ≤ 1) {g : Int → Nat → Rat} (h : ∀ D n, g D n ≤ 1) (k p f : Nat) : val d x g k p f ≤ 1 := by
  have := val_le (d := d) hx0 hx1 (g' := fun _ _ => 1) h k p f
  rwa [val_const] at this
theorem gF_nn (D : Int) (n : Nat) : 0 ≤ gF D n := by unfold gF; split <;> decide
theorem gS_nn (D : Int) (n : Nat) : 0 ≤ gS D n := by unfold gS; split <;> decide
theorem gO_nn (D : Int) (n : Nat) : 0 ≤ gO D n := by unfold gO; split <;> decide
theorem gF_le (D : Int) (n : Nat) : gF D n ≤ 1 := by unfold gF; split <;> decide
theorem gS_le (D : Int) (n : Nat) : gS D n ≤ 1 := by unfold gS; split <;> decide
theorem gO_le (D : Int) (n : Nat) : gO D n ≤ 1 := by unfold gO; split <;> decide
theorem nat_nn (n : Nat) : (0 : Rat) ≤ (n : Rat) := by exact_mod_cast Nat.zero_le n
/-- The three chances are together 1. -/
theorem val_three {d : Nat → Nat → Int} (hd : ∀ p f, d p f = 0 ∨ d p f = 1 ∨ d p f = 2) (x : Rat) : ∀ k p f, val d x gF k p f + val d x gS k p f + val d x gO k p f = 1
  | 0, p, f => by
    simp only [val_zero, gF, gS, gO]
    rcases hd p f with h | h | h <;> rw [h] <;> decide +kernel
  | k + 1, p, f => by
    rcases hd p f with h | h | h
    · rw [val_open h, val_open h, val_open h]
      have h1 := val_three hd x k p (f + 1)
      have h2 := val_three hd x k (p + 1) f
      generalize val d x gF k p (f + 1) = a1 at *
      generalize val d x gS k p (f + 1) = a2 at *
      generalize val d x gO k p (f + 1) = a3 at *
      generalize val d x gF k (p + 1) f = b1 at *
      generalize val d x gS k (p + 1) f = b2 at *
      generalize val d x gO k (p + 1) f = b3 at *
      have e : x * a1 + (1 - x) * b1 + (x * a2 + (1 - x) * b2) + (x * a3 + (1 - x) * b3) = x * (a1 + a2 + a3) + (1 - x) * (b1 + b2 + b3) := by grind
      rw [e, h1, h2]
      grind
    · rw [val_dec (by omega), val_dec (by omega), val_dec (by omega), h]; simp only [gF, gS, gO]; decide +kernel
    · rw [val_dec (by omega), val_dec (by omega), val_dec (by omega), h]; simp only [gF, gS, gO]; decide +kernel
theorem cast_succ (n : Nat) : ((n + 1 : Nat) : Rat) = (n : Rat) + 1 := by simp
/-- The number of outcomes. -/
theorem val_num {d : Nat → Nat → Int} {x : Rat} (hx0 : 0 ≤ x) (hx1 : x ≤ 1) : ∀ k p f, ((p + f : Nat) : Rat) ≤ val d x gN k p f ∧ val d x gN k p f ≤ ((p + f + k : Nat) : Rat)
  | 0, p, f => ⟨Rat.le_refl, Rat.le_refl⟩
  | k + 1, p, f => by
    by_cases hd : d p f = 0
    · rw [val_open hd]
      have h1 := val_num (d := d) hx0 hx1 k p (f + 1)
      have h2 := val_num (d := d) hx0 hx1 k (p + 1) f
      rw [show p + (f + 1) = p + f + 1 by omega] at h1
      rw [show p + 1 + f = p + f + 1 by omega] at h2
      have h3 := mix_mono hx0 hx1 h1.1 h2.1
      have h4 := mix_mono hx0 hx1 h1.2 h2.2
      rw [mix_const] at h3 h4
      refine ⟨Rat.le_trans ?_ h3, by rwa [show p + f + (k + 1) = p + f + 1 + k by omega]⟩
      rw [cast_succ]
      grind
    · rw [val_dec hd]
      refine ⟨Rat.le_refl, ?_⟩
      show ((p + f : Nat) : Rat) ≤ _
      exact_mod_cast (by omega : p + f ≤ p + f + (k + 1))
theorem val_num1 {d : Nat → Nat → Int} {x : Rat} (hx0 : 0 ≤ x) (hx1 : x ≤ 1) (h0 : d 0 0 = 0) {M : Nat} (hM : 1 ≤ M) : 1 ≤ val d x gN M 0 0 ∧ val d x gN M 0 0 ≤ (M : Rat) := by
  refine ⟨?_, by have := (val_num (d := d) hx0 hx1 M 0 0).2; simpa using this⟩
  obtain ⟨k, rfl⟩ : ∃ k, M = k + 1 := ⟨M - 1, by omega⟩
  rw [val_open h0]
  have h1 : (1 : Rat) ≤ val d x gN k 0 (0 + 1) := by have := (val_num (d := d) hx0 hx1 k 0 (0 + 1)).1; simpa using this
  have h2 : (1 : Rat) ≤ val d x gN k (0 + 1) 0 := by have := (val_num (d := d) hx0 hx1 k (0 + 1) 0).1; simpa using this
  have h3 := mix_mono hx0 hx1 h1 h2
  rwa [mix_const] at h3

/-! ### Wald's bounds -/
section
variable {l h a b : Rat} (hl : Inn l) (hh : Inn h) (hlh : l < h) (ha : Inn a) (hb : Inn b)
theorem rat_up (l h : Rat) (p f : Nat) : ratQ l h p (f + 1) = ratQ l h p f * (h / l) := by unfold ratQ; rw [Rat.pow_succ]; grind
theorem rat_down (l h : Rat) (p f : Nat) : ratQ l h (p + 1) f = ratQ l h p f * ((1 - h) / (1 - l)) := by unfold ratQ; rw [Rat.pow_succ]; grind
theorem ne_of_pos {x : Rat} (h : 0 < x) : x ≠ 0 := fun e => by rw [e] at h; exact absurd h (by decide)
include hl hh
theorem rat_nonneg (p f : Nat) : 0 ≤ ratQ l h p f :=
  Rat.mul_nonneg (Rat.pow_nonneg (div_nonneg' (Rat.le_of_lt hl.p) (Rat.le_of_lt hh.p))) (Rat.pow_nonneg (div_nonneg' (Rat.le_of_lt hl.q0) (Rat.le_of_lt hh.q0)))
include ha
theorem val_alpha : ∀ k p f, val (decQ l h a b) l gF k p f ≤ a * ratQ l h p f := by
  have dec : ∀ p f, gF (decQ l h a b p f) (p + f) ≤ a * ratQ l h p f := fun p f => by
    unfold gF
    split
    · rename_i hd
      have h1 := Rat.mul_le_mul_of_nonneg_left (decQ_flaky.1 hd) (Rat.le_of_lt ha.p)
      have h2 : a * (1 / a) = 1 := by rw [Rat.mul_comm]; exact Rat.div_mul_cancel (ne_of_pos ha.p)
      rwa [h2] at h1
    · exact Rat.mul_nonneg (Rat.le_of_lt ha.p) (rat_nonneg hl hh p f)
  intro k
  induction k with
  | zero => exact dec
  | succ k ih =>
    intro p f
    by_cases hd : decQ l h a b p f = 0
    · rw [val_open hd]
      refine Rat.le_trans (mix_mono (Rat.le_of_lt hl.p) (Rat.le_of_lt hl.q) (ih p (f + 1)) (ih (p + 1) f)) ?_
      rw [rat_up, rat_down]
      have e1 : h / l * l = h := Rat.div_mul_cancel (ne_of_pos hl.p)
      have e2 : (1 - h) / (1 - l) * (1 - l) = 1 - h := Rat.div_mul_cancel (ne_of_pos hl.q0)
      generalize h / l = X at *
      generalize (1 - h) / (1 - l) = Y at *
      generalize ratQ l h p f = R at *
      have e3 : l * (a * (R * X)) + (1 - l) * (a * (R * Y)) = a * R * (X * l) + a * R * (Y * (1 - l)) := by grind
      rw [e3, e1, e2]
      have e4 : a * R * h + a * R * (1 - h) = a * R := by grind
      rw [e4]
      exact Rat.le_refl
    · rw [val_dec hd]
      exact dec p f
omit ha hh
include hb
theorem val_beta : ∀ k p f, val (decQ l h a b) h gS k p f * ratQ l h p f ≤ b := by
  have dec : ∀ p f, gS (decQ l h a b p f) (p + f) * ratQ l h p f ≤ b := fun p f => by
    unfold gS
    split
    · rename_i hd
      rw [Rat.one_mul]
      exact (decQ_stable.1 hd).2
    · rw [Rat.zero_mul]; exact Rat.le_of_lt hb.p
  intro k
  induction k with
  | zero => exact dec
  | succ k ih =>
    intro p f
    by_cases hd : decQ l h a b p f = 0
    · rw [val_open hd]
      have h1 := mix_mono (Rat.le_of_lt hl.p) (Rat.le_of_lt hl.q) (ih p (f + 1)) (ih (p + 1) f)
      rw [mix_const, rat_up, rat_down] at h1
      refine Rat.le_trans ?_ h1
      have e1 : h / l * l = h := Rat.div_mul_cancel (ne_of_pos hl.p)
      have e2 : (1 - h) / (1 - l) * (1 - l) = 1 - h := Rat.div_mul_cancel (ne_of_pos hl.q0)
      generalize h / l = X at *
      generalize (1 - h) / (1 - l) = Y at *
      generalize ratQ l h p f = R at *
      generalize val (decQ l h a b) h gS k p (f + 1) = A at *
      generalize val (decQ l h a b) h gS k (p + 1) f = B at *
      have e3 : l * (A * (R * X)) + (1 - l) * (B * (R * Y)) = A * R * (X * l) + B * R * (Y * (1 - l)) := by grind
      rw [e3, e1, e2]
      have e4 : A * R * h + B * R * (1 - h) = (h * A + (1 - h) * B) * R := by grind
      rw [e4]
      exact Rat.le_refl
    · rw [val_dec hd]
      exact dec p f
end

/-! ### More failures, a greater chance -/
section
variable {d : Nat → Nat → Int} (hd : ∀ p f, d p f = 0 ∨ d p f = 1 ∨ d p f = 2) (hf : ∀ p f, d (p + 1) f = 2 → d p (f + 1) = 2) (hs : ∀ p f, d p (f + 1) = 1 → d (p + 1) f = 1)
include hd hf hs
theorem val_upF {x : Rat} (hx0 : 0 ≤ x) (hx1 : x ≤ 1) : ∀ k p f, val d x gF k (p + 1) f ≤ val d x gF k p (f + 1)
  | 0, p, f => by
    rw [val_zero, val_zero]
    by_cases h : d (p + 1) f = 2
    · rw [h, hf p f h]; exact Rat.le_refl
    · show (if _ then _ else _) ≤ _
      rw [if_neg h]
      exact gF_nn _ _
  | k + 1, p, f => by
    rcases hd (p + 1) f with h | h | h
    · rcases hd p (f + 1) with h' | h' | h'
      · rw [val_open h, val_open h']
        exact mix_mono hx0 hx1 (val_upF hx0 hx1 k p (f + 1)) (val_upF hx0 hx1 k (p + 1) f)
      · have := hs p f h'; omega
      · rw [val_dec (k := k + 1) (p := p) (by omega), h']
        exact val_le_one hx0 hx1 gF_le _ _ _
    · rw [val_dec (k := k + 1) (p := p + 1) (by omega), h]
      exact val_nonneg hx0 hx1 gF_nn _ _ _
    · rw [val_dec (k := k + 1) (p := p) (by rw [hf p f h]; decide), hf p f h]
      exact val_le_one hx0 hx1 gF_le _ _ _
theorem val_upS {x : Rat} (hx0 : 0 ≤ x) (hx1 : x ≤ 1) : ∀ k p f, val d x gS k p (f + 1) ≤ val d x gS k (p + 1) f
  | 0, p, f => by
    rw [val_zero, val_zero]
    by_cases h : d p (f + 1) = 1
    · rw [h, hs p f h]; exact Rat.le_refl
    · show (if _ then _ else _) ≤ _
      rw [if_neg h]
      exact gS_nn _ _
  | k + 1, p, f => by
    rcases hd p (f + 1) with h | h | h
    · rcases hd (p + 1) f with h' | h' | h'
      · rw [val_open h, val_open h']
        exact mix_mono hx0 hx1 (val_upS hx0 hx1 k p (f + 1)) (val_upS hx0 hx1 k (p + 1) f)
      · rw [val_dec (k := k + 1) (p := p + 1) (by omega), h']
        exact val_le_one hx0 hx1 gS_le _ _ _
      · have := hf p f h'; omega
    · rw [val_dec (k := k + 1) (p := p + 1) (by rw [hs p f h]; decide), hs p f h]
      exact val_le_one hx0 hx1 gS_le _ _ _
    · rw [val_dec (k := k + 1) (p := p) (by omega), h]
      exact val_nonneg hx0 hx1 gS_nn _ _ _
theorem val_monoF {x y : Rat} (hx0 : 0 ≤ x) (hy1 : y ≤ 1) (hxy : x ≤ y) : ∀ k p f, val d x gF k p f ≤ val d y gF k p f
  | 0, _, _ => Rat.le_refl
  | k + 1, p, f => by
    by_cases h : d p f = 0
    · rw [val_open h, val_open h]
      refine Rat.le_trans (mix_mono hx0 (Rat.le_trans hxy hy1) (val_monoF hx0 hy1 hxy k p (f + 1)) (val_monoF hx0 hy1 hxy k (p + 1) f)) ?_
      exact mix_up hxy (val_upF hd hf hs (Rat.le_trans hx0 hxy) hy1 k p f)
    · rw [val_dec h, val_dec h]; exact Rat.le_refl
theorem val_monoS {x y : Rat} (hx0 : 0 ≤ x) (hy1 : y ≤ 1) (hxy : x ≤ y) : ∀ k p f, val d y gS k p f ≤ val d x gS k p f
  | 0, _, _ => Rat.le_refl
  | k + 1, p, f => by
    by_cases h : d p f = 0
    · rw [val_open h, val_open h]
      refine Rat.le_trans ?_ (mix_mono hx0 (Rat.le_trans hxy hy1) (val_monoS hx0 hy1 hxy k p (f + 1)) (val_monoS hx0 hy1 hxy k (p + 1) f))
      have h1 := val_upS hd hf hs (Rat.le_trans hx0 hxy) hy1 k p f
      have : 0 ≤ (y - x) * (val d y gS k (p + 1) f - val d y gS k p (f + 1)) := Rat.mul_nonneg (by grind) (by grind)
      grind
    · rw [val_dec h, val_dec h]; exact Rat.le_refl
end
theorem dec_up {l h a b : Rat} (hl : Inn l) (hh : Inn h) (hlh : l < h) (p f : Nat) (hd : decQ l h a b (p + 1) f = 2) : decQ l h a b p (f + 1) = 2 := by
  rw [decQ_flaky] at hd ⊢
  exact Rat.le_trans hd (ratQ_step hl hh hlh p f)
theorem dec_down {l h a b : Rat} (hl : Inn l) (hh : Inn h) (hlh : l < h) (p f : Nat) (hd : decQ l h a b p (f + 1) = 1) : decQ l h a b (p + 1) f = 1 := by
  rw [decQ_stable] at hd ⊢
  have := ratQ_step hl hh hlh p f
  exact ⟨fun h1 => hd.1 (Rat.le_trans h1 this), Rat.le_trans this hd.2⟩
end Go.Proofs.Ytnofljgmkdommaa
