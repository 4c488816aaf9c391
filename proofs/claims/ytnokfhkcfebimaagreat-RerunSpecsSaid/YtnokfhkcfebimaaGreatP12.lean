/- Contracts of the functions that these laws reach: part 12: Contracts: fraction.Pow; Contracts: noise.row; A region that draws its order, its first operations in whatever order: one step for each operation, not one way for each order; Plain facts and boxes for noise.total. -/
import Derived.Test.YtnokfhkcfebimaaGreatP11
import Derived.Deep.MidRow
import Derived.Test.YtnokfhkcfebimaaGreatP1
set_option linter.unusedVariables false
set_option linter.unusedSimpArgs false

/- Contracts: fraction.Pow. -/
namespace Go.Proofs.YtnokfhkcfebimaaGreat
open Go.RowKit

/-- One operand's box at the world's end, the result's box behind it. -/
structure F1 (w0 v : World) (a : Fa) (l k : List Nat) : Prop where
  bw : Below w0.heap.size w0 v
  c0 : v.cell? ⟨w0.heap.size, 0, none⟩ = some (.slice a.A a.n a.c)
  c1 : v.cell? ⟨w0.heap.size, 1, none⟩ = some (.slice a.B a.m a.d)
  sz : w0.heap.size + 1 < v.heap.size
  q : Fq v a l k
  rb : Rb v (w0.heap.size + 1)
theorem F1.below {w0 v v' : World} {a : Fa} {l k : List Nat} (h : F1 w0 v a l k) (hb : Below v.heap.size v v') : F1 w0 v' a l k := by
  have h1 := h.sz
  refine ⟨h.bw.trans (hb.mono h.bw.size), ?_, ?_, Nat.lt_of_lt_of_le h.sz hb.size, h.q.below hb, h.rb.below hb⟩
  · rw [hb.cell (by simp; omega)]; exact h.c0
  · rw [hb.cell (by simp; omega)]; exact h.c1
theorem F1.mk0 {w0 : World} {a : Fa} {l k : List Nat} (h : Fq w0 a l k) (t t' : TypeId) : F1 w0 ((w0.alloc (.cells #[.slice a.A a.n a.c, .slice a.B a.m a.d] t)).alloc (.cells #[.slice none 0 0, .slice none 0 0] t')) a l k :=
  ⟨((Below.refl _ _).alloc (Nat.le_refl _) _).alloc (by simp) _, by simp [go_sem], by simp [go_sem], by simp, (h.alloc _).alloc _, Rb.mk0 _ (by simp)⟩
theorem F1.ca {w0 v : World} {a : Fa} {l k : List Nat} (h : F1 w0 v a l k) : v.cell? ⟨w0.heap.size, 0, none⟩ = some (.slice a.A a.n a.c) ∧ v.cell? ⟨w0.heap.size, 1, none⟩ = some (.slice a.B a.m a.d) ∧ w0.heap.size + 1 < v.heap.size ∧
  v.cell? ⟨w0.heap.size + 1, 0, none⟩ = some (.slice none 0 0) ∧ v.cell? ⟨w0.heap.size + 1, 1, none⟩ = some (.slice none 0 0) ∧ (∀ j, v.frozen? ⟨w0.heap.size + 1, j, none⟩ = false) := ⟨h.c0, h.c1, h.sz, h.rb.c0, h.rb.c1, h.rb.fz⟩
theorem F1.end {w0 v : World} {a : Fa} {l k : List Nat} (h : F1 w0 v a l k) {c : Fa} {x : Option Rat × Int} {er : Int} (h1 : er = x.2) (h2 : Fo v c x.1) :
    Ret w0 x (.returned (.tuple #[.agg #[.slice c.A c.n c.c, .slice c.B c.m c.d], .int .i64 er])) ((v.setCell ⟨w0.heap.size + 1, 0, none⟩ (.slice c.A c.n c.c)).setCell ⟨w0.heap.size + 1, 1, none⟩ (.slice c.B c.m c.d)) := Ret.mk0 h1 h2 h.rb h.bw (by omega)
theorem F1.err {w0 v : World} {a : Fa} {l k : List Nat} (h : F1 w0 v a l k) {x : Option Rat × Int} {er : Int} (h1 : x = (none, er)) :
    Ret w0 x (.returned (.tuple #[.agg #[.slice none 0 0, .slice none 0 0], .int .i64 er])) ((v.setCell ⟨w0.heap.size + 1, 0, none⟩ (.slice none 0 0)).setCell ⟨w0.heap.size + 1, 1, none⟩ (.slice none 0 0)) := Ret.err0 h1 h.rb h.bw (by omega)
theorem lpow128 (w : World) (A : Option Addr) (n c : Nat) (a k : Nat) (hU : Ul w none A n (lm a)) (hn : n ≤ 1000) (hk : k ≤ 65536) :
    Calls Tryz.prog 150 #[.slice A n c, .int .i64 (k : Int), .int .i64 128] w fun e w' => ∃ A' m' c' ok, e = .returned (.tuple #[.slice A' m' c', .bool ok]) ∧ m' ≤ c' ∧ Hid (ok = decide ((lm (a ^ k)).length ≤ 128)) ∧ Ul w' none A' m' (if ok then lm (a ^ k) else []) ∧ Below w.heap.size w w' :=
  lpow_any w none A n c a k 128 hU hn hk (by omega) (by omega)
theorem rn_den_pow (r : Rat) (n : Nat) : (r ^ n).den = r.den ^ n := Rat.den_pow r n
set_option maxRecDepth 100000 in
set_option maxHeartbeats 8000000 in
theorem fpow_any (w : World) (a : Fa) (l k : List Nat) (n : Int) (hq : Fq w a l k) (hn : -9223372036854775808 ≤ n) (hn2 : n < 9223372036854775808) :
    Calls Tryz.prog 129 #[.agg #[.slice a.A a.n a.c, .slice a.B a.m a.d], .int .i64 n] w fun e w' => Ret w (powR (fracOf l k) n) e w' := by
  rcases hA : fracOf l k with _ | r
  · have HA := hide hA
    clear hA
    go_enter Tryz.func129, Tryz.ntmps129
    go_upto_region 1 with (fail)
    generalize hW : World.alloc (World.alloc w _) _ = v
    have HF := hide (show F1 w v a (l) (k) by rw [← hW]; exact F1.mk0 hq _ _)
    obtain ⟨a0, a1, az, r0, r1, rf⟩ := HF.out.ca
    clear hW hq
    go_wp2_with (go_at_call 72; (with_reducible refine (fcheck_any _ a (l) (k) HF.out.q).mono ?_); rintro e w1 ⟨he, hb⟩; rw [HA.out] at he; subst he; have HF1 := hide (HF.out.below hb); obtain ⟨e0, e1, ez, s0, s1, sf⟩ := HF1.out.ca; clear hb)
    refine bodyPost_ret (v := .tuple #[.agg #[.slice none 0 0, .slice none 0 0], .int .i64 1]) (by simp [results, Tryz.results129, go_sem, *]) rfl (HF1.out.err rfl)
  · have HA := hide hA
    obtain ⟨rfl, rfl, hr0, hr⟩ := fracOf_some hA
    obtain ⟨hz1, hz2⟩ := Fq.small hq hr
    clear hA
    by_cases h0 : n < 0
    · have HX := hide (show powR (some r) n = (none, 3) from if_pos (Or.inl h0))
      go_enter Tryz.func129, Tryz.ntmps129
      go_upto_region 1 with (fail)
      generalize hW : World.alloc (World.alloc w _) _ = v
      have HF := hide (show F1 w v a (lm (rn r)) (lm r.den) by rw [← hW]; exact F1.mk0 hq _ _)
      obtain ⟨a0, a1, az, r0, r1, rf⟩ := HF.out.ca
      clear hW hq
      go_wp2_with (go_at_call 72; (with_reducible refine (fcheck_any _ a (lm (rn r)) (lm r.den) HF.out.q).mono ?_); rintro e w1 ⟨he, hb⟩; rw [HA.out] at he; subst he; have HF1 := hide (HF.out.below hb); obtain ⟨e0, e1, ez, s0, s1, sf⟩ := HF1.out.ca; clear hb)
      refine bodyPost_ret (v := .tuple #[.agg #[.slice none 0 0, .slice none 0 0], .int .i64 3]) (by simp [results, Tryz.results129, go_sem, *]) rfl (HF1.out.err HX.out)
    · by_cases h6 : 65536 < n
      · have HX := hide (show powR (some r) n = (none, 3) from if_pos (Or.inr h6))
        go_enter Tryz.func129, Tryz.ntmps129
        go_upto_region 1 with (fail)
        generalize hW : World.alloc (World.alloc w _) _ = v
        have HF := hide (show F1 w v a (lm (rn r)) (lm r.den) by rw [← hW]; exact F1.mk0 hq _ _)
        obtain ⟨a0, a1, az, r0, r1, rf⟩ := HF.out.ca
        clear hW hq
        go_wp2_with (go_at_call 72; (with_reducible refine (fcheck_any _ a (lm (rn r)) (lm r.den) HF.out.q).mono ?_); rintro e w1 ⟨he, hb⟩; rw [HA.out] at he; subst he; have HF1 := hide (HF.out.below hb); obtain ⟨e0, e1, ez, s0, s1, sf⟩ := HF1.out.ca; clear hb)
        refine bodyPost_ret (v := .tuple #[.agg #[.slice none 0 0, .slice none 0 0], .int .i64 3]) (by simp [results, Tryz.results129, go_sem, *]) rfl (HF1.out.err HX.out)
      · obtain ⟨m, rfl⟩ : ∃ m : Nat, n = m := ⟨n.toNat, by omega⟩
        have HX := hide (show powR (some r) m = limR (r ^ m) from if_neg (by omega))
        have hp0 : 0 ≤ r ^ m := Rat.pow_nonneg hr0
        have HM := hide (show m ≤ 65536 by omega)
        have d0 : decide ((m : Int) < 0) = false := decide_eq_false h0
        have d6 : decide ((m : Int) > 65536) = false := decide_eq_false h6
        clear h0 h6
        have hqn : a.n ≤ 1000 := by omega
        have hqm : a.m ≤ 1000 := by omega
        by_cases hu : (lm (rn r ^ m)).length ≤ 128
        · by_cases hv : (lm (r.den ^ m)).length ≤ 128
          · have HY := hide (show fitsR (r ^ m) = true by unfold fitsR; rw [rn_pow hr0, rn_den_pow]; simp [hu, hv])
            go_enter Tryz.func129, Tryz.ntmps129
            go_upto_region 1 with (fail)
            generalize hW : World.alloc (World.alloc w _) _ = v
            have HF := hide (show F1 w v a (lm (rn r)) (lm r.den) by rw [← hW]; exact F1.mk0 hq _ _)
            obtain ⟨a0, a1, az, r0, r1, rf⟩ := HF.out.ca
            clear hW hq
            go_wp2_with (first
              | (go_at_call 72; (with_reducible refine (fcheck_any _ a (lm (rn r)) (lm r.den) HF.out.q).mono ?_); rintro e w1 ⟨he, hb⟩; rw [HA.out] at he; subst he; have HF1 := hide (HF.out.below hb); obtain ⟨e0, e1, ez, s0, s1, sf⟩ := HF1.out.ca; clear hb)
              | (go_at_call 150; (with_reducible refine (lpow128 _ a.A a.n a.c (rn r) m HF1.out.q.u hqn HM.out).mono ?_); rintro e w2 ⟨A1, m1, c1, ok, rfl, hmc, hok, hu1, hb⟩; obtain rfl : ok = true := (by rw [hok.out]; exact decide_eq_true hu); have HU1 := hide hu1; have HF2 := hide (HF1.out.below hb); obtain ⟨g0, g1, gz, -⟩ := HF2.out.ca; clear hb hok hu1)
              | (go_at_call 150; (with_reducible refine (lpow128 _ a.B a.m a.d r.den m HF2.out.q.v hqm HM.out).mono ?_); rintro e w3 ⟨A2, m2, c2, ok, rfl, hmc2, hok, hu1, hb⟩; obtain rfl : ok = true := (by rw [hok.out]; exact decide_eq_true hv); have HU2 := hide hu1; have HU1b := hide (HU1.out.below hb); have HF3 := hide (HF2.out.below hb); obtain ⟨i0, i1, iz, t0, t1, tf⟩ := HF3.out.ca; clear hb hok hu1))
            have h3 := HU1b.out.len
            have h4 := HU2.out.len
            simp only [if_true] at h3 h4
            refine bodyPost_ret (v := .tuple #[.agg #[.slice A1 m1 c1, .slice A2 m2 c2], .int .i64 0]) (by simp [results, Tryz.results129, go_sem, *]) rfl (HF3.out.end (c := ⟨A1, m1, c1, A2, m2, c2⟩) (by rw [HX.out, limR_fit HY.out]) ?_)
            rw [HX.out, limR_fit HY.out]
            refine ⟨⟨?_, ?_, hmc, hmc2, by show m1 ≤ 9223372036854775807; omega, by show m2 ≤ 9223372036854775807; omega⟩, hp0, HY.out⟩
            · show Ul _ none A1 m1 (lm (rn (r ^ m))); rw [rn_pow hr0]; exact HU1b.out
            · show Ul _ none A2 m2 (lm (r ^ m).den); rw [rn_den_pow]; exact HU2.out
          · have HY := hide (show fitsR (r ^ m) = false by unfold fitsR; rw [rn_pow hr0, rn_den_pow]; simp; omega)
            go_enter Tryz.func129, Tryz.ntmps129
            go_upto_region 1 with (fail)
            generalize hW : World.alloc (World.alloc w _) _ = v
            have HF := hide (show F1 w v a (lm (rn r)) (lm r.den) by rw [← hW]; exact F1.mk0 hq _ _)
            obtain ⟨a0, a1, az, r0, r1, rf⟩ := HF.out.ca
            clear hW hq
            go_wp2_with (first
              | (go_at_call 72; (with_reducible refine (fcheck_any _ a (lm (rn r)) (lm r.den) HF.out.q).mono ?_); rintro e w1 ⟨he, hb⟩; rw [HA.out] at he; subst he; have HF1 := hide (HF.out.below hb); obtain ⟨e0, e1, ez, s0, s1, sf⟩ := HF1.out.ca; clear hb)
              | (go_at_call 150; (with_reducible refine (lpow128 _ a.A a.n a.c (rn r) m HF1.out.q.u hqn HM.out).mono ?_); rintro e w2 ⟨A1, m1, c1, ok, rfl, hmc, hok, hu1, hb⟩; obtain rfl : ok = true := (by rw [hok.out]; exact decide_eq_true hu); have HF2 := hide (HF1.out.below hb); obtain ⟨g0, g1, gz, -⟩ := HF2.out.ca; clear hb hok hu1)
              | (go_at_call 150; (with_reducible refine (lpow128 _ a.B a.m a.d r.den m HF2.out.q.v hqm HM.out).mono ?_); rintro e w3 ⟨A2, m2, c2, ok, rfl, hmc2, hok, hu1, hb⟩; obtain rfl : ok = false := (by rw [hok.out]; exact decide_eq_false hv); have HF3 := hide (HF2.out.below hb); obtain ⟨i0, i1, iz, t0, t1, tf⟩ := HF3.out.ca; clear hb hok hu1))
            refine bodyPost_ret (v := .tuple #[.agg #[.slice none 0 0, .slice none 0 0], .int .i64 2]) (by simp [results, Tryz.results129, go_sem, *]) rfl (HF3.out.err (by rw [HX.out, limR_no HY.out]))
        · have HY := hide (show fitsR (r ^ m) = false by unfold fitsR; rw [rn_pow hr0, rn_den_pow]; simp; omega)
          go_enter Tryz.func129, Tryz.ntmps129
          go_upto_region 1 with (fail)
          generalize hW : World.alloc (World.alloc w _) _ = v
          have HF := hide (show F1 w v a (lm (rn r)) (lm r.den) by rw [← hW]; exact F1.mk0 hq _ _)
          obtain ⟨a0, a1, az, r0, r1, rf⟩ := HF.out.ca
          clear hW hq
          go_wp2_with (first
            | (go_at_call 72; (with_reducible refine (fcheck_any _ a (lm (rn r)) (lm r.den) HF.out.q).mono ?_); rintro e w1 ⟨he, hb⟩; rw [HA.out] at he; subst he; have HF1 := hide (HF.out.below hb); obtain ⟨e0, e1, ez, s0, s1, sf⟩ := HF1.out.ca; clear hb)
            | (go_at_call 150; (with_reducible refine (lpow128 _ a.A a.n a.c (rn r) m HF1.out.q.u hqn HM.out).mono ?_); rintro e w2 ⟨A1, m1, c1, ok, rfl, hmc, hok, hu1, hb⟩; obtain rfl : ok = false := (by rw [hok.out]; exact decide_eq_false hu); have HF2 := hide (HF1.out.below hb); obtain ⟨g0, g1, gz, -⟩ := HF2.out.ca; clear hb hok hu1)
            | (go_at_call 150; (with_reducible refine (lpow128 _ a.B a.m a.d r.den m HF2.out.q.v hqm HM.out).mono ?_); rintro e w3 ⟨A2, m2, c2, ok, rfl, hmc2, hok, hu1, hb⟩; have HF3 := hide (HF2.out.below hb); obtain ⟨i0, i1, iz, t0, t1, tf⟩ := HF3.out.ca; clear hb hok hu1))
          refine bodyPost_ret (v := .tuple #[.agg #[.slice none 0 0, .slice none 0 0], .int .i64 2]) (by simp [results, Tryz.results129, go_sem, *]) rfl (HF3.out.err (by rw [HX.out, limR_no HY.out]))
theorem fpow_o (w : World) (a : Fa) (o : Option Rat) (n : Int) (ha : Fo w a o) (hn : -9223372036854775808 ≤ n) (hn2 : n < 9223372036854775808) : Calls Tryz.prog 129 #[.agg #[.slice a.A a.n a.c, .slice a.B a.m a.d], .int .i64 n] w fun e w' => Ret w (powR o n) e w' := by
  have := fpow_any w a _ _ n ha.1 hn hn2
  rwa [fracOf_self ha.2] at this
end Go.Proofs.YtnokfhkcfebimaaGreat

/- Contracts: noise.row. -/
namespace Go.Proofs.YtnokfhkcfebimaaGreat
open Go.RowKit

/-- The block g holds the 33 numbers F. -/
structure Rw (v : World) (g : Nat) (F : Nat → Nat) : Prop where
  c : ∀ j, j < 33 → v.cell? ⟨g, j, none⟩ = some (.int .u64 (F j : Int))
  fz : ∀ j, v.frozen? ⟨g, j, none⟩ = false
  sz : g < v.heap.size
def rowCells (n : Nat) : List Value := (List.range 33).map fun j => .int .u64 (ch n j : Int)
/-- A row in the making: beyond j the numbers of i + 1, up to j those of i. -/
def mixC (i j : Nat) (p : Nat) : Nat := if j < p then ch (i + 1) p else ch i p
abbrev z33 : List Value := [.int .u64 0, .int .u64 0, .int .u64 0, .int .u64 0, .int .u64 0, .int .u64 0, .int .u64 0, .int .u64 0, .int .u64 0, .int .u64 0, .int .u64 0, .int .u64 0, .int .u64 0, .int .u64 0, .int .u64 0, .int .u64 0, .int .u64 0, .int .u64 0, .int .u64 0, .int .u64 0, .int .u64 0, .int .u64 0, .int .u64 0, .int .u64 0, .int .u64 0, .int .u64 0, .int .u64 0, .int .u64 0, .int .u64 0, .int .u64 0, .int .u64 0, .int .u64 0, .int .u64 0]
end Go.Proofs.YtnokfhkcfebimaaGreat

/- A region that draws its order, its first operations in whatever order: one step for each operation, not one way for each order. -/
namespace Go.Proofs.YtnokfhkcfebimaaGreat
open Go.RowKit

section
variable {P : Program} {md : Region.Mode} {ops : Array Oper} {Q : Exit → Act → World → Prop}

/-- What has come up: those of a list, and none of the rest. -/
def lst (ops : Array Oper) (l : List Bool) : Array Bool := (l ++ List.replicate (ops.size - l.length) false).toArray
def masks : Nat → List (List Bool)
  | 0 => [[]]
  | n + 1 => (masks n).flatMap fun l => [true :: l, false :: l]
theorem mem_masks : ∀ l : List Bool, l ∈ masks l.length
  | [] => by simp [masks]
  | b :: l => by
    show _ ∈ (masks l.length).flatMap _
    rw [List.mem_flatMap]
    exact ⟨l, mem_masks l, by cases b <;> simp⟩
/-- Whatever has come up has its conditions behind it. -/
def closedB (md : Region.Mode) (ops : Array Oper) (l : List Bool) : Bool :=
  (List.range l.length).all fun i => !(l.getD i false) || (match ops[i]? with | some o => o.after.all fun e => !(Region.binds md e) || l.getD e.on false | none => true)
/-- Before the first m have come up, one of them can. -/
def liveB (md : Region.Mode) (ops : Array Oper) (m : Nat) (opt : Nat → Bool := fun _ => false) : Bool :=
  (masks m).all fun l => (List.range m).all (fun i => opt i || l.getD i false) || !closedB md ops l || (!(Region.ready md ops (lst ops l)).isEmpty && (Region.ready md ops (lst ops l)).all (fun i => decide (i < m)))
theorem lst_get {l : List Bool} {i : Nat} (hi : i < ops.size) (hl : l.length ≤ ops.size) : (lst ops l)[i]? = some (l.getD i false) := by
  unfold lst
  rw [List.getElem?_toArray]
  by_cases h : i < l.length
  · rw [List.getElem?_append_left h, List.getD_eq_getElem?_getD, List.getElem?_eq_getElem h]; rfl
  · rw [List.getElem?_append_right (by omega), List.getElem?_replicate, if_pos (by omega), List.getD_eq_getElem?_getD, List.getElem?_eq_none (by omega)]; rfl
theorem lst_set {l : List Bool} {i : Nat} (hi : i < l.length) : (lst ops l).setIfInBounds i true = lst ops (l.set i true) := by
  unfold lst
  rw [List.setIfInBounds_toArray, List.set_append_left _ _ hi, List.length_set]
/-- Temporaries filled in. -/
def fillT : List Nat → List (Option Value) → Array Value → Array Value
  | d :: ds, some v :: xs, t => fillT ds xs (t.setIfInBounds d v)
  | _ :: ds, none :: xs, t => fillT ds xs t
  | _, _, t => t
theorem fillT_off : ∀ (ds : List Nat) (xs : List (Option Value)) (t : Array Value) {k : Nat}, k ∉ ds → (fillT ds xs t)[k]? = t[k]?
  | [], xs, t, k, h => by cases xs with | nil => rfl | cons a l => cases a <;> rfl
  | d :: ds, [], t, k, h => rfl
  | d :: ds, some v :: xs, t, k, h => by
    show (fillT ds xs (t.setIfInBounds d v))[k]? = _
    simp only [List.mem_cons, not_or] at h
    rw [fillT_off ds xs _ h.2, Array.getElem?_setIfInBounds_ne (fun e => h.1 e.symm)]
  | d :: ds, none :: xs, t, k, h => fillT_off ds xs t (fun e => h (List.mem_cons_of_mem _ e))
theorem fillT_comm : ∀ (ds : List Nat) (xs : List (Option Value)) (t : Array Value) {k : Nat} (v : Value), k ∉ ds → fillT ds xs (t.setIfInBounds k v) = (fillT ds xs t).setIfInBounds k v
  | [], xs, t, k, v, h => by cases xs with | nil => rfl | cons a l => cases a <;> rfl
  | d :: ds, [], t, k, v, h => rfl
  | d :: ds, some u :: xs, t, k, v, h => by
    show fillT ds xs ((t.setIfInBounds k v).setIfInBounds d u) = (fillT ds xs (t.setIfInBounds d u)).setIfInBounds k v
    simp only [List.mem_cons, not_or] at h
    rw [Array.setIfInBounds_comm _ _ h.1, fillT_comm ds xs _ v h.2]
  | d :: ds, none :: xs, t, k, v, h => fillT_comm ds xs t v (fun e => h (List.mem_cons_of_mem _ e))
theorem fillT_set : ∀ (ds : List Nat) (xs : List (Option Value)) (t : Array Value) {i : Nat} (v : Value), ds.Nodup → i < ds.length → xs[i]? = some none →
    fillT ds (xs.set i (some v)) t = (fillT ds xs t).setIfInBounds (ds.getD i 0) v
  | [], xs, t, i, v, _, hi, _ => by simp at hi
  | d :: ds, [], t, i, v, _, _, hx => by simp at hx
  | d :: ds, x :: xs, t, 0, v, hn, _, hx => by
    simp at hx
    subst hx
    show fillT ds xs (t.setIfInBounds d v) = (fillT ds xs t).setIfInBounds d v
    exact fillT_comm ds xs t v (List.nodup_cons.1 hn).1
  | d :: ds, x :: xs, t, i + 1, v, hn, hi, hx => by
    have ih := fun t => fillT_set ds xs t (i := i) v (List.nodup_cons.1 hn).2 (by simpa using hi) (by simpa using hx)
    cases x with
    | none => exact ih t
    | some u => exact ih (t.setIfInBounds d u)
theorem fillT_at : ∀ (ds : List Nat) (xs : List (Option Value)) (t : Array Value) {i : Nat} {v : Value}, ds.Nodup → i < ds.length → xs[i]? = some (some v) → ds.getD i 0 < t.size →
    (fillT ds xs t).getD (ds.getD i 0) undef = v
  | [], xs, t, i, v, _, hi, _, _ => by simp at hi
  | d :: ds, [], t, i, v, _, _, hx, _ => by simp at hx
  | d :: ds, x :: xs, t, 0, v, hn, _, hx, hs => by
    simp at hx
    subst hx
    show (fillT ds xs (t.setIfInBounds d v)).getD d undef = v
    have hs' : d < t.size := hs
    have := fillT_off ds xs (t.setIfInBounds d v) (List.nodup_cons.1 hn).1
    rw [Array.getD_eq_getD_getElem?, this]
    simp [hs']
  | d :: ds, x :: xs, t, i + 1, v, hn, hi, hx, hs => by
    have hs' : ds.getD i 0 < t.size := hs
    cases x with
    | none => exact fillT_at ds xs t (List.nodup_cons.1 hn).2 (by simpa using hi) (by simpa using hx) hs'
    | some u => exact fillT_at ds xs (t.setIfInBounds d u) (List.nodup_cons.1 hn).2 (by simpa using hi) (by simpa using hx) (by simpa using hs')

/-- The first operations, in whatever order. m: how many; ds: their temporaries; R: what is known of each one's value, whatever comes behind it; al: those that make a new variable. -/
theorem wpAny_first_many (m : Nat) (ds : List Nat) (R : Nat → Value → World → Prop) (al opt : Nat → Bool) {a0 : Act} {v : World}
    (hm : m ≤ ops.size) (hds : ds.length = m) (hnd : ds.Nodup) (hsz : ∀ d ∈ ds, d < a0.tmps.size) (hlive : liveB md ops m opt = true)
    (hst : ∀ i x w w', R i x w → Below w.heap.size w w' → R i x w')
    (hstep : ∀ i, i < m → ∀ (a : Act) (w : World), Below v.heap.size v w → a.defers = a0.defers → (∀ t, ds.contains t = false → a.tmps.getD t undef = a0.tmps.getD t undef) →
      (∀ o, ops[i]? = some o → ∀ e ∈ o.after, Region.binds md e = true → R e.on (a.tmps.getD (ds.getD e.on 0) undef) w) →
      ∀ K : Act → World → Prop, (∀ x w', R i x w' → Below w.heap.size w w' → (al i = true → ∃ b, x = .pointer (some ⟨b, 0, none⟩) ∧ w.heap.size ≤ b ∧ b < w'.heap.size) → K (a.put (some (ds.getD i 0)) x) w') → wpOp P ops Q i K a w)
    (hfin : ∀ (x : Nat → Value) (o : Nat → Bool) (k : Nat) (w' : World), Below v.heap.size v w' → (∀ i, i < m → (opt i = false ∨ o i = true) → R i (x i) w') → (∀ i j, i < m → j < m → i < j → opt i = false → opt j = false → al i = true → al j = true → x i ≠ x j) →
      ((List.range m).map fun i => !opt i || o i).count false = k →
      wpAny P md ops Q (k + (ops.size - m)) (lst ops ((List.range m).map fun i => !opt i || o i)) ⟨fillT ds ((List.range m).map fun i => if !opt i || o i then some (x i) else none) a0.tmps, a0.defers⟩ w') :
    ∀ (k : Nat) (xs : List (Option Value)) (w : World), xs.length = m → (xs.map Option.isSome).count false = k → closedB md ops (xs.map Option.isSome) = true → Below v.heap.size v w →
      (∀ i x, xs[i]? = some (some x) → R i x w) → (∀ i x, xs[i]? = some (some x) → al i = true → ∃ b, x = .pointer (some ⟨b, 0, none⟩) ∧ b < w.heap.size) →
      (∀ i j x y, i ≠ j → xs[i]? = some (some x) → xs[j]? = some (some y) → al i = true → al j = true → x ≠ y) →
      wpAny P md ops Q (k + (ops.size - m)) (lst ops (xs.map Option.isSome)) ⟨fillT ds xs a0.tmps, a0.defers⟩ w := by
  have stop : ∀ (k : Nat) (xs : List (Option Value)) (w : World), xs.length = m → (xs.map Option.isSome).count false = k → Below v.heap.size v w →
      (∀ i x, xs[i]? = some (some x) → R i x w) →
      (∀ i j x y, i ≠ j → xs[i]? = some (some x) → xs[j]? = some (some y) → al i = true → al j = true → x ≠ y) →
      (List.range m).all (fun i => opt i || (xs.map Option.isSome).getD i false) = true →
      wpAny P md ops Q (k + (ops.size - m)) (lst ops (xs.map Option.isSome)) ⟨fillT ds xs a0.tmps, a0.defers⟩ w := by
    intro k xs w hl hc hb hR hne hst
    have hall : ∀ i, i < m → opt i = false → ∃ x, xs[i]? = some (some x) := fun i hi ho => by
      have h0 := List.all_eq_true.1 hst i (by simpa using hi)
      rw [ho, Bool.false_or, List.getD_eq_getElem?_getD, List.getElem?_map] at h0
      cases h2 : xs[i]? with
      | none => rw [h2] at h0; simp at h0
      | some y =>
        cases y with
        | none => rw [h2] at h0; simp at h0
        | some x => exact ⟨x, rfl⟩
    have hx : xs = (List.range m).map fun i => if !opt i || ((xs[i]?.getD none).isSome) then some ((xs[i]?.getD none).getD undef) else none := by
      apply List.ext_getElem?
      intro i
      by_cases hi : i < m
      · have h1 := List.getElem?_eq_getElem (l := xs) (i := i) (by omega)
        simp only [List.getElem?_map, List.getElem?_range hi, Option.map_some]
        cases ho : opt i with
        | false =>
          obtain ⟨x, hx⟩ := hall i hi ho
          simp [hx]
        | true =>
          cases h2 : xs[i]'(by omega) with
          | none => rw [h2] at h1; simp [h1]
          | some y => rw [h2] at h1; simp [h1]
      · rw [List.getElem?_eq_none (by omega), List.getElem?_eq_none (by simp; omega)]
    have hm2 : xs.map Option.isSome = (List.range m).map fun i => !opt i || ((xs[i]?.getD none).isSome) := by
      apply List.ext_getElem?
      intro i
      by_cases hi : i < m
      · have h1 := List.getElem?_eq_getElem (l := xs) (i := i) (by omega)
        simp only [List.getElem?_map, List.getElem?_range hi, Option.map_some]
        cases ho : opt i with
        | false =>
          obtain ⟨x, hx⟩ := hall i hi ho
          simp [hx]
        | true => simp [h1]
      · rw [List.getElem?_eq_none (by simp; omega), List.getElem?_eq_none (by simp; omega)]
    rw [hm2]
    have h := hfin (fun i => (xs[i]?.getD none).getD undef) (fun i => (xs[i]?.getD none).isSome) k w hb (fun i hi ho => by
      have hs : ∃ x, xs[i]? = some (some x) := by
        rcases ho with ho | ho
        · exact hall i hi ho
        · cases h2 : xs[i]? with
          | none => rw [h2] at ho; simp at ho
          | some y =>
            cases y with
            | none => rw [h2] at ho; simp at ho
            | some x => exact ⟨x, rfl⟩
      obtain ⟨x, hx⟩ := hs
      simp only [hx, Option.getD_some]
      exact hR i x hx) (fun i j hi hj hij o1 o2 h1 h2 => by
      obtain ⟨x, hx⟩ := hall i hi o1
      obtain ⟨y, hy⟩ := hall j hj o2
      simp only [hx, hy, Option.getD_some]
      exact hne i j x y (by omega) hx hy h1 h2) (by rw [← hm2]; exact hc)
    rwa [← hx] at h
  intro k
  induction k with
  | zero =>
    intro xs w hl hc hcl hb hR hal hne
    refine stop 0 xs w hl hc hb hR hne ?_
    rw [List.all_eq_true]
    intro i hi
    have hi' : i < m := by simpa using hi
    have h1 := List.getElem?_eq_getElem (l := xs) (i := i) (by omega)
    cases h2 : xs[i]'(by omega) with
    | none =>
      have : none ∈ xs := by rw [← h2]; exact List.getElem_mem _
      have := List.count_pos_iff.2 (List.mem_map.2 ⟨none, this, rfl⟩ : false ∈ xs.map Option.isSome)
      omega
    | some x =>
      rw [h2] at h1
      rw [List.getD_eq_getElem?_getD, List.getElem?_map, h1]
      simp
  | succ k ih =>
    intro xs w hl hc hcl hb hR hal hne
    have hmask : xs.map Option.isSome ∈ masks m := by
      have := mem_masks (xs.map Option.isSome)
      rwa [List.length_map, hl] at this
    have hlv := List.all_eq_true.1 hlive _ hmask
    cases hstop : (List.range m).all (fun i => opt i || (xs.map Option.isSome).getD i false) with
    | true => exact stop (k + 1) xs w hl hc hb hR hne hstop
    | false =>
    rw [hstop, hcl] at hlv
    simp only [Bool.false_or, Bool.not_true, Bool.and_eq_true, Bool.not_eq_true', List.all_eq_true, decide_eq_true_eq] at hlv
    obtain ⟨hr, hlt⟩ := hlv
    rw [show k + 1 + (ops.size - m) = (k + (ops.size - m)) + 1 by omega]
    refine ⟨fun h => by rw [h] at hr; simp at hr, fun i hi => ?_⟩
    have him := hlt i hi
    obtain ⟨hun, o, ho, hdep⟩ := mem_ready.1 hi
    have hios : i < ops.size := by omega
    have hml : (xs.map Option.isSome).length ≤ ops.size := by simp; omega
    have hxi : xs[i]? = some none := by
      have h1 := lst_get (ops := ops) hios hml
      rw [Array.getD_eq_getD_getElem?, h1] at hun
      have h2 := List.getElem?_eq_getElem (l := xs) (i := i) (by omega)
      simp only [Option.getD_some, List.getD_eq_getElem?_getD, List.getElem?_map, h2, Option.map_some] at hun
      rw [h2]
      cases h3 : xs[i]'(by omega) with
      | none => rfl
      | some y => rw [h3] at hun; simp at hun
    have hdx : ∀ e ∈ o.after, Region.binds md e = true → ∃ y, xs[e.on]? = some (some y) := fun e he hbd => by
      have h := hdep e he hbd
      rw [Array.getD_eq_getD_getElem?] at h
      by_cases hlo : e.on < ops.size
      · rw [lst_get hlo hml] at h
        simp only [Option.getD_some, List.getD_eq_getElem?_getD, List.getElem?_map] at h
        cases h3 : xs[e.on]? with
        | none => rw [h3] at h; simp at h
        | some z =>
          cases z with
          | none => rw [h3] at h; simp at h
          | some y => exact ⟨y, rfl⟩
      · have : (lst ops (xs.map Option.isSome))[e.on]? = none := by
          unfold lst
          rw [List.getElem?_toArray, List.getElem?_eq_none (by simp; omega)]
        rw [this] at h; simp at h
    refine hstep i him ⟨fillT ds xs a0.tmps, a0.defers⟩ w hb rfl (fun t ht => ?_) (fun o' ho' e he hbd => ?_) _ (fun x w' hx hbw hfr => ?_)
    · show (fillT ds xs a0.tmps).getD t undef = _
      rw [Array.getD_eq_getD_getElem?, Array.getD_eq_getD_getElem?, fillT_off ds xs _ (by simpa using ht)]
    · rw [ho] at ho'
      injection ho' with ho'
      subst ho'
      obtain ⟨y, hy⟩ := hdx e he hbd
      have hlo : e.on < ds.length := by
        have := (List.getElem?_eq_some_iff.1 hy).1
        omega
      rw [fillT_at ds xs _ hnd hlo hy (hsz _ (by rw [List.getD_eq_getElem?_getD, List.getElem?_eq_getElem hlo]; exact List.getElem_mem _))]
      exact hR _ _ hy
    · have e1 : (⟨fillT ds xs a0.tmps, a0.defers⟩ : Act).put (some (ds.getD i 0)) x = ⟨fillT ds (xs.set i (some x)) a0.tmps, a0.defers⟩ := by
        rw [fillT_set ds xs _ x hnd (by omega) hxi]; rfl
      have e2 : (xs.map Option.isSome).set i true = (xs.set i (some x)).map Option.isSome := by rw [List.map_set]; rfl
      rw [lst_set (by simp; omega), e1, e2]
      have hlen : i < xs.length := by omega
      have hget : ∀ j, (xs.set i (some x))[j]? = if j = i then some (some x) else xs[j]? := fun j => by
        rw [List.getElem?_set]
        by_cases hj : i = j
        · subst hj; simp [hlen]
        · simp [hj, Ne.symm hj]
      refine ih _ w' (by simpa using hl) ?_ ?_ (hb.trans (hbw.mono hb.size)) (fun j y hj => ?_) (fun j y hj ha => ?_) (fun j j' y y' hjj hy hy' ha ha' => ?_)
      · have h2 : xs[i]'hlen = none := by
          rw [List.getElem?_eq_getElem hlen] at hxi
          injection hxi
        rw [← e2, List.count_set (by simpa using hlen), hc]
        simp [h2]
      · rw [← e2]
        unfold closedB at hcl ⊢
        rw [List.all_eq_true] at hcl ⊢
        intro j hj
        have hj' : j < (xs.map Option.isSome).length := by simpa using hj
        have h1 := hcl j (by simpa using hj)
        have hmono : ∀ t, (xs.map Option.isSome).getD t false = true → ((xs.map Option.isSome).set i true).getD t false = true := fun t ht => by
          rw [List.getD_eq_getElem?_getD, List.getElem?_set]
          by_cases hti : i = t
          · subst hti; simp [hlen]
          · rw [if_neg hti, ← List.getD_eq_getElem?_getD]; exact ht
        by_cases hji : j = i
        · subst hji
          rw [ho]
          simp only [Bool.or_eq_true, Array.all_eq_true_iff_forall_mem]
          right
          intro e he
          by_cases hbd : Region.binds md e = true
          · obtain ⟨y, hy⟩ := hdx e he hbd
            right
            refine hmono _ ?_
            rw [List.getD_eq_getElem?_getD, List.getElem?_map, hy]; rfl
          · left; simpa using hbd
        · have h0 : ((xs.map Option.isSome).set i true).getD j false = (xs.map Option.isSome).getD j false := by
            rw [List.getD_eq_getElem?_getD, List.getElem?_set, if_neg (Ne.symm hji), ← List.getD_eq_getElem?_getD]
          rw [h0]
          simp only [Bool.or_eq_true] at h1 ⊢
          rcases h1 with h1 | h1
          · exact .inl h1
          · right
            cases hoj : ops[j]? with
            | none => rfl
            | some oj =>
              rw [hoj] at h1
              simp only [Array.all_eq_true_iff_forall_mem, Bool.or_eq_true] at h1 ⊢
              intro e he
              exact (h1 e he).imp id (hmono _)
      · rw [hget] at hj
        by_cases hji : j = i
        · rw [if_pos hji] at hj
          simp only [Option.some.injEq] at hj
          rw [← hj, hji]; exact hx
        · rw [if_neg hji] at hj
          exact hst _ _ _ _ (hR j y hj) hbw
      · rw [hget] at hj
        by_cases hji : j = i
        · rw [if_pos hji] at hj
          simp only [Option.some.injEq] at hj
          rw [hji] at ha
          obtain ⟨b, h1, -, h3⟩ := hfr ha
          exact ⟨b, by rw [← hj]; exact h1, h3⟩
        · rw [if_neg hji] at hj
          obtain ⟨b, h1, h2⟩ := hal j y hj ha
          exact ⟨b, h1, Nat.lt_of_lt_of_le h2 hbw.size⟩
      · rw [hget] at hy hy'
        by_cases hji : j = i
        · rw [if_pos hji] at hy
          rw [if_neg (by omega)] at hy'
          simp only [Option.some.injEq] at hy
          rw [hji] at ha
          obtain ⟨b, h1, h2, -⟩ := hfr ha
          obtain ⟨b', h1', h2'⟩ := hal j' y' hy' ha'
          rw [← hy, h1, h1']
          intro h
          injection h with h
          injection h with h
          injection h with h
          omega
        · rw [if_neg hji] at hy
          by_cases hji' : j' = i
          · rw [if_pos hji'] at hy'
            simp only [Option.some.injEq] at hy'
            rw [hji'] at ha'
            obtain ⟨b, h1, h2, -⟩ := hfr ha'
            obtain ⟨b', h1', h2'⟩ := hal j y hy ha
            rw [← hy', h1, h1']
            intro h
            injection h with h
            injection h with h
            injection h with h
            omega
          · rw [if_neg hji'] at hy'
            exact hne j j' y y' hjj hy hy' ha ha'

/-- The same at a region. -/
theorem region_first_opt {id : Nat} (m : Nat) (ds : List Nat) (R : Nat → Value → World → Prop) (al opt : Nat → Bool) {a0 : Act} {v : World}
    (hmo : P.follows .mixedOrders = true)
    (hm : m ≤ ops.size) (hds : ds.length = m) (hnd : ds.Nodup) (hsz : (ds.all fun d => decide (d < a0.tmps.size)) = true) (hlive : liveB .any ops m opt = true)
    (hst : ∀ i x w w', R i x w → Below w.heap.size w w' → R i x w')
    (hstep : ∀ i, i < m → ∀ (a : Act) (w : World), Below v.heap.size v w → a.defers = a0.defers → (∀ t, ds.contains t = false → a.tmps.getD t undef = a0.tmps.getD t undef) →
      (∀ o, ops[i]? = some o → ∀ e ∈ o.after, Region.binds .any e = true → R e.on (a.tmps.getD (ds.getD e.on 0) undef) w) →
      ∀ K : Act → World → Prop, (∀ x w', R i x w' → Below w.heap.size w w' → (al i = true → ∃ b, x = .pointer (some ⟨b, 0, none⟩) ∧ w.heap.size ≤ b ∧ b < w'.heap.size) → K (a.put (some (ds.getD i 0)) x) w') → wpOp P ops Q i K a w)
    (hfin : ∀ (x : Nat → Value) (o : Nat → Bool) (k : Nat) (w' : World), Below v.heap.size v w' → (∀ i, i < m → (opt i = false ∨ o i = true) → R i (x i) w') → (∀ i j, i < m → j < m → i < j → opt i = false → opt j = false → al i = true → al j = true → x i ≠ x j) →
      ((List.range m).map fun i => !opt i || o i).count false = k →
      wpAny P .any ops Q (k + (ops.size - m)) (lst ops ((List.range m).map fun i => !opt i || o i)) ⟨fillT ds ((List.range m).map fun i => if !opt i || o i then some (x i) else none) a0.tmps, a0.defers⟩ w') :
    (Code.region id ops true).wp P Q a0 v := by
  refine wp_region_any hmo ?_
  have h := wpAny_first_many (P := P) (Q := Q) (md := .any) (ops := ops) m ds R al opt (a0 := a0) (v := v) hm hds hnd (fun d hd => by simpa using List.all_eq_true.1 hsz d hd) hlive hst hstep hfin m (List.replicate m none) { v with drawn := v.drawn + 1 } (by simp) (by simp) ?_ ((Below.refl _ _).drew) ?_ ?_ ?_
  · have e1 : (List.replicate m (none : Option Value)).map Option.isSome = List.replicate m false := by simp
    have e2 : lst ops (List.replicate m false) = Array.replicate ops.size false := by
      unfold lst
      rw [List.length_replicate, List.replicate_append_replicate, show m + (ops.size - m) = ops.size by omega, List.toArray_replicate]
    have e3 : ∀ (ds : List Nat) (n : Nat) (t : Array Value), fillT ds (List.replicate n none) t = t := by
      intro ds
      induction ds with
      | nil => intro n t; cases n <;> rfl
      | cons d ds ih =>
        intro n t
        cases n with
        | zero => rfl
        | succ n => exact ih n t
    rw [e1, e2, e3, show m + (ops.size - m) = ops.size by omega] at h
    exact h
  · unfold closedB
    rw [List.all_eq_true]
    intro i hi
    have : ((List.replicate m (none : Option Value)).map Option.isSome).getD i false = false := by
      rw [List.getD_eq_getElem?_getD, List.getElem?_map, List.getElem?_replicate]
      split <;> rfl
    rw [this]; rfl
  · intro i x h; rw [List.getElem?_replicate] at h; split at h <;> simp at h
  · intro i x h; rw [List.getElem?_replicate] at h; split at h <;> simp at h
  · intro i j x y _ h; rw [List.getElem?_replicate] at h; split at h <;> simp at h

/-- The same at a region. -/
theorem region_first_many {id : Nat} (m : Nat) (ds : List Nat) (R : Nat → Value → World → Prop) (al : Nat → Bool) {a0 : Act} {v : World}
    (hmo : P.follows .mixedOrders = true)
    (hm : m ≤ ops.size) (hds : ds.length = m) (hnd : ds.Nodup) (hsz : (ds.all fun d => decide (d < a0.tmps.size)) = true) (hlive : liveB .any ops m = true)
    (hst : ∀ i x w w', R i x w → Below w.heap.size w w' → R i x w')
    (hstep : ∀ i, i < m → ∀ (a : Act) (w : World), Below v.heap.size v w → a.defers = a0.defers → (∀ t, ds.contains t = false → a.tmps.getD t undef = a0.tmps.getD t undef) →
      (∀ o, ops[i]? = some o → ∀ e ∈ o.after, Region.binds .any e = true → R e.on (a.tmps.getD (ds.getD e.on 0) undef) w) →
      ∀ K : Act → World → Prop, (∀ x w', R i x w' → Below w.heap.size w w' → (al i = true → ∃ b, x = .pointer (some ⟨b, 0, none⟩) ∧ w.heap.size ≤ b ∧ b < w'.heap.size) → K (a.put (some (ds.getD i 0)) x) w') → wpOp P ops Q i K a w)
    (hfin : ∀ (x : Nat → Value) (w' : World), Below v.heap.size v w' → (∀ i, i < m → R i (x i) w') → (∀ i j, i < m → j < m → i < j → al i = true → al j = true → x i ≠ x j) →
      wpAny P .any ops Q (ops.size - m) (lst ops (List.replicate m true)) ⟨fillT ds ((List.range m).map fun i => some (x i)) a0.tmps, a0.defers⟩ w') :
    (Code.region id ops true).wp P Q a0 v := by
  refine region_first_opt (P := P) (Q := Q) (ops := ops) m ds R al (fun _ => false) hmo hm hds hnd hsz hlive hst hstep ?_
  intro x o k w' hb hR hne hk
  have e1 : ((List.range m).map fun i => !(fun _ : Nat => false) i || o i) = List.replicate m true := by
    apply List.ext_getElem?
    intro i
    by_cases hi : i < m
    · simp [hi]
    · rw [List.getElem?_eq_none (by simp; omega), List.getElem?_eq_none (by simp; omega)]
  have e2 : ((List.range m).map fun i => if !(fun _ : Nat => false) i || o i then some (x i) else none) = (List.range m).map fun i => some (x i) := by
    apply List.map_congr_left
    intro i _
    simp
  rw [e1] at hk
  rw [e1, e2]
  have hk0 : k = 0 := by rw [← hk, List.count_replicate]; simp
  subst hk0
  rw [Nat.zero_add]
  exact hfin x w' hb (fun i hi => hR i hi (.inl rfl)) (fun i j hi hj hij h1 h2 => hne i j hi hj hij rfl rfl h1 h2)

/-! ### The kinds of operations -/
theorem rg_in {i : Nat} {o : Oper} {K : Act → World → Prop} {a : Act} {w : World} (ho : ops[i]? = some o)
    (h : ∀ K' : Act → World → Prop, (∀ a w, K a w → K' a w) → if Region.wanted o (yielded ops a.tmps) = true then Oper.wp P o a w K' Q else K' (a.put o.dst undef) w) : wpOp P ops Q i K a w := by
  unfold wpOp
  simp only [ho]
  have := h K (fun _ _ h => h)
  split
  · rename_i hw; rw [if_pos hw] at this; exact .inl this
  · rename_i hw; rw [if_neg hw] at this; exact this
theorem wpAny_one {i fuel : Nat} {listed : Array Bool} {a : Act} {w : World} (hr : Region.ready md ops listed = [i]) (h : wpOp P ops Q i (wpAny P md ops Q fuel (listed.setIfInBounds i true)) a w) : wpAny P md ops Q (fuel + 1) listed a w :=
  ⟨fun e => (by rw [hr] at e; simp at e), fun j hj => (by rw [hr] at hj; simp at hj; subst hj; exact h)⟩
theorem wpAny_two {i j fuel : Nat} {listed : Array Bool} {a : Act} {w : World} (hr : Region.ready md ops listed = [i, j]) (h1 : wpOp P ops Q i (wpAny P md ops Q fuel (listed.setIfInBounds i true)) a w) (h2 : wpOp P ops Q j (wpAny P md ops Q fuel (listed.setIfInBounds j true)) a w) : wpAny P md ops Q (fuel + 1) listed a w :=
  ⟨fun e => (by rw [hr] at e; simp at e), fun k hk => (by rw [hr] at hk; simp at hk; rcases hk with rfl | rfl; exact h1; exact h2)⟩
end
end Go.Proofs.YtnokfhkcfebimaaGreat

/- Plain facts and boxes for noise.total. -/
namespace Go.Proofs.YtnokfhkcfebimaaGreat
open Go.RowKit

/-! ### One block changes -/
theorem NB.below {v v' : World} {g : Nat} (h : NB v g) (hs : g < v.heap.size) (hb : Below v.heap.size v v') : NB v' g := by
  intro j x
  rw [hb.cell (by simp; omega)]
  exact h j x
theorem Fq.one {w w' : World} {a : Fa} {l k : List Nat} {g : Nat} (h : Fq w a l k) (hf : Fr w w' (fun b => b = g)) (hg : NB w g) : Fq w' a l k :=
  ⟨h.u.fr hf (fun hl b o hA _ => h.u.nbox hl hA hg), h.v.fr hf (fun hl b o hA _ => h.v.nbox hl hA hg), h.c, h.d, h.n, h.m⟩
theorem Fo.one {w w' : World} {a : Fa} {o : Option Rat} {g : Nat} (h : Fo w a o) (hf : Fr w w' (fun b => b = g)) (hg : NB w g) : Fo w' a o := ⟨h.1.one hf hg, h.2⟩
theorem Bq.one {w w' : World} {g' : Nat} {c : Fa} {g : Nat} (h : Bq w g' c) (hf : Fr w w' (fun b => b = g)) (hg : g' ≠ g) : Bq w' g' c := by
  have hk := hf.block g' h.sz hg
  refine ⟨?_, ?_, fun j => ?_, Nat.lt_of_lt_of_le h.sz hf.size, fun j x => ?_⟩
  · rw [World.cell?_of_block (w := w) (a := ⟨g', 0, none⟩) hk]; exact h.c0
  · rw [World.cell?_of_block (w := w) (a := ⟨g', 1, none⟩) hk]; exact h.c1
  · rw [World.frozen?_of_block (w := w) (a := ⟨g', j, none⟩) hk]; exact h.fz j
  · rw [World.cell?_of_block (w := w) (a := ⟨g', j, none⟩) hk]; exact h.nb j x
/-! ### The state of the loop -/
structure TS (w wr : World) (a : Fa) (l k : List Nat) (n : Nat) (r : Rat) (b8 b9 b10 : Nat) (cq cs : Fa) (sv : Rat) : Prop where
  f1 : F1 w wr a l k
  rw : Rw wr b8 (ch n)
  q : Bq wr b9 cq
  qo : Fo wr cq (some (1 - r))
  s : Bq wr b10 cs
  so : Fo wr cs (some sv)
  d80 : b8 ≠ b10
  d90 : b9 ≠ b10
  g0 : w.heap.size + 1 < b10
theorem fr_fill {w : World} {g : Nat} (x y : Value) : Fr w ((w.setCell ⟨g, 0, none⟩ x).setCell ⟨g, 1, none⟩ y) (fun b => b = g) :=
  ((Fr.refl w (fun b => b = g)).setCell (p := ⟨g, 0, none⟩) (.inr rfl) x).setCell (p := ⟨g, 1, none⟩) (.inr rfl) y
/-- The box g holds a fraction of the value o. -/
structure Fx (v : World) (g : Nat) (c : Fa) (o : Option Rat) : Prop where
  b : Bq v g c
  o : Fo v c o
theorem Fx.below {v v' : World} {g : Nat} {c : Fa} {o : Option Rat} (h : Fx v g c o) (hb : Below v.heap.size v v') : Fx v' g c o := ⟨h.b.below hb, h.o.below hb⟩
theorem Fx.mk0 {w : World} {c : Fa} {o : Option Rat} (h : Fo w c o) (t : TypeId) {g : Nat} (hg : g = w.heap.size) : Fx (w.alloc (.cells #[.slice c.A c.n c.c, .slice c.B c.m c.d] t)) g c o := ⟨Bq.mk0 t c hg, h.alloc _⟩
/-! ### What fits -/
theorem two128 : ((2 ^ 32 : Nat) : Rat) ≤ ((4294967296 ^ 4 : Nat) : Rat) := by exact_mod_cast (by decide : 2 ^ 32 ≤ 4294967296 ^ 4)
theorem den_sc {r : Rat} (h : 0 ≤ r) : Sc r.den 1 r := by
  refine ⟨rn r, ?_⟩
  have h1 : r = mkRat (rn r) r.den := (mk_self h).symm
  have hd : (r.den : Rat) ≠ 0 := fun e => by
    have : r.den = 0 := by exact_mod_cast e
    have := r.den_pos
    omega
  have h2 : r = (rn r : Rat) / (r.den : Rat) := by
    conv => lhs; rw [h1, Rat.mkRat_eq_div]
    rfl
  have h3 : (rn r : Rat) / (r.den : Rat) * (r.den : Rat) = (rn r : Rat) := Rat.div_mul_cancel hd
  rw [Rat.pow_one, ← h3, ← h2]
theorem den_sc1 {r : Rat} (h0 : 0 ≤ r) (h1 : r ≤ 1) : Sc r.den 1 (1 - r) := by
  obtain ⟨x, hx⟩ := den_sc h0
  have hle : (x : Rat) ≤ (r.den : Rat) := by
    rw [← hx, Rat.pow_one]
    have := Rat.mul_le_mul_of_nonneg_right h1 (cast_nonneg r.den)
    rwa [Rat.one_mul] at this
  have hle' : x ≤ r.den := by exact_mod_cast hle
  refine ⟨r.den - x, ?_⟩
  have e : ((r.den - x : Nat) : Rat) = (r.den : Rat) - (x : Rat) := by
    have : ((r.den - x : Nat) : Rat) + (x : Rat) = (r.den : Rat) := by rw [← Rat.natCast_add, Nat.sub_add_cancel hle']
    grind
  rw [e, ← hx]
  grind
theorem one32 : (1 : Rat) ≤ ((2 ^ 32 : Nat) : Rat) := by exact_mod_cast (by decide : 1 ≤ 2 ^ 32)
/-- A chance. -/
structure Chn (r : Rat) : Prop where
  h0 : 0 ≤ r
  h1 : r ≤ 1
  hd : r.den ≤ 1000
section
variable {r : Rat} (h : Chn r)
include h
theorem Chn.q1 : 1 - r ≤ 1 := by have := h.h0; grind
theorem Chn.fit {n : Nat} {x : Rat} (hs : Sc r.den n x) (hn : n ≤ 128) (hx : x ≤ ((2 ^ 32 : Nat) : Rat)) : fitsR x = true :=
  hs.fits r.den_pos (by have := h.hd; omega) hn (Rat.le_trans hx two128)
theorem Chn.fq : fitsR (1 - r) = true := h.fit (den_sc1 h.h0 h.h1) (by omega) (Rat.le_trans h.q1 one32)
end
theorem chO_chn {o : Option Rat} {r : Rat} (h : o = some r) (h0 : 0 ≤ r) (hc : chO o = true) : Chn r := by
  subst h
  simp only [chO, Bool.and_eq_true, decide_eq_true_eq] at hc
  exact ⟨h0, hc.1, hc.2⟩
/-! ### Calls that succeed -/
def RetV (w : World) (s : Rat) (e : Ending) (w' : World) : Prop := ∃ c : Fa, e = .returned (.tuple #[.agg #[.slice c.A c.n c.c, .slice c.B c.m c.d], .int .i64 0]) ∧ Fo w' c (some s) ∧ Below w.heap.size w w'
theorem Ret.ok {w : World} {x : Option Rat × Int} {s : Rat} (h : x = (some s, 0)) {e : Ending} {w' : World} (hr : Ret w x e w') : RetV w s e w' := by
  subst h
  exact hr
theorem fmul_ok (w : World) (a b : Fa) (r s : Rat) (ha : Fo w a (some r)) (hb : Fo w b (some s)) (hf : fitsR (r * s) = true) : Calls Tryz.prog 80 #[.agg #[.slice a.A a.n a.c, .slice a.B a.m a.d], .agg #[.slice b.A b.n b.c, .slice b.B b.m b.d]] w fun e w' => RetV w (r * s) e w' :=
  (fmul_o w a b (some r) (some s) ha hb).mono fun e w' h => h.ok (limR_fit hf)
/-- What total returns. -/
def totR (o : Option Rat) (n : Int) (f : Nat → Bool) : Option Rat × Int :=
  if chO o = true then (if n < 0 ∨ 32 < n then (none, 3) else match o with | some r => (some (tot r n.toNat f), 0) | none => (none, 41)) else (none, 41)
end Go.Proofs.YtnokfhkcfebimaaGreat
