/- Contracts of the functions that these laws reach: part 3: Slices of limbs in the model's memory; Contracts: limbs.Trim; Contracts: limbs.Of, limbs.Compare; Rows of limbs of the call's own: make, append, store; Contracts: the reference's trim, Of; Contracts: limbs.Add; Contracts: limbs.Sub; Contracts: limbs.Mul. -/
import Derived.Test.YtnofljgmkdommaaG1
import Derived.Test.YtnofljgmkdommaaG2
import Derived.Test.YtnofljgmkdommaaProg
import Derived.Deep.RegionHeld3
set_option linter.unusedVariables false
set_option linter.unusedSimpArgs false

/- Slices of limbs in the model's memory. -/
namespace Go.Proofs.Ytnofljgmkdommaa
open Go.RowKit

def uv (x : Nat) : List Value := [.int .u32 (x : Int)]
theorem uv_len (x : Nat) : (uv x).length = 1 := rfl
theorem uv_one (x : Nat) : ∀ u ∈ uv x, u.oneCell' = true := by
  intro u hu
  simp [uv] at hu
  subst hu
  rfl
/-- The slice with the address A and the length n reads as the limbs l. -/
def Ul (w : World) (av : Option Nat) (A : Option Addr) (n : Nat) (l : List Nat) : Prop := Rs w av 1 uv A l ∧ l.length = n ∧ okL l

section
variable {w w' : World} {av : Option Nat} {A : Option Addr} {n : Nat} {l : List Nat}
theorem Ul.at (h : Ul w av A n l) {k : Nat} (hk : k < n) : ∃ b o x, A = some ⟨b, o, none⟩ ∧ some b ≠ av ∧ b < w.heap.size ∧ l[k]? = some x ∧ x < 4294967296 ∧ w.cell? ⟨b, o + k, none⟩ = some (.int .u32 (x : Int)) := by
  obtain ⟨hR, hl, ho⟩ := h
  have hg : l[k]? = some l[k] := List.getElem?_eq_getElem (by omega)
  obtain ⟨b, o, h1, h2, h3, h4⟩ := hR.at hg
  exact ⟨b, o, _, h1, h2, h3, hg, ho.get hg, by simpa using h4 0 _ rfl⟩
theorem Ul.fr (h : Ul w av A n l) {S : Nat → Prop} (hf : Fr w w' S) (hS : l ≠ [] → ∀ b o, A = some ⟨b, o, none⟩ → some b ≠ av → ¬ S b) : Ul w' av A n l :=
  ⟨h.1.fr hf (fun hl b o hA hb => hS hl b o hA hb), h.2⟩
theorem Ul.frF (h : Ul w av A n l) (hf : Fr w w' (fun _ => False)) : Ul w' av A n l := h.fr hf (fun _ _ _ _ _ h => h)
theorem Ul.below (h : Ul w av A n l) (hb : Below w.heap.size w w') : Ul w' av A n l := ⟨h.1.below hb, h.2⟩
theorem Ul.alloc (h : Ul w av A n l) (o : Obj) : Ul (w.alloc o) av A n l := ⟨h.1.alloc o, h.2⟩
theorem Ul.drew (h : Ul w av A n l) : Ul w.drew av A n l := h
theorem Ul.drewN (h : Ul w av A n l) (k : Nat) : Ul (w.drewN k) av A n l := h
theorem Ul.nil : Ul w av A 0 [] := ⟨Rs.nil, rfl, okL_nil⟩
theorem Ul.len (h : Ul w av A n l) : l.length = n := h.2.1
theorem Ul.ok (h : Ul w av A n l) : okL l := h.2.2
theorem Ul.weak (h : Ul w av A n l) : Ul w none A n l := ⟨h.1.weak, h.2⟩
/-- The first limbs. -/
theorem Ul.take (h : Ul w av A n l) {k : Nat} (hk : k ≤ n) : Ul w av A k (l.take k) := by
  refine ⟨fun hl => ?_, by rw [List.length_take, h.2.1]; omega, h.2.2.take k⟩
  obtain ⟨b, o, hA, hn, hb, hc⟩ := h.1 (by rintro rfl; simp at hl)
  refine ⟨b, o, hA, hn, hb, fun i a hi j u hu => hc i a ?_ j u hu⟩
  rw [List.getElem?_take] at hi
  split at hi
  · exact hi
  · simp at hi
theorem Ul.of_own {base : Nat} {e : TypeId} {c : Nat} (h : w.ownsRow base e 1 (.slice A n c) n (l.flatMap uv)) (hn : l.length = n) (ho : okL l) (hav : ∀ t, av = some t → t < base) : Ul w av A n l :=
  ⟨Rs.of_own h uv_len hn hav, hn, ho⟩
theorem Ul.lt (h : Ul w av A n l) : lv l < 4294967296 ^ n := by have := lv_lt h.ok; rwa [h.len] at this
end

/-- Nothing but answers was drawn. -/
def Dr (w w' : World) : Prop := ∃ m, w' = w.drewN m
theorem Dr.refl (w : World) : Dr w w := ⟨0, rfl⟩
theorem Dr.trans {a b c : World} (h : Dr a b) (k : Dr b c) : Dr a c := by
  obtain ⟨m, rfl⟩ := h
  obtain ⟨n, rfl⟩ := k
  exact ⟨m + n, by rw [World.drewN_drewN]⟩
theorem Dr.drewN {a b : World} (h : Dr a b) (n : Nat) : Dr a (b.drewN n) := h.trans ⟨n, rfl⟩
theorem Dr.drew {a b : World} (h : Dr a b) : Dr a b.drew := h.trans ⟨1, rfl⟩
theorem Dr.fr {a b : World} (h : Dr a b) (S : Nat → Prop) : Fr a b S := by
  obtain ⟨m, rfl⟩ := h
  exact (Fr.refl a S).drewN m
theorem Dr.below {a b : World} (h : Dr a b) : Below a.heap.size a b := (h.fr (fun _ => False)).below (Nat.le_refl _) (fun _ _ h => h)
theorem Ul.dr {w w' : World} {av : Option Nat} {A : Option Addr} {n : Nat} {l : List Nat} (h : Ul w av A n l) (hd : Dr w w') : Ul w' av A n l := by
  obtain ⟨m, rfl⟩ := hd
  exact h.drewN m
theorem fr_below {a b : World} (h : Fr a b (fun _ => False)) : Below a.heap.size a b := h.below (Nat.le_refl _) (fun _ _ h => h)
end Go.Proofs.Ytnofljgmkdommaa

/- Contracts: limbs.Trim. -/
namespace Go.Proofs.Ytnofljgmkdommaa
open Go.RowKit

set_option maxHeartbeats 1000000 in
theorem trim_any (w : World) (av : Option Nat) (A : Option Addr) (n c : Nat) (l : List Nat) (hU : Ul w av A n l) (hc : n ≤ c) (hc63 : n ≤ 4294967296) :
    Calls Try.prog 83 #[.slice A n c] w fun e w' => ∃ m, e = .returned (.slice A m c) ∧ m ≤ n ∧ Ul w av A m (lm (lv l)) ∧ w' = w := by
  have HU := hide hU
  have HE := hide (show lv (l.take n) = lv l by rw [List.take_of_length_le (by have := hU.len; omega)])
  clear hU
  go_enter Try.func83, Try.ntmps83
  go_wp2
  go_loop [0] (fun v => ∃ k : Nat, k ≤ n ∧ v = .slice A k c ∧ Hid (lv (l.take k) = lv l)) (fun v => match v with | .slice _ k _ => k | _ => 0)
  case atStart => exact ⟨n, Nat.le_refl _, rfl, HE⟩
  case round =>
    obtain ⟨k, hk, rfl, HK⟩ := hrel
    by_cases hk0 : k = 0
    · subst hk0
      go_wp2
      go_ret
      have e : lm (lv l) = [] := by rw [← HK.out]; simp [lv, lm_zero]
      exact ⟨0, rfl, by omega, by rw [e]; exact Ul.nil, rfl⟩
    · obtain ⟨j, rfl⟩ : ∃ j, k = j + 1 := ⟨k - 1, by omega⟩
      obtain ⟨b, o, x, rfl, -, -, hx, hxl, hcell⟩ := HU.out.at (k := j) (by omega)
      have HX := hide hx
      clear hx
      have g1 : (0 : Int) ≤ (j : Int) := by omega
      have g2 : decide ((0 : Int) < (j : Int) + 1) = true := decide_eq_true (by omega)
      by_cases hx0 : x = 0
      · subst hx0
        go_wp2
        go_round
        case rel => exact ⟨j, by omega, rfl, hide ((lv_take_zero HX.out).symm.trans HK.out)⟩
        case measure => simp
      · have hxd : ((x : Int) == 0) = false := by simp; omega
        go_wp2
        go_ret
        have e := take_eq_lm HU.out.ok (by have := HU.out.len; omega) HK.out (.inr ⟨x, HX.out, hx0⟩)
        exact ⟨j + 1, rfl, by omega, by rw [← e]; exact HU.out.take (by omega), rfl⟩
end Go.Proofs.Ytnofljgmkdommaa

/- Contracts: limbs.Of, limbs.Compare. -/
namespace Go.Proofs.Ytnofljgmkdommaa
open Go.RowKit

theorem drop_cons {l : List Nat} {k x : Nat} (h : l[k]? = some x) : l.drop k = x :: l.drop (k + 1) := by
  have hk : k < l.length := (List.getElem?_eq_some_iff.1 h).1
  rw [List.drop_eq_getElem_cons hk, (List.getElem?_eq_some_iff.1 h).2]
theorem lv_two (n : Nat) : lv [n % 4294967296, n / 4294967296] = n := by simp [lv]; omega
theorem ul_two {w : World} (n : Nat) (hn : n < 18446744073709551616) : Ul (w.alloc (Obj.cells #[Value.int IntKind.u32 ((n : Int) % 4294967296), Value.int IntKind.u32 ((n : Int) / 4294967296)] 71)) none (some ⟨w.heap.size, 0, none⟩) 2 [n % 4294967296, n / 4294967296] := by
  refine ⟨fun _ => ⟨w.heap.size, 0, rfl, by simp, by simp, fun k a hk j u hu => ?_⟩, rfl, fun x hx => ?_⟩
  · have hj : j = 0 := by
      have := (List.getElem?_eq_some_iff.1 hu).1
      simp [uv] at this
      omega
    subst hj
    simp [uv] at hu
    subst hu
    rcases k with _ | _ | k
    · simp at hk; subst hk; simp [go_sem]
    · simp at hk; subst hk; simp [go_sem]
    · simp at hk
  · simp at hx; omega
set_option maxHeartbeats 1000000 in
theorem lof_any (w : World) (n : Nat) (hn : n < 18446744073709551616) :
    Calls Try.prog 92 #[.int .u64 (n : Int)] w fun e w' => ∃ A m c, e = .returned (.slice A m c) ∧ m ≤ c ∧ m ≤ 2 ∧ Ul w' none A m (lm n) ∧ Below w.heap.size w w' := by
  have HT := hide (ul_two (w := w) n hn)
  go_enter Try.func92, Try.ntmps92
  go_wp2_with (go_at_call 83; refine (trim_any _ none _ 2 2 _ HT.out (by omega) (by omega)).mono ?_; rintro e w' ⟨m, rfl, hm2, hu, rfl⟩; rw [lv_two] at hu)
  go_ret
  exact ⟨_, m, 2, by rfl, hm2, hm2, hu, (Below.refl _ _).alloc (Nat.le_refl _) _⟩
set_option maxHeartbeats 1000000 in
theorem lcmp_any (w : World) (av av' : Option Nat) (A : Option Addr) (n c : Nat) (A' : Option Addr) (n' c' : Nat) (x y : Nat) (hU : Ul w av A n (lm x)) (hV : Ul w av' A' n' (lm y)) (hn : n ≤ 4294967296) (hn' : n' ≤ 4294967296) :
    Calls Try.prog 42 #[.slice A n c, .slice A' n' c'] w fun e w' => e = .returned (.int .i64 (cmpN x y)) ∧ Dr w w' := by
  have HU := hide hU
  have HV := hide hV
  clear hU hV
  by_cases hne : n = n'
  · subst hne
    go_enter Try.func42, Try.ntmps42
    go_wp2
    go_loopw [5] (fun i wr => ∃ k : Nat, k ≤ n ∧ i = .int .i64 ((k : Int) - 1) ∧ Hid ((lm x).drop k = (lm y).drop k) ∧ Hid (Dr w wr)) (fun i _ => (intOf i + 1).toNat)
    case atStart => exact ⟨n, Nat.le_refl _, rfl, hide (by rw [List.drop_eq_nil_of_le (by have := HU.out.len; omega), List.drop_eq_nil_of_le (by have := HV.out.len; omega)]), hide (Dr.refl w)⟩
    case round =>
      obtain ⟨k, hk, rfl, HK, HD⟩ := hrel
      by_cases hk0 : k = 0
      · subst hk0
        go_wp2
        go_ret
        have e : x = y := lm_inj (by simpa using HK.out)
        exact ⟨by rw [e, cmpN_eq]; rfl, HD.out⟩
      · obtain ⟨j, rfl⟩ : ∃ j, k = j + 1 := ⟨k - 1, by omega⟩
        obtain ⟨b, o, p, rfl, -, -, hp, hpl, hcell⟩ := (HU.out.dr HD.out).at (k := j) (by omega)
        obtain ⟨b', o', q, rfl, -, -, hq, hql, hcell'⟩ := (HV.out.dr HD.out).at (k := j) (by omega)
        have HP := hide hp
        have HQ := hide hq
        clear hp hq
        have g1 : (0 : Int) ≤ (j : Int) := by omega
        have g2 : (j : Int) < (n : Int) := by omega
        rcases Nat.lt_trichotomy p q with hlt | heq | hlt
        · have h := lt_of_limb (okL_lm x) HP.out HQ.out HK.out hlt
          rw [lv_lm, lv_lm] at h
          have HC := hide (cmpN_lt h)
          clear h
          have d1 : ((p : Int) == (q : Int)) = false := by simp; omega
          have d2 : decide ((p : Int) < (q : Int)) = true := decide_eq_true (by omega)
          go_wp2
          go_quiet (fail)
          go_wp2
          go_quiet (fail)
          go_wp2
          go_ret
          exact ⟨by rw [HC.out]; rfl, (HD.out.drewN _).drewN _⟩
        · subst heq
          go_wp2
          go_quiet (fail)
          go_wp2
          go_roundw
          case rel => exact ⟨j, by omega, by go_num, hide (by rw [drop_cons HP.out, drop_cons HQ.out, HK.out]), hide (HD.out.drewN _)⟩
          case measure => simp [intOf] <;> omega
        · have h := lt_of_limb (okL_lm y) HQ.out HP.out HK.out.symm hlt
          rw [lv_lm, lv_lm] at h
          have HC := hide (cmpN_gt h)
          clear h
          have d1 : ((p : Int) == (q : Int)) = false := by simp; omega
          have d2 : decide ((p : Int) < (q : Int)) = false := decide_eq_false (by omega)
          go_wp2
          go_quiet (fail)
          go_wp2
          go_quiet (fail)
          go_wp2
          go_ret
          exact ⟨by rw [HC.out]; rfl, (HD.out.drewN _).drewN _⟩
  · by_cases hlt : n < n'
    · have h : x < y := lt_of_length (by rw [HU.out.len, HV.out.len]; exact hlt)
      go_enter Try.func42, Try.ntmps42
      go_wp2
      go_ret
      exact ⟨by rw [cmpN_lt h]; rfl, Dr.refl w⟩
    · have h : y < x := lt_of_length (by rw [HU.out.len, HV.out.len]; omega)
      go_enter Try.func42, Try.ntmps42
      go_wp2
      go_ret
      exact ⟨by rw [cmpN_gt h]; rfl, Dr.refl w⟩
end Go.Proofs.Ytnofljgmkdommaa

/- Rows of limbs of the call's own: make, append, store. -/
namespace Go.Proofs.Ytnofljgmkdommaa
open Go.RowKit

theorem info71 : (Try.prog.info? 71).map (fun i => (i.zero, i.size, i.bytes)) = some (some (.int .u32 0), 1, 4) := by kernel_rfl
/-- In w, which is w0 with new blocks, the slice is nil or lies in a new block, and reads as l. -/
structure OF (w0 w : World) (A : Option Addr) (m c : Nat) (l : List Nat) : Prop where
  own : w.ownsRow w0.heap.size 71 1 (.slice A m c) m (l.flatMap uv)
  len : l.length = m
  ok : okL l
  fr : Fr w0 w (fun _ => False)

theorem own_slice_cap {w : World} {B s m c : Nat} {e : TypeId} {A : Option Addr} {xs : List Value} (h : w.ownsRow B e s (.slice A m c) m xs) (hs : 0 < s) : m ≤ c := by
  rcases h.2 with ⟨h1, h2⟩ | ⟨g, cap, cur, h1, _, _, h3, _⟩
  · injection h1 with _ hm hc
    omega
  · injection h1 with _ _ h4
    omega
section
variable {w0 w w' : World} {A : Option Addr} {m c : Nat} {l : List Nat}
theorem OF.cap (h : OF w0 w A m c l) : m ≤ c := own_slice_cap h.own (by omega)
theorem OF.ul (h : OF w0 w A m c l) : Ul w none A m l := Ul.of_own h.own h.len h.ok (by simp)
theorem OF.nil (hf : Fr w0 w (fun _ => False)) : OF w0 w none 0 0 [] := ⟨World.ownsRow_nil _ _ _ _, rfl, okL_nil, hf⟩
theorem OF.drew (h : OF w0 w A m c l) : OF w0 w.drew A m c l := ⟨h.own, h.len, h.ok, h.fr.drew⟩
theorem OF.drewN (h : OF w0 w A m c l) (n : Nat) : OF w0 (w.drewN n) A m c l := ⟨h.own, h.len, h.ok, h.fr.drewN n⟩
theorem OF.below (h : OF w0 w A m c l) (hb : Below w.heap.size w w') : OF w0 w' A m c l := ⟨own_below h.own hb, h.len, h.ok, h.fr.below_ hb⟩
theorem OF.alloc (h : OF w0 w A m c l) (o : Obj) : OF w0 (w.alloc o) A m c l := h.below ((Below.refl _ _).alloc (Nat.le_refl _) o)
theorem OF.at (h : OF w0 w A m c l) {k : Nat} (hk : k < m) : ∃ g x, A = some ⟨g, 0, none⟩ ∧ w0.heap.size ≤ g ∧ g < w.heap.size ∧ l[k]? = some x ∧ x < 4294967296 ∧ w.cell? ⟨g, k, none⟩ = some (.int .u32 (x : Int)) ∧ (∀ j, w.frozen? ⟨g, j, none⟩ = false) := by
  obtain ⟨g, cap, hv, hb, hlt⟩ := h.own.form (by omega)
  have hA : A = some ⟨g, 0, none⟩ := by injection hv
  subst hA
  have hl : k < l.length := by have := h.len; omega
  have hg : l[k]? = some l[k] := List.getElem?_eq_getElem hl
  refine ⟨g, _, rfl, hb, hlt, hg, h.ok.get hg, ?_, fun j => h.own.frozenAt j⟩
  have := own_cells uv_len h.own hg 0 _ rfl
  simpa using this
theorem OF.put {g k x : Nat} (h : OF w0 w (some ⟨g, 0, none⟩) m c l) (hk : k < m) (hx : x < 4294967296) : OF w0 (w.setCell ⟨g, k, none⟩ (.int .u32 (x : Int))) (some ⟨g, 0, none⟩) m c (l.set k x) := by
  have hl : k < l.length := by have := h.len; omega
  have hg : l[k]? = some l[k] := List.getElem?_eq_getElem hl
  obtain ⟨g', _, hA, hb, _⟩ := h.at hk
  have hgg : g = g' := by simpa using hA
  subst hgg
  refine ⟨?_, by rw [List.length_set]; exact h.len, h.ok.set hx, Fr.setCell h.fr (Or.inl hb) _⟩
  have := own_put (t1 := x) (u := .int .u32 (x : Int)) (j := 0) uv_len (own_start h.own hg) hl (by omega) rfl
  simpa using this
end

theorem made_u32 (n c : Nat) (h : n ≤ c) : (madeCells (Value.int .u32 0).cells (c * 1)).toList.take (n * 1) = (List.replicate n 0).flatMap uv := by
  have e : (madeCells (Value.int .u32 0).cells (c * 1)).toList = List.replicate c (.int .u32 0) := by
    apply List.ext_getElem?
    intro i
    rw [Array.getElem?_toList]
    by_cases hi : i < c
    · rw [List.getElem?_replicate, if_pos hi, Array.getElem?_eq_getElem (by rw [size_madeCells]; omega)]
      simp [madeCells, Value.cells, Nat.mod_one]
    · rw [List.getElem?_replicate, if_neg hi, Array.getElem?_eq_none (by rw [size_madeCells]; omega)]
  rw [e, Nat.mul_one, List.take_replicate, Nat.min_eq_left h]
  clear e h
  induction n with
  | zero => rfl
  | succ n ih => rw [List.replicate_succ, List.replicate_succ, List.flatMap_cons, ← ih]; rfl

/-- 'make([]uint32, n, c)'. -/
theorem wl_make_u32 {w0 w : World} {ops : Array Oper} {rest : List Oper} {o : Oper} {a : Act} {Q : Exit → Act → World → Prop}
    (hg : o.guard = none) (l k : Operand) (t : TypeId) (ht : Try.prog.underlying t = some (.slice 71)) (hop : o.op = Op.makeSlice t l k)
    (n c : Nat) (N C : Int) (hl : a.eval l = .int .i64 N) (hc : a.eval k = .int .i64 C) (hN : N = (n : Int)) (hC : C = (c : Int)) (hnc : n ≤ c) (b3 : c ≤ 4294967296) (hf : Fr w0 w (fun _ => False))
    (hK : ∀ w', OF w0 w' (some ⟨w.heap.size, 0, none⟩) n c (List.replicate n 0) → w.heap.size < w'.heap.size → Below w.heap.size w w' → wpList Try.prog ops Q rest (a.put o.dst (.slice (some ⟨w.heap.size, 0, none⟩) n c)) w') :
    wpList Try.prog ops Q (o :: rest) a w := by
  refine wl_make w hg l k t hop w.heap.size 71 _ 1 4 ht info71 w.heap.size n c rfl N C hl hc hN hC hnc rfl (by omega) (by simp only [maxLen]; omega) (Nat.le_refl _) ?_
  intro w' ys hown hys hgr
  have hys' := hys.out
  rw [made_u32 n c hnc] at hys'
  subst hys'
  refine hK w' ⟨own_base hown hf.size, by simp, okL_replicate n, hf.below_ (below_of_grown hgr)⟩ ?_ (below_of_grown hgr)
  rcases hown.2 with ⟨h, _⟩ | ⟨g, cap, cur, hv, _, hh, _⟩
  · simp at h
  · have : w.heap.size = g := by
      simp only [Value.slice.injEq, Option.some.injEq, Addr.mk.injEq, and_true, true_and] at hv
      exact hv.1
    rcases Nat.lt_or_ge g w'.heap.size with hlt | hge
    · omega
    · rw [Array.getElem?_eq_none hge] at hh; cases hh

/-- 'append(out, x)'. -/
theorem wl_app_u32 {w0 w : World} {ops : Array Oper} {rest : List Oper} {o : Oper} {a : Act} {Q : Exit → Act → World → Prop} (hgd : o.guard = none) (s x : Operand) (t : TypeId) (ht : Try.prog.underlying t = some (.slice 71))
    (ho : o.op = .call { callee := .builtin .append, args := #[s, x], argTypes := #[t, t] })
    (A : Option Addr) (m c : Nat) (l : List Nat) (X : Nat) (xv : Int) (hxv : xv = (X : Int)) (hX : X < 4294967296) (hs : a.eval s = .slice A m c) (hx : a.eval x = .slice (some ⟨w.heap.size, 0, none⟩) 1 1) (hO : OF w0 w A m c l) (h63 : m + 1 ≤ 4294967296)
    (h : ∀ A' c' w', OF w0 w' A' (m + 1) c' (l ++ [X]) → wpList Try.prog ops Q rest (a.put o.dst (.slice A' (m + 1) c')) w') :
    wpList Try.prog ops Q (o :: rest) a (w.alloc (.cells #[.int .u32 xv] 71)) := by
  subst hxv
  have hO1 := hO.alloc (.cells #[.int .u32 (X : Int)] 71)
  refine wl_append _ hgd s x t ho w0.heap.size 71 _ 1 4 ht info71 rfl (by omega) (.slice A m c) m l hs hO1.own _ 1 1 [X] hx
    (rs_one (av := none) (by simp) (by simp) (by intro j u hu; match j with | 0 => simp [uv] at hu; subst hu; simp [go_sem] | j + 1 => simp [uv] at hu)) rfl uv_len uv_one h63 (by omega) hO1.fr.size ?_
  intro A' c' w' hown hgr _
  refine h A' c' w' ⟨hown, by simp [hO.len], hO.ok.append (by intro y hy; simp at hy; omega), hO1.fr.grown hgr ?_⟩
  intro g hg
  left
  rcases hO1.own.2 with ⟨h1, _⟩ | ⟨g', cap, cur, hv, hb, _⟩
  · rw [h1] at hg; simp [Value.ownBlock] at hg
  · rw [hv] at hg
    simp [Value.ownBlock] at hg
    omega
theorem OF.ulav {w0 w : World} {A : Option Addr} {m c : Nat} {l : List Nat} (h : OF w0 w A m c l) {av : Option Nat} (hav : ∀ t, av = some t → t < w0.heap.size) : Ul w av A m l := Ul.of_own h.own h.len h.ok hav
/-- A part of the row. -/
theorem OF.seg {w0 w : World} {g m c : Nat} {l : List Nat} (h : OF w0 w (some ⟨g, 0, none⟩) m c l) {j k : Nat} (hk : j + k ≤ m) : Ul w none (some ⟨g, j, none⟩) k ((l.drop j).take k) := by
  refine ⟨fun hl => ?_, by rw [List.length_take, List.length_drop]; have := h.len; omega, (h.ok.drop j).take k⟩
  have hm : 0 < m := by
    rcases Nat.eq_zero_or_pos m with h0 | h0
    · exfalso
      have hk0 : k = 0 := by omega
      subst hk0
      simp at hl
    · exact h0
  obtain ⟨g', _, hg, _, hgl, _⟩ := h.at hm
  obtain rfl : g = g' := by simpa using hg
  refine ⟨g, j, rfl, by simp, hgl, fun i a hi q u hu => ?_⟩
  rw [List.getElem?_take] at hi
  split at hi
  · rename_i hik
    rw [List.getElem?_drop] at hi
    have hcell := own_cells uv_len h.own hi q u hu
    rw [← hcell]
    congr 2
    omega
  · simp at hi
/-- Other blocks were written. -/
theorem OF.frS {w0 w w' : World} {g m c : Nat} {l : List Nat} {S : Nat → Prop} (h : OF w0 w (some ⟨g, 0, none⟩) m c l) (hf : Fr w w' S) (hS : ¬ S g) (hS2 : ∀ k, S k → w0.heap.size ≤ k) : OF w0 w' (some ⟨g, 0, none⟩) m c l :=
  ⟨own_fr h.own hf (by intro g' hg'; simp [Value.ownBlock] at hg'; subst hg'; exact hS), h.len, h.ok, h.fr.step hf (fun i hi hs => by have := hS2 i hs; omega)⟩
/-- 'append(out, s...)'. -/
theorem wl_appall_u32 {w0 w : World} {ops : Array Oper} {rest : List Oper} {o : Oper} {a : Act} {Q : Exit → Act → World → Prop} (hgd : o.guard = none) (s x : Operand) (t : TypeId) (ht : Try.prog.underlying t = some (.slice 71))
    (ho : o.op = .call { callee := .builtin .append, args := #[s, x], argTypes := #[t, t] })
    (A : Option Addr) (m c : Nat) (l : List Nat) (av : Option Nat) (B : Option Addr) (k d : Nat) (l2 : List Nat) (hs : a.eval s = .slice A m c) (hx : a.eval x = .slice B k d) (hO : OF w0 w A m c l) (hU : Ul w av B k l2) (h63 : m + k ≤ 4294967296)
    (h : ∀ A' c' w', OF w0 w' A' (m + k) c' (l ++ l2) → wpList Try.prog ops Q rest (a.put o.dst (.slice A' (m + k) c')) w') :
    wpList Try.prog ops Q (o :: rest) a w := by
  refine wl_append _ hgd s x t ho w0.heap.size 71 _ 1 4 ht info71 rfl (by omega) (.slice A m c) m l hs hO.own B k d l2 hx hU.1 hU.len uv_len uv_one h63 (by omega) hO.fr.size ?_
  intro A' c' w' hown hgr _
  refine h A' c' w' ⟨hown, by simp [hO.len, hU.len], hO.ok.append hU.ok, hO.fr.grown hgr ?_⟩
  intro g hg
  left
  rcases hO.own.2 with ⟨h1, _⟩ | ⟨g', cap, cur, hv, hb, _⟩
  · rw [h1] at hg; simp [Value.ownBlock] at hg
  · rw [hv] at hg
    simp [Value.ownBlock] at hg
    omega
/-- A new empty row. -/
theorem OF.new {w0 w : World} (hf : Fr w0 w (fun _ => False)) : OF w0 (w.alloc (.cells #[] 71)) (some ⟨w.heap.size, 0, none⟩) 0 0 [] :=
  ⟨⟨rfl, .inr ⟨w.heap.size, 0, #[], rfl, hf.size, heap_alloc_new w _, Nat.le_refl _, by simp only [maxLen]; omega, rfl, rfl⟩⟩, rfl, okL_nil, hf.alloc _⟩
end Go.Proofs.Ytnofljgmkdommaa

/- Contracts: the reference's trim, Of. -/
namespace Go.Proofs.Ytnofljgmkdommaa
open Go.RowKit

set_option maxRecDepth 100000 in
set_option maxHeartbeats 4000000 in
theorem r1trim_any (w : World) (av : Option Nat) (A : Option Addr) (n c : Nat) (l : List Nat) (hU : Ul w av A n l) (hc : n ≤ c) (hc63 : n ≤ 4294967296) :
    Calls Try.prog 87 #[.slice A n c] w fun e w' => ∃ A' m c', e = .returned (.slice A' m c') ∧ m ≤ n ∧ OF w w' A' m c' (lm (lv l)) := by
  have HU := hide hU
  have HE := hide (show lv (l.take n) = lv l by rw [List.take_of_length_le (by have := hU.len; omega)])
  clear hU
  go_enter Try.func87, Try.ntmps87
  go_wp2
  go_loop [3] (fun v => ∃ k : Nat, k ≤ n ∧ v = .int .i64 (k : Int) ∧ Hid (lv (l.take k) = lv l)) (fun v => (intOf v).toNat)
  case atStart => exact ⟨n, Nat.le_refl _, rfl, HE⟩
  case round =>
    obtain ⟨k, hk, rfl, HK⟩ := hrel
    by_cases hk0 : k = 0
    · subst hk0
      have e : lm (lv l) = [] := by rw [← HK.out]; simp [lv, lm_zero]
      have HEE := hide e
      clear e
      go_wp2_with (at_builtin; refine wl_appall_u32 (w0 := w) rfl _ _ _ Try.underlying34 rfl none 0 0 [] av _ 0 c [] rfl rfl (OF.nil (Fr.refl w _)) Ul.nil (by omega) ?_; intro A' c' w' ho; have HO := hide ho; clear ho)
      go_ret
      exact ⟨A', 0, c', rfl, by omega, by rw [HEE.out]; exact HO.out⟩
    · obtain ⟨j, rfl⟩ : ∃ j, k = j + 1 := ⟨k - 1, by omega⟩
      obtain ⟨b, o, x, rfl, -, -, hx, hxl, hcell⟩ := HU.out.at (k := j) (by omega)
      have HX := hide hx
      clear hx
      have g1 : (0 : Int) ≤ (j : Int) := by omega
      have g2 : decide ((0 : Int) < (j : Int) + 1) = true := decide_eq_true (by omega)
      have g3 : (j : Int) < (n : Int) := by omega
      by_cases hx0 : x = 0
      · subst hx0
        go_wp2
        go_round
        case rel => exact ⟨j, by omega, by go_num, hide ((lv_take_zero HX.out).symm.trans HK.out)⟩
        case measure => simp [intOf] <;> omega
      · have hxd : ((x : Int) == 0) = false := by simp; omega
        have e := take_eq_lm HU.out.ok (by have := HU.out.len; omega) HK.out (.inr ⟨x, HX.out, hx0⟩)
        have HEE := hide e
        have HT := hide (HU.out.take (k := j + 1) (by omega))
        clear e
        go_wp2_with (at_builtin; refine wl_appall_u32 (w0 := w) rfl _ _ _ Try.underlying34 rfl none 0 0 [] av _ (j + 1) c (l.take (j + 1)) rfl rfl (OF.nil (Fr.refl w _)) HT.out (by omega) ?_; intro A' c' w' ho; have HO := hide ho; clear ho)
        go_ret
        have ho := HO.out
        rw [Nat.zero_add, List.nil_append] at ho
        exact ⟨A', j + 1, c', rfl, by omega, by rw [← HEE.out]; exact ho⟩
set_option maxHeartbeats 1000000 in
theorem r1of_any (w : World) (n : Nat) (hn : n < 18446744073709551616) :
    Calls Try.prog 80 #[.int .u64 (n : Int)] w fun e w' => ∃ A m c, e = .returned (.slice A m c) ∧ m ≤ c ∧ m ≤ 2 ∧ Ul w' none A m (lm n) ∧ Below w.heap.size w w' := by
  have HT := hide (ul_two (w := w) n hn)
  go_enter Try.func80, Try.ntmps80
  go_wp2_with (go_at_call 87; refine (r1trim_any _ none _ 2 2 _ HT.out (by omega) (by omega)).mono ?_; rintro e w' ⟨A, m, c, rfl, hm2, ho⟩; rw [lv_two] at ho)
  go_ret
  exact ⟨_, m, _, by rfl, ho.cap, hm2, ho.ul, ((Below.refl _ _).alloc (Nat.le_refl _) _).trans ((ho.fr.below (Nat.le_refl _) (fun _ _ h => h)).mono (by simp))⟩
end Go.Proofs.Ytnofljgmkdommaa

/- Contracts: limbs.Add. -/
namespace Go.Proofs.Ytnofljgmkdommaa
open Go.RowKit

theorem vint {k : IntKind} {a b : Int} (h : a = b) : Value.int k a = Value.int k b := by rw [h]
theorem getD_some {l : List Nat} {k x : Nat} (h : l[k]? = some x) : l[k]?.getD 0 = x := by rw [h]; rfl
theorem getD_none {l : List Nat} {k : Nat} (h : l.length ≤ k) : l[k]?.getD 0 = 0 := by rw [List.getElem?_eq_none h]; rfl
/-- What the sum of two numbers is at the end of the loop. -/
theorem add_end {o : List Nat} {x y n c : Nat} (hl : o.length = n) (hx : (lm x).length = n) (hy : (lm y).length ≤ n) (h : lv o + 4294967296 ^ n * c = lv ((lm x).take n) + lv ((lm y).take n)) : lv (o ++ [c]) = x + y := by
  rw [List.take_of_length_le (by omega), List.take_of_length_le (by omega), lv_lm, lv_lm] at h
  rw [lv_snoc, hl, h]
set_option maxRecDepth 100000 in
set_option maxHeartbeats 2000000 in
theorem ladd_any (w : World) (av av' : Option Nat) (A : Option Addr) (n c : Nat) (B : Option Addr) (m d : Nat) (x y : Nat) (hU : Ul w av A n (lm x)) (hV : Ul w av' B m (lm y)) (hn : n ≤ 1000000) (hm : m ≤ 1000000) :
    Calls Try.prog 61 #[.slice A n c, .slice B m d] w fun e w' => ∃ A' m' c', e = .returned (.slice A' m' c') ∧ m' ≤ c' ∧ Ul w' none A' m' (lm (x + y)) ∧ Below w.heap.size w w' := by
  have HU := hide hU
  have HV := hide hV
  clear hU hV
  by_cases hlt : n < m
  · rw [Nat.add_comm x y]
    go_enter Try.func61, Try.ntmps61
    go_wp2_with (at_make; refine wl_make_u32 (w0 := w) rfl _ _ _ Try.underlying33 rfl 0 (m + 1) _ _ rfl rfl rfl (by omega) (by omega) (by omega) (Fr.refl _ _) ?_; intro w1 ho1 hs1 hb1; have HO1 := hide ho1; clear ho1 hb1)
    go_loopw [5, 6, 23] (fun out carry i wr => ∃ (k c : Nat) (A' : Option Addr) (c' : Nat) (o : List Nat), k ≤ m ∧ c ≤ 1 ∧ out = .slice A' k c' ∧ carry = .int .u64 (c : Int) ∧ i = .int .i64 k ∧ Hid (OF w wr A' k c' o) ∧ Hid (lv o + 4294967296 ^ k * c = lv ((lm y).take k) + lv ((lm x).take k))) (fun _ _ i _ => m - (intOf i).toNat)
    case atStart => exact ⟨0, 0, _, _, [], by omega, by omega, rfl, rfl, rfl, HO1, hide (by simp [lv])⟩
    case round =>
      obtain ⟨k, c, A', c', o, hk, hc1, rfl, rfl, rfl, HO, HI⟩ := hrel
      by_cases hkn : k < m
      · obtain ⟨b1, o1, p, rfl, -, -, hp, hpl, hcell⟩ := (HV.out.frF HO.out.fr).at hkn
        have HP := hide (getD_some hp)
        clear hp
        have g1 : (0 : Int) ≤ (k : Int) := by omega
        have g2 : (k : Int) < (m : Int) := by omega
        by_cases hkm : k < n
        · obtain ⟨b2, o2, q, rfl, -, -, hq, hql, hcell2⟩ := (HU.out.frF HO.out.fr).at hkm
          have HQ := hide (getD_some hq)
          clear hq
          have g3 : (k : Int) < (n : Int) := by omega
          have g4 : decide ((k : Int) < (n : Int)) = true := decide_eq_true g3
          go_wp2_with (at_builtin; refine wl_app_u32 (w0 := w) rfl _ _ _ Try.underlying33 rfl A' k c' o ((p + c + q) % 4294967296) _ (by omega) (by omega) rfl rfl HO.out (by omega) ?_; intro A2 c2 w2 ho2; have HO2 := hide ho2; clear ho2)
          go_roundw
          case rel => exact ⟨k + 1, (p + c + q) / 4294967296, A2, c2, _, by omega, by omega, rfl, vint (by omega), by go_num, HO2, hide (add_step HO.out.len HI.out (by rw [HP.out, HQ.out]))⟩
          case measure => simp [intOf] <;> omega
        · have g4 : decide ((k : Int) < (n : Int)) = false := decide_eq_false (by omega)
          have HQ := hide (getD_none (l := lm x) (k := k) (by have := HU.out.len; omega))
          go_wp2_with (at_builtin; refine wl_app_u32 (w0 := w) rfl _ _ _ Try.underlying33 rfl A' k c' o ((p + c) % 4294967296) _ (by omega) (by omega) rfl rfl HO.out (by omega) ?_; intro A2 c2 w2 ho2; have HO2 := hide ho2; clear ho2)
          go_roundw
          case rel => exact ⟨k + 1, (p + c) / 4294967296, A2, c2, _, by omega, by omega, rfl, vint (by omega), by go_num, HO2, hide (add_step (s := p + c) HO.out.len HI.out (by rw [HP.out, HQ.out]; omega))⟩
          case measure => simp [intOf] <;> omega
      · obtain rfl : k = m := by omega
        have HE := hide (add_end HO.out.len HV.out.len (by have := HU.out.len; omega) HI.out)
        go_wp2_with (first
          | (at_builtin; refine wl_app_u32 (w0 := w) rfl _ _ _ Try.underlying33 rfl A' k c' o c _ (by omega) (by omega) rfl rfl HO.out (by omega) ?_; intro A2 c2 w2 ho2; have HO2 := hide ho2; clear ho2)
          | (go_at_call 83; refine (trim_any _ none _ _ _ _ HO2.out.ul HO2.out.cap (by omega)).mono ?_; rintro e w3 ⟨m3, rfl, hm3, hu3, rfl⟩; rw [HE.out] at hu3; have hcap := HO2.out.cap))
        go_ret
        exact ⟨_, _, _, rfl, by omega, hu3, fr_below HO2.out.fr⟩
  · go_enter Try.func61, Try.ntmps61
    go_wp2_with (at_make; refine wl_make_u32 (w0 := w) rfl _ _ _ Try.underlying33 rfl 0 (n + 1) _ _ rfl rfl rfl (by omega) (by omega) (by omega) (Fr.refl _ _) ?_; intro w1 ho1 hs1 hb1; have HO1 := hide ho1; clear ho1 hb1)
    go_loopw [5, 6, 23] (fun out carry i wr => ∃ (k c : Nat) (A' : Option Addr) (c' : Nat) (o : List Nat), k ≤ n ∧ c ≤ 1 ∧ out = .slice A' k c' ∧ carry = .int .u64 (c : Int) ∧ i = .int .i64 k ∧ Hid (OF w wr A' k c' o) ∧ Hid (lv o + 4294967296 ^ k * c = lv ((lm x).take k) + lv ((lm y).take k))) (fun _ _ i _ => n - (intOf i).toNat)
    case atStart => exact ⟨0, 0, _, _, [], by omega, by omega, rfl, rfl, rfl, HO1, hide (by simp [lv])⟩
    case round =>
      obtain ⟨k, c, A', c', o, hk, hc1, rfl, rfl, rfl, HO, HI⟩ := hrel
      by_cases hkn : k < n
      · obtain ⟨b1, o1, p, rfl, -, -, hp, hpl, hcell⟩ := (HU.out.frF HO.out.fr).at hkn
        have HP := hide (getD_some hp)
        clear hp
        have g1 : (0 : Int) ≤ (k : Int) := by omega
        have g2 : (k : Int) < (n : Int) := by omega
        by_cases hkm : k < m
        · obtain ⟨b2, o2, q, rfl, -, -, hq, hql, hcell2⟩ := (HV.out.frF HO.out.fr).at hkm
          have HQ := hide (getD_some hq)
          clear hq
          have g3 : (k : Int) < (m : Int) := by omega
          have g4 : decide ((k : Int) < (m : Int)) = true := decide_eq_true g3
          go_wp2_with (at_builtin; refine wl_app_u32 (w0 := w) rfl _ _ _ Try.underlying33 rfl A' k c' o ((p + c + q) % 4294967296) _ (by omega) (by omega) rfl rfl HO.out (by omega) ?_; intro A2 c2 w2 ho2; have HO2 := hide ho2; clear ho2)
          go_roundw
          case rel => exact ⟨k + 1, (p + c + q) / 4294967296, A2, c2, _, by omega, by omega, rfl, vint (by omega), by go_num, HO2, hide (add_step HO.out.len HI.out (by rw [HP.out, HQ.out]))⟩
          case measure => simp [intOf] <;> omega
        · have g4 : decide ((k : Int) < (m : Int)) = false := decide_eq_false (by omega)
          have HQ := hide (getD_none (l := lm y) (k := k) (by have := HV.out.len; omega))
          go_wp2_with (at_builtin; refine wl_app_u32 (w0 := w) rfl _ _ _ Try.underlying33 rfl A' k c' o ((p + c) % 4294967296) _ (by omega) (by omega) rfl rfl HO.out (by omega) ?_; intro A2 c2 w2 ho2; have HO2 := hide ho2; clear ho2)
          go_roundw
          case rel => exact ⟨k + 1, (p + c) / 4294967296, A2, c2, _, by omega, by omega, rfl, vint (by omega), by go_num, HO2, hide (add_step (s := p + c) HO.out.len HI.out (by rw [HP.out, HQ.out]; omega))⟩
          case measure => simp [intOf] <;> omega
      · obtain rfl : k = n := by omega
        have HE := hide (add_end HO.out.len HU.out.len (by have := HV.out.len; omega) HI.out)
        go_wp2_with (first
          | (at_builtin; refine wl_app_u32 (w0 := w) rfl _ _ _ Try.underlying33 rfl A' k c' o c _ (by omega) (by omega) rfl rfl HO.out (by omega) ?_; intro A2 c2 w2 ho2; have HO2 := hide ho2; clear ho2)
          | (go_at_call 83; refine (trim_any _ none _ _ _ _ HO2.out.ul HO2.out.cap (by omega)).mono ?_; rintro e w3 ⟨m3, rfl, hm3, hu3, rfl⟩; rw [HE.out] at hu3; have hcap := HO2.out.cap))
        go_ret
        exact ⟨_, _, _, rfl, by omega, hu3, fr_below HO2.out.fr⟩
end Go.Proofs.Ytnofljgmkdommaa

/- Contracts: limbs.Sub. -/
namespace Go.Proofs.Ytnofljgmkdommaa
open Go.RowKit

/-- The digit and the borrow of a difference in 64 bits. -/
theorem sub_dig {p b q : Nat} (hp : p < 4294967296) (hb : b ≤ 1) (hq : q < 4294967296) : ∃ d w : Nat, d < 4294967296 ∧ w ≤ 1 ∧ IntKind.u64.wrap (IntKind.u64.wrap ((p : Int) - (b : Int)) - (q : Int)) % 4294967296 = (d : Int) ∧
    IntKind.u64.wrap (IntKind.u64.wrap ((p : Int) - (b : Int)) - (q : Int)) / 9223372036854775808 = (w : Int) ∧ d + b + q = p + 4294967296 * w := by
  simp only [IntKind.wrap_u64]
  by_cases h : b + q ≤ p
  · exact ⟨p - b - q, 0, by omega, by omega, by omega, by omega, by omega⟩
  · exact ⟨p + 4294967296 - b - q, 1, by omega, by omega, by omega, by omega, by omega⟩
theorem sub_dig0 {p b : Nat} (hp : p < 4294967296) (hb : b ≤ 1) : ∃ d w : Nat, d < 4294967296 ∧ w ≤ 1 ∧ IntKind.u64.wrap ((p : Int) - (b : Int)) % 4294967296 = (d : Int) ∧
    IntKind.u64.wrap ((p : Int) - (b : Int)) / 9223372036854775808 = (w : Int) ∧ d + b + 0 = p + 4294967296 * w := by
  simp only [IntKind.wrap_u64]
  by_cases h : b ≤ p
  · exact ⟨p - b, 0, by omega, by omega, by omega, by omega, by omega⟩
  · exact ⟨p + 4294967296 - b, 1, by omega, by omega, by omega, by omega, by omega⟩
end Go.Proofs.Ytnofljgmkdommaa

/- Contracts: limbs.Mul. -/
namespace Go.Proofs.Ytnofljgmkdommaa
open Go.RowKit

theorem mul_le {x q : Nat} (hx : x < 4294967296) (hq : q < 4294967296) : (x : Int) * (q : Int) ≤ 18446744065119617025 ∧ 0 ≤ (x : Int) * (q : Int) := by
  have : x * q ≤ 4294967295 * 4294967295 := Nat.mul_le_mul (by omega) (by omega)
  constructor
  · have h : ((x * q : Nat) : Int) ≤ 18446744065119617025 := by omega
    rwa [Int.natCast_mul] at h
  · have h : (0 : Int) ≤ ((x * q : Nat) : Int) := by omega
    rwa [Int.natCast_mul] at h
/-- What a row of a multiplication leaves. -/
structure MulRow (o o' : List Nat) (i m : Nat) (V : Nat) : Prop where
  val : lv o' = lv o + 4294967296 ^ i * V
  rest : ∀ j, i + m < j → o'[j]? = o[j]?
set_option maxRecDepth 100000 in
set_option maxHeartbeats 2000000 in
theorem lmul1_any (w0 w : World) (av : Option Nat) (B : Option Addr) (m d : Nat) (l o : List Nat) (g N C Bb Bo i x : Nat) (hV : Ul w0 av B m l) (hO : OF w0 w (some ⟨g, 0, none⟩) N C o)
    (hb : w.cell? ⟨Bb, 0, none⟩ = some (.slice B m d)) (ho : w.cell? ⟨Bo, 0, none⟩ = some (.slice (some ⟨g, 0, none⟩) N C)) (hbg : g ≠ Bb) (hog : g ≠ Bo) (hN : N ≤ 4294967296) (hi : i + m < N) (hx : x < 4294967296) (hz : o[i + m]?.getD 0 = 0) :
    Calls Try.prog 84 #[.int .i64 (i : Int), .int .u32 (x : Int), .pointer (some ⟨Bb, 0, none⟩), .pointer (some ⟨Bo, 0, none⟩)] w fun e w' => e = .returned (.tuple #[]) ∧ ∃ o', OF w0 w' (some ⟨g, 0, none⟩) N C o' ∧ MulRow o o' i m (x * lv l) ∧ Fr w w' (fun b => b = g) := by
  have HV := hide hV
  have HO := hide hO
  have HZ := hide hz
  clear hV hO hz
  have gb : ¬ Bb = g := fun h => hbg h.symm
  have go : ¬ Bo = g := fun h => hog h.symm
  go_enter Try.func84, Try.ntmps84
  go_wp2_with fail
  go_loopw [6, 12] (fun carry ix wr => ∃ (k c : Nat) (o' : List Nat), k ≤ m ∧ c < 4294967296 ∧ carry = .int .u64 (c : Int) ∧ ix = .int .i64 k ∧ Hid (OF w0 wr (some ⟨g, 0, none⟩) N C o') ∧ Hid (lv o' + 4294967296 ^ (i + k) * c = lv o + 4294967296 ^ i * (x * lv (l.take k))) ∧ Hid (∀ j, i + k ≤ j → o'[j]? = o[j]?) ∧ Hid (Fr w wr (fun b => b = g)) ∧ wr.cell? ⟨Bb, 0, none⟩ = some (.slice B m d) ∧ wr.cell? ⟨Bo, 0, none⟩ = some (.slice (some ⟨g, 0, none⟩) N C)) (fun _ ix _ => m - (intOf ix).toNat)
  case atStart => exact ⟨0, 0, o, by omega, by omega, rfl, rfl, HO, hide (by simp [lv]), hide (fun _ _ => rfl), hide (Fr.refl _ _), hb, ho⟩
  case round =>
    obtain ⟨k, c, o', hk, hc, rfl, rfl, HO1, HI, HJ, HF, hb1, ho1⟩ := hrel
    clear hb ho
    by_cases hkm : k < m
    · obtain ⟨b2, o2, q, rfl, -, hb2, hq, hql, hcell⟩ := (HV.out.frF HO1.out.fr).at hkm
      obtain ⟨g', z, hg, -, hgl, hz, hzl, hcellz, hfz⟩ := HO1.out.at (k := i + k) (by omega)
      obtain rfl : g = g' := by simpa using hg
      have HQ := hide (getD_some hq)
      have HZ2 := hide (getD_some hz)
      clear hq hz hg
      have g1 : (0 : Int) ≤ (k : Int) := by omega
      have g2 : (k : Int) < (m : Int) := by omega
      have g3 : (0 : Int) ≤ (i : Int) + (k : Int) := by omega
      have g4 : (i : Int) + (k : Int) < (N : Int) := by omega
      obtain ⟨hxy, hxy0⟩ := mul_le hx hql
      have hfz0 := hfz (i + k)
      clear hfz
      go_wp2
      go_roundw
      case rel =>
        have hp := HO1.out.put (k := i + k) (x := (x * q + z + c) % 4294967296) (by omega) (by omega)
        have e : (((x * q + z + c) % 4294967296 : Nat) : Int) = ((x : Int) * (q : Int) + (z : Int) + (c : Int)) % 4294967296 := by omega
        rw [e] at hp
        refine ⟨k + 1, (x * q + z + c) / 4294967296, _, by omega, ?_, vint (by omega), by go_num, hide hp, hide ?_, hide ?_, hide ?_, ?_, ?_⟩
        · have := mul_lt hx hql hzl hc
          omega
        · exact mul_step (by have := HO1.out.len; omega) HI.out (by rw [HQ.out, HZ2.out])
        · intro j hj
          rw [List.getElem?_set_ne (by omega)]
          exact HJ.out j (by omega)
        · exact Fr.setCell HF.out (Or.inr rfl) _
        · rw [World.cell?_setCell_other _ _ _ _ (by intro h; injection h with h; exact hbg h)]; exact hb1
        · rw [World.cell?_setCell_other _ _ _ _ (by intro h; injection h with h; exact hog h)]; exact ho1
      case measure => simp [intOf] <;> omega
    · obtain rfl : k = m := by omega
      obtain ⟨g', z, hg, -, hgl, hz, hzl, hcellz, hfz⟩ := HO1.out.at (k := i + k) (by omega)
      obtain rfl : g = g' := by simpa using hg
      have hz0 : z = 0 := by
        have := HZ.out
        rw [← HJ.out _ (Nat.le_refl _), hz] at this
        exact this
      have HZ2 := hide (getD_some hz)
      subst hz0
      clear hz hg
      have g3 : (0 : Int) ≤ (i : Int) + (k : Int) := by omega
      have g4 : (i : Int) + (k : Int) < (N : Int) := by omega
      have g5 : (c : Int) % 4294967296 = (c : Int) := by omega
      have hfz0 := hfz (i + k)
      clear hfz
      go_wp2
      have hp := HO1.out.put (k := i + k) (x := c) (by omega) hc
      have e2 : lv (l.take k) = lv l := by rw [List.take_of_length_le (by have := HV.out.len; omega)]
      have hI := HI.out
      rw [e2] at hI
      have hlk : l.length = k := HV.out.len
      go_end0
      refine ⟨rfl, _, hp, ⟨?_, ?_⟩, Fr.setCell HF.out (Or.inr rfl) _⟩
      · have h := mul_last (o := o') (o0 := o) (b := l) (i := i) (c := c) (x := x) (by have := HO1.out.len; omega) (by rw [hlk]; exact hI) (by rw [hlk]; exact HZ2.out)
        rwa [hlk] at h
      · intro j hj
        rw [List.getElem?_set_ne (by omega)]
        exact HJ.out j (by omega)

set_option maxRecDepth 100000 in
set_option maxHeartbeats 2000000 in
theorem lmul_any (w : World) (av av' : Option Nat) (A : Option Addr) (n c : Nat) (B : Option Addr) (m d : Nat) (x y : Nat) (hU : Ul w av A n (lm x)) (hV : Ul w av' B m (lm y)) (hn : n ≤ 1000000) (hm : m ≤ 1000000) :
    Calls Try.prog 62 #[.slice A n c, .slice B m d] w fun e w' => ∃ A' m' c', e = .returned (.slice A' m' c') ∧ m' ≤ c' ∧ Ul w' none A' m' (lm (x * y)) ∧ Below w.heap.size w w' := by
  have HU := hide hU
  have HV := hide hV
  clear hU hV
  go_enter Try.func62, Try.ntmps62
  go_wp2_with (at_make; refine wl_make_u32 (w0 := w) rfl _ _ _ Try.underlying33 rfl (n + m) (n + m) _ _ rfl rfl (by omega) (by omega) (by omega) (by omega) ((Fr.refl _ _).alloc _) ?_; intro w1 ho1 hs1 hb1; have HO1 := hide ho1; have hc1 : w1.cell? ⟨w.heap.size, 0, none⟩ = some (.slice B m d) := (by rw [hb1.cell (p := ⟨w.heap.size, 0, none⟩) (by simp)]; simp [go_sem]); clear ho1 hb1)
  have hs2 : w.heap.size + 1 < w1.heap.size := by simpa using hs1
  obtain ⟨Bo, hBo⟩ : ∃ Bo, w1.heap.size = Bo := ⟨_, rfl⟩
  rw [hBo] at hs2
  have hq1 := HO1.out
  rw [show (w.alloc (Obj.cells #[Value.slice B m d] 33)).heap.size = w.heap.size + 1 by simp] at hq1
  have HO2 := hide (hq1.alloc (Obj.cells #[Value.slice (some { block := w.heap.size + 1, off := 0 }) (n + m) (n + m)] 33))
  clear hq1
  have hc2 : (w1.alloc (Obj.cells #[Value.slice (some { block := w.heap.size + 1, off := 0 }) (n + m) (n + m)] 33)).cell? ⟨w.heap.size, 0, none⟩ = some (.slice B m d) := by rw [World.cell?_alloc_lt _ _ _ (by simp; omega)]; exact hc1
  have hc3 : (w1.alloc (Obj.cells #[Value.slice (some { block := w.heap.size + 1, off := 0 }) (n + m) (n + m)] 33)).cell? ⟨Bo, 0, none⟩ = some (.slice (some { block := w.heap.size + 1, off := 0 }) (n + m) (n + m)) := by rw [← hBo]; simp [go_sem]
  rw [hBo]
  generalize hw2 : w1.alloc (Obj.cells #[Value.slice (some { block := w.heap.size + 1, off := 0 }) (n + m) (n + m)] 33) = w2 at HO2 hc2 hc3 ⊢
  have hbs : Bo < w2.heap.size := by rw [← hw2, ← hBo]; simp
  clear hw2 hBo HO1 hc1 hs1
  go_loopw [18] (fun i wr => ∃ (k : Nat) (o : List Nat), k ≤ n ∧ i = .int .i64 k ∧ Hid (OF w wr (some ⟨w.heap.size + 1, 0, none⟩) (n + m) (n + m) o) ∧ Hid (lv o = lv ((lm x).take k) * lv (lm y)) ∧ Hid (∀ j, k + m ≤ j → o[j]?.getD 0 = 0) ∧ wr.cell? ⟨w.heap.size, 0, none⟩ = some (.slice B m d) ∧ wr.cell? ⟨Bo, 0, none⟩ = some (.slice (some ⟨w.heap.size + 1, 0, none⟩) (n + m) (n + m)) ∧ Hid (Bo < wr.heap.size)) (fun i _ => n - (intOf i).toNat)
  case atStart => exact ⟨0, _, by omega, rfl, HO2, hide (by rw [lv_replicate]; simp [lv]), hide (fun j _ => by rw [List.getElem?_replicate]; split <;> rfl), hc2, hc3, hide hbs⟩
  case round =>
    obtain ⟨k, o, hk, rfl, HO, HI, HJ, hc4, hc5, HB⟩ := hrel
    clear hc2 hc3 HO2
    by_cases hkn : k < n
    · obtain ⟨b1, o1, p, rfl, -, -, hp, hpl, hcell⟩ := (HU.out.frF HO.out.fr).at hkn
      have HP := hide (getD_some hp)
      clear hp
      have g1 : (0 : Int) ≤ (k : Int) := by omega
      have g2 : (k : Int) < (n : Int) := by omega
      go_wp2_with (go_at_call 84; refine (lmul1_any w _ av' B m d (lm y) o (w.heap.size + 1) (n + m) (n + m) w.heap.size Bo k p HV.out HO.out hc4 hc5 (by omega) (by omega) (by omega) (by omega) hpl (HJ.out _ (Nat.le_refl _))).mono ?_; rintro e w3 ⟨rfl, o3, ho3, hr3, hf3⟩; have HO3 := hide ho3; have HR3 := hide hr3; have hc6 : w3.cell? ⟨w.heap.size, 0, none⟩ = some (.slice B m d) := ((World.cell?_of_block (w := wr) (hf3.block w.heap.size (by have := HB.out; omega) (by omega))).trans hc4); have hc7 : w3.cell? ⟨Bo, 0, none⟩ = some (.slice (some ⟨w.heap.size + 1, 0, none⟩) (n + m) (n + m)) := ((World.cell?_of_block (w := wr) (hf3.block Bo HB.out (by omega))).trans hc5); have HB3 := hide (Nat.lt_of_lt_of_le HB.out hf3.size); clear ho3 hr3 hf3 hc4 hc5)
      go_roundw
      case rel =>
        refine ⟨k + 1, o3, by omega, by go_num, HO3, hide ?_, hide ?_, hc6, hc7, HB3⟩
        · rw [HR3.out.val, HI.out, ← HP.out, mul_row]
        · intro j hj
          rw [HR3.out.rest j (by omega)]
          exact HJ.out j (by omega)
      case measure => simp [intOf] <;> omega
    · obtain rfl : k = n := by omega
      have HE := hide (show lv o = x * y by rw [HI.out, List.take_of_length_le (by have := HU.out.len; omega), lv_lm, lv_lm])
      go_wp2_with (go_at_call 83; refine (trim_any _ none _ _ _ _ HO.out.ul (by omega) (by omega)).mono ?_; rintro e w3 ⟨m3, rfl, hm3, hu3, rfl⟩; rw [HE.out] at hu3)
      go_ret
      exact ⟨_, _, _, rfl, by omega, hu3, fr_below HO.out.fr⟩
end Go.Proofs.Ytnofljgmkdommaa
