/- Contracts of the functions that these laws reach: part 3: Rows of limbs of the call's own: make, append, store; Contracts: the reference's trim, Of; The ledger's functions as plain functions on plain data: no program here; Contracts of the leaves that many seats reach (turned from Wa); Contracts: lists of ints, the tape; Contracts: the tape, Pick; Contracts: limbs.Add; Contracts: limbs.Sub. -/
import Derived.Test.YtclflfglhbkfkaaG2
import Derived.Test.YtclflfglhbkfkaaProg
import Derived.Deep.RegionHeld3
import Derived.Test.YtclflfglhbkfkaaG1
set_option linter.unusedVariables false
set_option linter.unusedSimpArgs false

/- Rows of limbs of the call's own: make, append, store. -/
namespace Go.Proofs.Ytclflfglhbkfkaa
open Go.RowKit

theorem info83 : (Try.prog.info? 83).map (fun i => (i.zero, i.size, i.bytes)) = some (some (.int .u32 0), 1, 4) := by kernel_rfl
/-- In w, which is w0 with new blocks, the slice is nil or lies in a new block, and reads as l. -/
structure OF (w0 w : World) (A : Option Addr) (m c : Nat) (l : List Nat) : Prop where
  own : w.ownsRow w0.heap.size 83 1 (.slice A m c) m (l.flatMap uv)
  len : l.length = m
  ok : okL l
  fr : Fr w0 w (fun _ => False)

theorem own_slice_cap {w : World} {B s m c : Nat} {e : TypeId} {A : Option Addr} {xs : List Value} (h : w.ownsRow B e s (.slice A m c) m xs) (hs : 0 < s) : m ≤ c := by
  rcases h.2 with ⟨h1, h2⟩ | ⟨g, cap, cur, h1, _, _, h3, _⟩
  · injection h1 with _ hm hc
    omega
  · injection h1 with _ _ h4
    omega
section
variable {w0 w w' : World} {A : Option Addr} {m c : Nat} {l : List Nat}
theorem OF.cap (h : OF w0 w A m c l) : m ≤ c := own_slice_cap h.own (by omega)
theorem OF.ul (h : OF w0 w A m c l) : Ul w none A m l := Ul.of_own h.own h.len h.ok (by simp)
theorem OF.nil (hf : Fr w0 w (fun _ => False)) : OF w0 w none 0 0 [] := ⟨World.ownsRow_nil _ _ _ _, rfl, okL_nil, hf⟩
theorem OF.drew (h : OF w0 w A m c l) : OF w0 w.drew A m c l := ⟨h.own, h.len, h.ok, h.fr.drew⟩
theorem OF.drewN (h : OF w0 w A m c l) (n : Nat) : OF w0 (w.drewN n) A m c l := ⟨h.own, h.len, h.ok, h.fr.drewN n⟩
theorem OF.below (h : OF w0 w A m c l) (hb : Below w.heap.size w w') : OF w0 w' A m c l := ⟨own_below h.own hb, h.len, h.ok, h.fr.below_ hb⟩
theorem OF.alloc (h : OF w0 w A m c l) (o : Obj) : OF w0 (w.alloc o) A m c l := h.below ((Below.refl _ _).alloc (Nat.le_refl _) o)
theorem OF.at (h : OF w0 w A m c l) {k : Nat} (hk : k < m) : ∃ g x, A = some ⟨g, 0, none⟩ ∧ w0.heap.size ≤ g ∧ g < w.heap.size ∧ l[k]? = some x ∧ x < 4294967296 ∧ w.cell? ⟨g, k, none⟩ = some (.int .u32 (x : Int)) ∧ (∀ j, w.frozen? ⟨g, j, none⟩ = false) := by
  obtain ⟨g, cap, hv, hb, hlt⟩ := h.own.form (by omega)
  have hA : A = some ⟨g, 0, none⟩ := by injection hv
  subst hA
  have hl : k < l.length := by have := h.len; omega
  have hg : l[k]? = some l[k] := List.getElem?_eq_getElem hl
  refine ⟨g, _, rfl, hb, hlt, hg, h.ok.get hg, ?_, fun j => h.own.frozenAt j⟩
  have := own_cells uv_len h.own hg 0 _ rfl
  simpa using this
theorem OF.put {g k x : Nat} (h : OF w0 w (some ⟨g, 0, none⟩) m c l) (hk : k < m) (hx : x < 4294967296) : OF w0 (w.setCell ⟨g, k, none⟩ (.int .u32 (x : Int))) (some ⟨g, 0, none⟩) m c (l.set k x) := by
  have hl : k < l.length := by have := h.len; omega
  have hg : l[k]? = some l[k] := List.getElem?_eq_getElem hl
  obtain ⟨g', _, hA, hb, _⟩ := h.at hk
  have hgg : g = g' := by simpa using hA
  subst hgg
  refine ⟨?_, by rw [List.length_set]; exact h.len, h.ok.set hx, Fr.setCell h.fr (Or.inl hb) _⟩
  have := own_put (t1 := x) (u := .int .u32 (x : Int)) (j := 0) uv_len (own_start h.own hg) hl (by omega) rfl
  simpa using this
end

theorem made_u32 (n c : Nat) (h : n ≤ c) : (madeCells (Value.int .u32 0).cells (c * 1)).toList.take (n * 1) = (List.replicate n 0).flatMap uv := by
  have e : (madeCells (Value.int .u32 0).cells (c * 1)).toList = List.replicate c (.int .u32 0) := by
    apply List.ext_getElem?
    intro i
    rw [Array.getElem?_toList]
    by_cases hi : i < c
    · rw [List.getElem?_replicate, if_pos hi, Array.getElem?_eq_getElem (by rw [size_madeCells]; omega)]
      simp [madeCells, Value.cells, Nat.mod_one]
    · rw [List.getElem?_replicate, if_neg hi, Array.getElem?_eq_none (by rw [size_madeCells]; omega)]
  rw [e, Nat.mul_one, List.take_replicate, Nat.min_eq_left h]
  clear e h
  induction n with
  | zero => rfl
  | succ n ih => rw [List.replicate_succ, List.replicate_succ, List.flatMap_cons, ← ih]; rfl

/-- 'make([]uint32, n, c)'. -/
theorem wl_make_u32 {w0 w : World} {ops : Array Oper} {rest : List Oper} {o : Oper} {a : Act} {Q : Exit → Act → World → Prop}
    (hg : o.guard = none) (l k : Operand) (t : TypeId) (ht : Try.prog.underlying t = some (.slice 83)) (hop : o.op = Op.makeSlice t l k)
    (n c : Nat) (N C : Int) (hl : a.eval l = .int .i64 N) (hc : a.eval k = .int .i64 C) (hN : N = (n : Int)) (hC : C = (c : Int)) (hnc : n ≤ c) (b3 : c ≤ 4294967296) (hf : Fr w0 w (fun _ => False))
    (hK : ∀ w', OF w0 w' (some ⟨w.heap.size, 0, none⟩) n c (List.replicate n 0) → w.heap.size < w'.heap.size → Below w.heap.size w w' → wpList Try.prog ops Q rest (a.put o.dst (.slice (some ⟨w.heap.size, 0, none⟩) n c)) w') :
    wpList Try.prog ops Q (o :: rest) a w := by
  refine wl_make w hg l k t hop w.heap.size 83 _ 1 4 ht info83 w.heap.size n c rfl N C hl hc hN hC hnc rfl (by omega) (by simp only [maxLen]; omega) (Nat.le_refl _) ?_
  intro w' ys hown hys hgr
  have hys' := hys.out
  rw [made_u32 n c hnc] at hys'
  subst hys'
  refine hK w' ⟨own_base hown hf.size, by simp, okL_replicate n, hf.below_ (below_of_grown hgr)⟩ ?_ (below_of_grown hgr)
  rcases hown.2 with ⟨h, _⟩ | ⟨g, cap, cur, hv, _, hh, _⟩
  · simp at h
  · have : w.heap.size = g := by
      simp only [Value.slice.injEq, Option.some.injEq, Addr.mk.injEq, and_true, true_and] at hv
      exact hv.1
    rcases Nat.lt_or_ge g w'.heap.size with hlt | hge
    · omega
    · rw [Array.getElem?_eq_none hge] at hh; cases hh

/-- 'append(out, x)'. -/
theorem wl_app_u32 {w0 w : World} {ops : Array Oper} {rest : List Oper} {o : Oper} {a : Act} {Q : Exit → Act → World → Prop} (hgd : o.guard = none) (s x : Operand) (t : TypeId) (ht : Try.prog.underlying t = some (.slice 83))
    (ho : o.op = .call { callee := .builtin .append, args := #[s, x], argTypes := #[t, t] })
    (A : Option Addr) (m c : Nat) (l : List Nat) (X : Nat) (xv : Int) (hxv : xv = (X : Int)) (hX : X < 4294967296) (hs : a.eval s = .slice A m c) (hx : a.eval x = .slice (some ⟨w.heap.size, 0, none⟩) 1 1) (hO : OF w0 w A m c l) (h63 : m + 1 ≤ 4294967296)
    (h : ∀ A' c' w', OF w0 w' A' (m + 1) c' (l ++ [X]) → wpList Try.prog ops Q rest (a.put o.dst (.slice A' (m + 1) c')) w') :
    wpList Try.prog ops Q (o :: rest) a (w.alloc (.cells #[.int .u32 xv] 83)) := by
  subst hxv
  have hO1 := hO.alloc (.cells #[.int .u32 (X : Int)] 83)
  refine wl_append _ hgd s x t ho w0.heap.size 83 _ 1 4 ht info83 rfl (by omega) (.slice A m c) m l hs hO1.own _ 1 1 [X] hx
    (rs_one (av := none) (by simp) (by simp) (by intro j u hu; match j with | 0 => simp [uv] at hu; subst hu; simp [go_sem] | j + 1 => simp [uv] at hu)) rfl uv_len uv_one h63 (by omega) hO1.fr.size ?_
  intro A' c' w' hown hgr _
  refine h A' c' w' ⟨hown, by simp [hO.len], hO.ok.append (by intro y hy; simp at hy; omega), hO1.fr.grown hgr ?_⟩
  intro g hg
  left
  rcases hO1.own.2 with ⟨h1, _⟩ | ⟨g', cap, cur, hv, hb, _⟩
  · rw [h1] at hg; simp [Value.ownBlock] at hg
  · rw [hv] at hg
    simp [Value.ownBlock] at hg
    omega
theorem OF.ulav {w0 w : World} {A : Option Addr} {m c : Nat} {l : List Nat} (h : OF w0 w A m c l) {av : Option Nat} (hav : ∀ t, av = some t → t < w0.heap.size) : Ul w av A m l := Ul.of_own h.own h.len h.ok hav
/-- A part of the row. -/
theorem OF.seg {w0 w : World} {g m c : Nat} {l : List Nat} (h : OF w0 w (some ⟨g, 0, none⟩) m c l) {j k : Nat} (hk : j + k ≤ m) : Ul w none (some ⟨g, j, none⟩) k ((l.drop j).take k) := by
  refine ⟨fun hl => ?_, by rw [List.length_take, List.length_drop]; have := h.len; omega, (h.ok.drop j).take k⟩
  have hm : 0 < m := by
    rcases Nat.eq_zero_or_pos m with h0 | h0
    · exfalso
      have hk0 : k = 0 := by omega
      subst hk0
      simp at hl
    · exact h0
  obtain ⟨g', _, hg, _, hgl, _⟩ := h.at hm
  obtain rfl : g = g' := by simpa using hg
  refine ⟨g, j, rfl, by simp, hgl, fun i a hi q u hu => ?_⟩
  rw [List.getElem?_take] at hi
  split at hi
  · rename_i hik
    rw [List.getElem?_drop] at hi
    have hcell := own_cells uv_len h.own hi q u hu
    rw [← hcell]
    congr 2
    omega
  · simp at hi
/-- Other blocks were written. -/
theorem OF.frS {w0 w w' : World} {g m c : Nat} {l : List Nat} {S : Nat → Prop} (h : OF w0 w (some ⟨g, 0, none⟩) m c l) (hf : Fr w w' S) (hS : ¬ S g) (hS2 : ∀ k, S k → w0.heap.size ≤ k) : OF w0 w' (some ⟨g, 0, none⟩) m c l :=
  ⟨own_fr h.own hf (by intro g' hg'; simp [Value.ownBlock] at hg'; subst hg'; exact hS), h.len, h.ok, h.fr.step hf (fun i hi hs => by have := hS2 i hs; omega)⟩
/-- 'append(out, s...)'. -/
theorem wl_appall_u32 {w0 w : World} {ops : Array Oper} {rest : List Oper} {o : Oper} {a : Act} {Q : Exit → Act → World → Prop} (hgd : o.guard = none) (s x : Operand) (t : TypeId) (ht : Try.prog.underlying t = some (.slice 83))
    (ho : o.op = .call { callee := .builtin .append, args := #[s, x], argTypes := #[t, t] })
    (A : Option Addr) (m c : Nat) (l : List Nat) (av : Option Nat) (B : Option Addr) (k d : Nat) (l2 : List Nat) (hs : a.eval s = .slice A m c) (hx : a.eval x = .slice B k d) (hO : OF w0 w A m c l) (hU : Ul w av B k l2) (h63 : m + k ≤ 4294967296)
    (h : ∀ A' c' w', OF w0 w' A' (m + k) c' (l ++ l2) → wpList Try.prog ops Q rest (a.put o.dst (.slice A' (m + k) c')) w') :
    wpList Try.prog ops Q (o :: rest) a w := by
  refine wl_append _ hgd s x t ho w0.heap.size 83 _ 1 4 ht info83 rfl (by omega) (.slice A m c) m l hs hO.own B k d l2 hx hU.1 hU.len uv_len uv_one h63 (by omega) hO.fr.size ?_
  intro A' c' w' hown hgr _
  refine h A' c' w' ⟨hown, by simp [hO.len, hU.len], hO.ok.append hU.ok, hO.fr.grown hgr ?_⟩
  intro g hg
  left
  rcases hO.own.2 with ⟨h1, _⟩ | ⟨g', cap, cur, hv, hb, _⟩
  · rw [h1] at hg; simp [Value.ownBlock] at hg
  · rw [hv] at hg
    simp [Value.ownBlock] at hg
    omega
/-- A new empty row. -/
theorem OF.new {w0 w : World} (hf : Fr w0 w (fun _ => False)) : OF w0 (w.alloc (.cells #[] 83)) (some ⟨w.heap.size, 0, none⟩) 0 0 [] :=
  ⟨⟨rfl, .inr ⟨w.heap.size, 0, #[], rfl, hf.size, heap_alloc_new w _, Nat.le_refl _, by simp only [maxLen]; omega, rfl, rfl⟩⟩, rfl, okL_nil, hf.alloc _⟩
end Go.Proofs.Ytclflfglhbkfkaa

/- Contracts: the reference's trim, Of. -/
namespace Go.Proofs.Ytclflfglhbkfkaa
open Go.RowKit

set_option maxRecDepth 100000 in
set_option maxHeartbeats 4000000 in
theorem r1trim_any (w : World) (av : Option Nat) (A : Option Addr) (n c : Nat) (l : List Nat) (hU : Ul w av A n l) (hc : n ≤ c) (hc63 : n ≤ 4294967296) :
    Calls Try.prog 80 #[.slice A n c] w fun e w' => ∃ A' m c', e = .returned (.slice A' m c') ∧ m ≤ n ∧ OF w w' A' m c' (lm (lv l)) := by
  have HU := hide hU
  have HE := hide (show lv (l.take n) = lv l by rw [List.take_of_length_le (by have := hU.len; omega)])
  clear hU
  go_enter Try.func80, Try.ntmps80
  go_wp2
  go_loop [3] (fun v => ∃ k : Nat, k ≤ n ∧ v = .int .i64 (k : Int) ∧ Hid (lv (l.take k) = lv l)) (fun v => (intOf v).toNat)
  case atStart => exact ⟨n, Nat.le_refl _, rfl, HE⟩
  case round =>
    obtain ⟨k, hk, rfl, HK⟩ := hrel
    by_cases hk0 : k = 0
    · subst hk0
      have e : lm (lv l) = [] := by rw [← HK.out]; simp [lv, lm_zero]
      have HEE := hide e
      clear e
      go_wp2_with (at_builtin; refine wl_appall_u32 (w0 := w) rfl _ _ _ Try.underlying24 rfl none 0 0 [] av _ 0 c [] rfl rfl (OF.nil (Fr.refl w _)) Ul.nil (by omega) ?_; intro A' c' w' ho; have HO := hide ho; clear ho)
      go_ret
      exact ⟨A', 0, c', rfl, by omega, by rw [HEE.out]; exact HO.out⟩
    · obtain ⟨j, rfl⟩ : ∃ j, k = j + 1 := ⟨k - 1, by omega⟩
      obtain ⟨b, o, x, rfl, -, -, hx, hxl, hcell⟩ := HU.out.at (k := j) (by omega)
      have HX := hide hx
      clear hx
      have g1 : (0 : Int) ≤ (j : Int) := by omega
      have g2 : decide ((0 : Int) < (j : Int) + 1) = true := decide_eq_true (by omega)
      have g3 : (j : Int) < (n : Int) := by omega
      by_cases hx0 : x = 0
      · subst hx0
        go_wp2
        go_round
        case rel => exact ⟨j, by omega, by go_num, hide ((lv_take_zero HX.out).symm.trans HK.out)⟩
        case measure => simp [intOf] <;> omega
      · have hxd : ((x : Int) == 0) = false := by simp; omega
        have e := take_eq_lm HU.out.ok (by have := HU.out.len; omega) HK.out (.inr ⟨x, HX.out, hx0⟩)
        have HEE := hide e
        have HT := hide (HU.out.take (k := j + 1) (by omega))
        clear e
        go_wp2_with (at_builtin; refine wl_appall_u32 (w0 := w) rfl _ _ _ Try.underlying24 rfl none 0 0 [] av _ (j + 1) c (l.take (j + 1)) rfl rfl (OF.nil (Fr.refl w _)) HT.out (by omega) ?_; intro A' c' w' ho; have HO := hide ho; clear ho)
        go_ret
        have ho := HO.out
        rw [Nat.zero_add, List.nil_append] at ho
        exact ⟨A', j + 1, c', rfl, by omega, by rw [← HEE.out]; exact ho⟩
set_option maxHeartbeats 1000000 in
theorem r1of_any (w : World) (n : Nat) (hn : n < 18446744073709551616) :
    Calls Try.prog 52 #[.int .u64 (n : Int)] w fun e w' => ∃ A m c, e = .returned (.slice A m c) ∧ m ≤ c ∧ m ≤ 2 ∧ Ul w' none A m (lm n) ∧ Below w.heap.size w w' := by
  have HT := hide (ul_two (w := w) n hn)
  go_enter Try.func52, Try.ntmps52
  go_wp2_with (go_at_call 80; refine (r1trim_any _ none _ 2 2 _ HT.out (by omega) (by omega)).mono ?_; rintro e w' ⟨A, m, c, rfl, hm2, ho⟩; rw [lv_two] at ho)
  go_ret
  exact ⟨_, m, _, by rfl, ho.cap, hm2, ho.ul, ((Below.refl _ _).alloc (Nat.le_refl _) _).trans ((ho.fr.below (Nat.le_refl _) (fun _ _ h => h)).mono (by simp))⟩
end Go.Proofs.Ytclflfglhbkfkaa

/- The ledger's functions as plain functions on plain data: no program here. -/
namespace Go.Proofs.Ytclflfglhbkfkaa

structure Tk where
  pk : ByteArray
  ts : ByteArray
  env : Int
  cost : Int
  rev : Int
  st : Int
  att : Int
  run : Int
  ep : Int
  out : Int

/-- A report. -/
structure Rp where
  tick : Int
  att : Int
  run : Int
  ep : Int
  out : Int

structure Ld where
  tks : List Tk
  r0 : Int
  r1 : Int
  r2 : Int
  r3 : Int
  r4 : Int
  r5 : Int

def Ld.nil : Ld := ⟨[], 0, 0, 0, 0, 0, 0⟩

def usableB (p t : ByteArray) : Bool := decide (0 < p.size) && decide (p.size ≤ 24) && decide (0 < t.size) && decide (t.size ≤ 24)
def placeB (n : Int) : Bool := decide (0 ≤ n) && decide (n ≤ 63)
def costB (n : Int) : Bool := decide (1 ≤ n) && decide (n ≤ 1048576)
def taskOk (t : Tk) : Bool := usableB t.pk t.ts && placeB t.env && costB t.cost
def ranB (a r e : Int) : Bool := decide (1 ≤ a) && decide (a ≤ 4) && decide (0 ≤ r) && decide (r < 8) && decide (1 ≤ e) && decide (e ≤ 1073741824)
def restB (a r e : Int) : Bool := decide (0 ≤ a) && decide (a < 4) && r == 0 && e == 0
def repB (o : Int) : Bool := decide (1 ≤ o) && decide (o ≤ 3)
def revB (n : Int) : Bool := decide (1 ≤ n) && decide (n ≤ 1073741824)
def cntB (n : Int) : Bool := decide (0 ≤ n) && decide (n ≤ 1073741824)
def stateB (t : Tk) : Bool :=
  if t.st = 0 then restB t.att t.run t.ep && (t.out == 0)
  else if t.st = 1 then ranB t.att t.run t.ep && (t.out == 0)
  else if t.st = 2 then
    if t.out = 6 then ranB t.att t.run t.ep || restB t.att t.run t.ep
    else if t.out = 4 ∨ t.out = 5 then ranB t.att t.run t.ep && (t.att == 4)
    else ranB t.att t.run t.ep && repB t.out
  else false
def tkOk (t : Tk) : Bool := taskOk t && revB t.rev && stateB t
def accOf : List Tk → Nat
  | [] => 0
  | t :: l => accOf l + if repB t.out then 1 else 0
def Ld.repsOk (L : Ld) : Bool := (L.r0 == 0) && cntB L.r1 && cntB L.r2 && cntB L.r3 && cntB L.r4 && cntB L.r5
def Ld.ok (L : Ld) : Bool := decide (L.tks.length ≤ 128) && L.repsOk && L.tks.all tkOk && (L.r1 == accOf L.tks)

def Ld.get? (L : Ld) (k : Int) : Option Tk := if 0 ≤ k ∧ k < L.tks.length then L.tks[k.toNat]? else none
def Ld.put (L : Ld) (k : Int) (t : Tk) : Ld := { L with tks := L.tks.set k.toNat t }

def Ld.plan (L : Ld) (t : Tk) (rev : Int) : Ld × Int × Int :=
  if (L.ok && taskOk t) = false then (.nil, 0, 1)
  else if revB rev = false then (.nil, 0, 3)
  else if L.tks.length = 128 then (.nil, 0, 42)
  else ({ L with tks := L.tks ++ [{ t with rev := rev, st := 0, att := 0, run := 0, ep := 0, out := 0 }] }, L.tks.length, 0)

def Ld.begin (L : Ld) (k run ep : Int) : Ld × Int × Int :=
  if L.ok = false then (.nil, 0, 1) else
  match L.get? k with
  | none => (.nil, 0, 18)
  | some t =>
    if ranB 1 run ep = false then (.nil, 0, 3)
    else if t.st ≠ 0 then (.nil, 0, 45)
    else (L.put k { t with st := 1, att := t.att + 1, run := run, ep := ep }, t.att + 1, 0)

def reportOk (r : Rp) : Bool := decide (0 ≤ r.tick) && decide (r.tick < 128) && ranB r.att r.run r.ep && repB r.out
def sameB (t : Tk) (r : Rp) : Bool := (t.att == r.att) && (t.run == r.run) && (t.ep == r.ep)
def kindOf (t : Tk) (r : Rp) : Int :=
  if t.st = 1 ∧ sameB t r = true then 1 else if sameB t r = true ∧ t.out = r.out then 2 else if sameB t r = true ∧ repB t.out = true then 5 else 3
def Ld.kind (L : Ld) (r : Rp) : Int :=
  match L.get? r.tick with
  | none => 4
  | some t => kindOf t r
def Ld.rep (L : Ld) (k : Int) : Int := if k = 0 then L.r0 else if k = 1 then L.r1 else if k = 2 then L.r2 else if k = 3 then L.r3 else if k = 4 then L.r4 else L.r5
def Ld.count (L : Ld) (k : Int) : Ld :=
  if k = 1 then { L with r1 := L.r1 + 1 } else if k = 2 then { L with r2 := L.r2 + 1 } else if k = 3 then { L with r3 := L.r3 + 1 } else if k = 4 then { L with r4 := L.r4 + 1 } else { L with r5 := L.r5 + 1 }
def Ld.accept (L : Ld) (r : Rp) : Ld :=
  match L.get? r.tick with
  | none => L
  | some t => L.put r.tick { t with st := 2, out := r.out }
def Ld.take (L : Ld) (r : Rp) : Ld × Int × Int :=
  if (L.ok && reportOk r) = false then (.nil, 0, 1)
  else if L.rep (L.kind r) = 1073741824 then (.nil, 0, 2)
  else (if L.kind r = 1 then (L.count 1).accept r else L.count (L.kind r), L.kind r, 0)

def Tk.failed (t : Tk) (o : Int) : Tk := if t.att = 4 then { t with st := 2, out := o } else { t with st := 0, run := 0, ep := 0 }
def Ld.fail (L : Ld) (k o : Int) : Ld × Int :=
  if L.ok = false then (.nil, 1) else
  match L.get? k with
  | none => (.nil, 18)
  | some t => if o ≠ 4 ∧ o ≠ 5 then (.nil, 3) else if t.st ≠ 1 then (.nil, 45) else (L.put k (t.failed o), 0)

def isOn (run ep : Int) (t : Tk) : Bool := (t.st == 1) && (t.run == run) && (t.ep == ep)
def idxs (p : Tk → Bool) : List Tk → Nat → List Int
  | [], _ => []
  | t :: l, k => if p t then (k : Int) :: idxs p l (k + 1) else idxs p l (k + 1)
def loseTk (run ep : Int) (t : Tk) : Tk := if isOn run ep t then t.failed 5 else t
def Ld.lose (L : Ld) (run ep : Int) : Ld × List Int × Int :=
  if L.ok = false then (.nil, [], 1) else ({ L with tks := L.tks.map (loseTk run ep) }, idxs (isOn run ep) L.tks 0, 0)

def Ld.cancel (L : Ld) (k : Int) : Ld × Int :=
  if L.ok = false then (.nil, 1) else
  match L.get? k with
  | none => (.nil, 18)
  | some t => if t.st = 2 then (.nil, 45) else (L.put k { t with st := 2, out := 6 }, 0)

/-- Totals. -/
structure Tot where
  planned : Int
  waiting : Int
  running : Int
  o0 : Int
  o1 : Int
  o2 : Int
  o3 : Int
  o4 : Int
  o5 : Int
  o6 : Int
def countOf (p : Tk → Bool) : List Tk → Nat
  | [] => 0
  | t :: l => countOf p l + if p t then 1 else 0
def stIs (s : Int) (t : Tk) : Bool := (t.st == s)
def doneIs (o : Int) (t : Tk) : Bool := (t.st == 2) && (t.out == o)
def totOf (l : List Tk) : Tot := ⟨l.length, countOf (stIs 0) l, countOf (stIs 1) l, countOf (doneIs 0) l, countOf (doneIs 1) l, countOf (doneIs 2) l, countOf (doneIs 3) l, countOf (doneIs 4) l, countOf (doneIs 5) l, countOf (doneIs 6) l⟩
def notDone (t : Tk) : Bool := !stIs 2 t
def Ld.open_ (L : Ld) : List Int := if L.ok then idxs notDone L.tks 0 else []

end Go.Proofs.Ytclflfglhbkfkaa

/- Contracts of the leaves that many seats reach (turned from Wa). -/
namespace Go.Proofs.Ytclflfglhbkfkaa
open Go.RowKit

def foldV (v n : Int) : Int := if n ≤ 1 then 0 else v % n
theorem foldV_tmod (v n : Int) (h : 1 < n) : foldV v n = if v.tmod n < 0 then v.tmod n + n else v.tmod n := by
  unfold foldV
  rw [if_neg (by omega)]
  have h1 := Int.tmod_eq_emod (a := v) (b := n)
  have h2 := Int.emod_nonneg v (show n ≠ 0 by omega)
  have h3 := Int.emod_lt_of_pos v (show 0 < n by omega)
  rw [h1]
  split <;> split <;> omega
theorem tmod_lo (v n : Int) (h : 1 < n) : -n < v.tmod n ∧ v.tmod n < n := by
  have h1 := Int.tmod_eq_emod (a := v) (b := n)
  have h2 := Int.emod_nonneg v (show n ≠ 0 by omega)
  have h3 := Int.emod_lt_of_pos v (show 0 < n by omega)
  rw [h1]
  split <;> omega
theorem foldV_lo (v n : Int) : 0 ≤ foldV v n ∧ (foldV v n < n ∨ foldV v n = 0) := by
  unfold foldV
  split
  · omega
  · exact ⟨Int.emod_nonneg v (by omega), .inl (Int.emod_lt_of_pos v (by omega))⟩

set_option maxHeartbeats 400000 in
theorem fold_any (v n : Int) (w : World) (hn : n ≤ 4294967296) :
    Calls Try.prog 12 #[.int .i64 v, .int .i64 n] w fun e w' => e = .returned (.int .i64 (foldV v n)) ∧ w = w' := by
  by_cases h1 : n ≤ 1
  · go_enter Try.func12, Try.ntmps12
    go_wp2
    go_ret; exact ⟨ret_int (by unfold foldV; rw [if_pos h1]), rfl⟩
  · have ht := hide (foldV_tmod v n (by omega))
    have hb := (tmod_lo v n (by omega)).1
    have hc := (tmod_lo v n (by omega)).2
    go_enter Try.func12, Try.ntmps12
    go_wp2
    all_goals (go_ret; exact ⟨ret_int (by rw [ht.out]; first | rw [if_pos ‹_›] | rw [if_neg (by omega)]), rfl⟩)

end Go.Proofs.Ytclflfglhbkfkaa

/- Contracts: lists of ints, the tape. -/
namespace Go.Proofs.Ytclflfglhbkfkaa
open Go.RowKit

def iv (i : Int) : List Value := [.int .i64 i]
theorem iv_len (i : Int) : (iv i).length = 1 := rfl
theorem iv_one (i : Int) : ∀ u ∈ iv i, u.oneCell' = true := by
  intro u hu
  simp [iv] at hu
  subst hu
  rfl

/-- A slice of ints, element k. -/
theorem ints_at {w : World} {av : Option Nat} {A : Option Addr} {l : List Int} (h : Rs w av 1 iv A l) {k : Nat} (hk : k < l.length) :
    ∃ b o, A = some ⟨b, o, none⟩ ∧ some b ≠ av ∧ b < w.heap.size ∧ w.cell? ⟨b, o + k, none⟩ = some (.int .i64 l[k]) := by
  obtain ⟨b, o, h1, h2, h3, h4⟩ := h.at (List.getElem?_eq_getElem hk)
  refine ⟨b, o, h1, h2, h3, ?_⟩
  have := h4 0 (.int .i64 l[k]) rfl
  simpa using this

/-- The tape at block T: the list l, the next place a. -/
def TapeAt (w : World) (T : Nat) (A : Option Addr) (n c : Nat) (l : List Int) (a : Nat) : Prop :=
  T < w.heap.size ∧ w.cell? ⟨T, 0, none⟩ = some (.slice A n c) ∧ w.cell? ⟨T, 1, none⟩ = some (.int .i64 a) ∧ (∀ j, w.frozen? ⟨T, j, none⟩ = false) ∧ Rs w (some T) 1 iv A l ∧ l.length = n

def tapeV (l : List Int) (a : Nat) (N : Int) : Int := foldV (if h : a < l.length then l[a] else ((a : Int) * 7) % 11) N
theorem tapeV_lo (l : List Int) (a : Nat) (N : Int) : 0 ≤ tapeV l a N ∧ (tapeV l a N < N ∨ tapeV l a N = 0) := foldV_lo _ _

theorem TapeAt.fr {w w' : World} {T : Nat} {A : Option Addr} {n c : Nat} {l : List Int} {a : Nat} (h : TapeAt w T A n c l a) {S : Nat → Prop} (hb : Fr w w' S) (hS : ¬ S T) (hA : ∀ b o, A = some ⟨b, o, none⟩ → l ≠ [] → ¬ S b) : TapeAt w' T A n c l a := by
  obtain ⟨h1, h2, h3, h4, h5, h6⟩ := h
  have hk := hb.block T h1 hS
  refine ⟨Nat.lt_of_lt_of_le h1 hb.size, ?_, ?_, fun j => ?_, ?_, h6⟩
  · rw [World.cell?_of_block (w := w) (a := ⟨T, 0, none⟩) hk]; exact h2
  · rw [World.cell?_of_block (w := w) (a := ⟨T, 1, none⟩) hk]; exact h3
  · rw [World.frozen?_of_block (w := w) (a := ⟨T, j, none⟩) hk]; exact h4 j
  · intro hl
    obtain ⟨b, o, g1, g2, g3, g4⟩ := h5 hl
    refine ⟨b, o, g1, g2, Nat.lt_of_lt_of_le g3 hb.size, fun k x hk j u hu => ?_⟩
    rw [World.cell?_of_block (w := w) (a := ⟨b, o + k * 1 + j, none⟩) (hb.block b g3 (hA b o g1 hl))]
    exact g4 k x hk j u hu
theorem TapeAt.below {w w' : World} {T : Nat} {A : Option Addr} {n c : Nat} {l : List Int} {a : Nat} (h : TapeAt w T A n c l a) (hb : Below w.heap.size w w') : TapeAt w' T A n c l a :=
  h.fr (Fr.of_below (fun _ => False) hb) (fun h => h) (fun _ _ _ _ h => h)
theorem TapeAt.alloc {w : World} {T : Nat} {A : Option Addr} {n c : Nat} {l : List Int} {a : Nat} (h : TapeAt w T A n c l a) (o : Obj) : TapeAt (w.alloc o) T A n c l a := h.below ((Below.refl _ _).alloc (Nat.le_refl _) _)
theorem TapeAt.drew {w : World} {T : Nat} {A : Option Addr} {n c : Nat} {l : List Int} {a : Nat} (h : TapeAt w T A n c l a) : TapeAt w.drew T A n c l a := h

theorem fold_next (l : List Int) (a : Nat) (N v : Int) (h : v = if h : a < l.length then l[a] else ((a : Int) * 7) % 11) : foldV v N = tapeV l a N := by rw [h]; rfl

theorem tape_put {w : World} {T : Nat} {A : Option Addr} {n c : Nat} {l : List Int} {a : Nat} (h : TapeAt w T A n c l a) : TapeAt (w.setCell ⟨T, 1, none⟩ (.int .i64 (a + 1 : Nat))) T A n c l (a + 1) := by
  obtain ⟨h1, h2, h3, h4, h5, h6⟩ := h
  refine ⟨by simpa [World.setCell] using h1, ?_, World.cell?_setCell_same w _ _ h3, fun j => by rw [World.frozen?_setCell]; exact h4 j, ?_, h6⟩
  · rw [World.cell?_setCell_other _ _ _ _ (by simp)]; exact h2
  · intro hl
    obtain ⟨b, o, g1, g2, g3, g4⟩ := h5 hl
    refine ⟨b, o, g1, g2, by simpa [World.setCell] using g3, fun k x hk j u hu => ?_⟩
    rw [World.cell?_setCell_other _ _ _ _ (by intro e; injection e with e1; exact g2 (by rw [e1]))]
    exact g4 k x hk j u hu
theorem fr_put {w : World} {T : Nat} {o : Nat} {v : Value} : Fr w (w.setCell ⟨T, o, none⟩ v) (fun b => b = T) := Fr.setCell (S := fun b => b = T) (p := ⟨T, o, none⟩) (Fr.refl w _) (Or.inr rfl) v

set_option maxHeartbeats 1000000 in
theorem next_any (w : World) (T : Nat) (A : Option Addr) (n c : Nat) (l : List Int) (a : Nat) (N : Int) (hT : TapeAt w T A n c l a) (ha : a ≤ 4294967296) (hN : N ≤ 4294967296) :
    Calls Try.prog 42 #[.pointer (some ⟨T, 0, none⟩), .int .i64 N] w fun e w' => e = .returned (.int .i64 (tapeV l a N)) ∧ TapeAt w' T A n c l (a + 1) ∧ Fr w w' (fun b => b = T) := by
  have HT := hide hT
  obtain ⟨h1, h2, h3, h4, h5, h6⟩ := hT
  by_cases hlt : a < n
  · obtain ⟨b, o, rfl, hne, hb, hc⟩ := ints_at h5 (k := a) (by omega)
    obtain ⟨x, hx⟩ : ∃ x, x = l[a]'(by omega) := ⟨_, rfl⟩
    rw [← hx] at hc
    have HV := hide (fold_next l a N x (by rw [dif_pos (by omega)]; exact hx))
    have ht : decide (a < n) = true := by simpa using hlt
    have hi1 : (0 : Int) ≤ (a : Int) := by omega
    have hi2 : (a : Int) < (n : Int) := by omega
    have hbT : ¬ b = T := fun e => hne (by rw [e])
    clear h5 h6 hx
    go_enter Try.func42, Try.ntmps42
    go_wp2_with fail
    go_region_held3 (fun W => W.cell? ⟨T, 0, none⟩ = some (.slice (some ⟨b, o, none⟩) n c) ∧ W.cell? ⟨T, 1, none⟩ = some (.int .i64 a)) (first | (go_keep; done) | ((try dsimp only); (repeat' apply And.intro) <;> first | (go_keep; done) | ((repeat rw [World.cell?_setCell_other _ _ _ _ (by intro h; injection h; omega)]); go_keep; done))) (fail)
    go_wp2_with fail
    go_region_held3 (fun W => W.cell? ⟨T, 0, none⟩ = some (.slice (some ⟨b, o, none⟩) n c) ∧ W.cell? ⟨T, 1, none⟩ = some (.int .i64 a) ∧ W.cell? ⟨b, o + a, none⟩ = some (.int .i64 x)) (first | (go_keep; done) | ((try dsimp only); (repeat' apply And.intro) <;> first | (go_keep; done) | ((repeat rw [World.cell?_setCell_other _ _ _ _ (by intro h; injection h; omega)]); go_keep; done))) (fail)
    go_wp2_with (go_at_call 12; refine (fold_any _ _ _ hN).mono ?_; rintro e w1 ⟨rfl, rfl⟩)
    go_ret
    exact ⟨ret_int HV.out, tape_put HT.out, fr_put.drew.drew⟩
  · have HV := hide (fold_next l a N ((a : Int) * 7 % 11) (by rw [dif_neg (by omega)]))
    have ht : decide (a < n) = false := by simpa using hlt
    clear h5 h6
    go_enter Try.func42, Try.ntmps42
    go_wp2_with fail
    go_region_held3 (fun W => W.cell? ⟨T, 0, none⟩ = some (.slice A n c) ∧ W.cell? ⟨T, 1, none⟩ = some (.int .i64 a)) (first | (go_keep; done) | ((try dsimp only); (repeat' apply And.intro) <;> first | (go_keep; done) | ((repeat rw [World.cell?_setCell_other _ _ _ _ (by intro h; injection h; omega)]); go_keep; done))) (fail)
    go_wp2_with (go_at_call 12; refine (fold_any _ _ _ hN).mono ?_; rintro e w1 ⟨rfl, rfl⟩)
    go_ret
    exact ⟨ret_int HV.out, tape_put HT.out, fr_put.drew⟩

/-- A slice of ints just built. -/
theorem rs_new {w : World} {T : Nat} (hT : T < w.heap.size) (xs : List Int) (t : TypeId) : Rs (w.alloc (.cells ((xs.map (Value.int .i64)).toArray) t)) (some T) 1 iv (some ⟨w.heap.size, 0, none⟩) xs := by
  intro _
  refine ⟨w.heap.size, 0, rfl, by intro h; injection h with h; omega, by simp, fun k a hk j u hu => ?_⟩
  match j with
  | 0 =>
    simp [iv] at hu
    subst hu
    rw [World.cell?_alloc_new]
    simp [hk]
  | j + 1 => simp [iv] at hu

end Go.Proofs.Ytclflfglhbkfkaa

/- Contracts: the tape, Pick. -/
namespace Go.Proofs.Ytclflfglhbkfkaa
open Go.RowKit

set_option maxHeartbeats 400000 in
theorem pick_any (w : World) (T : Nat) (A : Option Addr) (n c : Nat) (l : List Int) (a : Nat) (g m d : Nat) (xs : List Int) (hT : TapeAt w T A n c l a) (ha : a ≤ 4294967296)
    (hx : Rs w (some T) 1 iv (some ⟨g, 0, none⟩) xs) (hl : xs.length = m) (h0 : 0 < m) (hm : m ≤ 4294967296) :
    Calls Try.prog 41 #[.pointer (some ⟨T, 0, none⟩), .slice (some ⟨g, 0, none⟩) m d] w fun e w' => (∃ v, v ∈ xs ∧ e = .returned (.int .i64 v)) ∧ TapeAt w' T A n c l (a + 1) ∧ Fr w w' (fun b => b = T) := by
  have hv := tapeV_lo l a m
  obtain ⟨k, hk⟩ : ∃ k : Nat, tapeV l a m = k := ⟨(tapeV l a m).toNat, by omega⟩
  have hkm : k < m := by omega
  obtain ⟨b, o, hA, hne, hb, hc⟩ := ints_at hx (k := k) (by omega)
  obtain ⟨rfl, rfl⟩ : b = g ∧ o = 0 := by simp at hA; omega
  have hbT : ¬ b = T := fun e => hne (by rw [e])
  obtain ⟨x, hxx⟩ : ∃ x, x = xs[k]'(by omega) := ⟨_, rfl⟩
  rw [← hxx] at hc
  have HM := hide (show x ∈ xs from by rw [hxx]; exact List.getElem_mem _)
  have hmI : (0 : Int) < (m : Int) := by omega
  have hkI : (k : Int) < (m : Int) := by omega
  have hkJ : (0 : Int) ≤ (k : Int) := by omega
  have HK := hide hk
  have HX := hide hx
  clear hA hxx hl hv hk hx
  have hm0 : ((m : Int) == 0) = false := by simp; omega
  go_enter Try.func41, Try.ntmps41
  go_wp2_with (go_at_call 42; refine (next_any _ T A n c l a m hT ha (by omega)).mono ?_; rintro e w1 ⟨rfl, ht1, hf1⟩; rw [HK.out]; have hc1 : w1.cell? ⟨b, 0 + k, none⟩ = some (.int .i64 x) := (by rw [← hc]; exact World.cell?_of_block (w := w) (hf1.block b hb hbT)); simp only [Nat.zero_add] at hc1)
  go_ret
  exact ⟨⟨_, HM.out, rfl⟩, ht1, hf1⟩

end Go.Proofs.Ytclflfglhbkfkaa

/- Contracts: limbs.Add. -/
namespace Go.Proofs.Ytclflfglhbkfkaa
open Go.RowKit

theorem vint {k : IntKind} {a b : Int} (h : a = b) : Value.int k a = Value.int k b := by rw [h]
theorem getD_some {l : List Nat} {k x : Nat} (h : l[k]? = some x) : l[k]?.getD 0 = x := by rw [h]; rfl
theorem getD_none {l : List Nat} {k : Nat} (h : l.length ≤ k) : l[k]?.getD 0 = 0 := by rw [List.getElem?_eq_none h]; rfl
/-- What the sum of two numbers is at the end of the loop. -/
theorem add_end {o : List Nat} {x y n c : Nat} (hl : o.length = n) (hx : (lm x).length = n) (hy : (lm y).length ≤ n) (h : lv o + 4294967296 ^ n * c = lv ((lm x).take n) + lv ((lm y).take n)) : lv (o ++ [c]) = x + y := by
  rw [List.take_of_length_le (by omega), List.take_of_length_le (by omega), lv_lm, lv_lm] at h
  rw [lv_snoc, hl, h]
set_option maxRecDepth 100000 in
set_option maxHeartbeats 2000000 in
theorem ladd_any (w : World) (av av' : Option Nat) (A : Option Addr) (n c : Nat) (B : Option Addr) (m d : Nat) (x y : Nat) (hU : Ul w av A n (lm x)) (hV : Ul w av' B m (lm y)) (hn : n ≤ 1000000) (hm : m ≤ 1000000) :
    Calls Try.prog 59 #[.slice A n c, .slice B m d] w fun e w' => ∃ A' m' c', e = .returned (.slice A' m' c') ∧ m' ≤ c' ∧ Ul w' none A' m' (lm (x + y)) ∧ Below w.heap.size w w' := by
  have HU := hide hU
  have HV := hide hV
  clear hU hV
  by_cases hlt : n < m
  · rw [Nat.add_comm x y]
    go_enter Try.func59, Try.ntmps59
    go_wp2_with (at_make; refine wl_make_u32 (w0 := w) rfl _ _ _ Try.underlying23 rfl 0 (m + 1) _ _ rfl rfl rfl (by omega) (by omega) (by omega) (Fr.refl _ _) ?_; intro w1 ho1 hs1 hb1; have HO1 := hide ho1; clear ho1 hb1)
    go_loopw [5, 6, 23] (fun out carry i wr => ∃ (k c : Nat) (A' : Option Addr) (c' : Nat) (o : List Nat), k ≤ m ∧ c ≤ 1 ∧ out = .slice A' k c' ∧ carry = .int .u64 (c : Int) ∧ i = .int .i64 k ∧ Hid (OF w wr A' k c' o) ∧ Hid (lv o + 4294967296 ^ k * c = lv ((lm y).take k) + lv ((lm x).take k))) (fun _ _ i _ => m - (intOf i).toNat)
    case atStart => exact ⟨0, 0, _, _, [], by omega, by omega, rfl, rfl, rfl, HO1, hide (by simp [lv])⟩
    case round =>
      obtain ⟨k, c, A', c', o, hk, hc1, rfl, rfl, rfl, HO, HI⟩ := hrel
      by_cases hkn : k < m
      · obtain ⟨b1, o1, p, rfl, -, -, hp, hpl, hcell⟩ := (HV.out.frF HO.out.fr).at hkn
        have HP := hide (getD_some hp)
        clear hp
        have g1 : (0 : Int) ≤ (k : Int) := by omega
        have g2 : (k : Int) < (m : Int) := by omega
        by_cases hkm : k < n
        · obtain ⟨b2, o2, q, rfl, -, -, hq, hql, hcell2⟩ := (HU.out.frF HO.out.fr).at hkm
          have HQ := hide (getD_some hq)
          clear hq
          have g3 : (k : Int) < (n : Int) := by omega
          have g4 : decide ((k : Int) < (n : Int)) = true := decide_eq_true g3
          go_wp2_with (at_builtin; refine wl_app_u32 (w0 := w) rfl _ _ _ Try.underlying23 rfl A' k c' o ((p + c + q) % 4294967296) _ (by omega) (by omega) rfl rfl HO.out (by omega) ?_; intro A2 c2 w2 ho2; have HO2 := hide ho2; clear ho2)
          go_roundw
          case rel => exact ⟨k + 1, (p + c + q) / 4294967296, A2, c2, _, by omega, by omega, rfl, vint (by omega), by go_num, HO2, hide (add_step HO.out.len HI.out (by rw [HP.out, HQ.out]))⟩
          case measure => simp [intOf] <;> omega
        · have g4 : decide ((k : Int) < (n : Int)) = false := decide_eq_false (by omega)
          have HQ := hide (getD_none (l := lm x) (k := k) (by have := HU.out.len; omega))
          go_wp2_with (at_builtin; refine wl_app_u32 (w0 := w) rfl _ _ _ Try.underlying23 rfl A' k c' o ((p + c) % 4294967296) _ (by omega) (by omega) rfl rfl HO.out (by omega) ?_; intro A2 c2 w2 ho2; have HO2 := hide ho2; clear ho2)
          go_roundw
          case rel => exact ⟨k + 1, (p + c) / 4294967296, A2, c2, _, by omega, by omega, rfl, vint (by omega), by go_num, HO2, hide (add_step (s := p + c) HO.out.len HI.out (by rw [HP.out, HQ.out]; omega))⟩
          case measure => simp [intOf] <;> omega
      · obtain rfl : k = m := by omega
        have HE := hide (add_end HO.out.len HV.out.len (by have := HU.out.len; omega) HI.out)
        go_wp2_with (first
          | (at_builtin; refine wl_app_u32 (w0 := w) rfl _ _ _ Try.underlying23 rfl A' k c' o c _ (by omega) (by omega) rfl rfl HO.out (by omega) ?_; intro A2 c2 w2 ho2; have HO2 := hide ho2; clear ho2)
          | (go_at_call 87; refine (trim_any _ none _ _ _ _ HO2.out.ul HO2.out.cap (by omega)).mono ?_; rintro e w3 ⟨m3, rfl, hm3, hu3, rfl⟩; rw [HE.out] at hu3; have hcap := HO2.out.cap))
        go_ret
        exact ⟨_, _, _, rfl, by omega, hu3, fr_below HO2.out.fr⟩
  · go_enter Try.func59, Try.ntmps59
    go_wp2_with (at_make; refine wl_make_u32 (w0 := w) rfl _ _ _ Try.underlying23 rfl 0 (n + 1) _ _ rfl rfl rfl (by omega) (by omega) (by omega) (Fr.refl _ _) ?_; intro w1 ho1 hs1 hb1; have HO1 := hide ho1; clear ho1 hb1)
    go_loopw [5, 6, 23] (fun out carry i wr => ∃ (k c : Nat) (A' : Option Addr) (c' : Nat) (o : List Nat), k ≤ n ∧ c ≤ 1 ∧ out = .slice A' k c' ∧ carry = .int .u64 (c : Int) ∧ i = .int .i64 k ∧ Hid (OF w wr A' k c' o) ∧ Hid (lv o + 4294967296 ^ k * c = lv ((lm x).take k) + lv ((lm y).take k))) (fun _ _ i _ => n - (intOf i).toNat)
    case atStart => exact ⟨0, 0, _, _, [], by omega, by omega, rfl, rfl, rfl, HO1, hide (by simp [lv])⟩
    case round =>
      obtain ⟨k, c, A', c', o, hk, hc1, rfl, rfl, rfl, HO, HI⟩ := hrel
      by_cases hkn : k < n
      · obtain ⟨b1, o1, p, rfl, -, -, hp, hpl, hcell⟩ := (HU.out.frF HO.out.fr).at hkn
        have HP := hide (getD_some hp)
        clear hp
        have g1 : (0 : Int) ≤ (k : Int) := by omega
        have g2 : (k : Int) < (n : Int) := by omega
        by_cases hkm : k < m
        · obtain ⟨b2, o2, q, rfl, -, -, hq, hql, hcell2⟩ := (HV.out.frF HO.out.fr).at hkm
          have HQ := hide (getD_some hq)
          clear hq
          have g3 : (k : Int) < (m : Int) := by omega
          have g4 : decide ((k : Int) < (m : Int)) = true := decide_eq_true g3
          go_wp2_with (at_builtin; refine wl_app_u32 (w0 := w) rfl _ _ _ Try.underlying23 rfl A' k c' o ((p + c + q) % 4294967296) _ (by omega) (by omega) rfl rfl HO.out (by omega) ?_; intro A2 c2 w2 ho2; have HO2 := hide ho2; clear ho2)
          go_roundw
          case rel => exact ⟨k + 1, (p + c + q) / 4294967296, A2, c2, _, by omega, by omega, rfl, vint (by omega), by go_num, HO2, hide (add_step HO.out.len HI.out (by rw [HP.out, HQ.out]))⟩
          case measure => simp [intOf] <;> omega
        · have g4 : decide ((k : Int) < (m : Int)) = false := decide_eq_false (by omega)
          have HQ := hide (getD_none (l := lm y) (k := k) (by have := HV.out.len; omega))
          go_wp2_with (at_builtin; refine wl_app_u32 (w0 := w) rfl _ _ _ Try.underlying23 rfl A' k c' o ((p + c) % 4294967296) _ (by omega) (by omega) rfl rfl HO.out (by omega) ?_; intro A2 c2 w2 ho2; have HO2 := hide ho2; clear ho2)
          go_roundw
          case rel => exact ⟨k + 1, (p + c) / 4294967296, A2, c2, _, by omega, by omega, rfl, vint (by omega), by go_num, HO2, hide (add_step (s := p + c) HO.out.len HI.out (by rw [HP.out, HQ.out]; omega))⟩
          case measure => simp [intOf] <;> omega
      · obtain rfl : k = n := by omega
        have HE := hide (add_end HO.out.len HU.out.len (by have := HV.out.len; omega) HI.out)
        go_wp2_with (first
          | (at_builtin; refine wl_app_u32 (w0 := w) rfl _ _ _ Try.underlying23 rfl A' k c' o c _ (by omega) (by omega) rfl rfl HO.out (by omega) ?_; intro A2 c2 w2 ho2; have HO2 := hide ho2; clear ho2)
          | (go_at_call 87; refine (trim_any _ none _ _ _ _ HO2.out.ul HO2.out.cap (by omega)).mono ?_; rintro e w3 ⟨m3, rfl, hm3, hu3, rfl⟩; rw [HE.out] at hu3; have hcap := HO2.out.cap))
        go_ret
        exact ⟨_, _, _, rfl, by omega, hu3, fr_below HO2.out.fr⟩
end Go.Proofs.Ytclflfglhbkfkaa

/- Contracts: limbs.Sub. -/
namespace Go.Proofs.Ytclflfglhbkfkaa
open Go.RowKit

/-- The digit and the borrow of a difference in 64 bits. -/
theorem sub_dig {p b q : Nat} (hp : p < 4294967296) (hb : b ≤ 1) (hq : q < 4294967296) : ∃ d w : Nat, d < 4294967296 ∧ w ≤ 1 ∧ IntKind.u64.wrap (IntKind.u64.wrap ((p : Int) - (b : Int)) - (q : Int)) % 4294967296 = (d : Int) ∧
    IntKind.u64.wrap (IntKind.u64.wrap ((p : Int) - (b : Int)) - (q : Int)) / 9223372036854775808 = (w : Int) ∧ d + b + q = p + 4294967296 * w := by
  simp only [IntKind.wrap_u64]
  by_cases h : b + q ≤ p
  · exact ⟨p - b - q, 0, by omega, by omega, by omega, by omega, by omega⟩
  · exact ⟨p + 4294967296 - b - q, 1, by omega, by omega, by omega, by omega, by omega⟩
theorem sub_dig0 {p b : Nat} (hp : p < 4294967296) (hb : b ≤ 1) : ∃ d w : Nat, d < 4294967296 ∧ w ≤ 1 ∧ IntKind.u64.wrap ((p : Int) - (b : Int)) % 4294967296 = (d : Int) ∧
    IntKind.u64.wrap ((p : Int) - (b : Int)) / 9223372036854775808 = (w : Int) ∧ d + b + 0 = p + 4294967296 * w := by
  simp only [IntKind.wrap_u64]
  by_cases h : b ≤ p
  · exact ⟨p - b, 0, by omega, by omega, by omega, by omega, by omega⟩
  · exact ⟨p + 4294967296 - b, 1, by omega, by omega, by omega, by omega, by omega⟩
set_option maxRecDepth 100000 in
set_option maxHeartbeats 2000000 in
theorem lsub_any (w : World) (av av' : Option Nat) (A : Option Addr) (n c : Nat) (B : Option Addr) (m d : Nat) (x y : Nat) (hU : Ul w av A n (lm x)) (hV : Ul w av' B m (lm y)) (hn : n ≤ 1000000) (hm : m ≤ 1000000) (hyx : y ≤ x) :
    Calls Try.prog 112 #[.slice A n c, .slice B m d] w fun e w' => ∃ A' m' c', e = .returned (.slice A' m' c') ∧ m' ≤ c' ∧ Ul w' none A' m' (lm (x - y)) ∧ Below w.heap.size w w' := by
  have HU := hide hU
  have HV := hide hV
  have hmn : m ≤ n := by
    have := lm_length_mono hyx
    rw [hU.len, hV.len] at this
    exact this
  clear hU hV
  go_enter Try.func112, Try.ntmps112
  go_wp2_with (at_make; refine wl_make_u32 (w0 := w) rfl _ _ _ Try.underlying23 rfl 0 n _ _ rfl rfl rfl (by omega) (by omega) (by omega) (Fr.refl _ _) ?_; intro w1 ho1 hs1 hb1; have HO1 := hide ho1; clear ho1 hb1)
  go_loopw [5, 6, 15] (fun out borrow i wr => ∃ (k b : Nat) (A' : Option Addr) (c' : Nat) (o : List Nat), k ≤ n ∧ b ≤ 1 ∧ out = .slice A' k c' ∧ borrow = .int .u64 (b : Int) ∧ i = .int .i64 k ∧ Hid (OF w wr A' k c' o) ∧ Hid (lv o + lv ((lm y).take k) = lv ((lm x).take k) + 4294967296 ^ k * b)) (fun _ _ i _ => n - (intOf i).toNat)
  case atStart => exact ⟨0, 0, _, _, [], by omega, by omega, rfl, rfl, rfl, HO1, hide (by simp [lv])⟩
  case round =>
    obtain ⟨k, b, A', c', o, hk, hb1, rfl, rfl, rfl, HO, HI⟩ := hrel
    by_cases hkn : k < n
    · obtain ⟨b1, o1, p, rfl, -, -, hp, hpl, hcell⟩ := (HU.out.frF HO.out.fr).at hkn
      have HP := hide (getD_some hp)
      clear hp
      have g1 : (0 : Int) ≤ (k : Int) := by omega
      have g2 : (k : Int) < (n : Int) := by omega
      by_cases hkm : k < m
      · obtain ⟨b2, o2, q, rfl, -, -, hq, hql, hcell2⟩ := (HV.out.frF HO.out.fr).at hkm
        have HQ := hide (getD_some hq)
        clear hq
        have g3 : (k : Int) < (m : Int) := by omega
        have g4 : decide ((k : Int) < (m : Int)) = true := decide_eq_true g3
        obtain ⟨e, b', he, hb', h1, h2, h3⟩ := sub_dig (q := q) hpl hb1 hql
        have H1 := hide h1
        have H2 := hide h2
        have H3 := hide h3
        clear h1 h2 h3
        go_wp2_with (at_builtin; refine wl_app_u32 (w0 := w) rfl _ _ _ Try.underlying23 rfl A' k c' o e _ H1.out he rfl rfl HO.out (by omega) ?_; intro A2 c2 w2 ho2; have HO2 := hide ho2; clear ho2)
        go_roundw
        case rel => exact ⟨k + 1, b', A2, c2, _, by omega, hb', rfl, vint H2.out, by go_num, HO2, hide (sub_step HO.out.len HI.out (by rw [HP.out, HQ.out]; exact H3.out))⟩
        case measure => simp [intOf] <;> omega
      · have g4 : decide ((k : Int) < (m : Int)) = false := decide_eq_false (by omega)
        have HQ := hide (getD_none (l := lm y) (k := k) (by have := HV.out.len; omega))
        obtain ⟨e, b', he, hb', h1, h2, h3⟩ := sub_dig0 hpl hb1
        have H1 := hide h1
        have H2 := hide h2
        have H3 := hide h3
        clear h1 h2 h3
        go_wp2_with (at_builtin; refine wl_app_u32 (w0 := w) rfl _ _ _ Try.underlying23 rfl A' k c' o e _ H1.out he rfl rfl HO.out (by omega) ?_; intro A2 c2 w2 ho2; have HO2 := hide ho2; clear ho2)
        go_roundw
        case rel => exact ⟨k + 1, b', A2, c2, _, by omega, hb', rfl, vint H2.out, by go_num, HO2, hide (sub_step HO.out.len HI.out (by rw [HP.out, HQ.out]; exact H3.out))⟩
        case measure => simp [intOf] <;> omega
    · obtain rfl : k = n := by omega
      have HE := hide (sub_end HO.out.ok HO.out.len (a := lm x) (b := lm y) (w := b) (by have h := HI.out; rwa [List.take_of_length_le (by have := HV.out.len; omega), List.take_of_length_le (by have := HU.out.len; omega)] at h) (by rw [lv_lm, lv_lm]; exact hyx))
      have hcap := HO.out.cap
      go_wp2_with (go_at_call 87; refine (trim_any _ none _ _ _ _ HO.out.ul hcap (by omega)).mono ?_; rintro e w3 ⟨m3, rfl, hm3, hu3, rfl⟩; rw [HE.out, lv_lm, lv_lm] at hu3)
      go_ret
      exact ⟨_, _, _, rfl, by omega, hu3, fr_below HO.out.fr⟩
end Go.Proofs.Ytclflfglhbkfkaa
