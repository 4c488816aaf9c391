/- Contracts of the functions that these laws reach: part 30: Contracts: rerun.after, rerun.check; Contracts: rerun.taken; the iterator; The state of rerun.judge between two rounds; contract: the iterator; A range over a function at the wide fence, for an iterator that keeps a count in a cell; plain facts of rerun.judge. -/
import Derived.Test.YtnokfhkcfebimaaGreatP20
import Derived.Test.YtnokfhkcfebimaaGreatP29
import Derived.RangeFuncNested
import Derived.RangeFuncBound
import Derived.RangeFuncCalls
import Derived.RangeFuncLeaves
import Derived.Shelf.Abstract
import Derived.Shelf.RegionOpen
import Derived.OwnWalkIn
import Derived.TacticsInMore
import Derived.LoopNIn
import Derived.LoopIn
set_option linter.unusedVariables false
set_option linter.unusedSimpArgs false

/- Contracts: rerun.after, rerun.check. -/
namespace Go.Proofs.YtnokfhkcfebimaaGreat
open Go.RowKit

set_option maxRecDepth 100000 in
set_option maxHeartbeats 8000000 in
theorem vafter_ok (w : World) (s : Sv) (l h a b : Rat) (M p f : Nat) (hq : SQ w s) (hk : OKs s l h a b M) (hpf : p + f ≤ M) :
    Calls Tryz.prog 55 #[.agg #[.slice s.l.A s.l.n s.l.c, .slice s.l.B s.l.m s.l.d, .slice s.h.A s.h.n s.h.c, .slice s.h.B s.h.m s.h.d, .slice s.a.A s.a.n s.a.c, .slice s.a.B s.a.m s.a.d, .slice s.b.A s.b.n s.b.c, .slice s.b.B s.b.m s.b.d, .int .i64 s.m], .int .i64 (p : Int), .int .i64 (f : Int)] w fun e w' => e = .returned (.int .i64 (aftQ (decQ l h a b) M p f)) ∧ Below w.heap.size w w' := by
  have HK := hide hk
  have hm := hk.m
  have hm2 := hk.m2
  have hw : wrap64 ((p : Int) + (f : Int)) = (p : Int) + (f : Int) := IntWalk.wrap64_in _ ⟨by omega, by omega⟩
  have hw2 : wrap64 s.m = s.m := IntWalk.wrap64_in _ ⟨by omega, by omega⟩
  have HPF := hide hpf
  have hcase : (decQ l h a b p f = 2 ∧ aftQ (decQ l h a b) M p f = 1) ∨ (decQ l h a b p f = 1 ∧ aftQ (decQ l h a b) M p f = 2) ∨ (decQ l h a b p f = 0 ∧ aftQ (decQ l h a b) M p f = if p + f = M then 3 else 0) := by
    unfold aftQ
    rcases decQ_range l h a b p f with h0 | h0 | h0 <;> rw [h0] <;> simp
  clear hk hm2 hpf
  rcases hcase with ⟨hd, ha⟩ | ⟨hd, ha⟩ | ⟨hd, ha⟩
  · have HD := hide hd
    rw [ha]
    clear hd ha hm
    go_enter Tryz.func55, Tryz.ntmps55
    go_upto_region 1 with (fail)
    generalize hW : World.alloc w _ = v
    have HF := hide (show FS w v w.heap.size s by rw [← hW]; exact FS.mk0 hq _)
    obtain ⟨a0, a1, a2, a3, a4, a5, a6, a7, a8, a9⟩ := HF.out.ca
    clear hW hq
    go_wp2_with (go_at_call 36; (with_reducible refine (sdecide_ok _ s l h a b M p f HF.out.q HK.out HPF.out).mono ?_); rintro e w1 ⟨rfl, hb⟩; rw [HD.out]; have HF1 := hide (HF.out.below hb); obtain ⟨b0, b1, b2, b3, b4, b5, b6, b7, b8, b9⟩ := HF1.out.ca; clear hb)
    refine bodyPost_ret (v := .int .i64 1) (by simp [results, Tryz.results55, go_sem, *]) rfl ⟨rfl, HF1.out.bw⟩
  · have HD := hide hd
    rw [ha]
    clear hd ha hm
    go_enter Tryz.func55, Tryz.ntmps55
    go_upto_region 1 with (fail)
    generalize hW : World.alloc w _ = v
    have HF := hide (show FS w v w.heap.size s by rw [← hW]; exact FS.mk0 hq _)
    obtain ⟨a0, a1, a2, a3, a4, a5, a6, a7, a8, a9⟩ := HF.out.ca
    clear hW hq
    go_wp2_with (go_at_call 36; (with_reducible refine (sdecide_ok _ s l h a b M p f HF.out.q HK.out HPF.out).mono ?_); rintro e w1 ⟨rfl, hb⟩; rw [HD.out]; have HF1 := hide (HF.out.below hb); obtain ⟨b0, b1, b2, b3, b4, b5, b6, b7, b8, b9⟩ := HF1.out.ca; clear hb)
    refine bodyPost_ret (v := .int .i64 2) (by simp [results, Tryz.results55, go_sem, *]) rfl ⟨rfl, HF1.out.bw⟩
  · have HD := hide hd
    by_cases hpm : p + f = M
    · rw [ha, if_pos hpm]
      have e1 : (p : Int) + (f : Int) = s.m := by omega
      have e2 : ((p : Int) + (f : Int) == s.m) = true := by rw [e1]; simp
      have e3 : decide ((p : Int) + (f : Int) = s.m) = true := decide_eq_true e1
      clear hd ha hm hpm
      go_enter Tryz.func55, Tryz.ntmps55
      go_upto_region 1 with (fail)
      generalize hW : World.alloc w _ = v
      have HF := hide (show FS w v w.heap.size s by rw [← hW]; exact FS.mk0 hq _)
      obtain ⟨a0, a1, a2, a3, a4, a5, a6, a7, a8, a9⟩ := HF.out.ca
      clear hW hq
      go_wp2_with (go_at_call 36; (with_reducible refine (sdecide_ok _ s l h a b M p f HF.out.q HK.out HPF.out).mono ?_); rintro e w1 ⟨rfl, hb⟩; rw [HD.out]; have HF1 := hide (HF.out.below hb); obtain ⟨b0, b1, b2, b3, b4, b5, b6, b7, b8, b9⟩ := HF1.out.ca; clear hb)
      refine bodyPost_ret (v := .int .i64 3) (by simp [results, Tryz.results55, go_sem, *]) rfl ⟨rfl, HF1.out.bw⟩
    · rw [ha, if_neg hpm]
      have e1 : ¬ ((p : Int) + (f : Int) = s.m) := by omega
      have e2 : ((p : Int) + (f : Int) == s.m) = false := by simp [e1]
      have e3 : decide ((p : Int) + (f : Int) = s.m) = false := decide_eq_false e1
      clear hd ha hm hpm
      go_enter Tryz.func55, Tryz.ntmps55
      go_upto_region 1 with (fail)
      generalize hW : World.alloc w _ = v
      have HF := hide (show FS w v w.heap.size s by rw [← hW]; exact FS.mk0 hq _)
      obtain ⟨a0, a1, a2, a3, a4, a5, a6, a7, a8, a9⟩ := HF.out.ca
      clear hW hq
      go_wp2_with (go_at_call 36; (with_reducible refine (sdecide_ok _ s l h a b M p f HF.out.q HK.out HPF.out).mono ?_); rintro e w1 ⟨rfl, hb⟩; rw [HD.out]; have HF1 := hide (HF.out.below hb); obtain ⟨b0, b1, b2, b3, b4, b5, b6, b7, b8, b9⟩ := HF1.out.ca; clear hb)
      refine bodyPost_ret (v := .int .i64 0) (by simp [results, Tryz.results55, go_sem, *]) rfl ⟨rfl, HF1.out.bw⟩
/-- The first error of a specification and attempts. -/
def vckE (s : Sv) (n : Nat) : Int := if s.ok = false then 1 else if 33 < n then 2 else 0
set_option maxRecDepth 100000 in
set_option maxHeartbeats 8000000 in
theorem vcheck_any (w : World) (s : Sv) (A : Option Addr) (n c : Nat) (hq : SQ w s) :
    Calls Tryz.prog 51 #[.agg #[.slice s.l.A s.l.n s.l.c, .slice s.l.B s.l.m s.l.d, .slice s.h.A s.h.n s.h.c, .slice s.h.B s.h.m s.h.d, .slice s.a.A s.a.n s.a.c, .slice s.a.B s.a.m s.a.d, .slice s.b.A s.b.n s.b.c, .slice s.b.B s.b.m s.b.d, .int .i64 s.m], .slice A n c] w fun e w' => e = .returned (.int .i64 (vckE s n)) ∧ Below w.heap.size w w' := by
  have hcase : (s.ok = false ∧ vckE s n = 1) ∨ (s.ok = true ∧ 33 < n ∧ vckE s n = 2) ∨ (s.ok = true ∧ ¬ 33 < n ∧ vckE s n = 0) := by
    unfold vckE
    cases s.ok
    · simp
    · by_cases h : 33 < n <;> simp [h]
  rcases hcase with ⟨h1, h2⟩ | ⟨h1, h3, h2⟩ | ⟨h1, h3, h2⟩
  · have HOK := hide h1
    rw [h2]
    clear h1 h2
    go_enter Tryz.func51, Tryz.ntmps51
    go_upto_region 1 with (fail)
    generalize hW : World.alloc w _ = v
    have HF := hide (show FS w v w.heap.size s by rw [← hW]; exact FS.mk0 hq _)
    obtain ⟨a0, a1, a2, a3, a4, a5, a6, a7, a8, a9⟩ := HF.out.ca
    clear hW hq
    go_wp2_with (go_at_call 42; (with_reducible refine (scheckv_any _ s HF.out.q).mono ?_); rintro e w1 ⟨rfl, hb⟩; rw [HOK.out]; have HF1 := hide (HF.out.below hb); obtain ⟨b0, b1, b2, b3, b4, b5, b6, b7, b8, b9⟩ := HF1.out.ca; clear hb)
    refine bodyPost_ret (v := .int .i64 1) (by simp [results, Tryz.results51, go_sem, *]) rfl ⟨rfl, HF1.out.bw⟩
  · have HOK := hide h1
    have g1 : decide ((33 : Int) < (n : Int)) = true := decide_eq_true (by omega)
    have g2 : decide (33 < n) = true := decide_eq_true (by omega)
    rw [h2]
    clear h1 h2
    go_enter Tryz.func51, Tryz.ntmps51
    go_upto_region 1 with (fail)
    generalize hW : World.alloc w _ = v
    have HF := hide (show FS w v w.heap.size s by rw [← hW]; exact FS.mk0 hq _)
    obtain ⟨a0, a1, a2, a3, a4, a5, a6, a7, a8, a9⟩ := HF.out.ca
    clear hW hq
    go_wp2_with (go_at_call 42; (with_reducible refine (scheckv_any _ s HF.out.q).mono ?_); rintro e w1 ⟨rfl, hb⟩; rw [HOK.out]; have HF1 := hide (HF.out.below hb); obtain ⟨b0, b1, b2, b3, b4, b5, b6, b7, b8, b9⟩ := HF1.out.ca; clear hb)
    refine bodyPost_ret (v := .int .i64 2) (by simp [results, Tryz.results51, go_sem, *]) rfl ⟨rfl, HF1.out.bw⟩
  · have HOK := hide h1
    have g1 : decide ((33 : Int) < (n : Int)) = false := decide_eq_false (by omega)
    have g2 : decide (33 < n) = false := decide_eq_false (by omega)
    rw [h2]
    clear h1 h2
    go_enter Tryz.func51, Tryz.ntmps51
    go_upto_region 1 with (fail)
    generalize hW : World.alloc w _ = v
    have HF := hide (show FS w v w.heap.size s by rw [← hW]; exact FS.mk0 hq _)
    obtain ⟨a0, a1, a2, a3, a4, a5, a6, a7, a8, a9⟩ := HF.out.ca
    clear hW hq
    go_wp2_with (go_at_call 42; (with_reducible refine (scheckv_any _ s HF.out.q).mono ?_); rintro e w1 ⟨rfl, hb⟩; rw [HOK.out]; have HF1 := hide (HF.out.below hb); obtain ⟨b0, b1, b2, b3, b4, b5, b6, b7, b8, b9⟩ := HF1.out.ca; clear hb)
    refine bodyPost_ret (v := .int .i64 0) (by simp [results, Tryz.results51, go_sem, *]) rfl ⟨rfl, HF1.out.bw⟩
end Go.Proofs.YtnokfhkcfebimaaGreat

/- Contracts: rerun.taken; the iterator. -/
namespace Go.Proofs.YtnokfhkcfebimaaGreat
open Go.RowKit Go.Shelf
attribute [local go_sem] Oper.semAt_some

set_option maxRecDepth 100000 in
set_option maxHeartbeats 2000000 in
theorem vtaken_any (w : World) (A : Option Addr) (n c : Nat) (p : Addr) :
    Calls Tryz.prog 92 #[.slice A n c, .pointer (some p)] w fun e w' => e = .returned (.func (.func 125) #[] #[.pointer (some ⟨w.heap.size, 0, none⟩), .pointer (some ⟨w.heap.size + 1, 0, none⟩)]) ∧ Cb w' w.heap.size [.slice A n c] ∧ Cb w' (w.heap.size + 1) [.pointer (some p)] ∧ w'.heap.size = w.heap.size + 2 ∧ Below w.heap.size w w' := by
  go_enter Tryz.func92, Tryz.ntmps92
  go_wp2
  refine bodyPost_ret (v := .func (.func 125) #[] #[.pointer (some ⟨w.heap.size, 0, none⟩), .pointer (some ⟨w.heap.size + 1, 0, none⟩)]) (by simp [results, Tryz.results92, go_sem, *]) rfl ⟨rfl, ?_, ?_, ?_, ?_⟩
  · exact (Cb.mk0 (w := w) [.slice A n c] (by simp) _ rfl).below ((Below.refl _ _).alloc (Nat.le_refl _) _)
  · exact Cb.mk0 [.pointer (some p)] (by simp) _ (by simp)
  · simp
  · exact ((Below.refl _ _).alloc (Nat.le_refl _) _).alloc (by simp) _
end Go.Proofs.YtnokfhkcfebimaaGreat

/- The state of rerun.judge between two rounds; contract: the iterator. -/
namespace Go.Proofs.YtnokfhkcfebimaaGreat
open Go.RowKit Go.Shelf
attribute [local go_sem] Oper.semAt_some

/-- Nothing of the old has turned, and the verdict, the attempts used, the runs that failed lie in their boxes; so do the loop's record and the block of its deferred calls. -/
structure JW (w0 : World) (s : Sv) (A : Option Addr) (n c : Nat) (u f : Int) (D : Nat) (rc : Loop) (W : World) : Prop where
  bw : Below w0.heap.size w0 W
  sp : Cb W w0.heap.size s.cs
  li : Cb W (w0.heap.size + 1) [.slice A n c]
  vd : Cb W (w0.heap.size + 1 + 1) [.int .i64 0]
  us : Cb W (w0.heap.size + 1 + 1 + 1) [.int .i64 u]
  fa : Cb W (w0.heap.size + 1 + 1 + 1 + 1) [.int .i64 f]
  i0 : Cb W (w0.heap.size + 1 + 1 + 1 + 1 + 1) [.slice A n c]
  i1 : Cb W (w0.heap.size + 1 + 1 + 1 + 1 + 1 + 1) [.pointer (some ⟨w0.heap.size + 1 + 1 + 1, 0, none⟩)]
  df : W.heap[D]? = some (.deferred (some []))
  lo : W.heap[D + 1]? = some (.loop rc)
  dl : w0.heap.size + 7 ≤ D
theorem bw_one {w0 W W' : World} {g : Nat} (hb : Below w0.heap.size w0 W) (hf : Fr W W' (fun b => b = g)) (hg : w0.heap.size ≤ g) : Below w0.heap.size w0 W' :=
  ((Fr.of_below (fun _ => False) hb).step hf (fun i hi e => by omega)).below (Nat.le_refl _) (fun _ _ h => h)
theorem fr_set (W : World) (g i : Nat) (v : Value) : Fr W (W.setCell ⟨g, i, none⟩ v) (fun b => b = g) := (Fr.refl _ _).setCell (Or.inr (by rfl)) _
theorem fr_putObj (W : World) (g : Nat) (o : Obj) : Fr W (W.putObj g o) (fun b => b = g) := ⟨rfl, rfl, rfl, by simp, fun k _ hk => World.putObj_heap_other hk⟩
section
variable {w0 : World} {s : Sv} {A : Option Addr} {n c : Nat} {u f : Int} {D : Nat} {rc : Loop} {W W' : World}
theorem JW.below (h : JW w0 s A n c u f D rc W) (hb : Below W.heap.size W W') : JW w0 s A n c u f D rc W' :=
  ⟨h.bw.trans (hb.mono h.bw.size), h.sp.below hb, h.li.below hb, h.vd.below hb, h.us.below hb, h.fa.below hb, h.i0.below hb, h.i1.below hb,
    (hb.block _ (Array.getElem?_eq_some_iff.1 h.df).1).trans h.df, (hb.block _ (Array.getElem?_eq_some_iff.1 h.lo).1).trans h.lo, h.dl⟩
theorem JW.used (h : JW w0 s A n c u f D rc W) (u' : Int) : JW w0 s A n c u' f D rc (W.setCell ⟨w0.heap.size + 1 + 1 + 1, 0, none⟩ (.int .i64 u')) := by
  have hd := h.dl
  have hf := fr_set W (w0.heap.size + 1 + 1 + 1) 0 (.int .i64 u')
  exact ⟨bw_one h.bw hf (by omega), h.sp.one hf (by omega), h.li.one hf (by omega), h.vd.one hf (by omega), h.us.put 0 _ (by simp) (by simp), h.fa.one hf (by omega), h.i0.one hf (by omega), h.i1.one hf (by omega),
    (hf.block _ (Array.getElem?_eq_some_iff.1 h.df).1 (by omega)).trans h.df, (hf.block _ (Array.getElem?_eq_some_iff.1 h.lo).1 (by omega)).trans h.lo, h.dl⟩
theorem JW.failed (h : JW w0 s A n c u f D rc W) (f' : Int) : JW w0 s A n c u f' D rc (W.setCell ⟨w0.heap.size + 1 + 1 + 1 + 1, 0, none⟩ (.int .i64 f')) := by
  have hd := h.dl
  have hf := fr_set W (w0.heap.size + 1 + 1 + 1 + 1) 0 (.int .i64 f')
  exact ⟨bw_one h.bw hf (by omega), h.sp.one hf (by omega), h.li.one hf (by omega), h.vd.one hf (by omega), h.us.one hf (by omega), h.fa.put 0 _ (by simp) (by simp), h.i0.one hf (by omega), h.i1.one hf (by omega),
    (hf.block _ (Array.getElem?_eq_some_iff.1 h.df).1 (by omega)).trans h.df, (hf.block _ (Array.getElem?_eq_some_iff.1 h.lo).1 (by omega)).trans h.lo, h.dl⟩
theorem JW.again (h : JW w0 s A n c u f D rc W) : JW w0 s A n c u f D rc (W.setCell ⟨w0.heap.size + 1 + 1, 0, none⟩ (.int .i64 0)) := by
  have hd := h.dl
  have hf := fr_set W (w0.heap.size + 1 + 1) 0 (.int .i64 0)
  exact ⟨bw_one h.bw hf (by omega), h.sp.one hf (by omega), h.li.one hf (by omega), h.vd.put 0 _ (by simp) (by simp), h.us.one hf (by omega), h.fa.one hf (by omega), h.i0.one hf (by omega), h.i1.one hf (by omega),
    (hf.block _ (Array.getElem?_eq_some_iff.1 h.df).1 (by omega)).trans h.df, (hf.block _ (Array.getElem?_eq_some_iff.1 h.lo).1 (by omega)).trans h.lo, h.dl⟩
theorem JW.put (h : JW w0 s A n c u f D rc W) (rc' : Loop) : JW w0 s A n c u f D rc' (W.putObj (D + 1) (.loop rc')) := by
  have hd := h.dl
  have hf := fr_putObj W (D + 1) (.loop rc')
  exact ⟨bw_one h.bw hf (by omega), h.sp.one hf (by omega), h.li.one hf (by omega), h.vd.one hf (by omega), h.us.one hf (by omega), h.fa.one hf (by omega), h.i0.one hf (by omega), h.i1.one hf (by omega),
    (hf.block _ (Array.getElem?_eq_some_iff.1 h.df).1 (by omega)).trans h.df, World.putObj_heap_same (Array.getElem?_eq_some_iff.1 h.lo).1, h.dl⟩
theorem atts_at {xs : List (Bool × Bool)} (h : Rs w0 none 2 atv A xs) {k : Nat} {x : Bool × Bool} (hk : xs[k]? = some x) :
    ∃ b o, A = some ⟨b, o, none⟩ ∧ b < w0.heap.size ∧ w0.cell? ⟨b, o + k * 2, none⟩ = some (.bool x.1) ∧ w0.cell? ⟨b, o + k * 2 + 1, none⟩ = some (.bool x.2) := by
  obtain ⟨b, o, g1, -, g3, g4⟩ := h.at hk
  exact ⟨b, o, g1, g3, g4 0 _ rfl, g4 1 _ rfl⟩
end

set_option maxRecDepth 100000 in
set_option maxHeartbeats 4000000 in
theorem vtaken1_any (w0 : World) (s : Sv) (A : Option Addr) (n c D : Nat) (rc : Loop) (xs : List (Bool × Bool)) (hR : Rs w0 none 2 atv A xs) (hl : xs.length = n) (hn : n ≤ 33)
    (J : Nat → Int → Prop) (X : World → Prop) (W : World) (hJ0 : J 0 0) (hW : JW w0 s A n c 0 0 D rc W)
    (hY : ∀ (k : Nat) (f : Int) (x : Bool × Bool) (W : World), xs[k]? = some x → J k f → JW w0 s A n c ((k : Int) + 1) f D rc W →
      YieldAt Fence.wide 3 Tryz.prog (D + 1) #[.agg #[.bool x.1, .bool x.2]] W (fun e W' => (e = .returned (.bool true) ∧ ∃ f', J (k + 1) f' ∧ JW w0 s A n c ((k : Int) + 1) f' D rc W') ∨ (e = .returned (.bool false) ∧ X W'))) :
    CallsIn Fence.wide 4 Tryz.prog 125 #[.func (.yield (D + 1)) #[] #[], .pointer (some ⟨w0.heap.size + 1 + 1 + 1 + 1 + 1, 0, none⟩), .pointer (some ⟨w0.heap.size + 1 + 1 + 1 + 1 + 1 + 1, 0, none⟩)] W
      fun e W' => (∃ v, e = .returned v) ∧ ((∃ f, J n f ∧ JW w0 s A n c (n : Int) f D rc W') ∨ X W') := by
  refine callsIn_of_wp Tryz.func125 rfl trivial ?_ rfl
  simp only [Tryz.ntmps125, List.size_toArray, List.length_cons, List.length_nil, Nat.reduceAdd, Nat.reduceSub, Array.replicate_succ, Array.replicate_zero, List.push_toArray, List.append_toArray, List.nil_append, List.cons_append]
  have HW := hide hW
  have HR := hide hR
  have HL := hide hl
  have HJ0 := hide hJ0
  have HY := hide hY
  have k0 := hW.i0.cell 0 _ rfl
  have k1 := hW.i0.sz
  clear hW hR hl hJ0 hY
  gi_wp2
  gi_loopw [8] (fun kv wr => ∃ (k : Nat) (f : Int), kv = .int .i64 (k : Int) ∧ k ≤ n ∧ Hid (J k f) ∧ Hid (JW w0 s A n c (k : Int) f D rc wr)) (fun kv _ => n - (intOf kv).toNat)
  case atStart => exact ⟨0, 0, rfl, by omega, HJ0, HW⟩
  case round =>
    obtain ⟨k, f, rfl, hkn, HJ, HWr⟩ := hrel
    by_cases hk : k = n
    · have hle : decide ((k : Int) < (n : Int)) = false := decide_eq_false (by omega)
      have hle2 : decide (k < n) = false := decide_eq_false (by omega)
      have hle3 : (n : Int) ≤ (k : Int) := by omega
      have HE := hide hk
      clear hk
      gi_wp2
      go_end0
      exact ⟨⟨_, rfl⟩, .inl ⟨f, HE.out ▸ HJ.out, by have := HWr.out; rwa [HE.out] at this⟩⟩
    · have hkl : k < xs.length := by have := HL.out; omega
      have hx := List.getElem?_eq_getElem hkl
      obtain ⟨x1, x2, hxx⟩ : ∃ x1 x2, xs[k] = (x1, x2) := ⟨_, _, rfl⟩
      rw [hxx] at hx
      clear hxx
      have HX := hide hx
      obtain ⟨b, o, rfl, hb0, e0, e1⟩ := atts_at HR.out hx
      have hbw := HWr.out.bw
      have j0 : wr.cell? ⟨b, o + k * 2, none⟩ = some (.bool x1) := (hbw.cell (by simpa using hb0)).trans e0
      have j1 : wr.cell? ⟨b, o + k * 2 + 1, none⟩ = some (.bool x2) := (hbw.cell (by simpa using hb0)).trans e1
      have j2 : b < wr.heap.size := Nat.lt_of_lt_of_le hb0 hbw.size
      have j3 := HWr.out.i1.cell 0 _ rfl
      have j4 := HWr.out.i1.sz
      have j5 := HWr.out.us.cell 0 _ rfl
      have j6 := HWr.out.us.sz
      have j7 := HWr.out.us.fz 0
      have hlt : decide ((k : Int) < (n : Int)) = true := decide_eq_true (by omega)
      have hlt2 : (k : Int) < (n : Int) := by omega
      have hk0 : (0 : Int) ≤ (k : Int) := by omega
      have hk33 : k ≤ 33 := by omega
      obtain ⟨fn, tmps, assign, body, hy, hRD⟩ := HY.out k f (x1, x2) ((wr.setCell ⟨w0.heap.size + 1 + 1 + 1, 0, none⟩ (.int .i64 ((k : Int) + 1))).alloc (.cells #[.bool x1, .bool x2] 80)) hx HJ.out ((HWr.out.used _).below ((Below.refl _ _).alloc (Nat.le_refl _) _))
      clear hx hbw e0 e1 hb0
      dsimp only at hy
      gi_wp2
      refine hRD.mono ?_
      rintro e W3 (⟨rfl, f', hj3, hw3⟩ | ⟨rfl, hx3⟩)
      · have HJ3 := hide hj3
        have HW3 := hide hw3
        clear hj3 hw3
        gi_wp2
        go_roundw
        case rel => exact ⟨k + 1, f', by go_num, by omega, HJ3, by have := HW3.out; rw [show (((k + 1 : Nat) : Int)) = (k : Int) + 1 by omega]; exact hide this⟩
        case measure => simp [intOf]; omega
      · have HX3 := hide hx3
        clear hx3
        gi_wp2
        refine bodyPost_ret (results_none rfl _ _ _) rfl ?_
        exact ⟨⟨_, rfl⟩, .inr HX3.out⟩
end Go.Proofs.YtnokfhkcfebimaaGreat

/- A range over a function at the wide fence, for an iterator that keeps a count in a cell; plain facts of rerun.judge. -/
namespace Go.Proofs.YtnokfhkcfebimaaGreat
open Go.RowKit Go.Shelf
attribute [local go_sem] Oper.semAt_some

theorem rf_law {P : Program} {n : Nat} {g : Operand} {ps : Array Tmp} {assign body : Code} {Q : Exit → Act → World → Prop} {a : Act} {w : World} {gf : Nat} {lb ar : Array Value}
    (har : #[.func (.yield (w.heap.size + 1)) #[] #[]] ++ lb = ar) (hg : a.eval g = .func (.func gf) #[] lb) (eg : ∀ args w, (callFunc gf args).run P w = .ok (.enter gf args) w)
    (h : ∀ (fn : FuncId) (rc : Loop), rc.state = .ready → rc.pending = none →
      (∀ W args, W.heap[w.heap.size + 1]? = some (.loop rc) → args.size = ps.size → (Instr.yield (w.heap.size + 1) args).run P W = .ok (.round (w.heap.size + 1) fn ((ps.zip args).foldl (fun t (p, v) => t.setIfInBounds p v) a.tmps) assign body) W) →
      CallsIn Fence.wide (n - 1) P gf ar ((w.alloc (.deferred (some []))).alloc (.loop rc))
        (rangePost Fence.wide n P (w.heap.size + 1) Q { a with defers := { target := .collected w.heap.size, args := #[] } :: a.defers })) :
    (Code.rangeFunc g ps assign body).wpIn Fence.wide n P Q a w := by
  refine wpIn_rangeFunc ?_
  intro fn hfn
  obtain ⟨rc, hrc⟩ : ∃ rc : Loop, rc = { state := .ready, pending := none, fn, tmps := a.tmps, params := ps, assign, body, defers := w.heap.size } := ⟨_, rfl⟩
  obtain ⟨W1, hW1⟩ : ∃ W1, (w.alloc (.deferred (some []))).alloc (.loop rc) = W1 := ⟨_, rfl⟩
  refine ⟨w.heap.size + 1, [{ target := .collected w.heap.size, args := #[] }], W1, { target := .fn (.func gf) lb, args := #[.func (.yield (w.heap.size + 1)) #[] #[]] }, W1, gf, #[.func (.yield (w.heap.size + 1)) #[] #[]] ++ lb, W1, ?_, ?_, fun f' _ => trivial, ?_, fun hd => by simp [Fence.wide] at hd, ?_⟩
  · rw [← hW1, hrc]; exact run_enterLoop_outer fn a.tmps ps assign body
  · simp only [resolve, hg]
    simp [go_sem]
  · simp [invoke, go_sem, eg]
  · rw [← hW1, har]
    refine h fn rc (by rw [hrc]) (by rw [hrc]) ?_
    intro W args hl hs
    have := run_yield (P := P) hl (by rw [hrc]; exact hs)
    rw [this, hrc]

/-- What a run of rounds has come to: k attempts are used, f of the random ones failed. -/
def JI (g : Nat → Nat → Int) (M : Nat) (xs : List (Bool × Bool)) (k : Nat) (f : Int) : Prop :=
  ∃ m : Nat, f = (m : Int) ∧ ((k = 0 ∧ m = 0) ∨ ∃ r0, xs[0]? = some (true, r0) ∧ 1 ≤ k ∧ m + 1 ≤ k ∧ k ≤ M ∧ (2 ≤ k → r0 = true) ∧ jud g xs = judL g r0 (xs.drop k) k (k - 1 - m) m)
theorem JI.zero (g : Nat → Nat → Int) (M : Nat) (xs : List (Bool × Bool)) : JI g M xs 0 0 := ⟨0, rfl, .inl ⟨rfl, rfl⟩⟩
theorem JI.done {g : Nat → Nat → Int} {M : Nat} {xs : List (Bool × Bool)} {f : Int} (h : JI g M xs xs.length f) : jud g xs = (0, xs.length) := by
  obtain ⟨m, -, h | ⟨r0, h0, h1, h2, h3, h4, h5⟩⟩ := h
  · rw [List.length_eq_zero_iff.1 h.1]; rfl
  · rw [h5, List.drop_of_length_le (Nat.le_refl _)]; rfl
/-- The first attempt. -/
theorem jud_fine {g : Nat → Nat → Int} {xs : List (Bool × Bool)} {rd : Bool} (h : xs[0]? = some (false, rd)) : jud g xs = (5, 1) := by
  cases xs with
  | nil => simp at h
  | cons y t => obtain rfl : y = (false, rd) := by simpa using h
                rfl
theorem JI.first {g : Nat → Nat → Int} {M : Nat} {xs : List (Bool × Bool)} {rd : Bool} (hM : 1 ≤ M) (h : xs[0]? = some (true, rd)) : JI g M xs 1 0 := by
  cases xs with
  | nil => simp at h
  | cons y t =>
    obtain rfl : y = (true, rd) := by simpa using h
    exact ⟨0, rfl, .inr ⟨rd, rfl, by omega, by omega, hM, fun h => by omega, rfl⟩⟩
/-- An attempt behind the first one. -/
theorem drop_at {xs : List (Bool × Bool)} {k : Nat} {x : Bool × Bool} (h : xs[k]? = some x) : xs.drop k = x :: xs.drop (k + 1) := by
  obtain ⟨h1, h2⟩ := List.getElem?_eq_some_iff.1 h
  rw [List.drop_eq_getElem_cons h1, h2]
theorem JI.next {g : Nat → Nat → Int} {M : Nat} {xs : List (Bool × Bool)} {k : Nat} {f : Int} {fl rd : Bool} (hJ : JI g M xs k f) (hk : k ≠ 0) (hx : xs[k]? = some (fl, rd)) :
    ∃ (m : Nat) (r0 : Bool), f = (m : Int) ∧ xs[0]? = some (true, r0) ∧ m + 1 ≤ k ∧ k ≤ M ∧ (2 ≤ k → r0 = true) ∧
      (rd ≠ r0 → jud g xs = (4, k + 1)) ∧ (rd = r0 → rd = false → jud g xs = (if fl then 1 else 4, k + 1)) ∧
      (rd = r0 → rd = true → g (if fl then k - 1 - m else k - m) (if fl then m + 1 else m) ≠ 0 → jud g xs = (g (if fl then k - 1 - m else k - m) (if fl then m + 1 else m), k + 1)) ∧
      (rd = r0 → rd = true → g (if fl then k - 1 - m else k - m) (if fl then m + 1 else m) = 0 → k < M → JI g M xs (k + 1) (((if fl then m + 1 else m : Nat)) : Int)) := by
  obtain ⟨m, rfl, h | ⟨r0, h0, h1, h2, h3, h4, h5⟩⟩ := hJ
  · exact absurd h.1 hk
  · have ep : k - 1 - m + 1 = k - m := by omega
    rw [drop_at hx, judL, ep] at h5
    refine ⟨m, r0, rfl, h0, h2, h3, h4, fun h => ?_, fun h h' => ?_, fun h h' hg => ?_, fun h h' hg hM => ?_⟩
    · rw [h5, if_pos h]
    · rw [h5, if_neg (by simp [h]), if_pos h']
      cases fl <;> rfl
    · rw [h5, if_neg (by simp [h]), if_neg (by simp [h']), if_neg hg]
    · rw [if_neg (by simp [h]), if_neg (by simp [h']), if_pos hg] at h5
      refine ⟨_, rfl, .inr ⟨r0, h0, by omega, ?_, by omega, fun _ => by rw [← h]; exact h', ?_⟩⟩
      · cases fl <;> simp <;> omega
      · rw [h5]
        cases fl
        · simp only [Bool.false_eq_true, if_false]
          rw [show k + 1 - 1 - m = k - m by omega]
        · simp only [if_true]
          rw [show k + 1 - 1 - (m + 1) = k - 1 - m by omega]
/-- A round has left: the verdict and the attempts used lie in their boxes. -/
structure JX (w0 : World) (v u : Int) (D : Nat) (rc : Loop) (W : World) : Prop where
  bw : Below w0.heap.size w0 W
  vd : Cb W (w0.heap.size + 1 + 1) [.int .i64 v]
  us : Cb W (w0.heap.size + 1 + 1 + 1) [.int .i64 u]
  df : W.heap[D]? = some (.deferred (some []))
  lo : W.heap[D + 1]? = some (.loop rc)
  dl : w0.heap.size + 7 ≤ D
section
variable {w0 : World} {s : Sv} {A : Option Addr} {n c : Nat} {u f v : Int} {D : Nat} {rc : Loop} {W W' : World}
theorem JW.x (h : JW w0 s A n c u f D rc W) : JX w0 0 u D rc W := ⟨h.bw, h.vd, h.us, h.df, h.lo, h.dl⟩
theorem JX.drew (h : JX w0 v u D rc W) : JX w0 v u D rc W.drew := ⟨h.bw.drew, h.vd.drew, h.us.drew, h.df, h.lo, h.dl⟩
theorem JX.verdict (h : JX w0 v u D rc W) (v' : Int) : JX w0 v' u D rc (W.setCell ⟨w0.heap.size + 1 + 1, 0, none⟩ (.int .i64 v')) := by
  have hd := h.dl
  have hf := fr_set W (w0.heap.size + 1 + 1) 0 (.int .i64 v')
  exact ⟨bw_one h.bw hf (by omega), h.vd.put 0 _ (by simp) (by simp), h.us.one hf (by omega),
    (hf.block _ (Array.getElem?_eq_some_iff.1 h.df).1 (by omega)).trans h.df, (hf.block _ (Array.getElem?_eq_some_iff.1 h.lo).1 (by omega)).trans h.lo, h.dl⟩
theorem JX.used (h : JX w0 v u D rc W) (u' : Int) : JX w0 v u' D rc (W.setCell ⟨w0.heap.size + 1 + 1 + 1, 0, none⟩ (.int .i64 u')) := by
  have hd := h.dl
  have hf := fr_set W (w0.heap.size + 1 + 1 + 1) 0 (.int .i64 u')
  exact ⟨bw_one h.bw hf (by omega), h.vd.one hf (by omega), h.us.put 0 _ (by simp) (by simp),
    (hf.block _ (Array.getElem?_eq_some_iff.1 h.df).1 (by omega)).trans h.df, (hf.block _ (Array.getElem?_eq_some_iff.1 h.lo).1 (by omega)).trans h.lo, h.dl⟩
theorem JX.put (h : JX w0 v u D rc W) (rc' : Loop) : JX w0 v u D rc' (W.putObj (D + 1) (.loop rc')) := by
  have hd := h.dl
  have hf := fr_putObj W (D + 1) (.loop rc')
  exact ⟨bw_one h.bw hf (by omega), h.vd.one hf (by omega), h.us.one hf (by omega),
    (hf.block _ (Array.getElem?_eq_some_iff.1 h.df).1 (by omega)).trans h.df, World.putObj_heap_same (Array.getElem?_eq_some_iff.1 h.lo).1, h.dl⟩
end
theorem JX.fin {w0 : World} {v u : Int} {D : Nat} {rc : Loop} {W : World} (h : JX w0 v u D rc W) (o : Obj) :
    Below w0.heap.size w0 (W.putObj D o) ∧ (W.putObj D o).cell? ⟨w0.heap.size + 1 + 1, 0, none⟩ = some (.int .i64 v) ∧ (W.putObj D o).cell? ⟨w0.heap.size + 1 + 1 + 1, 0, none⟩ = some (.int .i64 u) := by
  have hd := h.dl
  have hf := fr_putObj W D o
  exact ⟨bw_one h.bw hf (by omega), (h.vd.one hf (by omega)).cell 0 _ rfl, (h.us.one hf (by omega)).cell 0 _ rfl⟩
theorem JW.round {P : Program} {w0 : World} {s : Sv} {A : Option Addr} {n c : Nat} {u f : Int} {D : Nat} {rc : Loop} {W : World} (h : JW w0 s A n c u f D { rc with state := .busy } W) (hr1 : rc.state = .ready) (hr2 : rc.pending = none) :
    ∃ v w', (Instr.endRound (D + 1) none).run P W = .ok v w' ∧ v = .bool true ∧ JW w0 s A n c u f D rc w' := by
  have e : ({ { rc with state := .busy } with state := .ready, pending := none } : Loop) = rc := by
    cases rc
    simp only at hr1 hr2
    subst hr1
    subst hr2
    rfl
  have h2 := h.put rc
  refine ⟨_, _, run_endRound none h.lo, rfl, ?_⟩
  have e2 : ({ { rc with state := .busy } with state := if (none : Option Code).isNone then .ready else .done, pending := none } : Loop) = rc := e
  rw [e2]
  exact h2
theorem JX.round {P : Program} {w0 : World} {v u : Int} {D : Nat} {rc : Loop} {W : World} (h : JX w0 v u D rc W) :
    ∃ v' w' rc', (Instr.endRound (D + 1) (some .ret)).run P W = .ok v' w' ∧ v' = .bool false ∧ rc'.state = .done ∧ rc'.pending = some .ret ∧ JX w0 v u D rc' w' :=
  ⟨_, _, _, run_endRound (some .ret) h.lo, rfl, rfl, rfl, h.put _⟩
theorem JW.post {P : Program} {w0 : World} {s : Sv} {A : Option Addr} {n c : Nat} {u f : Int} {D : Nat} {rc : Loop} {W : World} {R : Ending → World → Prop} {a : Act} (h : JW w0 s A n c u f D { rc with state := .busy } W) (hr1 : rc.state = .ready) (hr2 : rc.pending = none)
    (hR : ∀ w', JW w0 s A n c u f D rc w' → R (.returned (.bool true)) w') : roundPost P (D + 1) R .normal a W := by
  obtain ⟨v, w', hr, rfl, hw⟩ := h.round (P := P) hr1 hr2
  exact ⟨_, w', hr, hR w' hw⟩
theorem JX.post {P : Program} {w0 : World} {v u : Int} {D : Nat} {rc : Loop} {W : World} {R : Ending → World → Prop} {a : Act} (h : JX w0 v u D rc W)
    (hR : ∀ w' rc', rc'.state = .done → rc'.pending = some .ret → JX w0 v u D rc' w' → R (.returned (.bool false)) w') : roundPost P (D + 1) R .ret a W := by
  obtain ⟨v', w', rc', hr, rfl, hs, hp, hx⟩ := h.round (P := P)
  exact ⟨_, w', hr, hR w' rc' hs hp hx⟩
theorem JX.below {w0 : World} {v u : Int} {D : Nat} {rc : Loop} {W W' : World} (h : JX w0 v u D rc W) (hb : Below W.heap.size W W') : JX w0 v u D rc W' :=
  ⟨h.bw.trans (hb.mono h.bw.size), h.vd.below hb, h.us.below hb, (hb.block _ (Array.getElem?_eq_some_iff.1 h.df).1).trans h.df, (hb.block _ (Array.getElem?_eq_some_iff.1 h.lo).1).trans h.lo, h.dl⟩
theorem JX.alloc {w0 : World} {v u : Int} {D : Nat} {rc : Loop} {W : World} (h : JX w0 v u D rc W) (o : Obj) : JX w0 v u D rc (W.alloc o) := h.below ((Below.refl _ _).alloc (Nat.le_refl _) _)
/-- Behind the call of the iterator's maker. -/
structure JP (w0 : World) (s : Sv) (A : Option Addr) (n c : Nat) (W : World) : Prop where
  bw : Below w0.heap.size w0 W
  sp : Cb W w0.heap.size s.cs
  li : Cb W (w0.heap.size + 1) [.slice A n c]
  vd : Cb W (w0.heap.size + 1 + 1) [.int .i64 0]
  us : Cb W (w0.heap.size + 1 + 1 + 1) [.int .i64 0]
  fa : Cb W (w0.heap.size + 1 + 1 + 1 + 1) [.int .i64 0]
  i0 : Cb W (w0.heap.size + 1 + 1 + 1 + 1 + 1) [.slice A n c]
  i1 : Cb W (w0.heap.size + 1 + 1 + 1 + 1 + 1 + 1) [.pointer (some ⟨w0.heap.size + 1 + 1 + 1, 0, none⟩)]
  sz : W.heap.size = w0.heap.size + 7
theorem JP.mk0 {w v W : World} {s : Sv} {A : Option Addr} {n c : Nat} (t1 t2 t3 t4 t5 : TypeId) (hv : v = (((((w.alloc (.cells s.cs.toArray t1)).alloc (.cells #[.slice A n c] t2)).alloc (.cells #[.int .i64 0] t3)).alloc (.cells #[.int .i64 0] t4)).alloc (.cells #[.int .i64 0] t5)))
    (h0 : Cb W (w.heap.size + 1 + 1 + 1 + 1 + 1) [.slice A n c]) (h1 : Cb W (w.heap.size + 1 + 1 + 1 + 1 + 1 + 1) [.pointer (some ⟨w.heap.size + 1 + 1 + 1, 0, none⟩)]) (hz : W.heap.size = v.heap.size + 2) (hb : Below v.heap.size v W) : JP w s A n c W := by
  have hv1 : Below w.heap.size w v := by
    rw [hv]
    exact (((((Below.refl _ _).alloc (Nat.le_refl _) _).alloc (by simp) _).alloc (by simp; omega) _).alloc (by simp; omega) _).alloc (by simp; omega) _
  have b0 : Cb v w.heap.size s.cs := by
    rw [hv]; exact ((((Cb.mk0 s.cs (by simp [Sv.cs]) t1 rfl).alloc _).alloc _).alloc _).alloc _
  have b1 : Cb v (w.heap.size + 1) [.slice A n c] := by
    rw [hv]; exact (((Cb.mk0 [.slice A n c] (by simp) t2 (by simp)).alloc _).alloc _).alloc _
  have b2 : Cb v (w.heap.size + 1 + 1) [.int .i64 0] := by
    rw [hv]; exact ((Cb.mk0 [.int .i64 0] (by simp) t3 (by simp)).alloc _).alloc _
  have b3 : Cb v (w.heap.size + 1 + 1 + 1) [.int .i64 0] := by
    rw [hv]; exact (Cb.mk0 [.int .i64 0] (by simp) t4 (by simp)).alloc _
  have b4 : Cb v (w.heap.size + 1 + 1 + 1 + 1) [.int .i64 0] := by
    rw [hv]; exact Cb.mk0 [.int .i64 0] (by simp) t5 (by simp)
  have hs : v.heap.size = w.heap.size + 5 := by rw [hv]; simp
  exact ⟨hv1.trans (hb.mono hv1.size), b0.below hb, b1.below hb, b2.below hb, b3.below hb, b4.below hb, h0, h1, by omega⟩
theorem JP.start {w0 W : World} {s : Sv} {A : Option Addr} {n c : Nat} (h : JP w0 s A n c W) (rc : Loop) : JW w0 s A n c 0 0 W.heap.size rc ((W.alloc (.deferred (some []))).alloc (.loop rc)) := by
  have hb : Below W.heap.size W ((W.alloc (.deferred (some []))).alloc (.loop rc)) := ((Below.refl _ _).alloc (Nat.le_refl _) _).alloc (by simp) _
  refine ⟨h.bw.trans (hb.mono h.bw.size), h.sp.below hb, h.li.below hb, h.vd.below hb, h.us.below hb, h.fa.below hb, h.i0.below hb, h.i1.below hb, ?_, ?_, by have := h.sz; omega⟩
  · exact (Below.heap_alloc _ _ _ (by simp)).trans (World.alloc_heap_new W _)
  · have := World.alloc_heap_new (W.alloc (.deferred (some []))) (.loop rc)
    rwa [World.size_alloc] at this
theorem vtaken_at (w : World) (B : Nat) (hB : w.heap.size = B) (A : Option Addr) (n c : Nat) (p : Addr) :
    Calls Tryz.prog 92 #[.slice A n c, .pointer (some p)] w fun e w' => e = .returned (.func (.func 125) #[] #[.pointer (some ⟨B, 0, none⟩), .pointer (some ⟨B + 1, 0, none⟩)]) ∧ Cb w' B [.slice A n c] ∧ Cb w' (B + 1) [.pointer (some p)] ∧ w'.heap.size = w.heap.size + 2 ∧ Below w.heap.size w w' := by
  subst hB
  exact vtaken_any w A n c p
end Go.Proofs.YtnokfhkcfebimaaGreat
