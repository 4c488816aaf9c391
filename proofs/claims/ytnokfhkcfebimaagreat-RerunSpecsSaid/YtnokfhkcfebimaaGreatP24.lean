/- Contracts of the functions that these laws reach: part 24: Contract: the step of sequential.walk (walk$1). -/
import Derived.Test.YtnokfhkcfebimaaGreatP23
set_option linter.unusedVariables false
set_option linter.unusedSimpArgs false

/- Contract: the step of sequential.walk (walk$1). -/
namespace Go.Proofs.YtnokfhkcfebimaaGreat
open Go.RowKit

section
variable {w0 v v' : World} {br : Nat} {s : Sv} {fp : Fa} {x : Rat} {g n : Nat} {rs : List Rat} {fl st ex : Rat}
theorem WS.setF (h : WS w0 v br s fp x g n rs fl st ex) {c : Fa} {q : Rat} (hc : Fo v c (some q)) : WS w0 ((v.setCell ⟨w0.heap.size + 2, 0, none⟩ (.slice c.A c.n c.c)).setCell ⟨w0.heap.size + 2, 0 + 1, none⟩ (.slice c.B c.m c.d)) br s fp x g n rs q st ex := by
  obtain ⟨f0, k0⟩ := h.o0
  obtain ⟨f2, k2⟩ := h.o2
  obtain ⟨f4, k4⟩ := h.o4
  obtain ⟨f5, k5⟩ := h.ee
  obtain ⟨fs, k6⟩ := h.row
  have hf := frp (w := v) (g := w0.heap.size + 2) 0 (.slice c.A c.n c.c) (.slice c.B c.m c.d)
  have hg := h.hg
  have hb := h.hb
  exact ⟨((Fr.of_below (fun b => b = w0.heap.size + 2) h.bw).trans hf).below (Nat.le_refl _) (fun k hk e => by omega), h.fs.one hf (by omega), h.q.one hf k0.nb, h.pp.one hf k0.nb (by omega), ⟨c, k0.fill hc⟩, ⟨f2, k2.beside 0 _ _ (by omega) (by simp) (by simp)⟩, ⟨f4, k4.beside 0 _ _ (by omega) (by simp) (by simp)⟩, ⟨f5, k5.one hf k0.nb (by omega)⟩, h.rb.one hf (by omega), ⟨fs, k6.one hf k0.nb (by omega)⟩, h.hb, h.hg, h.hn⟩
theorem WS.setS (h : WS w0 v br s fp x g n rs fl st ex) {c : Fa} {q : Rat} (hc : Fo v c (some q)) : WS w0 ((v.setCell ⟨w0.heap.size + 2, 2, none⟩ (.slice c.A c.n c.c)).setCell ⟨w0.heap.size + 2, 2 + 1, none⟩ (.slice c.B c.m c.d)) br s fp x g n rs fl q ex := by
  obtain ⟨f0, k0⟩ := h.o0
  obtain ⟨f2, k2⟩ := h.o2
  obtain ⟨f4, k4⟩ := h.o4
  obtain ⟨f5, k5⟩ := h.ee
  obtain ⟨fs, k6⟩ := h.row
  have hf := frp (w := v) (g := w0.heap.size + 2) 2 (.slice c.A c.n c.c) (.slice c.B c.m c.d)
  have hg := h.hg
  have hb := h.hb
  exact ⟨((Fr.of_below (fun b => b = w0.heap.size + 2) h.bw).trans hf).below (Nat.le_refl _) (fun k hk e => by omega), h.fs.one hf (by omega), h.q.one hf k0.nb, h.pp.one hf k0.nb (by omega), ⟨f0, k0.beside 2 _ _ (by omega) (by simp) (by simp)⟩, ⟨c, k2.fill hc⟩, ⟨f4, k4.beside 2 _ _ (by omega) (by simp) (by simp)⟩, ⟨f5, k5.one hf k0.nb (by omega)⟩, h.rb.one hf (by omega), ⟨fs, k6.one hf k0.nb (by omega)⟩, h.hb, h.hg, h.hn⟩
/-- Another row comes. -/
theorem WS.setR (h : WS w0 v br s fp x g n rs fl st ex) {g' n' : Nat} {rs' : List Rat} (hr : ∃ fs, Fw v g' n' fs (rs'.map some)) (h1 : w0.heap.size + 3 < g') (h2 : g' ≠ br) : WS w0 (v.setCell ⟨br, 0, none⟩ (.slice (some ⟨g', 0, none⟩) n' n')) br s fp x g' n' rs' fl st ex := by
  obtain ⟨f0, k0⟩ := h.o0
  obtain ⟨f2, k2⟩ := h.o2
  obtain ⟨f4, k4⟩ := h.o4
  obtain ⟨f5, k5⟩ := h.ee
  obtain ⟨fs, k6⟩ := hr
  have hf := fr1 (w := v) (g := br) 0 (.slice (some ⟨g', 0, none⟩) n' n')
  have hb := h.hb
  have hnb := h.rb.nb
  exact ⟨((Fr.of_below (fun b => b = br) h.bw).trans hf).below (Nat.le_refl _) (fun k hk e => by omega), h.fs.one hf (by omega), h.q.one hf hnb, h.pp.one hf hnb (by omega), ⟨f0, k0.one hf hnb (by omega)⟩, ⟨f2, k2.one hf hnb (by omega)⟩, ⟨f4, k4.one hf hnb (by omega)⟩, ⟨f5, k5.one hf hnb (by omega)⟩, h.rb.put 0 _ (by simp) (by simp), ⟨fs, k6.one hf hnb h2⟩, h.hb, h1, h2⟩
theorem WS.c9 (h : WS w0 v br s fp x g n rs fl st ex) : v.cell? ⟨w0.heap.size, 0, none⟩ = some (.slice s.l.A s.l.n s.l.c) ∧ v.cell? ⟨w0.heap.size, 1, none⟩ = some (.slice s.l.B s.l.m s.l.d) ∧ v.cell? ⟨w0.heap.size, 2, none⟩ = some (.slice s.h.A s.h.n s.h.c) ∧ v.cell? ⟨w0.heap.size, 3, none⟩ = some (.slice s.h.B s.h.m s.h.d) ∧ v.cell? ⟨w0.heap.size, 4, none⟩ = some (.slice s.a.A s.a.n s.a.c) ∧ v.cell? ⟨w0.heap.size, 5, none⟩ = some (.slice s.a.B s.a.m s.a.d) ∧ v.cell? ⟨w0.heap.size, 6, none⟩ = some (.slice s.b.A s.b.n s.b.c) ∧ v.cell? ⟨w0.heap.size, 7, none⟩ = some (.slice s.b.B s.b.m s.b.d) ∧ v.cell? ⟨w0.heap.size, 8, none⟩ = some (.int .i64 s.m) ∧ w0.heap.size < v.heap.size :=
  ⟨h.fs.cell 0 _ rfl, h.fs.cell 1 _ rfl, h.fs.cell 2 _ rfl, h.fs.cell 3 _ rfl, h.fs.cell 4 _ rfl, h.fs.cell 5 _ rfl, h.fs.cell 6 _ rfl, h.fs.cell 7 _ rfl, h.fs.cell 8 _ rfl, h.fs.sz⟩
end
/-- The step's state: the boxes and the next row. -/
structure ST (wz w0 v : World) (br : Nat) (s : Sv) (fp : Fa) (x : Rat) (g n : Nat) (rs : List Rat) (fl st ex : Rat) (g2 m : Nat) (os : List (Option Rat)) : Prop where
  ws : WS w0 v br s fp x g n rs fl st ex
  nx : ∃ fs, Fw v g2 m fs os
  h2 : w0.heap.size + 3 < g2
  hb : g2 ≠ br
  hg : g2 ≠ g
  fr : Fr wz v (fun b => b = w0.heap.size + 2 ∨ b = g2 ∨ b = br)
section
variable {wz w0 v v' : World} {br : Nat} {s : Sv} {fp : Fa} {x : Rat} {g n : Nat} {rs : List Rat} {fl st ex : Rat} {g2 m : Nat} {os : List (Option Rat)}
theorem ST.below (h : ST wz w0 v br s fp x g n rs fl st ex g2 m os) (hb : Below v.heap.size v v') : ST wz w0 v' br s fp x g n rs fl st ex g2 m os := by
  obtain ⟨f2, k2⟩ := h.nx
  exact ⟨h.ws.below hb, ⟨f2, k2.below hb⟩, h.h2, h.hb, h.hg, h.fr.below_ hb⟩
theorem ST.addF (h : ST wz w0 v br s fp x g n rs fl st ex g2 m os) {r : Rat} (ha : AddP v (w0.heap.size + 2) 0 r v') : ST wz w0 v' br s fp x g n rs r st ex g2 m os := by
  obtain ⟨c, w1, hb, ho, rfl⟩ := ha
  have h' := h.below hb
  obtain ⟨f2, k2⟩ := h'.nx
  obtain ⟨f0, k0⟩ := h'.ws.o0
  have i2 := h.h2
  exact ⟨h'.ws.setF ho, ⟨f2, k2.one (frp 0 _ _) k0.nb (by omega)⟩, h.h2, h.hb, h.hg, h'.fr.step (frp 0 _ _) (fun k hk e => .inl e)⟩
theorem ST.addS (h : ST wz w0 v br s fp x g n rs fl st ex g2 m os) {r : Rat} (ha : AddP v (w0.heap.size + 2) 2 r v') : ST wz w0 v' br s fp x g n rs fl r ex g2 m os := by
  obtain ⟨c, w1, hb, ho, rfl⟩ := ha
  have h' := h.below hb
  obtain ⟨f2, k2⟩ := h'.nx
  obtain ⟨f0, k0⟩ := h'.ws.o0
  have i2 := h.h2
  exact ⟨h'.ws.setS ho, ⟨f2, k2.one (frp 2 _ _) k0.nb (by omega)⟩, h.h2, h.hb, h.hg, h'.fr.step (frp 2 _ _) (fun k hk e => .inl e)⟩
theorem ST.setN (h : ST wz w0 v br s fp x g n rs fl st ex g2 m os) {i : Nat} (hi : i < m) {c : Fa} {o : Option Rat} (ho : Fo v c o) : ST wz w0 ((v.setCell ⟨g2, i * 2, none⟩ (.slice c.A c.n c.c)).setCell ⟨g2, i * 2 + 1, none⟩ (.slice c.B c.m c.d)) br s fp x g n rs fl st ex g2 m (os.set i o) := by
  obtain ⟨f2, k2⟩ := h.nx
  have hf := frp (w := v) (g := g2) (i * 2) (.slice c.A c.n c.c) (.slice c.B c.m c.d)
  exact ⟨h.ws.one hf k2.nb h.h2 (fun e => h.hb e.symm) (fun e => h.hg e.symm), ⟨_, k2.set hi ho⟩, h.h2, h.hb, h.hg, h.fr.step hf (fun k hk e => .inr (.inl e))⟩
end
/-- The row part way: cleaned up to j. -/
def srow (d : Nat → Nat → Int) (N : Nat) (ns : List Rat) (j : Nat) : List (Option Rat) := (cln d N (ns.take j) 0 ++ ns.drop j).map some
theorem cln_snoc (d : Nat → Nat → Int) (N : Nat) (a : Rat) : ∀ (l : List Rat) (i : Nat), cln d N (l ++ [a]) i = cln d N l i ++ [if d (N - (i + l.length)) (i + l.length) = 0 then a else 0]
  | [], i => by simp [cln]
  | b :: t, i => by
    rw [List.cons_append]
    simp only [cln]
    rw [cln_snoc d N a t (i + 1), List.cons_append, List.length_cons, show i + 1 + t.length = i + (t.length + 1) by omega]
theorem hit_snoc (d : Nat → Nat → Int) (D : Int) (N : Nat) (a : Rat) : ∀ (l : List Rat) (i : Nat), hit d D N (l ++ [a]) i = hit d D N l i + (if d (N - (i + l.length)) (i + l.length) = D then a else 0)
  | [], i => by simp only [List.nil_append, hit, List.length_nil, Nat.add_zero]; grind
  | b :: t, i => by
    rw [List.cons_append]
    simp only [hit]
    rw [hit_snoc d D N a t (i + 1), List.length_cons, show i + 1 + t.length = i + (t.length + 1) by omega]
    grind
theorem take_snoc {l : List Rat} {j : Nat} {a : Rat} (h : l[j]? = some a) : l.take (j + 1) = l.take j ++ [a] := by
  rw [List.take_add_one, h]; rfl
theorem hit_take (d : Nat → Nat → Int) (D : Int) (N : Nat) {l : List Rat} {j : Nat} {a : Rat} (h : l[j]? = some a) : hit d D N (l.take (j + 1)) 0 = hit d D N (l.take j) 0 + (if d (N - j) j = D then a else 0) := by
  have hj := (List.getElem?_eq_some_iff.1 h).1
  rw [take_snoc h, hit_snoc, Nat.zero_add, List.length_take, Nat.min_eq_left (by omega)]
theorem srow_zero (d : Nat → Nat → Int) (N : Nat) (ns : List Rat) : srow d N ns 0 = ns.map some := by
  unfold srow; rw [List.take_zero, List.drop_zero]; rfl
theorem srow_full (d : Nat → Nat → Int) (N : Nat) (ns : List Rat) (j : Nat) (h : ns.length = j) : srow d N ns j = (cln d N ns 0).map some := by
  unfold srow; rw [List.take_of_length_le (by omega), List.drop_eq_nil_of_le (by omega), List.append_nil]
theorem srow_at (d : Nat → Nat → Int) (N : Nat) {ns : List Rat} {j : Nat} {a : Rat} (h : ns[j]? = some a) : (srow d N ns j)[j]? = some (some a) := by
  have hj := (List.getElem?_eq_some_iff.1 h).1
  unfold srow
  rw [List.getElem?_map, List.getElem?_append_right (by rw [cln_length, List.length_take]; omega), cln_length, List.length_take, Nat.min_eq_left (by omega), Nat.sub_self, List.getElem?_drop, Nat.add_zero, h]; rfl
theorem srow_set (d : Nat → Nat → Int) (N : Nat) {ns : List Rat} {j : Nat} {a : Rat} (h : ns[j]? = some a) (y : Rat) (hy : (if d (N - j) j = 0 then a else 0) = y) : (srow d N ns j).set j (some y) = srow d N ns (j + 1) := by
  have hj := (List.getElem?_eq_some_iff.1 h).1
  have hd : ns.drop j = a :: ns.drop (j + 1) := by
    rw [List.drop_eq_getElem_cons hj]
    have := List.getElem?_eq_getElem hj
    rw [h] at this
    injection this with this
    rw [this]
  unfold srow
  rw [take_snoc h, cln_snoc, Nat.zero_add, List.length_take, Nat.min_eq_left (by omega), hy, hd, List.append_assoc, List.map_append, List.map_append, List.set_append_right _ _ (by rw [List.length_map, cln_length, List.length_take]; omega), List.length_map, cln_length, List.length_take, Nat.min_eq_left (by omega), Nat.sub_self, List.map_cons, List.set_cons_zero]
  rfl
theorem srow_same (d : Nat → Nat → Int) (N : Nat) {ns : List Rat} {j : Nat} {a : Rat} (h : ns[j]? = some a) (hd : d (N - j) j = 0) : srow d N ns (j + 1) = srow d N ns j := by
  rw [← srow_set d N h a (if_pos hd)]
  refine List.ext_getElem? fun i => ?_
  by_cases hi : i = j
  · subst hi
    have := srow_at d N h
    rw [this, List.getElem?_set_self (List.getElem?_eq_some_iff.1 this).1]
  · rw [List.getElem?_set_ne (fun e => hi e.symm)]
set_option maxRecDepth 100000 in
set_option maxHeartbeats 16000000 in
theorem step_any (w0 w : World) (br : Nat) (s : Sv) (fp : Fa) (x : Rat) (g m : Nat) (rs : List Rat) (fl st ex : Rat) (g2 N : Nat) (ns : List Rat) (l h a b : Rat) (M k B C : Nat) (hS : WS w0 w br s fp x g m rs fl st ex) (hK : OKs s l h a b M) (hX : ∃ fs, Fw w g2 (N + 1) fs (ns.map some)) (hg2 : w0.heap.size + 3 < g2) (hgb : g2 ≠ br) (hgg : g2 ≠ g) (hN : N ≤ M)
    (hxd : x.den ≤ 1000) (hB : ∀ a ∈ ns, Dv x.den k B a) (hF : Dv x.den k C fl) (hT : Dv x.den k C st) (hk : k ≤ 64) (hC2 : C + (N + 1) * B ≤ 18446744073709551616) :
    Calls Tryz.prog 77 #[.int .i64 (N : Int), .slice (some ⟨g2, 0, none⟩) (N + 1) (N + 1), .pointer (some ⟨w0.heap.size, 0, none⟩), .pointer (some ⟨w0.heap.size + 2, 0, none⟩), .pointer (some ⟨br, 0, none⟩)] w fun e w' =>
      e = .returned (.tuple #[]) ∧ WS w0 w' br s fp x g2 (N + 1) (cln (decQ l h a b) N ns 0) (fl + hit (decQ l h a b) 2 N ns 0) (st + hit (decQ l h a b) 1 N ns 0) ex ∧ Fr w w' (fun b => b = w0.heap.size + 2 ∨ b = g2 ∨ b = br) := by
  have hlen : ns.length = N + 1 := by obtain ⟨f, hf⟩ := hX; have := hf.lo; simpa using this
  have HLEN := hide hlen
  have HK := hide hK
  have hM32 : M ≤ 32 := hK.m2
  have HDV := hide (And.intro hB (And.intro hF hT))
  obtain ⟨d, hd⟩ : ∃ d, d = decQ l h a b := ⟨_, rfl⟩
  have HSD := hide (show ∀ (W : World) (j : Nat), SQ W s → j ≤ N → Calls Tryz.prog 69 #[.agg #[.slice s.l.A s.l.n s.l.c, .slice s.l.B s.l.m s.l.d, .slice s.h.A s.h.n s.h.c, .slice s.h.B s.h.m s.h.d, .slice s.a.A s.a.n s.a.c, .slice s.a.B s.a.m s.a.d, .slice s.b.A s.b.n s.b.c, .slice s.b.B s.b.m s.b.d, .int .i64 s.m], .int .i64 ((N : Int) - (j : Int)), .int .i64 (j : Int)] W fun e w' => e = .returned (.int .i64 (d (N - j) j)) ∧ Below W.heap.size W w' from fun W j hW hj => by
    have := sdec_any W s l h a b M (N - j) j hW hK (by omega) (by omega)
    rwa [show ((N - j : Nat) : Int) = (N : Int) - (j : Int) by omega, ← hd] at this)
  have HRNG := hide (show ∀ p f, d p f = 0 ∨ d p f = 1 ∨ d p f = 2 by rw [hd]; exact decQ_range l h a b)
  have HS := hide (show ST w w0 w br s fp x g m rs (fl + hit d 2 N (ns.take 0) 0) (st + hit d 1 N (ns.take 0) 0) ex g2 (N + 1) (srow d N ns 0) from ⟨by rw [List.take_zero]; show WS w0 w br s fp x g m rs (fl + 0) (st + 0) ex; rw [Rat.add_zero, Rat.add_zero]; exact hS, by rw [srow_zero]; exact hX, hg2, hgb, hgg, Fr.refl _ _⟩)
  rw [← hd]
  clear hd hS hK hX hB hF hT hlen
  go_enter Tryz.func77, Tryz.ntmps77
  go_wp2_with fail
  go_loopw [10] (fun i wr => ∃ j : Nat, i = .int .i64 (j : Int) ∧ j ≤ N + 1 ∧ Hid (ST w w0 wr br s fp x g m rs (fl + hit d 2 N (ns.take j) 0) (st + hit d 1 N (ns.take j) 0) ex g2 (N + 1) (srow d N ns j))) (fun i _ => N + 1 - (intOf i).toNat)
  case atStart => exact ⟨0, rfl, by omega, HS⟩
  case round =>
    obtain ⟨j, rfl, hj, HR⟩ := hrel
    by_cases hjn : j = N + 1
    · subst hjn
      have hlt : decide (((N + 1 : Nat) : Int) < (N : Int) + 1) = false := decide_eq_false (by omega)
      have hlt2 : (N : Int) + 1 ≤ ((N + 1 : Nat) : Int) := by omega
      have r0 := HR.out.ws.rb.cell 0 _ rfl
      have rf := HR.out.ws.rb.fz
      have rz := HR.out.ws.rb.sz
      have HW := hide (show WS w0 (wr.setCell ⟨br, 0, none⟩ (.slice (some ⟨g2, 0, none⟩) (N + 1) (N + 1))) br s fp x g2 (N + 1) (cln d N ns 0) (fl + hit d 2 N ns 0) (st + hit d 1 N ns 0) ex by
        have h1 := HR.out
        rw [List.take_of_length_le (by rw [HLEN.out]; exact Nat.le_refl _), srow_full d N ns _ HLEN.out] at h1
        exact h1.ws.setR h1.nx h1.h2 h1.hb)
      have HFR := hide (HR.out.fr.step (fr1 (w := wr) (g := br) 0 (.slice (some ⟨g2, 0, none⟩) (N + 1) (N + 1))) (fun k hk e => .inr (.inr e)))
      go_wp2_with fail
      refine bodyPost_end (results_none rfl _ _ _) rfl ⟨rfl, HW.out, HFR.out⟩
    · have hlt : decide ((j : Int) < (N : Int) + 1) = true := decide_eq_true (by omega)
      have hlt2 : (j : Int) < (N : Int) + 1 := by omega
      have hj0 : (0 : Int) ≤ (j : Int) := by omega
      have hjN : j ≤ N := by omega
      obtain ⟨k0, k1, k2, k3, k4, k5, k6, k7, k8, k9⟩ := HR.out.ws.c9
      obtain ⟨y, hy⟩ : ∃ y, ns[j]? = some y := ⟨_, List.getElem?_eq_getElem (by rw [HLEN.out]; omega)⟩
      have HY := hide hy
      have hdy : Dv x.den k B y := HDV.out.1 y (List.mem_of_getElem? hy)
      have hjB : j * B + B ≤ (N + 1) * B := by rw [← Nat.succ_mul]; exact Nat.mul_le_mul_right _ (by omega)
      clear hy
      rcases HRNG.out (N - j) j with hdd | hdd | hdd
      · have HC := hide (show ∀ W, SQ W s → Calls Tryz.prog 69 #[.agg #[.slice s.l.A s.l.n s.l.c, .slice s.l.B s.l.m s.l.d, .slice s.h.A s.h.n s.h.c, .slice s.h.B s.h.m s.h.d, .slice s.a.A s.a.n s.a.c, .slice s.a.B s.a.m s.a.d, .slice s.b.A s.b.n s.b.c, .slice s.b.B s.b.m s.b.d, .int .i64 s.m], .int .i64 ((N : Int) - (j : Int)), .int .i64 (j : Int)] W fun e w' => e = .returned (.int .i64 0) ∧ Below W.heap.size W w' from fun W hW => by have := HSD.out W j hW hjN; rwa [hdd] at this)
        have HDD := hide hdd
        clear hdd hdy hjB
        go_wp2_with (go_at_call 69; (with_reducible refine (HC.out _ HR.out.ws.q).mono ?_); rintro e w4 ⟨rfl, hb⟩; have HR4 := hide (HR.out.below hb); clear hb)
        go_roundw
        case rel => exact ⟨j + 1, by go_num, by omega, hide (by
          have h1 := HR4.out
          rw [hit_take d 2 N HY.out, hit_take d 1 N HY.out, HDD.out, if_neg (by decide), if_neg (by decide), Rat.add_zero, Rat.add_zero, srow_same d N HY.out HDD.out]
          exact h1)⟩
        case measure => simp [intOf]; omega
      · have HC := hide (show ∀ W, SQ W s → Calls Tryz.prog 69 #[.agg #[.slice s.l.A s.l.n s.l.c, .slice s.l.B s.l.m s.l.d, .slice s.h.A s.h.n s.h.c, .slice s.h.B s.h.m s.h.d, .slice s.a.A s.a.n s.a.c, .slice s.a.B s.a.m s.a.d, .slice s.b.A s.b.n s.b.c, .slice s.b.B s.b.m s.b.d, .int .i64 s.m], .int .i64 ((N : Int) - (j : Int)), .int .i64 (j : Int)] W fun e w' => e = .returned (.int .i64 1) ∧ Below W.heap.size W w' from fun W hW => by have := HSD.out W j hW hjN; rwa [hdd] at this)
        have HDD := hide hdd
        have FT := hide (show fitsR (st + hit d 1 N (ns.take j) 0 + y) = true from ((HDV.out.2.2.add (hit_dv (d := d) (E := 1) (m := N) (B := B) (ns.take j) 0 (fun b hb => HDV.out.1 b (List.mem_of_mem_take hb)))).add hdy).fits x.den_pos hxd (by omega) (by rw [List.length_take, HLEN.out, Nat.min_eq_left (by omega)]; omega))
        clear hdd hdy hjB
        go_wp2_with (first
          | (go_at_call 76; (with_reducible refine (swhole0_any _).mono ?_); rintro e w6 ⟨c, rfl, ho, hb⟩; have HO6 := hide ho; have HR6 := hide (HR5.out.below hb); obtain ⟨fs6, hfs6⟩ := HR6.out.nx; obtain ⟨z6, hz6⟩ : ∃ z, fs6[j]? = some z := ⟨_, List.getElem?_eq_getElem (l := fs6) (i := j) (by have := hfs6.len; omega)⟩; obtain ⟨z60, z61⟩ := hfs6.c j z6 hz6; have zf6 := hfs6.fz; have zs6 := hfs6.sz; clear hfs6 hz6 ho hb)
          | (go_at_call 78; (with_reducible refine (sadd_any _ (w0.heap.size + 2) 2 f0 z _ _ HF0.out HZ.out.o FT.out).mono ?_); rintro e w5 ⟨rfl, hap⟩; have HR5 := hide (HR4.out.addS hap); clear hap)
          | (go_at_call 69; (with_reducible refine (HC.out _ HR.out.ws.q).mono ?_); rintro e w4 ⟨rfl, hb⟩; have HR4 := hide (HR.out.below hb); obtain ⟨fs4, hfs4⟩ := HR4.out.nx; obtain ⟨z, hz, hzp⟩ := hfs4.at (i := j) (r := y) (by omega) (srow_at d N HY.out); have HZ := hide hzp; have z0 := hzp.c0; have z1 := hzp.c1; have zs := hzp.sz; obtain ⟨f0, hf0⟩ := HR4.out.ws.o2; have HF0 := hide hf0; clear hb hfs4 hz hzp hf0))
        go_roundw
        case rel => exact ⟨j + 1, by go_num, by omega, hide (by
          have h1 := HR6.out.setN (i := j) (by omega) HO6.out
          rw [srow_set d N HY.out 0 (if_neg (by rw [HDD.out]; decide))] at h1
          rw [hit_take d 2 N HY.out, hit_take d 1 N HY.out, HDD.out, if_neg (by decide), if_pos rfl, Rat.add_zero, ← Rat.add_assoc]
          exact h1)⟩
        case measure => simp [intOf]; omega
      · have HC := hide (show ∀ W, SQ W s → Calls Tryz.prog 69 #[.agg #[.slice s.l.A s.l.n s.l.c, .slice s.l.B s.l.m s.l.d, .slice s.h.A s.h.n s.h.c, .slice s.h.B s.h.m s.h.d, .slice s.a.A s.a.n s.a.c, .slice s.a.B s.a.m s.a.d, .slice s.b.A s.b.n s.b.c, .slice s.b.B s.b.m s.b.d, .int .i64 s.m], .int .i64 ((N : Int) - (j : Int)), .int .i64 (j : Int)] W fun e w' => e = .returned (.int .i64 2) ∧ Below W.heap.size W w' from fun W hW => by have := HSD.out W j hW hjN; rwa [hdd] at this)
        have HDD := hide hdd
        have FT := hide (show fitsR (fl + hit d 2 N (ns.take j) 0 + y) = true from ((HDV.out.2.1.add (hit_dv (d := d) (E := 2) (m := N) (B := B) (ns.take j) 0 (fun b hb => HDV.out.1 b (List.mem_of_mem_take hb)))).add hdy).fits x.den_pos hxd (by omega) (by rw [List.length_take, HLEN.out, Nat.min_eq_left (by omega)]; omega))
        clear hdd hdy hjB
        go_wp2_with (first
          | (go_at_call 76; (with_reducible refine (swhole0_any _).mono ?_); rintro e w6 ⟨c, rfl, ho, hb⟩; have HO6 := hide ho; have HR6 := hide (HR5.out.below hb); obtain ⟨fs6, hfs6⟩ := HR6.out.nx; obtain ⟨z6, hz6⟩ : ∃ z, fs6[j]? = some z := ⟨_, List.getElem?_eq_getElem (l := fs6) (i := j) (by have := hfs6.len; omega)⟩; obtain ⟨z60, z61⟩ := hfs6.c j z6 hz6; have zf6 := hfs6.fz; have zs6 := hfs6.sz; clear hfs6 hz6 ho hb)
          | (go_at_call 78; (with_reducible refine (sadd_any _ (w0.heap.size + 2) 0 f0 z _ _ HF0.out HZ.out.o FT.out).mono ?_); rintro e w5 ⟨rfl, hap⟩; have HR5 := hide (HR4.out.addF hap); clear hap)
          | (go_at_call 69; (with_reducible refine (HC.out _ HR.out.ws.q).mono ?_); rintro e w4 ⟨rfl, hb⟩; have HR4 := hide (HR.out.below hb); obtain ⟨fs4, hfs4⟩ := HR4.out.nx; obtain ⟨z, hz, hzp⟩ := hfs4.at (i := j) (r := y) (by omega) (srow_at d N HY.out); have HZ := hide hzp; have z0 := hzp.c0; have z1 := hzp.c1; have zs := hzp.sz; obtain ⟨f0, hf0⟩ := HR4.out.ws.o0; have HF0 := hide hf0; clear hb hfs4 hz hzp hf0))
        go_roundw
        case rel => exact ⟨j + 1, by go_num, by omega, hide (by
          have h1 := HR6.out.setN (i := j) (by omega) HO6.out
          rw [srow_set d N HY.out 0 (if_neg (by rw [HDD.out]; decide))] at h1
          rw [hit_take d 2 N HY.out, hit_take d 1 N HY.out, HDD.out, if_pos rfl, if_neg (by decide), Rat.add_zero, ← Rat.add_assoc]
          exact h1)⟩
        case measure => simp [intOf]; omega
end Go.Proofs.YtnokfhkcfebimaaGreat
