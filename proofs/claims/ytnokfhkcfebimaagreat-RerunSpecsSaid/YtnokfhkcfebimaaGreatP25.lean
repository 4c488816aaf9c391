/- Contracts of the functions that these laws reach: part 25: Contract: sequential.walk; Contracts: sequential.Errors, Expected; Fractions in a row that a literal makes; a drawn tape; What came in, whatever it is, reads as plain values: rows, fractions. -/
import Derived.Test.YtnokfhkcfebimaaGreatP24
import Derived.Test.YtnokfhkcfebimaaGreatP17
import Derived.Test.YtnokfhkcfebimaaGreatP20
import Derived.Test.YtnokfhkcfebimaaGreatP9
import Derived.DataReads
import Derived.WalkKit
import Derived.ProofKit
import Derived.OpenShut
import Derived.ChangeOld
import Derived.ChangeArms
import Derived.WideShapes
import Derived.Deep.Slices
set_option linter.unusedVariables false
set_option linter.unusedSimpArgs false

/- Contract: sequential.walk. -/
namespace Go.Proofs.YtnokfhkcfebimaaGreat
open Go.RowKit

/-- The bounds of the rows. -/
theorem after_dv {d : Nat → Nat → Int} {x : Rat} (hx : Dv x.den 1 1 x) (hq : Dv x.den 1 1 (1 - x)) : ∀ n, n ≤ 32 →
    (∀ a ∈ (Wk.after d x n).row, Dv x.den n (2 ^ n) a) ∧ Dv x.den n (n * 274877906944) (Wk.after d x n).fl ∧ Dv x.den n (n * 274877906944) (Wk.after d x n).st ∧ Dv x.den n (n * 274877906944) (Wk.after d x n).ex
  | 0, _ => ⟨fun a ha => by
      have : a ∈ ([1] : List Rat) := ha
      rw [List.mem_singleton] at this
      subst this
      exact Dv.one _, Dv.zero _ _ _, Dv.zero _ _ _, Dv.zero _ _ _⟩
  | n + 1, h => by
    obtain ⟨h1, h2, h3, h4⟩ := after_dv (d := d) hx hq n (by omega)
    have hs := spr_dv hq hx (Wk.after d x n).row 0 h1 (Dv.zero _ _ _)
    have hp : 2 ^ n ≤ 2 ^ 31 := Nat.pow_le_pow_right (by omega) (by omega)
    have hl := after_len d x n
    have hb : ((spr (1 - x) x 0 (Wk.after d x n).row).length) * (2 * 2 ^ n) ≤ 274877906944 := by
      rw [spr_length, hl]
      calc (n + 1 + 1) * (2 * 2 ^ n) ≤ 33 * (2 * 2 ^ 31) := Nat.mul_le_mul (by omega) (by omega)
        _ ≤ _ := by decide
    refine ⟨fun a ha => ?_, ?_, ?_, ?_⟩
    · have := cln_dv _ 0 hs a ha
      rwa [← Nat.pow_succ'] at this
    · exact (h2.up1.add (hit_dv _ 0 hs)).mono (by omega)
    · exact (h3.up1.add (hit_dv _ 0 hs)).mono (by omega)
    · have hsum := (sumL_dv _ h1).up1
      rw [hl] at hsum
      have hb2 : (n + 1) * 2 ^ n ≤ 274877906944 := by
        calc (n + 1) * 2 ^ n ≤ 32 * 2 ^ 31 := Nat.mul_le_mul (by omega) hp
          _ ≤ _ := by decide
      exact (h4.up1.add hsum).mono (by omega)
theorem Bf.many {v v' : World} {b : Nat} {c : Fa} {r : Rat} (h : Bf v b c r) {S : Nat → Prop} (hf : Fr v v' S) (hS : ∀ g, S g → NB v g) (hb : ¬ S b) : Bf v' b c r := by
  have hk := hf.block b h.b.sz hb
  refine ⟨⟨?_, ?_, fun j => ?_, Nat.lt_of_lt_of_le h.b.sz hf.size, fun j x => ?_⟩, ⟨⟨h.o.1.u.fr hf (fun hl b o hA hs => (fun hs' => h.o.1.u.nbox hl hA (hS _ hs') rfl)), h.o.1.v.fr hf (fun hl b o hA hs => (fun hs' => h.o.1.v.nbox hl hA (hS _ hs') rfl)), h.o.1.c, h.o.1.d, h.o.1.n, h.o.1.m⟩, h.o.2⟩⟩
  · rw [World.cell?_of_block (w := v) (a := ⟨b, 0, none⟩) hk]; exact h.b.c0
  · rw [World.cell?_of_block (w := v) (a := ⟨b, 1, none⟩) hk]; exact h.b.c1
  · rw [World.frozen?_of_block (w := v) (a := ⟨b, j, none⟩) hk]; exact h.b.fz j
  · rw [World.cell?_of_block (w := v) (a := ⟨b, j, none⟩) hk]; exact h.b.nb j x
theorem Fp.ofCb {v : World} {g i : Nat} {cs : List Value} {x : Fa} {r : Rat} (h : Cb v g cs) (h0 : cs[i]? = some (.slice x.A x.n x.c)) (h1 : cs[i + 1]? = some (.slice x.B x.m x.d)) (ho : Fo v x (some r)) : Fp v g i x r :=
  ⟨h.cell i _ h0, h.cell (i + 1) _ h1, h.fz, h.sz, h.nb, ho⟩
theorem fr6 {w : World} {g : Nat} (x0 x1 x2 x3 x4 x5 : Value) : Fr w ((((((w.setCell ⟨g, 0, none⟩ x0).setCell ⟨g, 1, none⟩ x1).setCell ⟨g, 2, none⟩ x2).setCell ⟨g, 3, none⟩ x3).setCell ⟨g, 4, none⟩ x4).setCell ⟨g, 5, none⟩ x5) (fun x => x = g) := by
  refine Fr.setCell (Fr.setCell (Fr.setCell (Fr.setCell (Fr.setCell (Fr.setCell (Fr.refl _ _) ?_ _) ?_ _) ?_ _) ?_ _) ?_ _) ?_ _ <;> exact Or.inr (by rfl)
def z6 : List Value := [.slice none 0 0, .slice none 0 0, .slice none 0 0, .slice none 0 0, .slice none 0 0, .slice none 0 0]
theorem Fw.mk1 {w : World} {c : Fa} {r : Rat} (h : Fo w c (some r)) (t : TypeId) : Fw (w.alloc (.cells #[.slice c.A c.n c.c, .slice c.B c.m c.d] t)) w.heap.size 1 [c] ([r].map some) := by
  have hb := Bq.mk0 (w := w) t c rfl
  refine ⟨hb.sz, hb.nb, hb.fz, rfl, rfl, fun i x hx => ?_, fun i x o hx ho => ?_⟩
  · match i with
    | 0 => simp at hx; subst hx; exact ⟨hb.c0, hb.c1⟩
    | i + 1 => simp at hx
  · match i with
    | 0 => simp at hx ho; subst hx ho; exact h.alloc _
    | i + 1 => simp at hx
theorem step_any' (w0 w : World) (br : Nat) (s : Sv) (fp : Fa) (x : Rat) (g m : Nat) (rs : List Rat) (fl st ex : Rat) (g2 N : Nat) (NI : Int) (hNI : NI = (N : Int)) (d : Nat → Nat → Int) (ns : List Rat) (l h a b : Rat) (hd : d = decQ l h a b) (M k B C : Nat) (hS : WS w0 w br s fp x g m rs fl st ex) (hK : OKs s l h a b M) (hX : ∃ fs, Fw w g2 (N + 1) fs (ns.map some)) (hg2 : w0.heap.size + 3 < g2) (hgb : g2 ≠ br) (hgg : g2 ≠ g) (hN : N ≤ M)
    (hxd : x.den ≤ 1000) (hB : ∀ a ∈ ns, Dv x.den k B a) (hF : Dv x.den k C fl) (hT : Dv x.den k C st) (hk : k ≤ 64) (hC2 : C + (N + 1) * B ≤ 18446744073709551616) :
    Calls Tryz.prog 77 #[.int .i64 NI, .slice (some ⟨g2, 0, none⟩) (N + 1) (N + 1), .pointer (some ⟨w0.heap.size, 0, none⟩), .pointer (some ⟨w0.heap.size + 2, 0, none⟩), .pointer (some ⟨br, 0, none⟩)] w fun e w' =>
      e = .returned (.tuple #[]) ∧ WS w0 w' br s fp x g2 (N + 1) (cln d N ns 0) (fl + hit d 2 N ns 0) (st + hit d 1 N ns 0) ex ∧ Fr w w' (fun b => b = w0.heap.size + 2 ∨ b = g2 ∨ b = br) := by
  subst hNI hd
  exact step_any w0 w br s fp x g m rs fl st ex g2 N ns l h a b M k B C hS hK hX hg2 hgb hgg hN hxd hB hF hT hk hC2
/-- The four results. -/
structure WP (w0 v : World) (f0 f2 f4 f5 : Fa) (fl st op ex : Rat) : Prop where
  bw : Below w0.heap.size w0 v
  o0 : Fp v (w0.heap.size + 2) 0 f0 fl
  o2 : Fp v (w0.heap.size + 2) 2 f2 st
  o4 : Fp v (w0.heap.size + 2) 4 f4 op
  ee : Fp v (w0.heap.size + 3) 0 f5 ex
theorem WP.again {w0 v : World} {f0 f2 f4 f5 : Fa} {fl st op ex : Rat} (h : WP w0 v f0 f2 f4 f5 fl st op ex) :
    WP w0 ((((((((v.setCell ⟨w0.heap.size + 2, 0, none⟩ (.slice f0.A f0.n f0.c)).setCell ⟨w0.heap.size + 2, 1, none⟩ (.slice f0.B f0.m f0.d)).setCell ⟨w0.heap.size + 2, 2, none⟩ (.slice f2.A f2.n f2.c)).setCell ⟨w0.heap.size + 2, 3, none⟩ (.slice f2.B f2.m f2.d)).setCell ⟨w0.heap.size + 2, 4, none⟩ (.slice f4.A f4.n f4.c)).setCell ⟨w0.heap.size + 2, 5, none⟩ (.slice f4.B f4.m f4.d)).setCell ⟨w0.heap.size + 3, 0, none⟩ (.slice f5.A f5.n f5.c)).setCell ⟨w0.heap.size + 3, 1, none⟩ (.slice f5.B f5.m f5.d)) f0 f2 f4 f5 fl st op ex := by
  have sp : ∀ {v : World} (i : Nat) (c : Fa), WP w0 v f0 f2 f4 f5 fl st op ex → Below w0.heap.size w0 ((v.setCell ⟨w0.heap.size + 2, i, none⟩ (.slice c.A c.n c.c)).setCell ⟨w0.heap.size + 2, i + 1, none⟩ (.slice c.B c.m c.d)) := fun {v} i c h =>
    ((Fr.of_below (fun b => b = w0.heap.size + 2) h.bw).trans (frp i _ _)).below (Nat.le_refl _) (fun k hk e => by omega)
  have h1 : WP w0 ((v.setCell ⟨w0.heap.size + 2, 0, none⟩ (.slice f0.A f0.n f0.c)).setCell ⟨w0.heap.size + 2, 0 + 1, none⟩ (.slice f0.B f0.m f0.d)) f0 f2 f4 f5 fl st op ex :=
    ⟨sp 0 f0 h, h.o0.fill h.o0.o, h.o2.beside 0 _ _ (by omega) (by simp) (by simp), h.o4.beside 0 _ _ (by omega) (by simp) (by simp), h.ee.one (frp 0 _ _) h.o0.nb (by omega)⟩
  have h2 : WP w0 ((((v.setCell ⟨w0.heap.size + 2, 0, none⟩ (.slice f0.A f0.n f0.c)).setCell ⟨w0.heap.size + 2, 0 + 1, none⟩ (.slice f0.B f0.m f0.d)).setCell ⟨w0.heap.size + 2, 2, none⟩ (.slice f2.A f2.n f2.c)).setCell ⟨w0.heap.size + 2, 2 + 1, none⟩ (.slice f2.B f2.m f2.d)) f0 f2 f4 f5 fl st op ex :=
    ⟨sp 2 f2 h1, h1.o0.beside 2 _ _ (by omega) (by simp) (by simp), h1.o2.fill h1.o2.o, h1.o4.beside 2 _ _ (by omega) (by simp) (by simp), h1.ee.one (frp 2 _ _) h1.o0.nb (by omega)⟩
  have h3 : WP w0 ((((((v.setCell ⟨w0.heap.size + 2, 0, none⟩ (.slice f0.A f0.n f0.c)).setCell ⟨w0.heap.size + 2, 0 + 1, none⟩ (.slice f0.B f0.m f0.d)).setCell ⟨w0.heap.size + 2, 2, none⟩ (.slice f2.A f2.n f2.c)).setCell ⟨w0.heap.size + 2, 2 + 1, none⟩ (.slice f2.B f2.m f2.d)).setCell ⟨w0.heap.size + 2, 4, none⟩ (.slice f4.A f4.n f4.c)).setCell ⟨w0.heap.size + 2, 4 + 1, none⟩ (.slice f4.B f4.m f4.d)) f0 f2 f4 f5 fl st op ex :=
    ⟨sp 4 f4 h2, h2.o0.beside 4 _ _ (by omega) (by simp) (by simp), h2.o2.beside 4 _ _ (by omega) (by simp) (by simp), h2.o4.fill h2.o4.o, h2.ee.one (frp 4 _ _) h2.o0.nb (by omega)⟩
  have hf := fun (v : World) => frp (w := v) (g := w0.heap.size + 3) 0 (.slice f5.A f5.n f5.c) (.slice f5.B f5.m f5.d)
  exact ⟨((Fr.of_below (fun b => b = w0.heap.size + 3) h3.bw).trans (hf _)).below (Nat.le_refl _) (fun k hk e => by omega), h3.o0.one (hf _) h3.ee.nb (by omega), h3.o2.one (hf _) h3.ee.nb (by omega), h3.o4.one (hf _) h3.ee.nb (by omega), h3.ee.fill h3.ee.o⟩
/-- The last sum: the results' boxes and the row. -/
structure WO (w0 v : World) (g n : Nat) (rs : List Rat) (fl st op ex : Rat) : Prop where
  bw : Below w0.heap.size w0 v
  o0 : ∃ f, Fp v (w0.heap.size + 2) 0 f fl
  o2 : ∃ f, Fp v (w0.heap.size + 2) 2 f st
  o4 : ∃ f, Fp v (w0.heap.size + 2) 4 f op
  ee : ∃ f, Fp v (w0.heap.size + 3) 0 f ex
  row : ∃ fs, Fw v g n fs (rs.map some)
  hg : w0.heap.size + 3 < g
theorem WS.wo {w0 v : World} {br : Nat} {s : Sv} {fp : Fa} {x : Rat} {g n : Nat} {rs : List Rat} {fl st ex : Rat} (h : WS w0 v br s fp x g n rs fl st ex) : WO w0 v g n rs fl st 0 ex := ⟨h.bw, h.o0, h.o2, h.o4, h.ee, h.row, h.hg⟩
theorem WO.below {w0 v v' : World} {g n : Nat} {rs : List Rat} {fl st op ex : Rat} (h : WO w0 v g n rs fl st op ex) (hb : Below v.heap.size v v') : WO w0 v' g n rs fl st op ex := by
  obtain ⟨f0, k0⟩ := h.o0
  obtain ⟨f2, k2⟩ := h.o2
  obtain ⟨f4, k4⟩ := h.o4
  obtain ⟨f5, k5⟩ := h.ee
  obtain ⟨fs, k6⟩ := h.row
  exact ⟨h.bw.trans (hb.mono h.bw.size), ⟨f0, k0.below hb⟩, ⟨f2, k2.below hb⟩, ⟨f4, k4.below hb⟩, ⟨f5, k5.below hb⟩, ⟨fs, k6.below hb⟩, h.hg⟩
theorem WO.addO {w0 v v' : World} {g n : Nat} {rs : List Rat} {fl st op ex r : Rat} (h : WO w0 v g n rs fl st op ex) (ha : AddP v (w0.heap.size + 2) 4 r v') : WO w0 v' g n rs fl st r ex := by
  obtain ⟨c, w1, hb, ho, rfl⟩ := ha
  have h' := h.below hb
  obtain ⟨f0, k0⟩ := h'.o0
  obtain ⟨f2, k2⟩ := h'.o2
  obtain ⟨f4, k4⟩ := h'.o4
  obtain ⟨f5, k5⟩ := h'.ee
  obtain ⟨fs, k6⟩ := h'.row
  have hg := h.hg
  exact ⟨((Fr.of_below (fun b => b = w0.heap.size + 2) h'.bw).trans (frp 4 _ _)).below (Nat.le_refl _) (fun k hk e => by omega), ⟨f0, k0.beside 4 _ _ (by omega) (by simp) (by simp)⟩, ⟨f2, k2.beside 4 _ _ (by omega) (by simp) (by simp)⟩, ⟨c, k4.fill ho⟩, ⟨f5, k5.one (frp 4 _ _) k0.nb (by omega)⟩, ⟨fs, k6.one (frp 4 _ _) k0.nb (by omega)⟩, h.hg⟩
set_option maxRecDepth 100000 in
set_option maxHeartbeats 16000000 in
theorem swalk_any (w : World) (s : Sv) (l h a b : Rat) (M : Nat) (fp : Fa) (x : Rat) (hq : SQ w s) (hk : OKs s l h a b M) (hp : Fo w fp (some x)) (hx : Chn x) :
    Calls Tryz.prog 44 #[.agg #[.slice s.l.A s.l.n s.l.c, .slice s.l.B s.l.m s.l.d, .slice s.h.A s.h.n s.h.c, .slice s.h.B s.h.m s.h.d, .slice s.a.A s.a.n s.a.c, .slice s.a.B s.a.m s.a.d, .slice s.b.A s.b.n s.b.c, .slice s.b.B s.b.m s.b.d, .int .i64 s.m], .agg #[.slice fp.A fp.n fp.c, .slice fp.B fp.m fp.d]] w fun e w' => ∃ f0 f2 f4 f5 : Fa, e = .returned (.tuple #[.agg #[.slice f0.A f0.n f0.c, .slice f0.B f0.m f0.d, .slice f2.A f2.n f2.c, .slice f2.B f2.m f2.d, .slice f4.A f4.n f4.c, .slice f4.B f4.m f4.d], .agg #[.slice f5.A f5.n f5.c, .slice f5.B f5.m f5.d]]) ∧
      Fo w' f0 (some (Wk.after (decQ l h a b) x M).fl) ∧ Fo w' f2 (some (Wk.after (decQ l h a b) x M).st) ∧ Fo w' f4 (some (sumL (Wk.after (decQ l h a b) x M).row)) ∧ Fo w' f5 (some (Wk.after (decQ l h a b) x M).ex) ∧ Below w.heap.size w w' := by
  have HQ := hide hq
  have HP := hide hp
  have HK := hide hk
  have HX := hide hx
  have f1 := hide (bd_fits hx.bdq (by decide +kernel))
  clear hq hp hk hx
  obtain ⟨d, hd⟩ : ∃ d, d = decQ l h a b := ⟨_, rfl⟩
  have HSd := hide hd
  have H00 := hide (show d 0 0 = 0 by rw [hd]; exact dec00 HK.out)
  rw [← hd]
  clear hd
  go_enter Tryz.func44, Tryz.ntmps44
  go_upto_region 1 with (fail)
  generalize hW : World.alloc (World.alloc (World.alloc (World.alloc w _) _) _) _ = v
  have HB := hide (show Below w.heap.size w v by rw [← hW]; exact (((Below.refl _ _).alloc (Nat.le_refl _) _).alloc (by simp) _).alloc (by simp; omega) _ |>.alloc (by simp; omega) _)
  have HC0 := hide (show Cb v w.heap.size s.cs by rw [← hW]; exact (((FS.mk0 HQ.out _).cb.below ((Below.refl _ _).alloc (Nat.le_refl _) _)).below ((Below.refl _ _).alloc (Nat.le_refl _) _)).below ((Below.refl _ _).alloc (Nat.le_refl _) _))
  have HC1 := hide (show Cb v (w.heap.size + 1) [.slice fp.A fp.n fp.c, .slice fp.B fp.m fp.d] by rw [← hW]; exact ((Cb.mk0 _ (by simp) _ (by simp)).below ((Below.refl _ _).alloc (Nat.le_refl _) _)).below ((Below.refl _ _).alloc (Nat.le_refl _) _))
  have HC2 := hide (show Cb v (w.heap.size + 2) z6 by rw [← hW]; exact (Cb.mk0 z6 (by simp [z6]) _ (by simp)).below ((Below.refl _ _).alloc (Nat.le_refl _) _))
  have HC3 := hide (show Cb v (w.heap.size + 3) [.slice none 0 0, .slice none 0 0] by rw [← hW]; exact Cb.mk0 _ (by simp) _ (by simp))
  have HQ0 := hide (HQ.out.below HB.out)
  have HP0 := hide (HP.out.below HB.out)
  clear hW
  go_upto_region 2 with (first
    | (go_at_call 76; (with_reducible refine (swhole0_any _).mono ?_); rintro e w4 ⟨c4, rfl, ho, hb⟩; have HO4 := hide ho; have HO34 := hide (HO33.out.below hb); have HO24 := hide (HO23.out.below hb); have HO14 := hide (HO13.out.below hb); have HB4 := hide (HB3.out.trans (hb.mono HB3.out.size)); have HX4 := hide (show Cb w4 w.heap.size s.cs ∧ Cb w4 (w.heap.size + 1) [.slice fp.A fp.n fp.c, .slice fp.B fp.m fp.d] ∧ Cb w4 (w.heap.size + 2) z6 ∧ Cb w4 (w.heap.size + 3) [.slice none 0 0, .slice none 0 0] from ⟨HX3.out.1.below hb, HX3.out.2.1.below hb, HX3.out.2.2.1.below hb, HX3.out.2.2.2.below hb⟩); have t0 := HX4.out.2.2.1.cell 0 _ rfl; have t1 := HX4.out.2.2.1.cell 1 _ rfl; have t2 := HX4.out.2.2.1.cell 2 _ rfl; have t3 := HX4.out.2.2.1.cell 3 _ rfl; have t4 := HX4.out.2.2.1.cell 4 _ rfl; have t5 := HX4.out.2.2.1.cell 5 _ rfl; have tf := HX4.out.2.2.1.fz; have tz := HX4.out.2.2.1.sz; have e0 := HX4.out.2.2.2.cell 0 _ rfl; have e1 := HX4.out.2.2.2.cell 1 _ rfl; have ef := HX4.out.2.2.2.fz; have ez := HX4.out.2.2.2.sz; clear ho hb)
    | (go_at_call 76; (with_reducible refine (swhole0_any _).mono ?_); rintro e w3 ⟨c3, rfl, ho, hb⟩; have HO33 := hide ho; have HO23 := hide (HO22.out.below hb); have HO13 := hide (HO12.out.below hb); have HB3 := hide (HB2.out.trans (hb.mono HB2.out.size)); have HX3 := hide (show Cb w3 w.heap.size s.cs ∧ Cb w3 (w.heap.size + 1) [.slice fp.A fp.n fp.c, .slice fp.B fp.m fp.d] ∧ Cb w3 (w.heap.size + 2) z6 ∧ Cb w3 (w.heap.size + 3) [.slice none 0 0, .slice none 0 0] from ⟨HX2.out.1.below hb, HX2.out.2.1.below hb, HX2.out.2.2.1.below hb, HX2.out.2.2.2.below hb⟩); clear ho hb)
    | (go_at_call 76; (with_reducible refine (swhole0_any _).mono ?_); rintro e w2 ⟨c2, rfl, ho, hb⟩; have HO22 := hide ho; have HO12 := hide (HO11.out.below hb); have HB2 := hide (HB1.out.trans (hb.mono HB1.out.size)); have HX2 := hide (show Cb w2 w.heap.size s.cs ∧ Cb w2 (w.heap.size + 1) [.slice fp.A fp.n fp.c, .slice fp.B fp.m fp.d] ∧ Cb w2 (w.heap.size + 2) z6 ∧ Cb w2 (w.heap.size + 3) [.slice none 0 0, .slice none 0 0] from ⟨HX1.out.1.below hb, HX1.out.2.1.below hb, HX1.out.2.2.1.below hb, HX1.out.2.2.2.below hb⟩); clear ho hb)
    | (go_at_call 76; (with_reducible refine (swhole0_any _).mono ?_); rintro e w1 ⟨c1, rfl, ho, hb⟩; have HO11 := hide ho; have HB1 := hide (HB.out.trans (hb.mono HB.out.size)); have HX1 := hide (show Cb w1 w.heap.size s.cs ∧ Cb w1 (w.heap.size + 1) [.slice fp.A fp.n fp.c, .slice fp.B fp.m fp.d] ∧ Cb w1 (w.heap.size + 2) z6 ∧ Cb w1 (w.heap.size + 3) [.slice none 0 0, .slice none 0 0] from ⟨HC0.out.below hb, HC1.out.below hb, HC2.out.below hb, HC3.out.below hb⟩); clear ho hb))
  rw [show w.heap.size + 1 + 1 + 1 = w.heap.size + 3 from rfl, show w.heap.size + 1 + 1 = w.heap.size + 2 from rfl]
  generalize hW : World.setCell (World.setCell (World.setCell (World.setCell (World.setCell (World.setCell (World.setCell (World.setCell w4 _ _) _ _) _ _) _ _) _ _) _ _) _ _) _ _ = v2
  have HE := hide (show Below w.heap.size w v2 ∧ Cb v2 w.heap.size s.cs ∧ SQ v2 s ∧ Fp v2 (w.heap.size + 1) 0 fp x ∧ Fp v2 (w.heap.size + 2) 0 c1 0 ∧ Fp v2 (w.heap.size + 2) 2 c2 0 ∧ Fp v2 (w.heap.size + 2) 4 c3 0 ∧ Fp v2 (w.heap.size + 3) 0 c4 0 by
    have h2 := ((((((HX4.out.2.2.1.put 0 (.slice c1.A c1.n c1.c) (by simp [z6]) (by simp)).put 1 (.slice c1.B c1.m c1.d) (by simp [z6]) (by simp)).put 2 (.slice c2.A c2.n c2.c) (by simp [z6]) (by simp)).put 3 (.slice c2.B c2.m c2.d) (by simp [z6]) (by simp)).put 4 (.slice c3.A c3.n c3.c) (by simp [z6]) (by simp)).put 5 (.slice c3.B c3.m c3.d) (by simp [z6]) (by simp))
    have hf6 := fr6 (w := w4) (g := w.heap.size + 2) (.slice c1.A c1.n c1.c) (.slice c1.B c1.m c1.d) (.slice c2.A c2.n c2.c) (.slice c2.B c2.m c2.d) (.slice c3.A c3.n c3.c) (.slice c3.B c3.m c3.d)
    have nb2 := HX4.out.2.2.1.nb
    have h3 := HX4.out.2.2.2.one hf6 (by omega)
    have hfe := frp (w := (((((w4.setCell ⟨w.heap.size + 2, 0, none⟩ (.slice c1.A c1.n c1.c)).setCell ⟨w.heap.size + 2, 1, none⟩ (.slice c1.B c1.m c1.d)).setCell ⟨w.heap.size + 2, 2, none⟩ (.slice c2.A c2.n c2.c)).setCell ⟨w.heap.size + 2, 3, none⟩ (.slice c2.B c2.m c2.d)).setCell ⟨w.heap.size + 2, 4, none⟩ (.slice c3.A c3.n c3.c)).setCell ⟨w.heap.size + 2, 5, none⟩ (.slice c3.B c3.m c3.d)) (g := w.heap.size + 3) 0 (.slice c4.A c4.n c4.c) (.slice c4.B c4.m c4.d)
    have nb3 := h3.nb
    have h3e := (h3.put 0 (.slice c4.A c4.n c4.c) (by simp) (by simp)).put 1 (.slice c4.B c4.m c4.d) (by simp) (by simp)
    have h2e := h2.one hfe (by omega)
    rw [← hW]
    refine ⟨((Fr.of_below (fun b => b = w.heap.size + 2 ∨ b = w.heap.size + 3) HB4.out).trans ((hf6.mono (fun k _ e => .inl e)).trans (hfe.mono (fun k _ e => .inr e)))).below (Nat.le_refl _) (fun k hk e => by omega), (HX4.out.1.one hf6 (by omega)).one hfe (by omega), ((HQ.out.below HB4.out).one hf6 nb2).one hfe nb3, Fp.ofCb ((HX4.out.2.1.one hf6 (by omega)).one hfe (by omega)) rfl rfl (((HP.out.below HB4.out).one hf6 nb2).one hfe nb3), Fp.ofCb h2e rfl rfl ((HO14.out.one hf6 nb2).one hfe nb3), Fp.ofCb h2e rfl rfl ((HO24.out.one hf6 nb2).one hfe nb3), Fp.ofCb h2e rfl rfl ((HO34.out.one hf6 nb2).one hfe nb3), Fp.ofCb h3e rfl rfl ((HO4.out.one hf6 nb2).one hfe nb3)⟩)
  clear hW t0 t1 t2 t3 t4 t5 tf tz e0 e1 ef ez
  go_upto_region 3 with (go_at_call 76; (with_reducible refine (swhole1_any _).mono ?_); rintro e w5 ⟨c5, rfl, ho, hb⟩; have HO5 := hide ho; have HE5 := hide (show Below w.heap.size w w5 ∧ Cb w5 w.heap.size s.cs ∧ SQ w5 s ∧ Fp w5 (w.heap.size + 1) 0 fp x ∧ Fp w5 (w.heap.size + 2) 0 c1 0 ∧ Fp w5 (w.heap.size + 2) 2 c2 0 ∧ Fp w5 (w.heap.size + 2) 4 c3 0 ∧ Fp w5 (w.heap.size + 3) 0 c4 0 from ⟨HE.out.1.trans (hb.mono HE.out.1.size), HE.out.2.1.below hb, HE.out.2.2.1.below hb, HE.out.2.2.2.1.below hb, HE.out.2.2.2.2.1.below hb, HE.out.2.2.2.2.2.1.below hb, HE.out.2.2.2.2.2.2.1.below hb, HE.out.2.2.2.2.2.2.2.below hb⟩); clear ho hb)
  generalize hW : World.alloc (World.alloc w5 _) _ = v3
  have HWS := hide (show WS w v3 (w5.heap.size + 1) s fp x w5.heap.size 1 (Wk.after d x 0).row (Wk.after d x 0).fl (Wk.after d x 0).st (Wk.after d x 0).ex by
    rw [← hW]
    have hb2 : Below w5.heap.size w5 ((w5.alloc (.cells #[.slice c5.A c5.n c5.c, .slice c5.B c5.m c5.d] 26)).alloc (.cells #[.slice (some ⟨w5.heap.size, 0, none⟩) 1 1] 35)) := ((Below.refl _ _).alloc (Nat.le_refl _) _).alloc (by simp) _
    have hz3 := HE5.out.2.2.2.2.2.2.2.sz
    exact ⟨HE5.out.1.trans (hb2.mono HE5.out.1.size), HE5.out.2.1.below hb2, HE5.out.2.2.1.below hb2, HE5.out.2.2.2.1.below hb2, ⟨c1, HE5.out.2.2.2.2.1.below hb2⟩, ⟨c2, HE5.out.2.2.2.2.2.1.below hb2⟩, ⟨c3, HE5.out.2.2.2.2.2.2.1.below hb2⟩, ⟨c4, HE5.out.2.2.2.2.2.2.2.below hb2⟩, Cb.mk0 _ (by simp) _ (by simp), ⟨[c5], (Fw.mk1 HO5.out _).below ((Below.refl _ _).alloc (Nat.le_refl _) _)⟩, by omega, by omega, by omega⟩)
  obtain ⟨br, hbr⟩ : ∃ b, b = w5.heap.size + 1 := ⟨_, rfl⟩
  rw [← hbr] at HWS ⊢
  obtain ⟨g0, hg0⟩ : ∃ b, b = w5.heap.size := ⟨_, rfl⟩
  rw [← hg0] at HWS ⊢
  obtain ⟨p0, p1, p2⟩ := HWS.out.pc
  clear hW hbr hg0
  go_upto_region 6 with (go_at_call 81; (with_reducible refine (sother_any _ fp x HWS.out.pp.o HX.out.h1 f1.out).mono ?_); rintro e w6 ⟨c6, rfl, ho, hb⟩; have HO6 := hide ho; have HW6 := hide (HWS.out.below hb); clear ho hb)
  generalize hW : World.alloc w6 _ = v4
  have HBQ := hide (show Bf v4 w6.heap.size c6 (1 - x) by rw [← hW]; exact ⟨Bq.mk0 _ c6 rfl, HO6.out.alloc _⟩)
  have HW7 := hide (show WS w v4 br s fp x g0 1 (Wk.after d x 0).row (Wk.after d x 0).fl (Wk.after d x 0).st (Wk.after d x 0).ex by rw [← hW]; exact HW6.out.alloc _)
  have hbq := hide (show br < w6.heap.size ∧ w.heap.size + 3 < w6.heap.size by have := HW6.out.rb.sz; have := HW6.out.hb; omega)
  have HZ4 := hide (show w6.heap.size < v4.heap.size by rw [← hW]; simp)
  obtain ⟨bq, hbqe⟩ : ∃ b, b = w6.heap.size := ⟨_, rfl⟩
  rw [← hbqe] at HBQ hbq HZ4 ⊢
  clear hW hbqe p0 p1 p2
  have hM2 := HK.out.m2
  go_wp2_with fail
  go_loopw [10] (fun i wr => ∃ (n g : Nat), i = .int .i64 ((n : Int) + 1) ∧ n ≤ M ∧ Hid (WS w wr br s fp x g (n + 1) (Wk.after d x n).row (Wk.after d x n).fl (Wk.after d x n).st (Wk.after d x n).ex) ∧ Hid (Bf wr bq c6 (1 - x)) ) (fun i _ => M + 1 - (intOf i).toNat)
  case atStart => exact ⟨0, g0, rfl, by omega, HW7, HBQ⟩
  case round =>
    obtain ⟨n, g, rfl, hn, HWr, HBr⟩ := hrel
    by_cases hnM : n = M
    · subst hnM
      have hle : decide ((n : Int) + 1 ≤ s.m) = false := decide_eq_false (by have := HK.out.m; omega)
      have hle2 : s.m < (n : Int) + 1 := by have := HK.out.m; omega
      obtain ⟨k0, k1, k2, k3, k4, k5, k6, k7, k8, k9⟩ := HWr.out.c9
      have r0 := HWr.out.rb.cell 0 _ rfl
      have rz := HWr.out.rb.sz
      clear k0 k1 k2 k3 k4 k5 k6 k7
      go_upto_region 11 with (fail)
      have HO := hide HWr.out.wo
      have hdv := after_dv (d := d) HX.out.dv HX.out.dvq n (by omega)
      have HDV := hide hdv.1
      have hp2 : 2 ^ n ≤ 4294967296 := Nat.le_trans (Nat.pow_le_pow_right (by omega) (show n ≤ 32 by omega)) (by decide)
      have HP2 := hide hp2
      have HLEN := hide (after_len d x n)
      clear k8 k9 r0 rz hdv hp2
      go_loopw [38] (fun i wx => ∃ j : Nat, i = .int .i64 (j : Int) ∧ j ≤ n + 1 ∧ Hid (WO w wx g (n + 1) (Wk.after d x n).row (Wk.after d x n).fl (Wk.after d x n).st (sumL ((Wk.after d x n).row.take j)) (Wk.after d x n).ex)) (fun i _ => n + 1 - (intOf i).toNat)
      case atStart => exact ⟨0, rfl, by omega, HO⟩
      case round =>
        obtain ⟨j, rfl, hj, HR⟩ := hrel
        by_cases hjn : j = n + 1
        · subst hjn
          have hlt : decide (((n + 1 : Nat) : Int) < (n : Int) + 1) = false := decide_eq_false (by omega)
          have hlt2 : (n : Int) + 1 ≤ ((n + 1 : Nat) : Int) := by omega
          obtain ⟨f0, k0⟩ := HR.out.o0
          obtain ⟨f2, k2⟩ := HR.out.o2
          obtain ⟨f4, k4⟩ := HR.out.o4
          obtain ⟨f5, k5⟩ := HR.out.ee
          rw [List.take_of_length_le (by rw [HLEN.out]; exact Nat.le_refl _)] at k4
          have HWP := hide (show WP w wr f0 f2 f4 f5 (Wk.after d x n).fl (Wk.after d x n).st (sumL (Wk.after d x n).row) (Wk.after d x n).ex from ⟨HR.out.bw, k0, k2, k4, k5⟩)
          have a0 := k0.c0
          have a1 : wr.cell? ⟨w.heap.size + 2, 1, none⟩ = _ := k0.c1
          have a2 := k2.c0
          have a3 : wr.cell? ⟨w.heap.size + 2, 3, none⟩ = _ := k2.c1
          have a4 := k4.c0
          have a5 : wr.cell? ⟨w.heap.size + 2, 5, none⟩ = _ := k4.c1
          have a6 := k5.c0
          have a7 : wr.cell? ⟨w.heap.size + 3, 1, none⟩ = _ := k5.c1
          have z0 := k0.fz
          have z5 := k5.fz
          have y0 := k0.sz
          have y5 := k5.sz
          clear k0 k2 k4 k5
          go_wp2_with fail
          generalize hW : World.setCell (World.setCell (World.setCell (World.setCell (World.setCell (World.setCell (World.setCell (World.setCell wr _ _) _ _) _ _) _ _) _ _) _ _) _ _) _ _ = v9
          have HE9 := hide (show WP w v9 f0 f2 f4 f5 (Wk.after d x n).fl (Wk.after d x n).st (sumL (Wk.after d x n).row) (Wk.after d x n).ex by rw [← hW]; exact HWP.out.again)
          clear hW a0 a1 a2 a3 a4 a5 a6 a7 z0 z5 y0 y5
          have a0 := HE9.out.o0.c0
          have a1 : v9.cell? ⟨w.heap.size + 2, 1, none⟩ = _ := HE9.out.o0.c1
          have a2 := HE9.out.o2.c0
          have a3 : v9.cell? ⟨w.heap.size + 2, 3, none⟩ = _ := HE9.out.o2.c1
          have a4 := HE9.out.o4.c0
          have a5 : v9.cell? ⟨w.heap.size + 2, 5, none⟩ = _ := HE9.out.o4.c1
          have a6 := HE9.out.ee.c0
          have a7 : v9.cell? ⟨w.heap.size + 3, 1, none⟩ = _ := HE9.out.ee.c1
          refine bodyPost_ret (v := .tuple #[.agg #[.slice f0.A f0.n f0.c, .slice f0.B f0.m f0.d, .slice f2.A f2.n f2.c, .slice f2.B f2.m f2.d, .slice f4.A f4.n f4.c, .slice f4.B f4.m f4.d], .agg #[.slice f5.A f5.n f5.c, .slice f5.B f5.m f5.d]]) (by simp [results, Tryz.results44, go_sem, *]) rfl ⟨f0, f2, f4, f5, rfl, HE9.out.o0.o, HE9.out.o2.o, HE9.out.o4.o, HE9.out.ee.o, HE9.out.bw⟩
        · have hlt : decide ((j : Int) < (n : Int) + 1) = true := decide_eq_true (by omega)
          have hlt2 : (j : Int) < (n : Int) + 1 := by omega
          have hj0 : (0 : Int) ≤ (j : Int) := by omega
          obtain ⟨y, hy⟩ : ∃ y, (Wk.after d x n).row[j]? = some y := ⟨_, List.getElem?_eq_getElem (by rw [HLEN.out]; omega)⟩
          have HY := hide hy
          have hjB : (j + 1) * 2 ^ n ≤ 18446744073709551616 := Nat.le_trans (Nat.mul_le_mul (show j + 1 ≤ 34 by omega) HP2.out) (by decide)
          have f9 := hide (show fitsR (sumL ((Wk.after d x n).row.take j) + y) = true by
            rw [← sumL_take hy]
            have h1 := sumL_dv (D := x.den) (n := n) (B := 2 ^ n) ((Wk.after d x n).row.take (j + 1)) (fun b hb => HDV.out b (List.mem_of_mem_take hb))
            exact h1.fits x.den_pos HX.out.hd (by omega) (by rw [List.length_take, HLEN.out, Nat.min_eq_left (by omega)]; exact hjB))
          obtain ⟨fs1, hfs1⟩ := HR.out.row
          obtain ⟨z, hz, hzp⟩ := hfs1.at (i := j) (r := y) (by omega) (by rw [List.getElem?_map, hy]; rfl)
          have z0 := hzp.c0
          have z1 := hzp.c1
          have zs := hzp.sz
          have HZO := hide hzp.o
          clear hfs1 hz hzp hy hjB hjn
          go_upto_region 13 with (fail)
          generalize hW : World.alloc wr _ = w3
          have HX3 := hide (show Bf w3 wr.heap.size z y by rw [← hW]; exact ⟨Bq.mk0 _ z rfl, HZO.out.alloc _⟩)
          have HR3 := hide (show WO w w3 g (n + 1) (Wk.after d x n).row (Wk.after d x n).fl (Wk.after d x n).st (sumL ((Wk.after d x n).row.take j)) (Wk.after d x n).ex by rw [← hW]; exact HR.out.below ((Below.refl _ _).alloc (Nat.le_refl _) _))
          obtain ⟨bx, hbx⟩ : ∃ b, b = wr.heap.size := ⟨_, rfl⟩
          rw [← hbx] at HX3 ⊢
          have x0 := HX3.out.b.c0
          have x1 := HX3.out.b.c1
          obtain ⟨f4, hf4⟩ := HR3.out.o4
          have HF4 := hide hf4
          clear hW hbx z0 z1 zs hf4
          go_wp2_with (go_at_call 78; (with_reducible refine (sadd_any _ (w.heap.size + 2) 4 f4 z _ _ HF4.out HX3.out.o f9.out).mono ?_); rintro e w4 ⟨rfl, hap⟩; have HR4 := hide (HR3.out.addO hap); clear hap)
          go_roundw
          case rel => exact ⟨j + 1, by go_num, by omega, hide (by rw [sumL_take HY.out]; exact HR4.out)⟩
          case measure => simp [intOf]; omega
    · have hle : decide ((n : Int) + 1 ≤ s.m) = true := decide_eq_true (by have := HK.out.m; omega)
      have hle2 : (n : Int) + 1 ≤ s.m := by have := HK.out.m; omega
      have hn32 : n + 1 ≤ 32 := by omega
      obtain ⟨k0, k1, k2, k3, k4, k5, k6, k7, k8, k9⟩ := HWr.out.c9
      have q0 := HBr.out.b.c0
      have q1 := HBr.out.b.c1
      have qz := HBr.out.b.sz
      have hdv := after_dv (d := d) HX.out.dv HX.out.dvq n (by omega)
      have HDV := hide hdv
      have hp2 : 2 ^ n ≤ 2147483648 := Nat.le_trans (Nat.pow_le_pow_right (by omega) (show n ≤ 31 by omega)) (by decide)
      have hP := hide (show 2 * 2 ^ n ≤ 18446744073709551616 ∧ n * 274877906944 + (n + 1) * 2 ^ n ≤ 18446744073709551616 ∧ n * 274877906944 + (n + 1 + 1) * (2 * 2 ^ n) ≤ 18446744073709551616 by
        have h1 : (n + 1) * 2 ^ n ≤ 32 * 2147483648 := Nat.mul_le_mul (by omega) hp2
        have h2 : (n + 1 + 1) * (2 * 2 ^ n) ≤ 33 * (2 * 2147483648) := Nat.mul_le_mul (by omega) (by omega)
        omega)
      have hnM1 : n + 1 ≤ M := by omega
      clear k0 k1 k2 k3 k4 k5 k6 k7 hdv hp2 hnM
      go_wp2_with (first
        | (go_at_call 77; (with_reducible refine (step_any' w _ br s fp x g (n + 1) (Wk.after d x n).row (Wk.after d x n).fl (Wk.after d x n).st ((Wk.after d x n).ex + sumL (Wk.after d x n).row) g' (n + 1) _ (by omega) d (spr (1 - x) x 0 (Wk.after d x n).row) l h a b HSd.out M (n + 1) (2 * 2 ^ n) (n * 274877906944) HWs.out HK.out HNx.out.1 HNx.out.2.1 HNx.out.2.2.1 HNx.out.2.2.2.1 hnM1 HX.out.hd (spr_dv HX.out.dvq HX.out.dv _ _ HDV.out.1 (Dv.zero _ _ _)) HDV.out.2.1.up1 HDV.out.2.2.1.up1 (by omega) hP.out.2.2).mono ?_); rintro e w9 ⟨rfl, hw, hfr⟩; have HW9 := hide (show WS w w9 br s fp x g' (n + 1 + 1) (Wk.after d x (n + 1)).row (Wk.after d x (n + 1)).fl (Wk.after d x (n + 1)).st (Wk.after d x (n + 1)).ex from hw); have HB9 := hide (HBs.out.many hfr (fun bb hb => Or.elim hb (fun e => by rw [e]; exact HWs.out.o0.elim fun _ h => h.nb) (fun hb => Or.elim hb (fun e => by rw [e]; exact HNx.out.1.elim fun _ h => h.nb) (fun e => by rw [e]; exact HWs.out.rb.nb))) (fun hb => by have := hbq.out; have := HNx.out.2.2.2.2; omega)); clear hw hfr)
        | (go_at_call 79; (with_reducible refine (spread_any w _ br s fp x g (n + 1) (Wk.after d x n).row (Wk.after d x n).fl (Wk.after d x n).st (Wk.after d x n).ex c6 (1 - x) n (2 ^ n) (n * 274877906944) HWr.out HBr.out.o (by omega) (by omega) HX.out.dv HX.out.dvq HX.out.hd HDV.out.1 HDV.out.2.2.2 (by omega) hP.out.1 hP.out.2.1).mono ?_); rintro e w8 ⟨g', rfl, hw, hx, h1, h2, h3, hfr, hz⟩; have HWs := hide hw; have HNx := hide (And.intro hx (And.intro h1 (And.intro h2 (And.intro h3 (show bq < g' by omega))))); have HBs := hide (HBr.out.one hfr (HWr.out.ee.elim fun _ h => h.nb) (by have := hbq.out; omega)); clear hw hx h1 h2 h3 hfr hz))
      go_roundw
      case rel => exact ⟨n + 1, g', by go_num, by omega, HW9, HB9⟩
      case measure => simp [intOf]; omega
end Go.Proofs.YtnokfhkcfebimaaGreat

/- Contracts: sequential.Errors, Expected. -/
namespace Go.Proofs.YtnokfhkcfebimaaGreat
open Go.RowKit

theorem chance_o (w : World) (a : Fa) (o : Option Rat) (ha : Fo w a o) : Calls Tryz.prog 43 #[.agg #[.slice a.A a.n a.c, .slice a.B a.m a.d]] w fun e w' => e = .returned (.bool (chO o)) ∧ Below w.heap.size w w' := by
  have := chance_any w a _ _ ha.1
  rwa [fracOf_self ha.2] at this
/-- What Errors returns. -/
def ErrV (d : Nat → Nat → Int) (x : Rat) (M : Nat) (w : World) (e : Ending) (w' : World) : Prop :=
  ∃ f0 f2 f4 : Fa, e = .returned (.tuple #[.agg #[.slice f0.A f0.n f0.c, .slice f0.B f0.m f0.d, .slice f2.A f2.n f2.c, .slice f2.B f2.m f2.d, .slice f4.A f4.n f4.c, .slice f4.B f4.m f4.d], .int .i64 0]) ∧
      Fo w' f0 (some (val d x gF M 0 0)) ∧ Fo w' f2 (some (val d x gS M 0 0)) ∧ Fo w' f4 (some (val d x gO M 0 0)) ∧ Below w.heap.size w w'
set_option maxRecDepth 100000 in
set_option maxHeartbeats 8000000 in
theorem serrors_ok (w : World) (s : Sv) (l h a b : Rat) (M : Nat) (fp : Fa) (x : Rat) (hq : SQ w s) (hk : OKs s l h a b M) (hp : Fo w fp (some x)) (hx : Chn x) :
    Calls Tryz.prog 11 #[.agg #[.slice s.l.A s.l.n s.l.c, .slice s.l.B s.l.m s.l.d, .slice s.h.A s.h.n s.h.c, .slice s.h.B s.h.m s.h.d, .slice s.a.A s.a.n s.a.c, .slice s.a.B s.a.m s.a.d, .slice s.b.A s.b.n s.b.c, .slice s.b.B s.b.m s.b.d, .int .i64 s.m], .agg #[.slice fp.A fp.n fp.c, .slice fp.B fp.m fp.d]] w fun e w' => ErrV (decQ l h a b) x M w e w' := by
  have HQ := hide hq
  have HP := hide hp
  have HK := hide hk
  have HX := hide hx
  have HOK := hide hk.ok
  have HCH := hide (show chO (some x) = true by simp [chO, hx.h1, hx.hd])
  have HV := hide (show (Wk.after (decQ l h a b) x M).fl = val (decQ l h a b) x gF M 0 0 ∧ (Wk.after (decQ l h a b) x M).st = val (decQ l h a b) x gS M 0 0 ∧ sumL (Wk.after (decQ l h a b) x M).row = val (decQ l h a b) x gO M 0 0 from ⟨(after_fl (decQ_range l h a b) (dec00 hk) x M).symm, (after_st (decQ_range l h a b) (dec00 hk) x M).symm, (after_op (decQ_range l h a b) (dec00 hk) x M).symm⟩)
  clear hq hp hk hx
  go_enter Tryz.func11, Tryz.ntmps11
  go_upto_region 1 with (fail)
  generalize hW : World.alloc (World.alloc (World.alloc w _) _) _ = v
  have HF := hide (show FS w v w.heap.size s by rw [← hW]; exact ((FS.mk0 HQ.out _).alloc _).alloc _)
  have HB := hide (show Bf v (w.heap.size + 1) fp x by rw [← hW]; exact ⟨((Bq.mk0 (w := w.alloc _) _ fp (by simp)).alloc _), ((HP.out.alloc _).alloc _).alloc _⟩)
  have HC := hide (show Cb v (w.heap.size + 2) z6 by rw [← hW]; exact Cb.mk0 z6 (by simp [z6]) _ (by simp))
  obtain ⟨a0, a1, a2, a3, a4, a5, a6, a7, a8, a9⟩ := HF.out.ca
  have p0 := HB.out.b.c0
  have p1 := HB.out.b.c1
  have pz := HB.out.b.sz
  clear hW
  go_upto_region 6 with (first
    | (go_at_call 44; (with_reducible refine (swalk_any _ s l h a b M fp x HF2.out.q HK.out HB2.out.o HX.out).mono ?_); rintro e w3 ⟨g0, g2, g4, g5, rfl, h0, h2, h4, h5, hb⟩; have HO3 := hide (And.intro h0 (And.intro h2 (And.intro h4 h5))); have HF3 := hide (HF2.out.below hb); have HC3 := hide (HC2.out.below hb); clear h0 h2 h4 h5 hb)
    | (go_at_call 43; (with_reducible refine (chance_o _ fp _ HB1.out.o).mono ?_); rintro e w2 ⟨rfl, hb⟩; rw [HCH.out]; have HF2 := hide (HF1.out.below hb); have HB2 := hide (HB1.out.below hb); have HC2 := hide (HC1.out.below hb); obtain ⟨c0, c1, c2, c3, c4, c5, c6, c7, c8, c9⟩ := HF2.out.ca; have s0 := HB2.out.b.c0; have s1 := HB2.out.b.c1; have sz := HB2.out.b.sz; clear hb)
    | (go_at_call 42; (with_reducible refine (scheckv_any _ s HF.out.q).mono ?_); rintro e w1 ⟨rfl, hb⟩; rw [HOK.out]; have HF1 := hide (HF.out.below hb); have HB1 := hide (HB.out.below hb); have HC1 := hide (HC.out.below hb); obtain ⟨b0, b1, b2, b3, b4, b5, b6, b7, b8, b9⟩ := HF1.out.ca; have r0 := HB1.out.b.c0; have r1 := HB1.out.b.c1; have rz := HB1.out.b.sz; clear hb))
  generalize hW : World.alloc (World.alloc w3 _) _ = v4
  have HB4 := hide (show Below w.heap.size w v4 by rw [← hW]; exact HF3.out.bw.trans ((((Below.refl _ _).alloc (Nat.le_refl _) _).alloc (by simp) _ : Below w3.heap.size w3 _).mono HF3.out.bw.size))
  have HC4 := hide (show Cb v4 (w.heap.size + 2) z6 by rw [← hW]; exact (HC3.out.below ((Below.refl _ _).alloc (Nat.le_refl _) _)).below ((Below.refl _ _).alloc (Nat.le_refl _) _))
  have HG := hide (show Cb v4 w3.heap.size [.slice g0.A g0.n g0.c, .slice g0.B g0.m g0.d, .slice g2.A g2.n g2.c, .slice g2.B g2.m g2.d, .slice g4.A g4.n g4.c, .slice g4.B g4.m g4.d] by rw [← hW]; exact (Cb.mk0 _ (by simp) _ (by simp)).below ((Below.refl _ _).alloc (Nat.le_refl _) _))
  have HO4 := hide (show Fo v4 g0 _ ∧ Fo v4 g2 _ ∧ Fo v4 g4 _ by rw [← hW]; exact ⟨(HO3.out.1.alloc _).alloc _, (HO3.out.2.1.alloc _).alloc _, (HO3.out.2.2.1.alloc _).alloc _⟩)
  have t0 := HC4.out.cell 0 _ rfl
  have t1 := HC4.out.cell 1 _ rfl
  have t2 := HC4.out.cell 2 _ rfl
  have t3 := HC4.out.cell 3 _ rfl
  have t4 := HC4.out.cell 4 _ rfl
  have t5 := HC4.out.cell 5 _ rfl
  have tf := HC4.out.fz
  have tz := HC4.out.sz
  have u0 := HG.out.cell 0 _ rfl
  have u1 := HG.out.cell 1 _ rfl
  have u2 := HG.out.cell 2 _ rfl
  have u3 := HG.out.cell 3 _ rfl
  have u4 := HG.out.cell 4 _ rfl
  have u5 := HG.out.cell 5 _ rfl
  clear hW a0 a1 a2 a3 a4 a5 a6 a7 a8 a9 p0 p1 pz b0 b1 b2 b3 b4 b5 b6 b7 b8 b9 r0 r1 rz c0 c1 c2 c3 c4 c5 c6 c7 c8 c9 s0 s1 sz
  go_wp2_with fail
  generalize hW : World.setCell (World.setCell (World.setCell (World.setCell (World.setCell (World.setCell v4 _ _) _ _) _ _) _ _) _ _) _ _ = v5
  have hf6 := hide (show Fr v4 v5 (fun b => b = w.heap.size + 2) by rw [← hW]; exact fr6 (.slice g0.A g0.n g0.c) (.slice g0.B g0.m g0.d) (.slice g2.A g2.n g2.c) (.slice g2.B g2.m g2.d) (.slice g4.A g4.n g4.c) (.slice g4.B g4.m g4.d))
  have HC5 := hide (show Cb v5 (w.heap.size + 2) [.slice g0.A g0.n g0.c, .slice g0.B g0.m g0.d, .slice g2.A g2.n g2.c, .slice g2.B g2.m g2.d, .slice g4.A g4.n g4.c, .slice g4.B g4.m g4.d] by
    rw [← hW]
    exact ((((((HC4.out.put 0 (.slice g0.A g0.n g0.c) (by simp [z6]) (by simp)).put 1 (.slice g0.B g0.m g0.d) (by simp [z6]) (by simp)).put 2 (.slice g2.A g2.n g2.c) (by simp [z6]) (by simp)).put 3 (.slice g2.B g2.m g2.d) (by simp [z6]) (by simp)).put 4 (.slice g4.A g4.n g4.c) (by simp [z6]) (by simp)).put 5 (.slice g4.B g4.m g4.d) (by simp [z6]) (by simp)))
  clear hW t0 t1 t2 t3 t4 t5 tf tz u0 u1 u2 u3 u4 u5
  have k0 := HC5.out.cell 0 _ rfl
  have k1 := HC5.out.cell 1 _ rfl
  have k2 := HC5.out.cell 2 _ rfl
  have k3 := HC5.out.cell 3 _ rfl
  have k4 := HC5.out.cell 4 _ rfl
  have k5 := HC5.out.cell 5 _ rfl
  refine bodyPost_ret (v := .tuple #[.agg #[.slice g0.A g0.n g0.c, .slice g0.B g0.m g0.d, .slice g2.A g2.n g2.c, .slice g2.B g2.m g2.d, .slice g4.A g4.n g4.c, .slice g4.B g4.m g4.d], .int .i64 0]) (by simp [results, Tryz.results11, go_sem, *]) rfl ⟨g0, g2, g4, rfl, by rw [← HV.out.1]; exact HO4.out.1.one hf6.out HC4.out.nb, by rw [← HV.out.2.1]; exact HO4.out.2.1.one hf6.out HC4.out.nb, by rw [← HV.out.2.2]; exact HO4.out.2.2.one hf6.out HC4.out.nb, ((Fr.of_below (fun b => b = w.heap.size + 2) HB4.out).trans hf6.out).below (Nat.le_refl _) (fun k hk e => by omega)⟩
end Go.Proofs.YtnokfhkcfebimaaGreat

/- Fractions in a row that a literal makes; a drawn tape. -/
namespace Go.Proofs.YtnokfhkcfebimaaGreat
open Go.RowKit

/-- Fractions in a row: each with what its limbs read. -/
def FRow (v : World) (b : Nat) (fs : List (Fa × List Nat × List Nat)) : Prop :=
  b < v.heap.size ∧ ∀ i x, fs[i]? = some x → v.cell? ⟨b, i * 2, none⟩ = some (.slice x.1.A x.1.n x.1.c) ∧ v.cell? ⟨b, i * 2 + 1, none⟩ = some (.slice x.1.B x.1.m x.1.d) ∧ Fq v x.1 x.2.1 x.2.2
end Go.Proofs.YtnokfhkcfebimaaGreat

/- What came in, whatever it is, reads as plain values: rows, fractions. -/
namespace Go.Proofs.YtnokfhkcfebimaaGreat
open Go.RowKit Go.WideShapes Go.Deep

theorem jcells26 : Tryz.prog.cellsOf 26 = 2 := by kernel_rfl
theorem jcells24 : Tryz.prog.cellsOf 24 = 1 := by kernel_rfl
theorem jcells86 : Tryz.prog.cellsOf 86 = 1 := by kernel_rfl
theorem jcells3 : Tryz.prog.cellsOf 3 = 1 := by kernel_rfl
section
variable {H : Type} {enc : TypeId × Value → H} {w : World} {base : Nat} {spare : Nat → Bool} {held : Bool}

theorem jfld {fs : Array Field} {n : Nat} {cs : List Value} {xs : List (DataW H × List MemPlace)} (hf : ∀ (i : Nat) (f : Field), fs[i]? = some f → DataW.trod enc Tryz.prog w base spare held n f.type ((cs.drop f.offset).take (Tryz.prog.cellsOf f.type)) = xs[i]?)
    (i : Nat) (t : TypeId) (o k : Nat) (ht : (fs[i]?).map (fun f => (f.type, f.offset)) = some (t, o)) (hk : Tryz.prog.cellsOf t = k) (hi : i < xs.length) : ∃ y, DataW.trod enc Tryz.prog w base spare held n t ((cs.drop o).take k) = some y := by
  cases hfi : fs[i]? with
  | none => rw [hfi] at ht; simp at ht
  | some f =>
    rw [hfi] at ht
    simp at ht
    obtain ⟨rfl, rfl⟩ := ht
    have := hf i f hfi
    rw [hk] at this
    exact ⟨_, this.trans (List.getElem?_eq_getElem hi)⟩
/-- A row whose elements read as f's. -/
theorem came_row {α : Type} (f : α → List Value) (s : Nat) (p : α → Prop) (x0 : α) {t e : TypeId} (ht : Tryz.prog.underlying t = some (.slice e)) (hc : Tryz.prog.cellsOf e = s) (hs : 0 < s) (hf : ∀ a, (f a).length = s)
    (hel : ∀ (n : Nat) (cs : List Value) (x : DataW H × List MemPlace), DataW.trod enc Tryz.prog w base spare held n e cs = some x → ∃ a, cs = f a ∧ p a)
    {fuel : Nat} {cs : List Value} {x : DataW H × List MemPlace} (h : DataW.trod enc Tryz.prog w base spare held fuel t cs = some x) :
    ∃ (A : Option Addr) (n c : Nat) (l : List α), cs = [.slice A n c] ∧ l.length = n ∧ n ≤ c ∧ c ≤ maxLen ∧ (∀ a ∈ l, p a) ∧ Rs w none s f A l := by
  rcases open_slice ht h with ⟨h2, -⟩ | ⟨a, len, cap, mm, nn, D, Pl, h2, -, h4, h5, h6, -, h8⟩
  · exact ⟨none, 0, 0, [], h2, rfl, Nat.le_refl _, Nat.zero_le _, by simp, Rs.nil⟩
  · have hle : len ≤ mm := by rw [h6]; split <;> omega
    rw [hc] at h8
    have tk : ∀ i, i < len → ∃ t : α, (∀ j u, (f t)[j]? = some u → w.cell? ((a.add (i * s)).add j) = some u) ∧ p t := by
      intro i hi
      obtain ⟨cs', h9, h10⟩ := h8 i (by omega)
      obtain ⟨t, rfl, hp⟩ := hel _ _ _ h10
      obtain ⟨-, -, h11⟩ := World.cells?_some h9
      exact ⟨t, fun j u hu => (h11 j (by have := (List.getElem?_eq_some_iff.1 hu).1; rwa [hf] at this)).trans hu, hp⟩
    let g : Nat → α := fun i => if hi : i < len then Classical.choose (tk i hi) else x0
    have hgp : ∀ i, i < len → (∀ j u, (f (g i))[j]? = some u → w.cell? ((a.add (i * s)).add j) = some u) ∧ p (g i) := by
      intro i hi
      have := Classical.choose_spec (tk i hi)
      simpa [g, hi] using this
    refine ⟨some a, len, cap, (List.range len).map g, h2, by simp, h4, h5, ?_, fun hne => ?_⟩
    · intro b hb
      obtain ⟨i, hi, rfl⟩ := List.mem_map.1 hb
      exact (hgp i (by simpa using hi)).2
    have hpos : 0 < len := by
      rcases Nat.eq_zero_or_pos len with h | h
      · subst h; simp at hne
      · exact h
    obtain ⟨b, o, sp⟩ := a
    have hlen0 := hf (g 0)
    have q0 := (hgp 0 hpos).1 0 _ (List.getElem?_eq_getElem (show 0 < (f (g 0)).length by omega))
    have hsp : sp = none := by
      cases sp with
      | none => rfl
      | some s =>
        simp [Addr.add] at q0
        simp only [World.cell?] at q0
        split at q0 <;> simp at q0
    subst hsp
    have hb : b < w.heap.size := by
      have := World.block_lt_of_cell? w _ q0
      simpa [Addr.add] using this
    refine ⟨b, o, rfl, by simp, hb, fun k z hk j u hu => ?_⟩
    simp only [List.getElem?_map] at hk
    rcases Nat.lt_or_ge k len with hkl | hkl
    · rw [List.getElem?_range hkl] at hk
      simp at hk
      subst hk
      have := (hgp k hkl).1 j u hu
      rwa [Addr.add_lit, Addr.add_lit] at this
    · rw [List.getElem?_eq_none (by simpa using hkl)] at hk
      simp at hk
theorem came_intsI {fuel : Nat} {cs : List Value} {x : DataW H × List MemPlace} (h : DataW.trod enc Tryz.prog w base spare held fuel 22 cs = some x) :
    ∃ (A : Option Addr) (n c : Nat) (l : List Int), cs = [.slice A n c] ∧ l.length = n ∧ n ≤ c ∧ c ≤ maxLen ∧ Rs w none 1 iv A l := by
  obtain ⟨A, n, c, l, h1, h2, h3, h4, -, h5⟩ := came_row iv 1 (fun _ => True) 0 Tryz.underlying22 jcells3 (by omega) (fun _ => rfl) (fun n cs x h => by
    obtain ⟨i, hi, -⟩ := DataW.trod_int Tryz.underlying3 h
    exact ⟨i, hi, trivial⟩) h
  exact ⟨A, n, c, l, h1, h2, h3, h4, h5⟩
theorem came_nat {fuel : Nat} {cs : List Value} {x : DataW H × List MemPlace} (h : DataW.trod enc Tryz.prog w base spare held fuel 24 cs = some x) :
    ∃ (A : Option Addr) (n c : Nat) (l : List Nat), cs = [.slice A n c] ∧ n ≤ c ∧ c ≤ maxLen ∧ Ul w none A n l := by
  obtain ⟨A, n, c, l, h1, h2, h3, h4, h6, h5⟩ := came_row uv 1 (fun x => x < 4294967296) 0 Tryz.underlying24 jcells86 (by omega) (fun _ => rfl) (fun n cs x h => by
    obtain ⟨i, hi, -, hw⟩ := DataW.trod_int Tryz.underlying86 h
    have hw' : -1 < i ∧ i < 4294967296 := by
      have h1 : IntKind.u32.min = 0 := by rfl
      have h2 : IntKind.u32.max = 4294967295 := by rfl
      simp [Lit.wf] at hw
      omega
    refine ⟨i.toNat, ?_, ?_⟩
    · rw [hi]; unfold uv; rw [Int.toNat_of_nonneg (by omega)]
    · omega) h
  exact ⟨A, n, c, l, h1, h3, h4, ⟨h5, h2, fun x hx => h6 x hx⟩⟩
/-- A fraction that came in. -/
structure CameF (w : World) (p : Fa) (l k : List Nat) : Prop where
  u : Ul w none p.A p.n l
  v : Ul w none p.B p.m k
  c : p.n ≤ p.c
  d : p.m ≤ p.d
  n : p.n ≤ 9223372036854775807
  m : p.m ≤ 9223372036854775807
set_option maxRecDepth 20000 in
theorem came_frac {fuel : Nat} {cs : List Value} {x : DataW H × List MemPlace} (h : DataW.trod enc Tryz.prog w base spare held fuel 26 cs = some x) :
    ∃ (p : Fa) (l k : List Nat), cs = [.slice p.A p.n p.c, .slice p.B p.m p.d] ∧ CameF w p l k := by
  obtain ⟨xs, n, _, -, hc, hl, hf⟩ := DataW.trod_struct Tryz.underlying26 h
  rw [jcells26] at hc
  have hl' : xs.length = 2 := hl
  match cs, hc with
  | [a0, a1], _ =>
    obtain ⟨y0, h0⟩ := jfld hf 0 24 0 1 rfl jcells24 (by omega)
    obtain ⟨y1, h1⟩ := jfld hf 1 24 1 1 rfl jcells24 (by omega)
    obtain ⟨A, n1, c1, l1, e1, g1, g2, g3⟩ := came_nat h0
    obtain ⟨B, n2, c2, l2, e2, k1, k2, k3⟩ := came_nat h1
    simp at e1 e2
    subst e1 e2
    simp only [maxLen] at g2 k2
    exact ⟨⟨A, n1, c1, B, n2, c2⟩, l1, l2, rfl, ⟨g3, k3, g1, k1, by show n1 ≤ _; omega, by show n2 ≤ _; omega⟩⟩
end
end Go.Proofs.YtnokfhkcfebimaaGreat
