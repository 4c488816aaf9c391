/- The walk of the law RerunSpecs. -/
import Derived.Test.YtnokfhkcfebimaaGreatP33
import Derived.Test.YtnokfhkcfebimaaGreatP32
import Derived.Test.YtnokfhkcfebimaaGreatP25
import Derived.Test.YtnokfhkcfebimaaGreatP22
import Derived.Test.YtnokfhkcfebimaaGreatP23
import Derived.Test.YtnokfhkcfebimaaGreatP21
import Derived.Test.YtnokfhkcfebimaaGreatP16
import Derived.Test.YtnokfhkcfebimaaGreatP29
import Derived.Test.YtnokfhkcfebimaaGreatP20
import Derived.Deep.CutBlock
set_option linter.unusedVariables false
set_option linter.unusedSimpArgs false

/- Contract: the reference's Least. -/
namespace Go.Proofs.YtnokfhkcfebimaaGreat
open Go.RowKit

theorem OA.bwT {w0 w : World} {A : Option Addr} {m c : Nat} {l : List (Bool × Bool)} (h : OA w0 w w0.heap.size A m c l) : Below w0.heap.size w0 w :=
  (h.fr.mono (T := fun _ => False) (fun k hk e => by omega)).below (Nat.le_refl _) (fun _ _ h => h)
/-- Another row of the call's own grew. -/
theorem OA.keep {w0 w w' : World} {T : Nat} {A B : Option Addr} {m c k d : Nat} {l l' : List (Bool × Bool)} (h : OA w0 w T A m c l) (hb : OA w0 w T B k d l') (hf : Fr w w' (fun b => (Value.slice B k d).ownBlock = some b)) (hne : (Value.slice A m c).ownBlock ≠ (Value.slice B k d).ownBlock) : OA w0 w' T A m c l :=
  ⟨h.own.kept ⟨hf.os, hf.tape, hf.output, hf.size, fun k hk hne => hf.block k hk (fun e => hne e.symm)⟩ (.inr hne), h.len, h.fr.grown ⟨hf.os, hf.tape, hf.output, hf.size, fun k hk hne => hf.block k hk (fun e => hne e.symm)⟩ (fun g hg => .inl (hb.lo hg).1)⟩
theorem wl_app_attsG {w0 w : World} {ops : Array Oper} {rest : List Oper} {o : Oper} {a : Act} {Q : Exit → Act → World → Prop} (hgd : o.guard = none) (s x : Operand) (t : TypeId) (ht : Tryz.prog.underlying t = some (.slice 80))
    (ho : o.op = .call { callee := .builtin .append, args := #[s, x], argTypes := #[t, t] })
    (T : Nat) (A : Option Addr) (m c : Nat) (l : List (Bool × Bool)) (B : Option Addr) (k d : Nat) (M : List (Bool × Bool)) (hs : a.eval s = .slice A m c) (hx : a.eval x = .slice B k d) (hO : OA w0 w T A m c l) (hR : Rs w none 2 atv B M) (hM : M.length = k) (h63 : m + k ≤ 4294967296)
    (h : ∀ A' c' w', OA w0 w' T A' (m + k) c' (l ++ M) → Fr w w' (fun b => (Value.slice A m c).ownBlock = some b) → (∀ g, (Value.slice A' (m + k) c').ownBlock = some g → (Value.slice A m c).ownBlock = some g ∨ g = w.heap.size) → wpList Tryz.prog ops Q rest (a.put o.dst (.slice A' (m + k) c')) w') :
    wpList Tryz.prog ops Q (o :: rest) a w := by
  refine wl_append _ hgd s x t ho w0.heap.size 80 _ 2 2 ht info80 rfl (by omega) (.slice A m c) m l hs hO.own B k d M hx hR hM atv_len atv_one h63 (by omega) hO.fr.size ?_
  intro A' c' w' hown hgr hnew
  refine h A' c' w' ⟨hown, by simp [hO.len, hM], hO.fr.grown hgr ?_⟩ ⟨hgr.os, hgr.tape, hgr.output, hgr.size, fun k hk hS => hgr.block k hk (fun e => hS e.symm)⟩ hnew
  intro g hg
  exact .inl (hO.lo hg).1
theorem att_one {w : World} (X Y : Bool) : Rs (w.alloc (.cells #[.bool X, .bool Y] 80)) none 2 atv (some ⟨w.heap.size, 0, none⟩) [(X, Y)] :=
  rs_one (av := none) (by simp) (by simp) (by intro j u hu; match j with | 0 => simp [atv] at hu; subst hu; simp [go_sem] | 1 => simp [atv] at hu; subst hu; simp [go_sem] | j + 2 => simp [atv] at hu)
theorem lastQ_up (g : Nat → Nat → Int) (t : List (Bool × Bool)) (b : Bool) (i : Nat) (hi : 1 ≤ i) : ∃ y, ((true, true) :: (t ++ List.replicate i (b, true)))[(t ++ List.replicate i (b, true)).length]? = some y ∧ lastV g (true, true) y (t ++ List.replicate i (b, true)) = g (t.length - cntF t + if b then 0 else i) (cntF t + if b then i else 0) := by
  obtain ⟨y, hy⟩ : ∃ y, ((true, true) :: (t ++ List.replicate i (b, true)))[(t ++ List.replicate i (b, true)).length]? = some y := ⟨_, List.getElem?_eq_getElem (by simp)⟩
  exact ⟨y, hy, by rw [← lastQ_eq hy, lastQ_rep g t b i hi]⟩
set_option maxRecDepth 100000 in
set_option maxHeartbeats 16000000 in
theorem r25least_run (w : World) (s : Sv) (l hh a b : Rat) (M : Nat) (A : Option Addr) (n c : Nat) (t : List (Bool × Bool)) (u : Nat) (G : Nat → Nat → Int) (HC : Hid (vckE s n = 0)) (HQ : Hid (SQ w s)) (HK : Hid (OKs s l hh a b M)) (HR : Hid (Rs w none 2 atv A ((true, true) :: t))) (HL : Hid (((true, true) :: t).length = n)) (hn : n ≤ 33) (hnc : n ≤ c) (HG : Hid (G = aftQ (decQ l hh a b) M)) (HT : Hid ((0, u) = jud G ((true, true) :: t)))
    (ht1 : cntF t ≤ t.length) (ht2 : t.length < M) (ht3 : ∀ x ∈ t, x.2 = true) (ht4 : ∀ y, jud G ((true, true) :: t ++ y) = judL G true y (1 + t.length) (t.length - cntF t) (cntF t)) :
    Calls Tryz.prog 23 #[.agg #[.slice s.l.A s.l.n s.l.c, .slice s.l.B s.l.m s.l.d, .slice s.h.A s.h.n s.h.c, .slice s.h.B s.h.m s.h.d, .slice s.a.A s.a.n s.a.c, .slice s.a.B s.a.m s.a.d, .slice s.b.A s.b.n s.b.c, .slice s.b.B s.b.m s.b.d, .int .i64 s.m], .slice A n c] w fun e w' => ∃ L : Nat, e = .returned (.tuple #[.int .i64 (L : Int), .int .i64 0]) ∧ IsLv G M ((true, true) :: t) L ∧ Below w.heap.size w w' := by
  obtain ⟨bb, o, rfl, hb0, -, e1⟩ := atts_at HR.out (k := 0) rfl
  simp only [Nat.zero_mul, Nat.add_zero] at e1
  have hn1 : 0 < n := by have := HL.out; rw [List.length_cons] at this; omega
  have hn2 : (0 : Int) < (n : Int) := by omega
  have f1 : ((n : Int) == 0) = false := by simp; omega
  have f2 : ¬ (n : Int) = 0 := by omega
  have f3 : decide ((n : Int) = 0) = false := decide_eq_false f2
  have HTT := hide (And.intro ht1 (And.intro ht2 (And.intro ht3 ht4)))
  have hnt : n = t.length + 1 := by have := HL.out; rw [List.length_cons] at this; omega
  have HNT := hide hnt
  have hM32 := HK.out.m2
  have htM : t.length < M := ht2
  clear ht1 ht2 ht3 ht4 hnt
  go_enter Tryz.func23, Tryz.ntmps23
  go_upto_region 1 with (fail)
  generalize hW : World.alloc w _ = v
  have HF := hide (show FS w v w.heap.size s by rw [← hW]; exact FS.mk0 HQ.out _)
  obtain ⟨a0, a1, a2, a3, a4, a5, a6, a7, a8, a9⟩ := HF.out.ca
  clear hW
  go_wp2_with (first
    | (go_at_call 53; (with_reducible refine (r25check_any _ s _ n c HF.out.q).mono ?_); rintro e w1 ⟨rfl, hb⟩; rw [HC.out]; have HF1 := hide (HF.out.below hb); obtain ⟨b0, b1, b2, b3, b4, b5, b6, b7, b8, b9⟩ := HF1.out.ca; clear hb)
    | (go_at_call 21; (with_reducible refine (r25judge_ok _ s l hh a b M _ n c _ HF1.out.q HK.out (HR.out.below HF1.out.bw) HL.out hn hnc).mono ?_); rintro e w2 ⟨rfl, hb⟩; rw [← HG.out, ← HT.out]; have HF2 := hide (HF1.out.below hb); have j1 : w2.cell? ⟨bb, o + 1, none⟩ = some (.bool true) := (HF2.out.bw.cell (by simpa using hb0)).trans e1; have j2 : bb < w2.heap.size := Nat.lt_of_lt_of_le hb0 HF2.out.bw.size; have HR2 := hide (HR.out.below HF2.out.bw); clear hb)
    | (at_builtin; refine wl_app_attsG (w0 := w2) rfl _ _ _ Tryz.underlying46 rfl w2.heap.size none 0 0 [] _ n c _ rfl rfl HUP0.out HR3.out HL.out (by omega) ?_; intro A2 c2 w4 ho2 hf2 hg2; rw [Nat.zero_add, List.nil_append] at ho2; rw [Nat.zero_add] at hg2 ⊢; have HDN := hide ho2; have HUP := hide (HUPA.out.keep HUP0.out hf2 (fun e => by rw [HUG.out] at e; simp [Value.ownBlock] at e)); have HNE := hide (show (Value.slice A1 n c1).ownBlock ≠ (Value.slice A2 n c2).ownBlock from fun e => by
        rw [HUG.out] at e
        rcases hg2 _ e.symm with h | h
        · simp [Value.ownBlock] at h
        · have := (HUPA.out.lo HUG.out).2; omega); clear ho2 hf2 hg2)
    | (at_builtin; refine wl_app_attsG (w0 := w2) rfl _ _ _ Tryz.underlying46 rfl w2.heap.size none 0 0 [] _ n c _ rfl rfl (OA.nil (Fr.refl _ _)) HR2.out HL.out (by omega) ?_; intro A1 c1 w3 ho1 hf1 hg1; rw [Nat.zero_add, List.nil_append] at ho1; rw [Nat.zero_add] at hg1 ⊢; have HUPA := hide ho1; have HUP0 := hide (show OA w2 w3 w2.heap.size none 0 0 [] from OA.nil ho1.fr); have HR3 := hide (HR2.out.below ho1.bwT); have HUG := hide (show (Value.slice A1 n c1).ownBlock = some w2.heap.size from by
        cases hA : (Value.slice A1 n c1).ownBlock with
        | none =>
          exfalso
          rcases ho1.own.2 with ⟨h1, h2⟩ | ⟨g', cap, cur, hv, _⟩
          · omega
          · rw [hv] at hA; simp [Value.ownBlock] at hA
        | some g =>
          rcases hg1 g hA with h | h
          · simp [Value.ownBlock] at h
          · rw [h]); clear ho1 hf1 hg1))
  clear b0 b1 b2 b3 b4 b5 b6 b7 b8 b9 a0 a1 a2 a3 a4 a5 a6 a7 a8 a9
  obtain ⟨P, hP⟩ : ∃ P, P = t.length - cntF t := ⟨_, rfl⟩
  obtain ⟨F, hF⟩ : ∃ F, F = cntF t := ⟨_, rfl⟩
  have HPE := hide (And.intro hP hF)
  have HPF := hide (show P + F = t.length by have := HTT.out.1; omega)
  clear hP hF
  go_loopw [10, 11, 12] (fun uv dv iv wr => ∃ (i e : Nat) (A1 A2 : Option Addr) (c1 c2 : Nat), uv = .slice A1 e c1 ∧ dv = .slice A2 e c2 ∧ iv = .int .i64 (i : Int) ∧ 1 ≤ i ∧ i ≤ 32 ∧ e ≤ 100 ∧ Hid (e + 1 = n + i ∧ t.length + i ≤ M) ∧ Hid (OA w2 wr w2.heap.size A1 e c1 ((true, true) :: (t ++ List.replicate (i - 1) (true, true)))) ∧ Hid (OA w2 wr w2.heap.size A2 e c2 ((true, true) :: (t ++ List.replicate (i - 1) (false, true)))) ∧ Hid ((Value.slice A1 e c1).ownBlock ≠ (Value.slice A2 e c2).ownBlock) ∧ Hid (∀ q, 1 ≤ q → q < i → G (P + q) F = 0 ∧ G P (F + q) = 0)) (fun _ _ iv _ => M - (intOf iv).toNat)
  case atStart => exact ⟨1, n, A1, A2, c1, c2, rfl, rfl, rfl, by omega, by omega, by omega, hide ⟨by omega, by omega⟩, by simpa using HUP, by simpa using HDN, HNE, hide (fun q h1 h2 => by omega)⟩
  case round =>
    obtain ⟨i, e, B1, B2, d1, d2, rfl, rfl, rfl, hi1, hi32, he100, HE, HU, HD, HN, HLO⟩ := hrel
    have hsn : ∀ b : Bool, (true, true) :: (t ++ List.replicate (i - 1) (b, true)) ++ [(b, true)] = (true, true) :: (t ++ List.replicate i (b, true)) := fun b => by
      obtain ⟨i', rfl⟩ : ∃ i', i = i' + 1 := ⟨i - 1, by omega⟩
      rw [Nat.add_sub_cancel, List.replicate_succ', List.cons_append, List.append_assoc]
    have HSN := hide hsn
    clear hsn
    go_upto_region 17 with (first
      | (at_builtin; refine wl_app_attsG (w0 := w2) rfl _ _ _ Tryz.underlying46 rfl w2.heap.size B2 e d2 _ _ 1 1 [(false, true)] rfl rfl (HD5.out.alloc _) (att_one false true) rfl (by omega) ?_; intro B4 d4 w6 ho6 hf6 hg6; rw [HSN.out] at ho6; have HD6 := hide ho6; have HU6 := hide ((HU5.out.alloc _).keep (HD5.out.alloc _) hf6 HN5.out); have HN6 := hide (show (Value.slice B3 (e + 1) d3).ownBlock ≠ (Value.slice B4 (e + 1) d4).ownBlock from fun h => by
          cases hu : (Value.slice B3 (e + 1) d3).ownBlock with
          | none =>
            rcases HU5.out.own.2 with ⟨h1, h2⟩ | ⟨g', cap, cur, hv, _⟩
            · omega
            · rw [hv] at hu; simp [Value.ownBlock] at hu
          | some g =>
            rw [hu] at h
            rcases hg6 g h.symm with h3 | h3
            · exact HN5.out (by rw [hu, h3])
            · have := (HU5.out.lo hu).2; simp at h3; omega); clear ho6 hf6 hg6)
      | (at_builtin; refine wl_app_attsG (w0 := w2) rfl _ _ _ Tryz.underlying46 rfl w2.heap.size B1 e d1 _ _ 1 1 [(true, true)] rfl rfl (HU.out.alloc _) (att_one true true) rfl (by omega) ?_; intro B3 d3 w5 ho5 hf5 hg5; rw [HSN.out] at ho5; have HU5 := hide ho5; have HD5 := hide ((HD.out.alloc _).keep (HU.out.alloc _) hf5 (fun h => HN.out h.symm)); have HN5 := hide (show (Value.slice B3 (e + 1) d3).ownBlock ≠ (Value.slice B2 e d2).ownBlock from fun h => by
          cases hu : (Value.slice B2 e d2).ownBlock with
          | none =>
            rcases HD.out.own.2 with ⟨h1, h2⟩ | ⟨g', cap, cur, hv, _⟩
            · have := HE.out; omega
            · rw [hv] at hu; simp [Value.ownBlock] at hu
          | some g =>
            rw [hu] at h
            rcases hg5 g h with h3 | h3
            · exact HN.out (by rw [hu, h3])
            · have := (HD.out.lo hu).2; simp at h3; omega); clear ho5 hf5 hg5))
    have HB6 := hide HU6.out.bwT
    have HF6 := hide (HF2.out.below HB6.out)
    obtain ⟨yu, hyu, hvu⟩ := lastQ_up G t true i hi1
    obtain ⟨yd, hyd, hvd⟩ := lastQ_up G t false i hi1
    simp only [if_true, Bool.false_eq_true, if_false, Nat.add_zero] at hvu hvd
    rw [← HPE.out.1, ← HPE.out.2] at hvu hvd
    have HYU := hide (And.intro hyu hvu)
    have HYD := hide (And.intro hyd hvd)
    have HLEN := hide (show ∀ b : Bool, (t ++ List.replicate i (b, true)).length ≤ M ∧ e + 1 = (t ++ List.replicate i (b, true)).length + 1 from fun b => by
      rw [List.length_append, List.length_replicate]
      have := HE.out; have := HNT.out
      exact ⟨by omega, by omega⟩)
    have HIS := hide (show (G (P + i) F ≠ 0 ∨ G P (F + i) ≠ 0) → IsLv G M ((true, true) :: t) i from fun hd =>
      .inr (.inr (.inr ⟨t, by rw [← HT.out], rfl, HTT.out.1, HTT.out.2.1, by rw [← HPE.out.1, ← HPE.out.2]; exact ⟨hi1, hd, HLO.out⟩, HTT.out.2.2.1, HTT.out.2.2.2⟩)))
    have HNX := hide (show G P (F + i) = 0 → t.length + i + 1 ≤ M from fun h0 => by
      have h1 := HE.out
      have h2 := HPF.out
      have := aft_go (d := decQ l hh a b) (M := M) (p := P) (f := F + i) (by omega) (by rw [← HG.out]; exact h0)
      omega)
    obtain ⟨x1, hx1⟩ : ∃ x, x = G P (F + i) := ⟨_, rfl⟩
    obtain ⟨x2, hx2⟩ : ∃ x, x = G (P + i) F := ⟨_, rfl⟩
    have HX := hide (And.intro hx1 hx2)
    clear hyu hvu hyd hvd hx1 hx2
    obtain ⟨g0, g1, g2, g3, g4, g5, g6, g7, g8, g9⟩ := HF6.out.ca
    by_cases h1 : x1 = 0
    · subst h1
      by_cases h2 : x2 = 0
      · subst h2
        go_wp2_with (first
          | (go_at_call 54; (with_reducible refine (r25last_ok _ s l hh a b M B4 (e + 1) d4 (true, true) yd (t ++ List.replicate i (false, true)) HF7.out.q HK.out (HD6.out.rs.below HB7.out) HYD.out.1 (HLEN.out false).1 (HLEN.out false).2).mono ?_); rintro e w8 ⟨rfl, hb⟩; rw [← HG.out, HYD.out.2, ← HX.out.2]; have HU8 := hide (HU7.out.below hb); have HD8 := hide ((HD6.out.below HB7.out).below hb); clear hb)
          | (go_at_call 54; (with_reducible refine (r25last_ok _ s l hh a b M B3 (e + 1) d3 (true, true) yu (t ++ List.replicate i (true, true)) HF6.out.q HK.out HU6.out.rs HYU.out.1 (HLEN.out true).1 (HLEN.out true).2).mono ?_); rintro e w7 ⟨rfl, hb⟩; rw [← HG.out, HYU.out.2, ← HX.out.1]; have HF7 := hide (HF6.out.below hb); have HB7 := hide hb; have HU7 := hide (HU6.out.below hb); obtain ⟨e0, e1, e2, e3, e4, e5, e6, e7, e8, e9⟩ := HF7.out.ca; clear hb))
        go_roundw
        case rel => exact ⟨i + 1, e + 1, B3, B4, d3, d4, rfl, rfl, by go_num, by omega, by have := HNX.out (HX.out.1.symm); omega, by have := HE.out; omega, hide ⟨by have := HE.out; omega, by have := HNX.out (HX.out.1.symm); omega⟩, by rw [Nat.add_sub_cancel]; exact HU8, by rw [Nat.add_sub_cancel]; exact HD8, HN6, hide (fun q h3 h4 => by
          by_cases h5 : q = i
          · rw [h5]; exact ⟨HX.out.2.symm, HX.out.1.symm⟩
          · exact HLO.out q h3 (by omega))⟩
        case measure => have := HNX.out (HX.out.1.symm); simp [intOf] <;> omega
      · have z1 : (x2 != 0) = true := by simpa using h2
        have z2 : ¬ x2 = 0 := h2
        go_wp2_with (first
          | (go_at_call 54; (with_reducible refine (r25last_ok _ s l hh a b M B4 (e + 1) d4 (true, true) yd (t ++ List.replicate i (false, true)) HF7.out.q HK.out (HD6.out.rs.below HB7.out) HYD.out.1 (HLEN.out false).1 (HLEN.out false).2).mono ?_); rintro e w8 ⟨rfl, hb⟩; rw [← HG.out, HYD.out.2, ← HX.out.2]; have HB8 := hide (HF7.out.bw.trans (hb.mono HF7.out.bw.size)); clear hb)
          | (go_at_call 54; (with_reducible refine (r25last_ok _ s l hh a b M B3 (e + 1) d3 (true, true) yu (t ++ List.replicate i (true, true)) HF6.out.q HK.out HU6.out.rs HYU.out.1 (HLEN.out true).1 (HLEN.out true).2).mono ?_); rintro e w7 ⟨rfl, hb⟩; rw [← HG.out, HYU.out.2, ← HX.out.1]; have HF7 := hide (HF6.out.below hb); have HB7 := hide hb; obtain ⟨e0, e1, e2, e3, e4, e5, e6, e7, e8, e9⟩ := HF7.out.ca; clear hb))
        refine bodyPost_ret (v := .tuple #[.int .i64 (i : Int), .int .i64 0]) (by simp [results, Tryz.results23, go_sem, *]) rfl ⟨i, rfl, HIS.out (.inl (by rw [← HX.out.2]; exact h2)), HB8.out⟩
    · have z1 : (x1 != 0) = true := by simpa using h1
      have z2 : ¬ x1 = 0 := h1
      go_wp2_with (go_at_call 54; (with_reducible refine (r25last_ok _ s l hh a b M B3 (e + 1) d3 (true, true) yu (t ++ List.replicate i (true, true)) HF6.out.q HK.out HU6.out.rs HYU.out.1 (HLEN.out true).1 (HLEN.out true).2).mono ?_); rintro e w7 ⟨rfl, hb⟩; rw [← HG.out, HYU.out.2, ← HX.out.1]; have HF7 := hide (HF6.out.below hb); clear hb)
      refine bodyPost_ret (v := .tuple #[.int .i64 (i : Int), .int .i64 0]) (by simp [results, Tryz.results23, go_sem, *]) rfl ⟨i, rfl, HIS.out (.inr (by rw [← HX.out.1]; exact h1)), HF7.out.bw⟩
set_option maxRecDepth 100000 in
set_option maxHeartbeats 16000000 in
theorem r25least_ok (w : World) (s : Sv) (l hh a b : Rat) (M : Nat) (A : Option Addr) (n c : Nat) (xs : List (Bool × Bool)) (hq : SQ w s) (hk : OKs s l hh a b M) (hR : Rs w none 2 atv A xs) (hl : xs.length = n) (hn : n ≤ 33) (hnc : n ≤ c) :
    Calls Tryz.prog 23 #[.agg #[.slice s.l.A s.l.n s.l.c, .slice s.l.B s.l.m s.l.d, .slice s.h.A s.h.n s.h.c, .slice s.h.B s.h.m s.h.d, .slice s.a.A s.a.n s.a.c, .slice s.a.B s.a.m s.a.d, .slice s.b.A s.b.n s.b.c, .slice s.b.B s.b.m s.b.d, .int .i64 s.m], .slice A n c] w fun e w' => ∃ L : Nat, e = .returned (.tuple #[.int .i64 (L : Int), .int .i64 0]) ∧ IsLv (aftQ (decQ l hh a b) M) M xs L ∧ Below w.heap.size w w' := by
  have HC := hide (show vckE s n = 0 by unfold vckE; rw [if_neg (by rw [hk.ok]; simp), if_neg (by omega)])
  have HQ := hide hq
  have HK := hide hk
  have HR := hide hR
  have HL := hide hl
  obtain ⟨G, hG⟩ : ∃ G, G = aftQ (decQ l hh a b) M := ⟨_, rfl⟩
  have hz := fun h0 => jud_zero (d := decQ l hh a b) (M := M) hk.m1 (xs := xs) h0
  rw [← hG] at hz ⊢
  obtain ⟨T, hT⟩ : ∃ T, T = jud G xs := ⟨_, rfl⟩
  rw [← hT] at hz
  have HT := hide hT
  have HG := hide hG
  clear hq hk hR hl hT hG
  obtain ⟨r, u⟩ := T
  by_cases hr : r = 0
  · subst hr
    rcases hz rfl with rfl | rfl | ⟨t, rfl, ht1, ht2, ht3, ht4⟩
    · obtain rfl : n = 0 := by have := HL.out; simpa using this.symm
      clear hz
      go_enter Tryz.func23, Tryz.ntmps23
      go_upto_region 1 with (fail)
      generalize hW : World.alloc w _ = v
      have HF := hide (show FS w v w.heap.size s by rw [← hW]; exact FS.mk0 HQ.out _)
      obtain ⟨a0, a1, a2, a3, a4, a5, a6, a7, a8, a9⟩ := HF.out.ca
      clear hW
      go_wp2_with (first | (go_at_call 53; (with_reducible refine (r25check_any _ s _ _ _ HF.out.q).mono ?_); rintro e w1 ⟨rfl, hb⟩; rw [HC.out]; have HF1 := hide (HF.out.below hb); obtain ⟨b0, b1, b2, b3, b4, b5, b6, b7, b8, b9⟩ := HF1.out.ca; clear hb) | (go_at_call 21; (with_reducible refine (r25judge_ok _ s l hh a b M _ _ _ _ HF1.out.q HK.out (HR.out.below HF1.out.bw) HL.out hn hnc).mono ?_); rintro e w2 ⟨rfl, hb⟩; rw [← HG.out, ← HT.out]; have HF2 := hide (HF1.out.below hb); clear hb))
      refine bodyPost_ret (v := .tuple #[.int .i64 1, .int .i64 0]) (by simp [results, Tryz.results23, go_sem, *]) rfl ⟨1, rfl, .inr (.inl ⟨by rw [← HT.out], rfl, rfl⟩), HF2.out.bw⟩
    · obtain rfl : n = 1 := by have := HL.out; simpa using this.symm
      obtain ⟨bb, o, rfl, hb0, e0, e1⟩ := atts_at HR.out (k := 0) rfl
      simp only [Nat.zero_mul, Nat.add_zero] at e0 e1
      clear hz
      go_enter Tryz.func23, Tryz.ntmps23
      go_upto_region 1 with (fail)
      generalize hW : World.alloc w _ = v
      have HF := hide (show FS w v w.heap.size s by rw [← hW]; exact FS.mk0 HQ.out _)
      obtain ⟨a0, a1, a2, a3, a4, a5, a6, a7, a8, a9⟩ := HF.out.ca
      clear hW
      go_wp2_with (first
        | (go_at_call 53; (with_reducible refine (r25check_any _ s _ 1 c HF.out.q).mono ?_); rintro e w1 ⟨rfl, hb⟩; rw [HC.out]; have HF1 := hide (HF.out.below hb); obtain ⟨b0, b1, b2, b3, b4, b5, b6, b7, b8, b9⟩ := HF1.out.ca; clear hb)
        | (go_at_call 21; (with_reducible refine (r25judge_ok _ s l hh a b M _ 1 c _ HF1.out.q HK.out (HR.out.below HF1.out.bw) HL.out hn hnc).mono ?_); rintro e w2 ⟨rfl, hb⟩; rw [← HG.out, ← HT.out]; have HF2 := hide (HF1.out.below hb); have j1 : w2.cell? ⟨bb, o + 1, none⟩ = some (.bool false) := (HF2.out.bw.cell (by simpa using hb0)).trans e1; have j2 : bb < w2.heap.size := Nat.lt_of_lt_of_le hb0 HF2.out.bw.size; clear hb))
      refine bodyPost_ret (v := .tuple #[.int .i64 1, .int .i64 0]) (by simp [results, Tryz.results23, go_sem, *]) rfl ⟨1, rfl, .inr (.inr (.inl ⟨by rw [← HT.out], rfl, rfl⟩)), HF2.out.bw⟩
    · exact r25least_run w s l hh a b M A n c t u G HC HQ HK HR HL hn hnc HG HT ht1 ht2 ht3 ht4
  · clear hz
    have z1 : (r != 0) = true := by simpa using hr
    have z2 : (r == 0) = false := by simp [hr]
    go_enter Tryz.func23, Tryz.ntmps23
    go_upto_region 1 with (fail)
    generalize hW : World.alloc w _ = v
    have HF := hide (show FS w v w.heap.size s by rw [← hW]; exact FS.mk0 HQ.out _)
    obtain ⟨a0, a1, a2, a3, a4, a5, a6, a7, a8, a9⟩ := HF.out.ca
    clear hW
    go_wp2_with (first | (go_at_call 53; (with_reducible refine (r25check_any _ s _ _ _ HF.out.q).mono ?_); rintro e w1 ⟨rfl, hb⟩; rw [HC.out]; have HF1 := hide (HF.out.below hb); obtain ⟨b0, b1, b2, b3, b4, b5, b6, b7, b8, b9⟩ := HF1.out.ca; clear hb) | (go_at_call 21; (with_reducible refine (r25judge_ok _ s l hh a b M _ _ _ _ HF1.out.q HK.out (HR.out.below HF1.out.bw) HL.out hn hnc).mono ?_); rintro e w2 ⟨rfl, hb⟩; rw [← HG.out, ← HT.out]; have HF2 := hide (HF1.out.below hb); clear hb))
    refine bodyPost_ret (v := .tuple #[.int .i64 0, .int .i64 0]) (by simp [results, Tryz.results23, go_sem, *]) rfl ⟨0, rfl, .inl ⟨by rw [← HT.out]; exact hr, rfl⟩, HF2.out.bw⟩
set_option maxRecDepth 100000 in
set_option maxHeartbeats 8000000 in
theorem r25least_bad (w : World) (s : Sv) (A : Option Addr) (n c : Nat) (hq : SQ w s) (hc : vckE s n ≠ 0) :
    Calls Tryz.prog 23 #[.agg #[.slice s.l.A s.l.n s.l.c, .slice s.l.B s.l.m s.l.d, .slice s.h.A s.h.n s.h.c, .slice s.h.B s.h.m s.h.d, .slice s.a.A s.a.n s.a.c, .slice s.a.B s.a.m s.a.d, .slice s.b.A s.b.n s.b.c, .slice s.b.B s.b.m s.b.d, .int .i64 s.m], .slice A n c] w fun e w' => e = .returned (.tuple #[.int .i64 0, .int .i64 (vckE s n)]) ∧ Below w.heap.size w w' := by
  obtain ⟨E, hE⟩ : ∃ E, E = vckE s n := ⟨_, rfl⟩
  rw [← hE] at hc ⊢
  have HE := hide hE
  have g1 : (E == 0) = false := by simp [hc]
  have g1b : (E != 0) = true := by simp [hc]
  have g2 : decide (E = 0) = false := decide_eq_false hc
  clear hE
  go_enter Tryz.func23, Tryz.ntmps23
  go_upto_region 1 with (fail)
  generalize hW : World.alloc w _ = v
  have HF := hide (show FS w v w.heap.size s by rw [← hW]; exact FS.mk0 hq _)
  obtain ⟨a0, a1, a2, a3, a4, a5, a6, a7, a8, a9⟩ := HF.out.ca
  clear hW hq
  go_wp2_with (go_at_call 53; (with_reducible refine (r25check_any _ s A n c HF.out.q).mono ?_); rintro e w1 ⟨rfl, hb⟩; rw [← HE.out]; have HF1 := hide (HF.out.below hb); obtain ⟨b0, b1, b2, b3, b4, b5, b6, b7, b8, b9⟩ := HF1.out.ca; clear hb)
  refine bodyPost_ret (v := .tuple #[.int .i64 0, .int .i64 E]) (by simp [results, Tryz.results23, go_sem, *]) rfl ⟨rfl, HF1.out.bw⟩
set_option maxRecDepth 100000 in
set_option maxHeartbeats 8000000 in
theorem vleast_bad (w : World) (s : Sv) (A : Option Addr) (n c : Nat) (hq : SQ w s) (hc : vckE s n ≠ 0) :
    Calls Tryz.prog 22 #[.agg #[.slice s.l.A s.l.n s.l.c, .slice s.l.B s.l.m s.l.d, .slice s.h.A s.h.n s.h.c, .slice s.h.B s.h.m s.h.d, .slice s.a.A s.a.n s.a.c, .slice s.a.B s.a.m s.a.d, .slice s.b.A s.b.n s.b.c, .slice s.b.B s.b.m s.b.d, .int .i64 s.m], .slice A n c] w fun e w' => e = .returned (.tuple #[.int .i64 0, .int .i64 (vckE s n)]) ∧ Below w.heap.size w w' := by
  obtain ⟨E, hE⟩ : ∃ E, E = vckE s n := ⟨_, rfl⟩
  rw [← hE] at hc ⊢
  have HE := hide hE
  have g1 : (E == 0) = false := by simp [hc]
  have g1b : (E != 0) = true := by simp [hc]
  have g2 : decide (E = 0) = false := decide_eq_false hc
  clear hE
  go_enter Tryz.func22, Tryz.ntmps22
  go_upto_region 1 with (fail)
  generalize hW : World.alloc w _ = v
  have HF := hide (show FS w v w.heap.size s by rw [← hW]; exact FS.mk0 hq _)
  obtain ⟨a0, a1, a2, a3, a4, a5, a6, a7, a8, a9⟩ := HF.out.ca
  clear hW hq
  go_wp2_with (go_at_call 51; (with_reducible refine (vcheck_any _ s A n c HF.out.q).mono ?_); rintro e w1 ⟨rfl, hb⟩; rw [← HE.out]; have HF1 := hide (HF.out.below hb); obtain ⟨b0, b1, b2, b3, b4, b5, b6, b7, b8, b9⟩ := HF1.out.ca; clear hb)
  refine bodyPost_ret (v := .tuple #[.int .i64 0, .int .i64 E]) (by simp [results, Tryz.results22, go_sem, *]) rfl ⟨rfl, HF1.out.bw⟩
end Go.Proofs.YtnokfhkcfebimaaGreat

/- Contract: rerun.Least. -/
namespace Go.Proofs.YtnokfhkcfebimaaGreat
open Go.RowKit

theorem wrapP {p : Nat} (h : p ≤ 100) : wrap64 (p : Int) = (p : Int) := IntWalk.wrap64_in _ ⟨by omega, by omega⟩

set_option maxRecDepth 100000 in
set_option maxHeartbeats 16000000 in
theorem vleast_run (w : World) (s : Sv) (l hh a b : Rat) (M : Nat) (A : Option Addr) (n c : Nat) (t : List (Bool × Bool)) (u : Nat) (G : Nat → Nat → Int) (HC : Hid (vckE s n = 0)) (hq : SQ w s) (hk0 : OKs s l hh a b M) (hR : Rs w none 2 atv A ((true, true) :: t)) (hl : ((true, true) :: t).length = n) (hn : n ≤ 33) (hnc : n ≤ c) (HG : Hid (G = aftQ (decQ l hh a b) M)) (HT : Hid ((0, u) = jud G ((true, true) :: t)))
    (ht1 : cntF t ≤ t.length) (ht2 : t.length < M) (ht3 : ∀ x ∈ t, x.2 = true) (ht4 : ∀ y, jud G ((true, true) :: t ++ y) = judL G true y (1 + t.length) (t.length - cntF t) (cntF t)) :
    Calls Tryz.prog 22 #[.agg #[.slice s.l.A s.l.n s.l.c, .slice s.l.B s.l.m s.l.d, .slice s.h.A s.h.n s.h.c, .slice s.h.B s.h.m s.h.d, .slice s.a.A s.a.n s.a.c, .slice s.a.B s.a.m s.a.d, .slice s.b.A s.b.n s.b.c, .slice s.b.B s.b.m s.b.d, .int .i64 s.m], .slice A n c] w fun e w' => ∃ L : Nat, e = .returned (.tuple #[.int .i64 (L : Int), .int .i64 0]) ∧ IsLv G M ((true, true) :: t) L ∧ Below w.heap.size w w' := by
  have HQ := hide hq
  have HK := hide hk0
  have HR := hide hR
  have HL := hide hl
  clear hq hk0 hR hl
  obtain ⟨k, hk⟩ : ∃ k, k = t.length := ⟨_, rfl⟩
  obtain rfl : n = k + 1 := by have := HL.out; rw [hk]; simpa using this.symm
  obtain ⟨bb, o, rfl, hb0, -, e1⟩ := atts_at HR.out (k := 0) rfl
  simp only [Nat.zero_mul, Nat.add_zero] at e1
  have hel : ∀ (j : Nat) (x : Bool × Bool), t[j]? = some x → w.cell? ⟨bb, o + 2 + j * 2, none⟩ = some (.bool x.1) ∧ w.cell? ⟨bb, o + 2 + j * 2 + 1, none⟩ = some (.bool x.2) := fun j x hx => by
    obtain ⟨b', o', h1, h2, h3, h4⟩ := atts_at HR.out (k := j + 1) (x := x) (by simpa using hx)
    obtain ⟨rfl, rfl⟩ : bb = b' ∧ o = o' := by simpa using h1
    rw [show o + (j + 1) * 2 = o + 2 + j * 2 by omega] at h3 h4
    exact ⟨h3, h4⟩
  have HEL := hide hel
  have HKT := hide hk
  have h1c : (1 : Int) ≤ (c : Int) := by omega
  have HTT := hide (show cntF t ≤ t.length ∧ t.length < M ∧ (∀ x ∈ t, x.2 = true) ∧ ∀ y, jud G ((true, true) :: t ++ y) = judL G true y (1 + t.length) (t.length - cntF t) (cntF t) from ⟨ht1, ht2, ht3, ht4⟩)
  have hkM : k < M := by omega
  have hM32 := HK.out.m2
  clear hel hk ht1 ht2 ht3 ht4
  go_enter Tryz.func22, Tryz.ntmps22
  go_upto_region 1 with (fail)
  generalize hW : World.alloc w _ = v
  have HF := hide (show FS w v w.heap.size s by rw [← hW]; exact FS.mk0 HQ.out _)
  obtain ⟨a0, a1, a2, a3, a4, a5, a6, a7, a8, a9⟩ := HF.out.ca
  clear hW
  go_wp2_with (first | (go_at_call 51; (with_reducible refine (vcheck_any _ s _ _ c HF.out.q).mono ?_); rintro e w1 ⟨rfl, hb⟩; rw [HC.out]; have HF1 := hide (HF.out.below hb); obtain ⟨b0, b1, b2, b3, b4, b5, b6, b7, b8, b9⟩ := HF1.out.ca; clear hb) | (go_at_call 52; (with_reducible refine (vjudge_ok _ s l hh a b M _ _ c _ HF1.out.q HK.out (HR.out.below HF1.out.bw) HL.out hn).mono ?_); rintro e w2 ⟨rfl, hb⟩; rw [← HG.out, ← HT.out]; have HF2 := hide (HF1.out.below hb); obtain ⟨c0, c1, c2, c3, c4, c5, c6, c7, c8, c9⟩ := HF2.out.ca; have j1 : w2.cell? ⟨bb, o + 1, none⟩ = some (.bool true) := (HF2.out.bw.cell (by simpa using hb0)).trans e1; clear hb))
  all_goals
    clear c0 c1 c2 c3 c4 c5 c6 c7 c8 c9
    go_loopw [9, 41] (fun fv jv wr => ∃ (f j : Nat), fv = .int .i64 (f : Int) ∧ jv = .int .i64 (j : Int) ∧ j ≤ k ∧ f ≤ j ∧ Hid (f = cntF (t.take j)) ∧ Hid (Below w2.heap.size w2 wr)) (fun _ jv _ => k - (intOf jv).toNat)
    case atStart => exact ⟨0, 0, rfl, rfl, by omega, by omega, hide (by simp [cntF]), hide (Below.refl _ _)⟩
    case round =>
      obtain ⟨f, j, rfl, rfl, hjk, hfj, HCN, HBr⟩ := hrel
      have HFr := hide (HF2.out.below HBr.out)
      by_cases hjq : j = k
      · have hle : decide ((j : Int) < (k : Int)) = false := decide_eq_false (by omega)
        have hle2 : (k : Int) ≤ (j : Int) := by omega
        have hle3 : decide (j < k) = false := decide_eq_false (by omega)
        have HCK := hide (show f = cntF t by rw [HCN.out, hjq, HKT.out, List.take_of_length_le (Nat.le_refl _)])
        obtain ⟨p, hp⟩ : ∃ p, p = k - f := ⟨_, rfl⟩
        have hpf : p + f = k := by omega
        have e1 : (k : Int) - (f : Int) = (p : Int) := by omega
        have e2 : (k : Int) + 1 - 1 = (k : Int) := by omega
        have hp100 : p ≤ 100 := by omega
        have hk100 : k ≤ 100 := by omega
        have hpf32 : p + f < 32 := by omega
        have hf32 : f ≤ 32 := by omega
        have HNM := hide (show p + f = k ∧ k < M ∧ M ≤ 32 from ⟨hpf, hkM, hM32⟩)
        clear hpf hkM hM32 hjk hfj hnc h1c hle2
        have hw5 : wrap64 (p : Int) = (p : Int) := wrapP hp100
        have hw1 : wrap64 ((k : Int) - (f : Int)) = (p : Int) := by rw [e1]; exact wrapP hp100
        have hw2 : wrap64 ((k : Int) + 1 - 1) = (k : Int) := by rw [e2]; exact wrapP hk100
        have hle2 : (k : Int) ≤ (j : Int) := by rw [hjq]; exact Int.le_refl _
        clear e2
        have HPF := hide hp
        clear hjq hp
        go_wp2_with fail
        clear hw1 hw2 hw5 e1
        clear hle hle2 hle3 HEL HCN
        go_loopw [13] (fun mv wr => ∃ (m : Nat), mv = .int .i64 (m : Int) ∧ m ≤ 32 ∧ Hid (1 ≤ m ∧ p + f + m ≤ M) ∧ Hid (∀ j, 1 ≤ j → j < m → G (p + j) f = 0 ∧ G p (f + j) = 0) ∧ Hid (Below w2.heap.size w2 wr)) (fun mv _ => M - (intOf mv).toNat)
        case atStart => exact ⟨1, rfl, by omega, hide ⟨by omega, by have := HNM.out; omega⟩, hide (fun j h1 h2 => by omega), HBr⟩
        case round =>
          obtain ⟨m, rfl, hm32, HMM, HLO, HBq⟩ := hrel
          have HFq := hide (HF2.out.below HBq.out)
          obtain ⟨d0, d1, d2, d3, d4, d5, d6, d7, d8, d9⟩ := HFq.out.ca
          obtain ⟨q1, hq1⟩ : ∃ q : Nat, q = p + m := ⟨_, rfl⟩
          obtain ⟨q2, hq2⟩ : ∃ q : Nat, q = f + m := ⟨_, rfl⟩
          have HC1 := hide (show ∀ W, SQ W s → Calls Tryz.prog 55 #[.agg #[.slice s.l.A s.l.n s.l.c, .slice s.l.B s.l.m s.l.d, .slice s.h.A s.h.n s.h.c, .slice s.h.B s.h.m s.h.d, .slice s.a.A s.a.n s.a.c, .slice s.a.B s.a.m s.a.d, .slice s.b.A s.b.n s.b.c, .slice s.b.B s.b.m s.b.d, .int .i64 s.m], .int .i64 ((p : Int) + (m : Int)), .int .i64 (f : Int)] W fun e w' => e = .returned (.int .i64 (G q1 f)) ∧ Below W.heap.size W w' from fun W hW => by
            have := vafter_ok W s l hh a b M q1 f hW HK.out (by have := HMM.out; omega)
            rwa [← HG.out, hq1, Int.natCast_add, ← hq1] at this)
          have HC2 := hide (show ∀ W, SQ W s → Calls Tryz.prog 55 #[.agg #[.slice s.l.A s.l.n s.l.c, .slice s.l.B s.l.m s.l.d, .slice s.h.A s.h.n s.h.c, .slice s.h.B s.h.m s.h.d, .slice s.a.A s.a.n s.a.c, .slice s.a.B s.a.m s.a.d, .slice s.b.A s.b.n s.b.c, .slice s.b.B s.b.m s.b.d, .int .i64 s.m], .int .i64 (p : Int), .int .i64 ((f : Int) + (m : Int))] W fun e w' => e = .returned (.int .i64 (G p q2)) ∧ Below W.heap.size W w' from fun W hW => by
            have := vafter_ok W s l hh a b M p q2 hW HK.out (by have := HMM.out; omega)
            rwa [← HG.out, hq2, Int.natCast_add, ← hq2] at this)
          have HIS := hide (show (G q1 f ≠ 0 ∨ G p q2 ≠ 0) → IsLv G M ((true, true) :: t) m from fun hd =>
            .inr (.inr (.inr ⟨t, by rw [← HT.out], rfl, HTT.out.1, HTT.out.2.1, by rw [← HKT.out, ← HCK.out, ← HPF.out]; exact ⟨HMM.out.1, by rwa [← hq1, ← hq2], HLO.out⟩, HTT.out.2.2.1, HTT.out.2.2.2⟩)))
          have HNX := hide (show G q1 f = 0 → p + f + m + 1 ≤ M from fun h0 => by
            have := aft_go (d := decQ l hh a b) (M := M) (p := q1) (f := f) (by have := HMM.out; omega) (by rw [← HG.out]; exact h0)
            omega)
          have HQE := hide (show q1 = p + m ∧ q2 = f + m from ⟨hq1, hq2⟩)
          obtain ⟨x1, hx1⟩ : ∃ x, x = G q1 f := ⟨_, rfl⟩
          obtain ⟨x2, hx2⟩ : ∃ x, x = G p q2 := ⟨_, rfl⟩
          rw [← hx1] at HC1 HIS HNX
          rw [← hx2] at HC2 HIS
          have HX := hide (And.intro hx1 hx2)
          clear hx1 hx2 hq1 hq2
          by_cases h1 : x1 = 0
          · subst h1
            by_cases h2 : x2 = 0
            · subst h2
              skip
              go_wp2_with (first
                | (go_at_call 55; (with_reducible refine (HC2.out _ HF5.out.q).mono ?_); rintro e w6 ⟨rfl, hb⟩; have HB6 := hide (HB5.out.trans (hb.mono HB5.out.size)); clear hb)
                | (go_at_call 55; (with_reducible refine (HC1.out _ HFq.out.q).mono ?_); rintro e w5 ⟨rfl, hb⟩; have HB5 := hide (HBq.out.trans (hb.mono HBq.out.size)); have HF5 := hide (HFq.out.below hb); obtain ⟨e0, e1, e2, e3, e4, e5, e6, e7, e8, e9⟩ := HF5.out.ca; clear hb))
              go_roundw
              case rel => exact ⟨m + 1, by go_num, by have := HNX.out trivial; have := HQE.out; have := HNM.out; omega, hide (by have := HNX.out trivial; have := HQE.out; have := HMM.out; omega), hide (fun i h3 h4 => by
                by_cases h5 : i = m
                · rw [h5, ← HQE.out.1, ← HQE.out.2]; exact ⟨HX.out.1.symm, HX.out.2.symm⟩
                · exact HLO.out i h3 (by have := HQE.out; omega)), HB6⟩
              case measure => have h8 := HNX.out trivial; have h9 := HQE.out; simp [intOf] <;> omega
            · have z1 : (x2 == 0) = false := by simp [h2]
              have z2 : decide (x2 = 0) = false := decide_eq_false h2
              skip
              go_wp2_with (first
                | (go_at_call 55; (with_reducible refine (HC2.out _ HF5.out.q).mono ?_); rintro e w6 ⟨rfl, hb⟩; have HB6 := hide (HF5.out.bw.trans (hb.mono HF5.out.bw.size)); clear hb)
                | (go_at_call 55; (with_reducible refine (HC1.out _ HFq.out.q).mono ?_); rintro e w5 ⟨rfl, hb⟩; have HF5 := hide (HFq.out.below hb); obtain ⟨e0, e1, e2, e3, e4, e5, e6, e7, e8, e9⟩ := HF5.out.ca; clear hb))
              refine bodyPost_ret (v := .tuple #[.int .i64 (m : Int), .int .i64 0]) (by simp [results, Tryz.results22, go_sem, *]) rfl ⟨m, rfl, HIS.out (.inr h2), HB6.out⟩
          · have z1 : (x1 == 0) = false := by simp [h1]
            have z2 : decide (x1 = 0) = false := decide_eq_false h1
            skip
            go_wp2_with (go_at_call 55; (with_reducible refine (HC1.out _ HFq.out.q).mono ?_); rintro e w5 ⟨rfl, hb⟩; have HF5 := hide (HFq.out.below hb); obtain ⟨e0, e1, e2, e3, e4, e5, e6, e7, e8, e9⟩ := HF5.out.ca; clear hb)
            refine bodyPost_ret (v := .tuple #[.int .i64 (m : Int), .int .i64 0]) (by simp [results, Tryz.results22, go_sem, *]) rfl ⟨m, rfl, HIS.out (.inl h1), HF5.out.bw⟩
      · have hlt : decide ((j : Int) < (k : Int)) = true := decide_eq_true (by omega)
        have hlt2 : (j : Int) < (k : Int) := by omega
        have hjl : j < t.length := by have := HKT.out; omega
        have hx := List.getElem?_eq_getElem hjl
        obtain ⟨x1, x2, hxx⟩ : ∃ x1 x2, t[j] = (x1, x2) := ⟨_, _, rfl⟩
        rw [hxx] at hx
        obtain ⟨y1, y2⟩ := HEL.out j (x1, x2) hx
        have i1 : wr.cell? ⟨bb, o + 2 + j * 2, none⟩ = some (.bool x1) := (HFr.out.bw.cell (by simpa using hb0)).trans y1
        have i2 : wr.cell? ⟨bb, o + 2 + j * 2 + 1, none⟩ = some (.bool x2) := (HFr.out.bw.cell (by simpa using hb0)).trans y2
        have i3 : bb < wr.heap.size := Nat.lt_of_lt_of_le hb0 HFr.out.bw.size
        have HCN2 := hide (show f + (if x1 then 1 else 0) = cntF (t.take (j + 1)) by
          rw [List.take_add_one, hx, HCN.out]
          unfold cntF
          rw [List.countP_append]
          cases x1 <;> rfl)
        have hj0 : (0 : Int) ≤ (j : Int) := by omega
        clear hx hxx y1 y2
        first
          | (exfalso; omega)
          | (cases x1
             · go_wp2_with fail
               go_roundw
               case rel => exact ⟨f, j + 1, rfl, by go_num, by omega, by omega, hide (by simpa using HCN2.out), hide (HBr.out.alloc HBr.out.size _)⟩
               case measure => simp [intOf] <;> omega
             · go_wp2_with fail
               go_roundw
               case rel => exact ⟨f + 1, j + 1, by go_num, by go_num, by omega, by omega, hide (by simpa using HCN2.out), hide (HBr.out.alloc HBr.out.size _)⟩
               case measure => simp [intOf] <;> omega)
set_option maxRecDepth 100000 in
set_option maxHeartbeats 16000000 in
theorem vleast_ok (w : World) (s : Sv) (l hh a b : Rat) (M : Nat) (A : Option Addr) (n c : Nat) (xs : List (Bool × Bool)) (hq : SQ w s) (hk : OKs s l hh a b M) (hR : Rs w none 2 atv A xs) (hl : xs.length = n) (hn : n ≤ 33) (hnc : n ≤ c) :
    Calls Tryz.prog 22 #[.agg #[.slice s.l.A s.l.n s.l.c, .slice s.l.B s.l.m s.l.d, .slice s.h.A s.h.n s.h.c, .slice s.h.B s.h.m s.h.d, .slice s.a.A s.a.n s.a.c, .slice s.a.B s.a.m s.a.d, .slice s.b.A s.b.n s.b.c, .slice s.b.B s.b.m s.b.d, .int .i64 s.m], .slice A n c] w fun e w' => ∃ L : Nat, e = .returned (.tuple #[.int .i64 (L : Int), .int .i64 0]) ∧ IsLv (aftQ (decQ l hh a b) M) M xs L ∧ Below w.heap.size w w' := by
  have HC := hide (show vckE s n = 0 by unfold vckE; rw [if_neg (by rw [hk.ok]; simp), if_neg (by omega)])
  have HQ := hide hq
  have HK := hide hk
  have HR := hide hR
  have HL := hide hl
  obtain ⟨G, hG⟩ : ∃ G, G = aftQ (decQ l hh a b) M := ⟨_, rfl⟩
  have hz := fun h0 => jud_zero (d := decQ l hh a b) (M := M) hk.m1 (xs := xs) h0
  rw [← hG] at hz ⊢
  obtain ⟨T, hT⟩ : ∃ T, T = jud G xs := ⟨_, rfl⟩
  rw [← hT] at hz
  have HT := hide hT
  have HG := hide hG
  clear hq hk hR hl hT hG
  obtain ⟨r, u⟩ := T
  by_cases hr : r = 0
  · subst hr
    rcases hz rfl with rfl | rfl | ⟨t, rfl, ht1, ht2, ht3, ht4⟩
    · obtain rfl : n = 0 := by have := HL.out; simpa using this.symm
      clear hz
      go_enter Tryz.func22, Tryz.ntmps22
      go_upto_region 1 with (fail)
      generalize hW : World.alloc w _ = v
      have HF := hide (show FS w v w.heap.size s by rw [← hW]; exact FS.mk0 HQ.out _)
      obtain ⟨a0, a1, a2, a3, a4, a5, a6, a7, a8, a9⟩ := HF.out.ca
      clear hW
      go_wp2_with (first | (go_at_call 51; (with_reducible refine (vcheck_any _ s _ _ _ HF.out.q).mono ?_); rintro e w1 ⟨rfl, hb⟩; rw [HC.out]; have HF1 := hide (HF.out.below hb); obtain ⟨b0, b1, b2, b3, b4, b5, b6, b7, b8, b9⟩ := HF1.out.ca; clear hb) | (go_at_call 52; (with_reducible refine (vjudge_ok _ s l hh a b M _ _ _ _ HF1.out.q HK.out (HR.out.below HF1.out.bw) HL.out hn).mono ?_); rintro e w2 ⟨rfl, hb⟩; rw [← HG.out, ← HT.out]; have HF2 := hide (HF1.out.below hb); obtain ⟨c0, c1, c2, c3, c4, c5, c6, c7, c8, c9⟩ := HF2.out.ca; clear hb))
      refine bodyPost_ret (v := .tuple #[.int .i64 1, .int .i64 0]) (by simp [results, Tryz.results22, go_sem, *]) rfl ⟨1, rfl, .inr (.inl ⟨by rw [← HT.out], rfl, rfl⟩), HF2.out.bw⟩
    · obtain rfl : n = 1 := by have := HL.out; simpa using this.symm
      obtain ⟨bb, o, rfl, hb0, e0, e1⟩ := atts_at HR.out (k := 0) rfl
      simp only [Nat.zero_mul, Nat.add_zero] at e0 e1
      clear hz
      go_enter Tryz.func22, Tryz.ntmps22
      go_upto_region 1 with (fail)
      generalize hW : World.alloc w _ = v
      have HF := hide (show FS w v w.heap.size s by rw [← hW]; exact FS.mk0 HQ.out _)
      obtain ⟨a0, a1, a2, a3, a4, a5, a6, a7, a8, a9⟩ := HF.out.ca
      clear hW
      go_wp2_with (first | (go_at_call 51; (with_reducible refine (vcheck_any _ s _ 1 c HF.out.q).mono ?_); rintro e w1 ⟨rfl, hb⟩; rw [HC.out]; have HF1 := hide (HF.out.below hb); obtain ⟨b0, b1, b2, b3, b4, b5, b6, b7, b8, b9⟩ := HF1.out.ca; clear hb) | (go_at_call 52; (with_reducible refine (vjudge_ok _ s l hh a b M _ 1 c _ HF1.out.q HK.out (HR.out.below HF1.out.bw) HL.out hn).mono ?_); rintro e w2 ⟨rfl, hb⟩; rw [← HG.out, ← HT.out]; have HF2 := hide (HF1.out.below hb); obtain ⟨c0, c1, c2, c3, c4, c5, c6, c7, c8, c9⟩ := HF2.out.ca; have j1 : w2.cell? ⟨bb, o + 1, none⟩ = some (.bool false) := (HF2.out.bw.cell (by simpa using hb0)).trans e1; clear hb))
      refine bodyPost_ret (v := .tuple #[.int .i64 1, .int .i64 0]) (by simp [results, Tryz.results22, go_sem, *]) rfl ⟨1, rfl, .inr (.inr (.inl ⟨by rw [← HT.out], rfl, rfl⟩)), HF2.out.bw⟩
    · exact vleast_run w s l hh a b M A n c t u G HC HQ.out HK.out HR.out HL.out hn hnc HG HT ht1 ht2 ht3 ht4
  · clear hz
    have z1 : (r != 0) = true := by simpa using hr
    have z2 : (r == 0) = false := by simp [hr]
    go_enter Tryz.func22, Tryz.ntmps22
    go_upto_region 1 with (fail)
    generalize hW : World.alloc w _ = v
    have HF := hide (show FS w v w.heap.size s by rw [← hW]; exact FS.mk0 HQ.out _)
    obtain ⟨a0, a1, a2, a3, a4, a5, a6, a7, a8, a9⟩ := HF.out.ca
    clear hW
    go_wp2_with (first | (go_at_call 51; (with_reducible refine (vcheck_any _ s _ _ _ HF.out.q).mono ?_); rintro e w1 ⟨rfl, hb⟩; rw [HC.out]; have HF1 := hide (HF.out.below hb); obtain ⟨b0, b1, b2, b3, b4, b5, b6, b7, b8, b9⟩ := HF1.out.ca; clear hb) | (go_at_call 52; (with_reducible refine (vjudge_ok _ s l hh a b M _ _ _ _ HF1.out.q HK.out (HR.out.below HF1.out.bw) HL.out hn).mono ?_); rintro e w2 ⟨rfl, hb⟩; rw [← HG.out, ← HT.out]; have HF2 := hide (HF1.out.below hb); obtain ⟨c0, c1, c2, c3, c4, c5, c6, c7, c8, c9⟩ := HF2.out.ca; clear hb))
    refine bodyPost_ret (v := .tuple #[.int .i64 0, .int .i64 0]) (by simp [results, Tryz.results22, go_sem, *]) rfl ⟨0, rfl, .inl ⟨by rw [← HT.out]; exact hr, rfl⟩, HF2.out.bw⟩
end Go.Proofs.YtnokfhkcfebimaaGreat

/- The walk of the law RerunLeast. -/
namespace Go.Proofs.YtnokfhkcfebimaaGreat
open Go.RowKit

end Go.Proofs.YtnokfhkcfebimaaGreat

/- Plain laws: no fewer further attempts than Least decide, and some of Least ones do. -/
namespace Go.Proofs.YtnokfhkcfebimaaGreat
open Go.RowKit

/-- Further attempts: the bits of a number. -/
def moreL (x : Nat) (r : Bool) (n : Nat) : List (Bool × Bool) := (bitL x n).map fun b => (b, r)
/-- Whether further attempts are random. -/
def rrL (xs : List (Bool × Bool)) : Bool := match xs with
  | [] => true
  | x :: _ => x.2
section
variable {l h a b : Rat} {M : Nat}
end
end Go.Proofs.YtnokfhkcfebimaaGreat

/- Contracts: fraction.Sum. -/
namespace Go.Proofs.YtnokfhkcfebimaaGreat
open Go.RowKit

end Go.Proofs.YtnokfhkcfebimaaGreat

/- Plain law: the chances of all sequences of n outcomes, by their numbers of failures. -/
namespace Go.Proofs.YtnokfhkcfebimaaGreat

def cntL (l : List Bool) : Nat := l.count true
/-- The chances of the sequences with the numbers below m whose number of failures counts. -/
def trm (r : Rat) (n : Nat) (f : Nat → Bool) (m : Nat) : List Rat := ((List.range m).filter fun x => f (cntL (bitL x n))).map fun x => sqL r (bitL x n)
end Go.Proofs.YtnokfhkcfebimaaGreat

/- Plain law of RerunBounds: the sums over all sequences of further runs. -/
namespace Go.Proofs.YtnokfhkcfebimaaGreat
open Go.RowKit

/-- The sum over the numbers below m. -/
def sumX (F : Nat → Rat) : Nat → Rat
  | 0 => 0
  | m + 1 => sumX F m + F m
/-- The sum over all sequences of n outcomes. -/
def sumB (F : List Bool → Rat) (n : Nat) : Rat := sumX (fun x => F (bitL x n)) (2 ^ n)
/-- Random attempts. -/
def rndL (l : List Bool) : List (Bool × Bool) := l.map fun b => (b, true)
/-- The chance of a sequence with this verdict. -/
def vw (G : Nat → Nat → Int) (v : Int) (r : Rat) (k p f : Nat) (l : List Bool) : Rat := if (judL G true (rndL l) k p f).1 = v then sqL r l else 0
/-- The sum up to some number. -/
def vsum (G : Nat → Nat → Int) (v : Int) (r : Rat) (M : Nat) (x : Nat) : Rat := sumX (fun y => vw G v r 1 0 0 (bitL y M)) x
end Go.Proofs.YtnokfhkcfebimaaGreat

/- Contract: SameFrac of two fractions that differ. -/
namespace Go.Proofs.YtnokfhkcfebimaaGreat
open Go.RowKit

end Go.Proofs.YtnokfhkcfebimaaGreat

/- The walk of the law SequentialAlpha. -/
namespace Go.Proofs.YtnokfhkcfebimaaGreat
open Go.RowKit

/-- A box with odds. -/
structure OdB (v : World) (g : Nat) (f0 f2 f4 : Fa) (r0 r2 r4 : Rat) : Prop where
  cb : Cb v g [.slice f0.A f0.n f0.c, .slice f0.B f0.m f0.d, .slice f2.A f2.n f2.c, .slice f2.B f2.m f2.d, .slice f4.A f4.n f4.c, .slice f4.B f4.m f4.d]
  o0 : Fo v f0 (some r0)
  o2 : Fo v f2 (some r2)
  o4 : Fo v f4 (some r4)
theorem OdB.mk0 {w : World} {f0 f2 f4 : Fa} {r0 r2 r4 : Rat} (h0 : Fo w f0 (some r0)) (h2 : Fo w f2 (some r2)) (h4 : Fo w f4 (some r4)) (t : TypeId) : OdB (w.alloc (.cells #[.slice f0.A f0.n f0.c, .slice f0.B f0.m f0.d, .slice f2.A f2.n f2.c, .slice f2.B f2.m f2.d, .slice f4.A f4.n f4.c, .slice f4.B f4.m f4.d] t)) w.heap.size f0 f2 f4 r0 r2 r4 :=
  ⟨Cb.mk0 _ (by simp) _ rfl, h0.alloc _, h2.alloc _, h4.alloc _⟩
theorem OdB.ca {v : World} {g : Nat} {f0 f2 f4 : Fa} {r0 r2 r4 : Rat} (h : OdB v g f0 f2 f4 r0 r2 r4) : v.cell? ⟨g, 0, none⟩ = some (.slice f0.A f0.n f0.c) ∧ v.cell? ⟨g, 1, none⟩ = some (.slice f0.B f0.m f0.d) ∧ v.cell? ⟨g, 2, none⟩ = some (.slice f2.A f2.n f2.c) ∧ v.cell? ⟨g, 3, none⟩ = some (.slice f2.B f2.m f2.d) ∧ v.cell? ⟨g, 4, none⟩ = some (.slice f4.A f4.n f4.c) ∧ v.cell? ⟨g, 5, none⟩ = some (.slice f4.B f4.m f4.d) ∧ g < v.heap.size :=
  ⟨h.cb.cell 0 _ rfl, h.cb.cell 1 _ rfl, h.cb.cell 2 _ rfl, h.cb.cell 3 _ rfl, h.cb.cell 4 _ rfl, h.cb.cell 5 _ rfl, h.cb.sz⟩
end Go.Proofs.YtnokfhkcfebimaaGreat

/- Contract: rerun.Chances; rows of bools and of attempts beside each other. -/
namespace Go.Proofs.YtnokfhkcfebimaaGreat
open Go.RowKit

set_option maxRecDepth 100000 in
set_option maxHeartbeats 8000000 in
theorem vchances_ok (w : World) (s : Sv) (l h a b : Rat) (M : Nat) (fp : Fa) (x : Rat) (hq : SQ w s) (hk : OKs s l h a b M) (hp : Fo w fp (some x)) (hx : Chn x) :
    Calls Tryz.prog 28 #[.agg #[.slice s.l.A s.l.n s.l.c, .slice s.l.B s.l.m s.l.d, .slice s.h.A s.h.n s.h.c, .slice s.h.B s.h.m s.h.d, .slice s.a.A s.a.n s.a.c, .slice s.a.B s.a.m s.a.d, .slice s.b.A s.b.n s.b.c, .slice s.b.B s.b.m s.b.d, .int .i64 s.m], .agg #[.slice fp.A fp.n fp.c, .slice fp.B fp.m fp.d]] w fun e w' => ∃ f0 f2 : Fa, e = .returned (.tuple #[.agg #[.slice f0.A f0.n f0.c, .slice f0.B f0.m f0.d], .agg #[.slice f2.A f2.n f2.c, .slice f2.B f2.m f2.d], .int .i64 0]) ∧ Fo w' f0 (some (val (decQ l h a b) x gF M 0 0)) ∧ Fo w' f2 (some (val (decQ l h a b) x gS M 0 0)) ∧ Below w.heap.size w w' := by
  have HQ := hide hq
  have HP := hide hp
  have HK := hide hk
  have HX := hide hx
  clear hq hp hk hx
  go_enter Tryz.func28, Tryz.ntmps28
  go_upto_region 1 with (fail)
  generalize hW : World.alloc (World.alloc (World.alloc (World.alloc w _) _) _) _ = v
  have HF := hide (show FS w v w.heap.size s by rw [← hW]; exact (((FS.mk0 HQ.out _).alloc _).alloc _).alloc _)
  have HB := hide (show Bf v (w.heap.size + 1) fp x by rw [← hW]; exact ⟨(((Bq.mk0 (w := w.alloc _) _ fp (by simp)).alloc _).alloc _), (((HP.out.alloc _).alloc _).alloc _).alloc _⟩)
  have HC := hide (show Rb v (w.heap.size + 2) by rw [← hW]; exact (Rb.mk0 _ (by simp)).below ((Below.refl _ _).alloc (Nat.le_refl _) _))
  have HD := hide (show Rb v (w.heap.size + 3) by rw [← hW]; exact Rb.mk0 _ (by simp))
  obtain ⟨a0, a1, a2, a3, a4, a5, a6, a7, a8, a9⟩ := HF.out.ca
  have p0 := HB.out.b.c0
  have p1 := HB.out.b.c1
  have pz := HB.out.b.sz
  clear hW
  go_upto_region 2 with (go_at_call 11; (with_reducible refine (serrors_ok _ s l h a b M fp x HF.out.q HK.out HB.out.o HX.out).mono ?_); rintro e w2 ⟨x0, x2, x4, rfl, h0, h2, h4, hb⟩; have HO2 := hide (And.intro h0 (And.intro h2 h4)); have HF2 := hide (HF.out.below hb); have HC2 := hide (HC.out.below hb); have HD2 := hide (HD.out.below hb); clear h0 h2 h4 hb)
  generalize hW : World.alloc w2 _ = v2
  have HB3 := hide (show Below w.heap.size w v2 by rw [← hW]; exact HF2.out.bw.alloc HF2.out.bw.size _)
  have HX3 := hide (show OdB v2 w2.heap.size x0 x2 x4 _ _ _ by rw [← hW]; exact OdB.mk0 HO2.out.1 HO2.out.2.1 HO2.out.2.2 _)
  have HC3 := hide (show Rb v2 (w.heap.size + 2) by rw [← hW]; exact HC2.out.below ((Below.refl _ _).alloc (Nat.le_refl _) _))
  have HD3 := hide (show Rb v2 (w.heap.size + 3) by rw [← hW]; exact HD2.out.below ((Below.refl _ _).alloc (Nat.le_refl _) _))
  obtain ⟨g2, hg2⟩ : ∃ g, g = w2.heap.size := ⟨_, rfl⟩
  rw [← hg2] at HX3 ⊢
  obtain ⟨k0, k1, k2, k3, k4, k5, k6⟩ := HX3.out.ca
  obtain ⟨t0, t1, tf, tz, -⟩ := HC3.out
  obtain ⟨u0, u1, uf, uz, -⟩ := HD3.out
  clear hW hg2 a0 a1 a2 a3 a4 a5 a6 a7 a8 a9 p0 p1 pz
  go_upto_region 4 with (fail)
  go_region
  go_wp2_with fail
  generalize hW : World.setCell (World.setCell (World.setCell (World.setCell v2 _ _) _ _) _ _) _ _ = v5
  have HC5 := hide (show Bq v5 (w.heap.size + 2) x0 by rw [← hW]; refine Bq.one (HC3.out.bq.fill x0) (fr_fill (g := w.heap.size + 3) (.slice x2.A x2.n x2.c) (.slice x2.B x2.m x2.d)) ?_; omega)
  have HD5 := hide (show Bq v5 (w.heap.size + 3) x2 by rw [← hW]; exact Bq.fill (HD3.out.bq.one (fr_fill (w := v2) (g := w.heap.size + 2) (.slice x0.A x0.n x0.c) (.slice x0.B x0.m x0.d)) (by omega)) x2)
  have HO5 := hide (show Fo v5 x0 _ ∧ Fo v5 x2 _ by
    rw [← hW]
    have hd := HD3.out.bq.one (fr_fill (w := v2) (g := w.heap.size + 2) (.slice x0.A x0.n x0.c) (.slice x0.B x0.m x0.d)) (by omega)
    exact ⟨(HX3.out.o0.fill HC3.out.bq x0).fill hd x2, (HX3.out.o2.fill HC3.out.bq x0).fill hd x2⟩)
  have HB5 := hide (show Below w.heap.size w v5 by rw [← hW]; exact Rb.end0 (Rb.end0 HB3.out (by omega) _ _) (by omega) _ _)
  clear hW t0 t1 tf tz u0 u1 uf uz k0 k1 k2 k3 k4 k5 k6
  have c0 := HC5.out.c0
  have c1 := HC5.out.c1
  have d0 := HD5.out.c0
  have d1 := HD5.out.c1
  refine bodyPost_ret (v := .tuple #[.agg #[.slice x0.A x0.n x0.c, .slice x0.B x0.m x0.d], .agg #[.slice x2.A x2.n x2.c, .slice x2.B x2.m x2.d], .int .i64 0]) (by simp [results, Tryz.results28, go_sem, *]) rfl ⟨x0, x2, rfl, HO5.out.1.drew, HO5.out.2.drew, HB5.out.drew⟩

/-- The specification's box, the chance's box and the two sums. -/
structure BB (w0 v : World) (g : Nat) (s : Sv) (b5 : Nat) (pf : Fa) (r : Rat) (b6 b7 : Nat) (u o : Rat) : Prop where
  f : FS w0 v g s
  p : Bf v b5 pf r
  u : ∃ c, Bf v b6 c u
  o : ∃ c, Bf v b7 c o
  h0 : g < w0.heap.size
  h1 : w0.heap.size ≤ b5
  h2 : b5 < b6
  h3 : b6 < b7
section
variable {w0 v v' : World} {g : Nat} {s : Sv} {b5 : Nat} {pf : Fa} {r : Rat} {b6 b7 : Nat} {u o : Rat}
end
end Go.Proofs.YtnokfhkcfebimaaGreat

/- Contracts: Chances of the program and of the reference, for all arguments. -/
namespace Go.Proofs.YtnokfhkcfebimaaGreat
open Go.RowKit

set_option maxRecDepth 100000 in
set_option maxHeartbeats 8000000 in
theorem r25chances_bad (w : World) (s : Sv) (fp : Fa) (l k : List Nat) (hq : SQ w s) (hp : Fq w fp l k) (hbad : s.ok = false ∨ chO (fracOf l k) = false) : Calls Tryz.prog 29 #[.agg #[.slice s.l.A s.l.n s.l.c, .slice s.l.B s.l.m s.l.d, .slice s.h.A s.h.n s.h.c, .slice s.h.B s.h.m s.h.d, .slice s.a.A s.a.n s.a.c, .slice s.a.B s.a.m s.a.d, .slice s.b.A s.b.n s.b.c, .slice s.b.B s.b.m s.b.d, .int .i64 s.m], .agg #[.slice fp.A fp.n fp.c, .slice fp.B fp.m fp.d]] w fun e w' => e = .returned (.tuple #[.agg #[.slice none 0 0, .slice none 0 0], .agg #[.slice none 0 0, .slice none 0 0], .int .i64 (errE s (fracOf l k))]) ∧ Below w.heap.size w w' := by
  have HQ := hide hq
  have HP := hide hp
  clear hq hp
  by_cases hs : s.ok = false
  · have HOK := hide hs
    have HE := hide (show errE s (fracOf l k) = 1 from if_pos hs)
    clear hs hbad
    go_enter Tryz.func29, Tryz.ntmps29
    go_upto_region 1 with (fail)
    generalize hW : World.alloc (World.alloc (World.alloc (World.alloc w _) _) _) _ = v
    have HF := hide (show FS w v w.heap.size s by rw [← hW]; exact (((FS.mk0 HQ.out _).alloc _).alloc _).alloc _)
    have HB := hide (show Bq v (w.heap.size + 1) fp by rw [← hW]; exact ((Bq.mk0 (w := w.alloc _) _ fp (by simp)).alloc _).alloc _)
    have HP2 := hide (show Fq v fp l k by rw [← hW]; exact (((HP.out.alloc _).alloc _).alloc _).alloc _)
    have HC := hide (show Rb v (w.heap.size + 2) by rw [← hW]; exact (Rb.mk0 _ (by simp)).below ((Below.refl _ _).alloc (Nat.le_refl _) _))
    have HD := hide (show Rb v (w.heap.size + 3) by rw [← hW]; exact Rb.mk0 _ (by simp))
    obtain ⟨a0, a1, a2, a3, a4, a5, a6, a7, a8, a9⟩ := HF.out.ca
    have p0 := HB.out.c0
    have p1 := HB.out.c1
    have pz := HB.out.sz
    clear hW
    go_upto_region 2 with ((go_at_call 45; (with_reducible refine (qcheckv_any _ s HF.out.q).mono ?_); rintro e w1 ⟨rfl, hb⟩; rw [HOK.out]; have HF1 := hide (HF.out.below hb); have HB1 := hide (HB.out.below hb); have HP3 := hide (HP2.out.below hb); have HC1 := hide (HC.out.below hb); have HD1 := hide (HD.out.below hb); have r0 := HB1.out.c0; have r1 := HB1.out.c1; have rz := HB1.out.sz; clear hb))
    clear a0 a1 a2 a3 a4 a5 a6 a7 a8 a9 p0 p1 pz r0 r1 rz
    obtain ⟨t0, t1, tf, tz, -⟩ := HC1.out
    obtain ⟨u0, u1, uf, uz, -⟩ := HD1.out
    go_wp2_with fail
    generalize hW : World.setCell (World.setCell (World.setCell (World.setCell _ _ _) _ _) _ _) _ _ = v5
    have HC5 := hide (show Bq v5 (w.heap.size + 2) fa0 by rw [← hW]; refine Bq.one (HC1.out.bq.fill fa0) (fr_fill (g := w.heap.size + 3) (.slice none 0 0) (.slice none 0 0)) ?_; omega)
    have HD5 := hide (show Bq v5 (w.heap.size + 3) fa0 by rw [← hW]; exact Bq.fill (HD1.out.bq.one (fr_fill (g := w.heap.size + 2) (.slice none 0 0) (.slice none 0 0)) (by omega)) fa0)
    have HB5 := hide (show Below w.heap.size w v5 by rw [← hW]; exact Rb.end0 (Rb.end0 HF1.out.bw (by omega) _ _) (by omega) _ _)
    clear hW t0 t1 tf tz u0 u1 uf uz
    have c0 := HC5.out.c0
    have c1 := HC5.out.c1
    have d0 := HD5.out.c0
    have d1 := HD5.out.c1
    refine bodyPost_ret (v := .tuple #[.agg #[.slice none 0 0, .slice none 0 0], .agg #[.slice none 0 0, .slice none 0 0], .int .i64 1]) (by simp [results, Tryz.results29, go_sem, *]) rfl ⟨by rw [HE.out], HB5.out⟩
  · have hs2 : s.ok = true := by simpa using hs
    have hc : chO (fracOf l k) = false := by rcases hbad with h | h; exact absurd h hs; exact h
    have HOK := hide hs2
    have HCH := hide hc
    have HE := hide (show errE s (fracOf l k) = 41 by unfold errE; rw [if_neg hs, if_pos hc])
    clear hs hs2 hc hbad
    go_enter Tryz.func29, Tryz.ntmps29
    go_upto_region 1 with (fail)
    generalize hW : World.alloc (World.alloc (World.alloc (World.alloc w _) _) _) _ = v
    have HF := hide (show FS w v w.heap.size s by rw [← hW]; exact (((FS.mk0 HQ.out _).alloc _).alloc _).alloc _)
    have HB := hide (show Bq v (w.heap.size + 1) fp by rw [← hW]; exact ((Bq.mk0 (w := w.alloc _) _ fp (by simp)).alloc _).alloc _)
    have HP2 := hide (show Fq v fp l k by rw [← hW]; exact (((HP.out.alloc _).alloc _).alloc _).alloc _)
    have HC := hide (show Rb v (w.heap.size + 2) by rw [← hW]; exact (Rb.mk0 _ (by simp)).below ((Below.refl _ _).alloc (Nat.le_refl _) _))
    have HD := hide (show Rb v (w.heap.size + 3) by rw [← hW]; exact Rb.mk0 _ (by simp))
    obtain ⟨a0, a1, a2, a3, a4, a5, a6, a7, a8, a9⟩ := HF.out.ca
    have p0 := HB.out.c0
    have p1 := HB.out.c1
    have pz := HB.out.sz
    clear hW
    go_upto_region 4 with (first
      | (go_at_call 46; (with_reducible refine (rzchance_any _ fp l k HP3.out).mono ?_); rintro e w2 ⟨rfl, hb⟩; rw [HCH.out]; have HF2 := hide (HF1.out.below hb); have HB2 := hide (HB1.out.below hb); have HP4 := hide (HP3.out.below hb); have HC2 := hide (HC1.out.below hb); have HD2 := hide (HD1.out.below hb); clear hb)
      | (go_at_call 45; (with_reducible refine (qcheckv_any _ s HF.out.q).mono ?_); rintro e w1 ⟨rfl, hb⟩; rw [HOK.out]; have HF1 := hide (HF.out.below hb); have HB1 := hide (HB.out.below hb); have HP3 := hide (HP2.out.below hb); have HC1 := hide (HC.out.below hb); have HD1 := hide (HD.out.below hb); have r0 := HB1.out.c0; have r1 := HB1.out.c1; have rz := HB1.out.sz; clear hb))
    clear a0 a1 a2 a3 a4 a5 a6 a7 a8 a9 p0 p1 pz r0 r1 rz
    obtain ⟨t0, t1, tf, tz, -⟩ := HC2.out
    obtain ⟨u0, u1, uf, uz, -⟩ := HD2.out
    go_wp2_with fail
    generalize hW : World.setCell (World.setCell (World.setCell (World.setCell _ _ _) _ _) _ _) _ _ = v5
    have HC5 := hide (show Bq v5 (w.heap.size + 2) fa0 by rw [← hW]; refine Bq.one (HC2.out.bq.fill fa0) (fr_fill (g := w.heap.size + 3) (.slice none 0 0) (.slice none 0 0)) ?_; omega)
    have HD5 := hide (show Bq v5 (w.heap.size + 3) fa0 by rw [← hW]; exact Bq.fill (HD2.out.bq.one (fr_fill (g := w.heap.size + 2) (.slice none 0 0) (.slice none 0 0)) (by omega)) fa0)
    have HB5 := hide (show Below w.heap.size w v5 by rw [← hW]; exact Rb.end0 (Rb.end0 HF2.out.bw (by omega) _ _) (by omega) _ _)
    clear hW t0 t1 tf tz u0 u1 uf uz
    have c0 := HC5.out.c0
    have c1 := HC5.out.c1
    have d0 := HD5.out.c0
    have d1 := HD5.out.c1
    refine bodyPost_ret (v := .tuple #[.agg #[.slice none 0 0, .slice none 0 0], .agg #[.slice none 0 0, .slice none 0 0], .int .i64 41]) (by simp [results, Tryz.results29, go_sem, *]) rfl ⟨by rw [HE.out], HB5.out⟩
set_option maxRecDepth 100000 in
set_option maxHeartbeats 8000000 in
theorem vchances_bad (w : World) (s : Sv) (fp : Fa) (l k : List Nat) (hq : SQ w s) (hp : Fq w fp l k) (hbad : s.ok = false ∨ chO (fracOf l k) = false) : Calls Tryz.prog 28 #[.agg #[.slice s.l.A s.l.n s.l.c, .slice s.l.B s.l.m s.l.d, .slice s.h.A s.h.n s.h.c, .slice s.h.B s.h.m s.h.d, .slice s.a.A s.a.n s.a.c, .slice s.a.B s.a.m s.a.d, .slice s.b.A s.b.n s.b.c, .slice s.b.B s.b.m s.b.d, .int .i64 s.m], .agg #[.slice fp.A fp.n fp.c, .slice fp.B fp.m fp.d]] w fun e w' => e = .returned (.tuple #[.agg #[.slice none 0 0, .slice none 0 0], .agg #[.slice none 0 0, .slice none 0 0], .int .i64 (errE s (fracOf l k))]) ∧ Below w.heap.size w w' := by
  have HQ := hide hq
  have HP := hide hp
  obtain ⟨E, hE⟩ : ∃ E, E = errE s (fracOf l k) := ⟨_, rfl⟩
  have HE := hide hE.symm
  have hE0 : E ≠ 0 := by
    rw [hE]; unfold errE
    rcases hbad with h | h
    · rw [if_pos h]; decide
    · by_cases h2 : s.ok = false
      · rw [if_pos h2]; decide
      · rw [if_neg h2, if_pos h]; decide
  have g1 : (E == 0) = false := by simp [hE0]
  have g1b : (E != 0) = true := by simp [hE0]
  have g2 : decide (E = 0) = false := decide_eq_false hE0
  have HBAD := hide hbad
  clear hq hp hE hbad hE0
  go_enter Tryz.func28, Tryz.ntmps28
  go_upto_region 1 with (fail)
  generalize hW : World.alloc (World.alloc (World.alloc (World.alloc w _) _) _) _ = v
  have HF := hide (show FS w v w.heap.size s by rw [← hW]; exact (((FS.mk0 HQ.out _).alloc _).alloc _).alloc _)
  have HB := hide (show Bq v (w.heap.size + 1) fp by rw [← hW]; exact ((Bq.mk0 (w := w.alloc _) _ fp (by simp)).alloc _).alloc _)
  have HP2 := hide (show Fq v fp l k by rw [← hW]; exact (((HP.out.alloc _).alloc _).alloc _).alloc _)
  have HC := hide (show Rb v (w.heap.size + 2) by rw [← hW]; exact (Rb.mk0 _ (by simp)).below ((Below.refl _ _).alloc (Nat.le_refl _) _))
  have HD := hide (show Rb v (w.heap.size + 3) by rw [← hW]; exact Rb.mk0 _ (by simp))
  obtain ⟨a0, a1, a2, a3, a4, a5, a6, a7, a8, a9⟩ := HF.out.ca
  have p0 := HB.out.c0
  have p1 := HB.out.c1
  have pz := HB.out.sz
  clear hW
  go_upto_region 2 with (go_at_call 11; (with_reducible refine (serrors_bad _ s fp l k HF.out.q HP2.out HBAD.out).mono ?_); rintro e w2 ⟨rfl, hb⟩; rw [HE.out]; have HF2 := hide (HF.out.below hb); have HC2 := hide (HC.out.below hb); have HD2 := hide (HD.out.below hb); clear hb)
  generalize hW : World.alloc w2 _ = v2
  have HF3 := hide (show FS w v2 w.heap.size s by rw [← hW]; exact HF2.out.alloc _)
  have HC3 := hide (show Rb v2 (w.heap.size + 2) by rw [← hW]; exact HC2.out.below ((Below.refl _ _).alloc (Nat.le_refl _) _))
  have HD3 := hide (show Rb v2 (w.heap.size + 3) by rw [← hW]; exact HD2.out.below ((Below.refl _ _).alloc (Nat.le_refl _) _))
  clear hW a0 a1 a2 a3 a4 a5 a6 a7 a8 a9 p0 p1 pz
  obtain ⟨t0, t1, tf, tz, -⟩ := HC3.out
  obtain ⟨u0, u1, uf, uz, -⟩ := HD3.out
  go_wp2_with fail
  generalize hW : World.setCell (World.setCell (World.setCell (World.setCell _ _ _) _ _) _ _) _ _ = v5
  have HC5 := hide (show Bq v5 (w.heap.size + 2) fa0 by rw [← hW]; refine Bq.one (HC3.out.bq.fill fa0) (fr_fill (g := w.heap.size + 3) (.slice none 0 0) (.slice none 0 0)) ?_; omega)
  have HD5 := hide (show Bq v5 (w.heap.size + 3) fa0 by rw [← hW]; exact Bq.fill (HD3.out.bq.one (fr_fill (g := w.heap.size + 2) (.slice none 0 0) (.slice none 0 0)) (by omega)) fa0)
  have HB5 := hide (show Below w.heap.size w v5 by rw [← hW]; exact Rb.end0 (Rb.end0 HF3.out.bw (by omega) _ _) (by omega) _ _)
  clear hW t0 t1 tf tz u0 u1 uf uz
  have c0 := HC5.out.c0
  have c1 := HC5.out.c1
  have d0 := HD5.out.c0
  have d1 := HD5.out.c1
  refine bodyPost_ret (v := .tuple #[.agg #[.slice none 0 0, .slice none 0 0], .agg #[.slice none 0 0, .slice none 0 0], .int .i64 E]) (by simp [results, Tryz.results28, go_sem, *]) rfl ⟨by rw [HE.out], HB5.out⟩
set_option maxRecDepth 100000 in
set_option maxHeartbeats 8000000 in
theorem r25chances_ok (w : World) (s : Sv) (lo h a b : Rat) (M : Nat) (fp : Fa) (l k : List Nat) (x : Rat) (hq : SQ w s) (hk : OKs s lo h a b M) (hp : Fq w fp l k) (hf : fracOf l k = some x) (hx : Chn x) :
    Calls Tryz.prog 29 #[.agg #[.slice s.l.A s.l.n s.l.c, .slice s.l.B s.l.m s.l.d, .slice s.h.A s.h.n s.h.c, .slice s.h.B s.h.m s.h.d, .slice s.a.A s.a.n s.a.c, .slice s.a.B s.a.m s.a.d, .slice s.b.A s.b.n s.b.c, .slice s.b.B s.b.m s.b.d, .int .i64 s.m], .agg #[.slice fp.A fp.n fp.c, .slice fp.B fp.m fp.d]] w fun e w' => ∃ f0 f2 : Fa, e = .returned (.tuple #[.agg #[.slice f0.A f0.n f0.c, .slice f0.B f0.m f0.d], .agg #[.slice f2.A f2.n f2.c, .slice f2.B f2.m f2.d], .int .i64 0]) ∧ Fo w' f0 (some (val (decQ lo h a b) x gF M 0 0)) ∧ Fo w' f2 (some (val (decQ lo h a b) x gS M 0 0)) ∧ Below w.heap.size w w' := by
  have HQ := hide hq
  have HP := hide hp
  have HK := hide hk
  have HX := hide hx
  have HFR := hide hf
  have HOK := hide hk.ok
  have HCH := hide (show chO (fracOf l k) = true by rw [hf]; simp [chO, hx.h1, hx.hd])
  clear hq hp hk hx hf
  go_enter Tryz.func29, Tryz.ntmps29
  go_upto_region 1 with (fail)
  generalize hW : World.alloc (World.alloc (World.alloc (World.alloc w _) _) _) _ = v
  have HF := hide (show FS w v w.heap.size s by rw [← hW]; exact (((FS.mk0 HQ.out _).alloc _).alloc _).alloc _)
  have HB := hide (show Bq v (w.heap.size + 1) fp by rw [← hW]; exact ((Bq.mk0 (w := w.alloc _) _ fp (by simp)).alloc _).alloc _)
  have HP2 := hide (show Fq v fp l k by rw [← hW]; exact (((HP.out.alloc _).alloc _).alloc _).alloc _)
  have HC := hide (show Rb v (w.heap.size + 2) by rw [← hW]; exact (Rb.mk0 _ (by simp)).below ((Below.refl _ _).alloc (Nat.le_refl _) _))
  have HD := hide (show Rb v (w.heap.size + 3) by rw [← hW]; exact Rb.mk0 _ (by simp))
  obtain ⟨a0, a1, a2, a3, a4, a5, a6, a7, a8, a9⟩ := HF.out.ca
  have p0 := HB.out.c0
  have p1 := HB.out.c1
  have pz := HB.out.sz
  clear hW
  go_upto_region 5 with (first
    | (go_at_call 46; (with_reducible refine (rzchance_any _ fp l k HP3.out).mono ?_); rintro e w2 ⟨rfl, hb⟩; rw [HCH.out]; have HF2 := hide (HF1.out.below hb); have HB2 := hide (HB1.out.below hb); have HP4 := hide (HP3.out.below hb); have HC2 := hide (HC1.out.below hb); have HD2 := hide (HD1.out.below hb); clear hb)
    | (go_at_call 45; (with_reducible refine (qcheckv_any _ s HF.out.q).mono ?_); rintro e w1 ⟨rfl, hb⟩; rw [HOK.out]; have HF1 := hide (HF.out.below hb); have HB1 := hide (HB.out.below hb); have HP3 := hide (HP2.out.below hb); have HC1 := hide (HC.out.below hb); have HD1 := hide (HD.out.below hb); have r0 := HB1.out.c0; have r1 := HB1.out.c1; have rz := HB1.out.sz; clear hb))
  clear a0 a1 a2 a3 a4 a5 a6 a7 a8 a9 p0 p1 pz r0 r1 rz
  obtain ⟨a0, a1, a2, a3, a4, a5, a6, a7, a8, a9⟩ := HF2.out.ca
  have p0 := HB2.out.c0
  have p1 := HB2.out.c1
  have pz := HB2.out.sz
  go_upto_region 6 with (go_at_call 12; (with_reducible refine (qerrors_ok _ s lo h a b M fp l k x HF2.out.q HK.out HP4.out HFR.out HX.out).mono ?_); rintro e w3 ⟨x0, x2, x4, rfl, h0, h2, h4, hb⟩; have HO3 := hide (And.intro h0 (And.intro h2 h4)); have HF3 := hide (HF2.out.below hb); have HC3 := hide (HC2.out.below hb); have HD3 := hide (HD2.out.below hb); clear h0 h2 h4 hb)
  generalize hW : World.alloc w3 _ = v2
  have HB3 := hide (show Below w.heap.size w v2 by rw [← hW]; exact HF3.out.bw.alloc HF3.out.bw.size _)
  have HX3 := hide (show OdB v2 w3.heap.size x0 x2 x4 _ _ _ by rw [← hW]; exact OdB.mk0 HO3.out.1 HO3.out.2.1 HO3.out.2.2 _)
  have HC4 := hide (show Rb v2 (w.heap.size + 2) by rw [← hW]; exact HC3.out.below ((Below.refl _ _).alloc (Nat.le_refl _) _))
  have HD4 := hide (show Rb v2 (w.heap.size + 3) by rw [← hW]; exact HD3.out.below ((Below.refl _ _).alloc (Nat.le_refl _) _))
  obtain ⟨g2, hg2⟩ : ∃ g, g = w3.heap.size := ⟨_, rfl⟩
  rw [← hg2] at HX3 ⊢
  obtain ⟨k0, k1, k2, k3, k4, k5, k6⟩ := HX3.out.ca
  obtain ⟨t0, t1, tf, tz, -⟩ := HC4.out
  obtain ⟨u0, u1, uf, uz, -⟩ := HD4.out
  clear hW hg2 a0 a1 a2 a3 a4 a5 a6 a7 a8 a9 p0 p1 pz
  go_region
  go_wp2_with fail
  generalize hW : World.setCell (World.setCell (World.setCell (World.setCell v2 _ _) _ _) _ _) _ _ = v5
  have HC5 := hide (show Bq v5 (w.heap.size + 2) x0 by rw [← hW]; refine Bq.one (HC4.out.bq.fill x0) (fr_fill (g := w.heap.size + 3) (.slice x2.A x2.n x2.c) (.slice x2.B x2.m x2.d)) ?_; omega)
  have HD5 := hide (show Bq v5 (w.heap.size + 3) x2 by rw [← hW]; exact Bq.fill (HD4.out.bq.one (fr_fill (w := v2) (g := w.heap.size + 2) (.slice x0.A x0.n x0.c) (.slice x0.B x0.m x0.d)) (by omega)) x2)
  have HO5 := hide (show Fo v5 x0 _ ∧ Fo v5 x2 _ by
    rw [← hW]
    have hd := HD4.out.bq.one (fr_fill (w := v2) (g := w.heap.size + 2) (.slice x0.A x0.n x0.c) (.slice x0.B x0.m x0.d)) (by omega)
    exact ⟨(HX3.out.o0.fill HC4.out.bq x0).fill hd x2, (HX3.out.o2.fill HC4.out.bq x0).fill hd x2⟩)
  have HB5 := hide (show Below w.heap.size w v5 by rw [← hW]; exact Rb.end0 (Rb.end0 HB3.out (by omega) _ _) (by omega) _ _)
  clear hW t0 t1 tf tz u0 u1 uf uz k0 k1 k2 k3 k4 k5 k6
  have c0 := HC5.out.c0
  have c1 := HC5.out.c1
  have d0 := HD5.out.c0
  have d1 := HD5.out.c1
  refine bodyPost_ret (v := .tuple #[.agg #[.slice x0.A x0.n x0.c, .slice x0.B x0.m x0.d], .agg #[.slice x2.A x2.n x2.c, .slice x2.B x2.m x2.d], .int .i64 0]) (by simp [results, Tryz.results29, go_sem, *]) rfl ⟨x0, x2, rfl, HO5.out.1.drew, HO5.out.2.drew, HB5.out.drew⟩
/-- Program and reference say the same. -/
theorem chances_both {s : Sv} (q : Fa) (lq kq : List Nat) : ∃ (o0 o2 : Option Rat) (E : Int), (∀ W, SQ W s → Fq W q lq kq → Calls Tryz.prog 28 #[.agg #[.slice s.l.A s.l.n s.l.c, .slice s.l.B s.l.m s.l.d, .slice s.h.A s.h.n s.h.c, .slice s.h.B s.h.m s.h.d, .slice s.a.A s.a.n s.a.c, .slice s.a.B s.a.m s.a.d, .slice s.b.A s.b.n s.b.c, .slice s.b.B s.b.m s.b.d, .int .i64 s.m], .agg #[.slice q.A q.n q.c, .slice q.B q.m q.d]] W fun e w' => ∃ f0 f2 : Fa, e = .returned (.tuple #[.agg #[.slice f0.A f0.n f0.c, .slice f0.B f0.m f0.d], .agg #[.slice f2.A f2.n f2.c, .slice f2.B f2.m f2.d], .int .i64 E]) ∧ Fo w' f0 o0 ∧ Fo w' f2 o2 ∧ Below W.heap.size W w') ∧ (∀ W, SQ W s → Fq W q lq kq → Calls Tryz.prog 29 #[.agg #[.slice s.l.A s.l.n s.l.c, .slice s.l.B s.l.m s.l.d, .slice s.h.A s.h.n s.h.c, .slice s.h.B s.h.m s.h.d, .slice s.a.A s.a.n s.a.c, .slice s.a.B s.a.m s.a.d, .slice s.b.A s.b.n s.b.c, .slice s.b.B s.b.m s.b.d, .int .i64 s.m], .agg #[.slice q.A q.n q.c, .slice q.B q.m q.d]] W fun e w' => ∃ f0 f2 : Fa, e = .returned (.tuple #[.agg #[.slice f0.A f0.n f0.c, .slice f0.B f0.m f0.d], .agg #[.slice f2.A f2.n f2.c, .slice f2.B f2.m f2.d], .int .i64 E]) ∧ Fo w' f0 o0 ∧ Fo w' f2 o2 ∧ Below W.heap.size W w') := by
  by_cases hbad : s.ok = false ∨ chO (fracOf lq kq) = false
  · refine ⟨none, none, errE s (fracOf lq kq), fun W h1 h2 => ?_, fun W h1 h2 => ?_⟩
    · exact (vchances_bad W s q lq kq h1 h2 hbad).mono fun e w' h => ⟨fa0, fa0, h.1, Fo.nil _, Fo.nil _, h.2⟩
    · exact (r25chances_bad W s q lq kq h1 h2 hbad).mono fun e w' h => ⟨fa0, fa0, h.1, Fo.nil _, Fo.nil _, h.2⟩
  · have hs : s.ok = true := by cases h : s.ok with | true => rfl | false => exact absurd (.inl h) hbad
    have hc : chO (fracOf lq kq) = true := by cases h : chO (fracOf lq kq) with | true => rfl | false => exact absurd (.inr h) hbad
    obtain ⟨lo, h, a, b, M, hk⟩ := Sv.ok_some hs
    cases hf : fracOf lq kq with
    | none => rw [hf] at hc; simp [chO] at hc
    | some y =>
      rw [hf] at hc
      obtain ⟨x, hx, hch⟩ := chO_chnE hc (fracOf_some hf).2.2
      obtain rfl : y = x := by injection hx
      refine ⟨some (val (decQ lo h a b) y gF M 0 0), some (val (decQ lo h a b) y gS M 0 0), 0, fun W h1 h2 => ?_, fun W h1 h2 => ?_⟩
      · exact vchances_ok W s lo h a b M q y h1 hk (fo_of h2 hf) hch
      · exact r25chances_ok W s lo h a b M q lq kq y h1 hk h2 hf hch
end Go.Proofs.YtnokfhkcfebimaaGreat

/- The walk of the law RerunSpecs. -/
namespace Go.Proofs.YtnokfhkcfebimaaGreat
open Go.RowKit

theorem smallk_any (w : World) (k : Nat) (h : k ≤ 1000) : Calls Tryz.prog 25 #[.int .i64 (k : Int), .int .i64 1] w fun e w' => Ret1 w (some (mkRat (k : Int) 1)) e w' := small_any w k 1 (by omega) (by omega) (by omega)
theorem least_both {s : Sv} (A : Option Addr) (n c : Nat) (xs : List (Bool × Bool)) (hl : xs.length = n) (hnc : n ≤ c) : ∃ (E : Int) (P : Int → Prop), (∀ a b, P a → P b → a = b) ∧ (∀ W, SQ W s → Rs W none 2 atv A xs → Calls Tryz.prog 22 #[.agg #[.slice s.l.A s.l.n s.l.c, .slice s.l.B s.l.m s.l.d, .slice s.h.A s.h.n s.h.c, .slice s.h.B s.h.m s.h.d, .slice s.a.A s.a.n s.a.c, .slice s.a.B s.a.m s.a.d, .slice s.b.A s.b.n s.b.c, .slice s.b.B s.b.m s.b.d, .int .i64 s.m], .slice A n c] W fun e w' => ∃ V : Int, e = .returned (.tuple #[.int .i64 V, .int .i64 E]) ∧ P V ∧ Below W.heap.size W w') ∧ (∀ W, SQ W s → Rs W none 2 atv A xs → Calls Tryz.prog 23 #[.agg #[.slice s.l.A s.l.n s.l.c, .slice s.l.B s.l.m s.l.d, .slice s.h.A s.h.n s.h.c, .slice s.h.B s.h.m s.h.d, .slice s.a.A s.a.n s.a.c, .slice s.a.B s.a.m s.a.d, .slice s.b.A s.b.n s.b.c, .slice s.b.B s.b.m s.b.d, .int .i64 s.m], .slice A n c] W fun e w' => ∃ V : Int, e = .returned (.tuple #[.int .i64 V, .int .i64 E]) ∧ P V ∧ Below W.heap.size W w') := by
  by_cases hc : vckE s n = 0
  · have hs : s.ok = true := by
      unfold vckE at hc
      cases h : s.ok with
      | true => rfl
      | false => rw [h, if_pos rfl] at hc; simp at hc
    have hn : n ≤ 33 := by
      unfold vckE at hc
      rw [hs, if_neg (by simp)] at hc
      by_cases h : 33 < n
      · rw [if_pos h] at hc; simp at hc
      · omega
    obtain ⟨lo, h, a, b, M, hk⟩ := Sv.ok_some hs
    refine ⟨0, fun V => ∃ L : Nat, V = (L : Int) ∧ IsLv (aftQ (decQ lo h a b) M) M xs L, ?_, fun W h1 h2 => ?_, fun W h1 h2 => ?_⟩
    · rintro _ _ ⟨L, rfl, h1⟩ ⟨L', rfl, h2⟩
      rw [lv_uniq h1 h2]
    · exact (vleast_ok W s lo h a b M A n c xs h1 hk h2 hl hn hnc).mono fun e w' ⟨L, he, hv, hb⟩ => ⟨L, he, ⟨L, rfl, hv⟩, hb⟩
    · exact (r25least_ok W s lo h a b M A n c xs h1 hk h2 hl hn hnc).mono fun e w' ⟨L, he, hv, hb⟩ => ⟨L, he, ⟨L, rfl, hv⟩, hb⟩
  · refine ⟨vckE s n, fun V => V = 0, fun a b h1 h2 => h1.trans h2.symm, fun W h1 _ => ?_, fun W h1 _ => ?_⟩
    · exact (vleast_bad W s A n c h1 hc).mono fun e w' h => ⟨0, h.1, rfl, h.2⟩
    · exact (r25least_bad W s A n c h1 hc).mono fun e w' h => ⟨0, h.1, rfl, h.2⟩
/-- The raw box, the chance's box, the tape, the box of the specification in the making. -/
structure CkP (w0 v : World) (T : Nat) (A : Option Addr) (n c : Nat) (l : List Int) (a g0 g1 g : Nat) (raw s : Sv) (p : Fa) (lp kp : List Nat) : Prop where
  tp : Tp v T A n c l a
  r : Cb v g0 raw.cs
  rq : SQ v raw
  pb : Bq v g1 p
  pq : Fq v p lp kp
  b : Cb v g s.cs
  q : SQ v s
  bw : Below w0.heap.size w0 v
section
variable {w0 v v' : World} {T n c a g0 g1 g : Nat} {A : Option Addr} {l : List Int} {raw s s' : Sv} {p : Fa} {lp kp : List Nat}
theorem CkP.below (h : CkP w0 v T A n c l a g0 g1 g raw s p lp kp) (hb : Below v.heap.size v v') : CkP w0 v' T A n c l a g0 g1 g raw s p lp kp := ⟨h.tp.below hb, h.r.below hb, h.rq.below hb, h.pb.below hb, h.pq.below hb, h.b.below hb, h.q.below hb, h.bw.trans (hb.mono h.bw.size)⟩
theorem CkP.tape (h : CkP w0 v T A n c l a g0 g1 g raw s p lp kp) {a' : Nat} (hp : Tp v' T A n c l a') (hf : Fr v v' (fun b => b = T)) (h0 : g0 ≠ T) (h2 : g1 ≠ T) (h1 : g ≠ T) (hT : w0.heap.size ≤ T) : CkP w0 v' T A n c l a' g0 g1 g raw s p lp kp :=
  ⟨hp, h.r.one hf h0, h.rq.one hf h.tp.nb, h.pb.one hf h2, h.pq.one hf h.tp.nb, h.b.one hf h1, h.q.one hf h.tp.nb, ((Fr.of_below (fun b => b = T) h.bw).trans hf).below (Nat.le_refl _) (fun k hk e => by omega)⟩
theorem CkP.put (h : CkP w0 v T A n c l a g0 g1 g raw s p lp kp) {t0 : World} {a0 : Nat} (hp0 : Tp t0 T A n c l a0) (hg1 : t0.heap.size ≤ g) (h0 : g0 ≠ g) (h2 : g1 ≠ g) (hf : Fr v v' (fun b => b = g)) (hb : Cb v' g s'.cs) (hq : SQ v' s') (hg : w0.heap.size ≤ g) : CkP w0 v' T A n c l a g0 g1 g raw s' p lp kp :=
  ⟨hp0.one h.tp hg1 hf, h.r.one hf h0, h.rq.one hf h.b.nb, h.pb.one hf h2, h.pq.one hf h.b.nb, hb, hq, ((Fr.of_below (fun b => b = g) h.bw).trans hf).below (Nat.le_refl _) (fun k hk e => by omega)⟩
end
/-- Specifications in a row. -/
def SRw (v : World) (b : Nat) (xs : List Sv) : Prop :=
  b < v.heap.size ∧ ∀ i x, xs[i]? = some x → (v.cell? ⟨b, i * 9, none⟩ = some (.slice x.l.A x.l.n x.l.c) ∧ v.cell? ⟨b, i * 9 + 1, none⟩ = some (.slice x.l.B x.l.m x.l.d) ∧ v.cell? ⟨b, i * 9 + 2, none⟩ = some (.slice x.h.A x.h.n x.h.c) ∧ v.cell? ⟨b, i * 9 + 3, none⟩ = some (.slice x.h.B x.h.m x.h.d) ∧ v.cell? ⟨b, i * 9 + 4, none⟩ = some (.slice x.a.A x.a.n x.a.c) ∧ v.cell? ⟨b, i * 9 + 5, none⟩ = some (.slice x.a.B x.a.m x.a.d) ∧ v.cell? ⟨b, i * 9 + 6, none⟩ = some (.slice x.b.A x.b.n x.b.c) ∧ v.cell? ⟨b, i * 9 + 7, none⟩ = some (.slice x.b.B x.b.m x.b.d) ∧ v.cell? ⟨b, i * 9 + 8, none⟩ = some (.int .i64 x.m)) ∧ SQ v x
theorem srw_two {w : World} {x y : Sv} (hx : SQ w x) (hy : SQ w y) (t : TypeId) :
    SRw (w.alloc (.cells #[.slice x.l.A x.l.n x.l.c, .slice x.l.B x.l.m x.l.d, .slice x.h.A x.h.n x.h.c, .slice x.h.B x.h.m x.h.d, .slice x.a.A x.a.n x.a.c, .slice x.a.B x.a.m x.a.d, .slice x.b.A x.b.n x.b.c, .slice x.b.B x.b.m x.b.d, .int .i64 x.m, .slice y.l.A y.l.n y.l.c, .slice y.l.B y.l.m y.l.d, .slice y.h.A y.h.n y.h.c, .slice y.h.B y.h.m y.h.d, .slice y.a.A y.a.n y.a.c, .slice y.a.B y.a.m y.a.d, .slice y.b.A y.b.n y.b.c, .slice y.b.B y.b.m y.b.d, .int .i64 y.m] t)) w.heap.size [x, y] := by
  refine ⟨by simp, fun i z hz => ?_⟩
  match i with
  | 0 => simp at hz; subst hz; exact ⟨⟨by simp [go_sem], by simp [go_sem], by simp [go_sem], by simp [go_sem], by simp [go_sem], by simp [go_sem], by simp [go_sem], by simp [go_sem], by simp [go_sem]⟩, hx.alloc _⟩
  | 1 => simp at hz; subst hz; exact ⟨⟨by simp [go_sem], by simp [go_sem], by simp [go_sem], by simp [go_sem], by simp [go_sem], by simp [go_sem], by simp [go_sem], by simp [go_sem], by simp [go_sem]⟩, hy.alloc _⟩
  | i + 2 => simp at hz
theorem fr2c {w : World} {g : Nat} (i j : Nat) (a b : Value) : Fr w ((w.setCell ⟨g, i, none⟩ a).setCell ⟨g, j, none⟩ b) (fun x => x = g) := by
  refine Fr.setCell (Fr.setCell (Fr.refl _ _) ?_ _) ?_ _ <;> exact Or.inr (by rfl)
theorem SRw.one {v v' : World} {b T : Nat} {xs : List Sv} (h : SRw v b xs) (hf : Fr v v' (fun x => x = T)) (hn : b ≠ T) (hT : NB v T) : SRw v' b xs := by
  have h1 := h.1
  refine ⟨Nat.lt_of_lt_of_le h1 hf.size, fun i x hx => ?_⟩
  obtain ⟨⟨k0, k1, k2, k3, k4, k5, k6, k7, k8⟩, hq⟩ := h.2 i x hx
  refine ⟨⟨?_, ?_, ?_, ?_, ?_, ?_, ?_, ?_, ?_⟩, hq.one hf hT⟩ <;> rw [World.cell?_of_block (w := v) (hf.block b h1 hn)] <;> assumption
set_option maxRecDepth 100000 in
set_option maxHeartbeats 16000000 in
theorem rspecs_walk (w : World) (A : Option Addr) (n c : Nat) (l : List Int) (s0 : Sv) (p : Fa) (lp kp : List Nat) (hA : Rs w none 1 iv A l) (hl : l.length = n) (hq : SQ w s0) (hp : Fq w p lp kp) :
    Calls Tryz.prog 6 #[.slice A n c, .agg #[.slice s0.l.A s0.l.n s0.l.c, .slice s0.l.B s0.l.m s0.l.d, .slice s0.h.A s0.h.n s0.h.c, .slice s0.h.B s0.h.m s0.h.d, .slice s0.a.A s0.a.n s0.a.c, .slice s0.a.B s0.a.m s0.a.d, .slice s0.b.A s0.b.n s0.b.c, .slice s0.b.B s0.b.m s0.b.d, .int .i64 s0.m], .agg #[.slice p.A p.n p.c, .slice p.B p.m p.d]] w fun e w' => e = .returned (.bool true) ∧ Below w.heap.size w w' := by
  by_cases hbig : 120 < wrap64 (wrap64 (wrap64 (wrap64 (wrap64 (wrap64 (wrap64 (wrap64 (wrap64 ((s0.l.n : Int) + (s0.l.m : Int)) + (s0.h.n : Int)) + (s0.h.m : Int)) + (s0.a.n : Int)) + (s0.a.m : Int)) + (s0.b.n : Int)) + (s0.b.m : Int)) + (p.n : Int)) + (p.m : Int))
  · have d1 : decide ((120 : Int) < wrap64 (wrap64 (wrap64 (wrap64 (wrap64 (wrap64 (wrap64 (wrap64 (wrap64 ((s0.l.n : Int) + (s0.l.m : Int)) + (s0.h.n : Int)) + (s0.h.m : Int)) + (s0.a.n : Int)) + (s0.a.m : Int)) + (s0.b.n : Int)) + (s0.b.m : Int)) + (p.n : Int)) + (p.m : Int))) = true := decide_eq_true hbig
    have HQ := hide hq
    clear hA hl hq hp hbig
    go_enter Tryz.func6, Tryz.ntmps6
    go_upto_region 1 with (fail)
    generalize hW : World.alloc (World.alloc w _) _ = v
    have HF := hide (show FS w v w.heap.size s0 by rw [← hW]; exact (FS.mk0 HQ.out _).alloc _)
    have HB := hide (show Bq v (w.heap.size + 1) p by rw [← hW]; exact Bq.mk0 (w := w.alloc _) _ p (by simp))
    obtain ⟨a0, a1, a2, a3, a4, a5, a6, a7, a8, a9⟩ := HF.out.ca
    have p0 := HB.out.c0
    have p1 := HB.out.c1
    have pz := HB.out.sz
    clear hW
    go_wp2_with (go_at_call 17; (with_reducible refine (vknown_any _).mono ?_); rintro e w9 ⟨rfl, hb⟩; have HB9 := hide (HF.out.bw.trans (hb.mono HF.out.bw.size)); clear hb)
    go_ret
    exact ⟨rfl, HB9.out⟩
  · have d1 : decide ((120 : Int) < wrap64 (wrap64 (wrap64 (wrap64 (wrap64 (wrap64 (wrap64 (wrap64 (wrap64 ((s0.l.n : Int) + (s0.l.m : Int)) + (s0.h.n : Int)) + (s0.h.m : Int)) + (s0.a.n : Int)) + (s0.a.m : Int)) + (s0.b.n : Int)) + (s0.b.m : Int)) + (p.n : Int)) + (p.m : Int))) = false := decide_eq_false hbig
    have HQ := hide hq
    have HPQ := hide hp
    have HA := hide hA
    have HL := hide hl
    obtain ⟨r8, hr8, hFo⟩ := fold_nat s0.m 8 (by omega) (by omega)
    have HFO := hide hFo
    clear hA hl hq hp hbig hFo
    go_enter Tryz.func6, Tryz.ntmps6
    go_upto_region 1 with (fail)
    generalize hW : World.alloc (World.alloc w _) _ = v
    have HF := hide (show FS w v w.heap.size s0 by rw [← hW]; exact (FS.mk0 HQ.out _).alloc _)
    have HB := hide (show Bq v (w.heap.size + 1) p by rw [← hW]; exact Bq.mk0 (w := w.alloc _) _ p (by simp))
    have HP1 := hide (show Fq v p lp kp by rw [← hW]; exact (HPQ.out.alloc _).alloc _)
    obtain ⟨a0, a1, a2, a3, a4, a5, a6, a7, a8, a9⟩ := HF.out.ca
    have p0 := HB.out.c0
    have p1 := HB.out.c1
    have pz := HB.out.sz
    clear hW
    go_upto_region 3 with (fail)
    clear a0 a1 a2 a3 a4 a5 a6 a7 a8 a9 p0 p1 d1
    go_upto_region 4 with (fail)
    generalize hW : World.alloc v _ = v1
    have HT1 := hide (show Tp v1 v.heap.size A n c l 0 by rw [← hW]; exact tp_new (w := v) (c := c) (HA.out.below HF.out.bw) HL.out 30)
    have HF2 := hide (show FS w v1 w.heap.size s0 by rw [← hW]; exact HF.out.alloc _)
    have HB2 := hide (show Bq v1 (w.heap.size + 1) p by rw [← hW]; exact HB.out.alloc _)
    have HP2 := hide (show Fq v1 p lp kp by rw [← hW]; exact HP1.out.alloc _)
    obtain ⟨T, hT⟩ : ∃ T, T = v.heap.size := ⟨_, rfl⟩
    rw [← hT] at HT1 pz ⊢
    clear hW hT
    go_upto_region 5 with (go_at_call 18; refine (vspec_any _ T A n c l 0 6 HT1.out (by omega) (by omega) (by omega)).mono ?_; rintro e w2 ⟨s, lo, hi, al, be, M, bb, rfl, hq, hk, hM, hp, hbb, hf⟩; have HFr := hide hf; have HQ2 := hide hq; have HP3 := hide hp; clear hq hk hM hp hf)
    generalize hW : World.alloc w2 _ = v2
    have HC0 := hide (show CkP w v2 T A n c l bb w.heap.size (w.heap.size + 1) w2.heap.size s0 s p lp kp by
      rw [← hW]
      have hb1 : Below w.heap.size w w2 := (((Fr.of_below (fun b => b = T) HF2.out.bw).trans HFr.out).below (Nat.le_refl _) (fun k hk e => by omega))
      exact ⟨HP3.out.alloc _, (HF2.out.cb.one HFr.out (by omega)).below ((Below.refl _ _).alloc (Nat.le_refl _) _), (HF2.out.q.one HFr.out HT1.out.nb).alloc _, (HB2.out.one HFr.out (by omega)).alloc _, (HP2.out.one HFr.out HT1.out.nb).alloc _, (FS.mk0 HQ2.out _).cb, HQ2.out.alloc _, hb1.alloc hb1.size _⟩)
    have hg0 : T < w2.heap.size := HP3.out.t.1
    obtain ⟨g, hg⟩ : ∃ g, g = w2.heap.size := ⟨_, rfl⟩
    have HP4 := hide (show Tp w2 T A n c l bb ∧ w2.heap.size ≤ g from ⟨HP3.out, by omega⟩)
    rw [← hg] at HC0 hg0 ⊢
    clear hW hg
    obtain ⟨d, hd, hd5⟩ := tapeV_nat l bb 5
    have hd6 : d < 5 := by omega
    have HD := hide hd
    clear hd hd5
    go_upto_block 0 with (go_at_call 24; refine (nextp_any _ T A n c l bb 5 HC0.out.tp (by omega) (by omega)).mono ?_; rintro e w3 ⟨rfl, hp, hf⟩; rw [HD.out]; have HC := hide (HC0.out.tape hp hf (by omega) (by omega) (by omega) (by omega)); clear hp hf)
    have hgz := HC.out.b.sz
    go_cut [] from 84 to 100 (fun wx => ∃ (s2 : Sv) (b2 : Nat), b2 ≤ bb + 2 ∧ Hid (CkP w wx T A n c l b2 w.heap.size (w.heap.size + 1) g s0 s2 p lp kp))
    case first =>
      have hTz := HC.out.tp.t.1
      match d, hd6 with
      | 0, _ =>
        obtain ⟨k, hk, hk2⟩ := tapeV_nat l (bb + 1) 2
        have HK := hide hk
        have hk3 : k < 2 := by omega
        clear hk hk2
        go_wp2_with (first
          | (go_at_call 25; (with_reducible refine (smallk_any _ k (by omega)).mono ?_); rintro e w5 ⟨f1, rfl, ho, hb⟩; have HO3 := hide ho; have HC3 := hide (HC2.out.below hb); obtain ⟨p0, p1, p2, p3, p4, p5, p6, p7, p8⟩ : _ ∧ _ ∧ _ ∧ _ ∧ _ ∧ _ ∧ _ ∧ _ ∧ _ := ⟨HC3.out.b.cell 0 _ rfl, HC3.out.b.cell 1 _ rfl, HC3.out.b.cell 2 _ rfl, HC3.out.b.cell 3 _ rfl, HC3.out.b.cell 4 _ rfl, HC3.out.b.cell 5 _ rfl, HC3.out.b.cell 6 _ rfl, HC3.out.b.cell 7 _ rfl, HC3.out.b.cell 8 _ rfl⟩; have pf := HC3.out.b.fz; have pz := HC3.out.b.sz; clear ho hb)
          | (go_at_call 24; refine (nextp_any _ T A n c l (bb + 1) 2 HC.out.tp (by omega) (by omega)).mono ?_; rintro e w4 ⟨rfl, hp, hf⟩; rw [HK.out]; have HC2 := hide (HC.out.tape hp hf (by omega) (by omega) (by omega) (by omega)); clear hp hf))
        go_meet
        case rel => exact ⟨⟨s.l, s.h, s.a, f1, s.m, s.ll, s.lk, s.hl, s.hk, s.al, s.ak, lm (rn (mkRat k 1)), lm (mkRat k 1).den⟩, bb + 2, by omega, hide (HC3.out.put HP4.out.1 HP4.out.2 (by omega) (by omega) (fr2c 6 7 _ _) ((HC3.out.b.put 6 (.slice f1.A f1.n f1.c) (by simp [Sv.cs]) (by simp)).put 7 (.slice f1.B f1.m f1.d) (by simp [Sv.cs]) (by simp)) ⟨HC3.out.q.l.one (fr2c 6 7 _ _) HC3.out.b.nb, HC3.out.q.h.one (fr2c 6 7 _ _) HC3.out.b.nb, HC3.out.q.a.one (fr2c 6 7 _ _) HC3.out.b.nb, HO3.out.1.one (fr2c 6 7 _ _) HC3.out.b.nb⟩ (by omega))⟩
      | 1, _ =>
        go_wp2_with (go_at_call 26; have hx10 : Rs (w3.alloc (.cells #[.int .i64 0, .int .i64 33] 3)) (some T) 1 iv (some ⟨w3.heap.size, 0, none⟩) [0, 33] := rs_new (by omega) [0, 33] 3; refine (pickp_any _ T A n c l (bb + 1) _ 2 2 [0, 33] (HC.out.tp.alloc _) (by omega) hx10 rfl (by decide) (by decide)).mono ?_; rintro e w4 ⟨⟨v9, hv, rfl⟩, hp, hf⟩; have HC3 := hide ((HC.out.below ((Below.refl _ _).alloc (Nat.le_refl _) _)).tape hp hf (by omega) (by omega) (by omega) (by omega)); obtain ⟨p0, p1, p2, p3, p4, p5, p6, p7, p8⟩ : _ ∧ _ ∧ _ ∧ _ ∧ _ ∧ _ ∧ _ ∧ _ ∧ _ := ⟨HC3.out.b.cell 0 _ rfl, HC3.out.b.cell 1 _ rfl, HC3.out.b.cell 2 _ rfl, HC3.out.b.cell 3 _ rfl, HC3.out.b.cell 4 _ rfl, HC3.out.b.cell 5 _ rfl, HC3.out.b.cell 6 _ rfl, HC3.out.b.cell 7 _ rfl, HC3.out.b.cell 8 _ rfl⟩; have pf := HC3.out.b.fz; have pz := HC3.out.b.sz; clear hp hf hv)
        go_meet
        case rel => exact ⟨⟨s.l, s.h, s.a, s.b, v9, s.ll, s.lk, s.hl, s.hk, s.al, s.ak, s.bl, s.bk⟩, bb + 2, by omega, hide (HC3.out.put HP4.out.1 HP4.out.2 (by omega) (by omega) (fr1 8 _) (HC3.out.b.put 8 (.int .i64 v9) (by simp [Sv.cs]) (by simp)) ⟨HC3.out.q.l.one (fr1 8 _) HC3.out.b.nb, HC3.out.q.h.one (fr1 8 _) HC3.out.b.nb, HC3.out.q.a.one (fr1 8 _) HC3.out.b.nb, HC3.out.q.b.one (fr1 8 _) HC3.out.b.nb⟩ (by omega))⟩
      | 2, _ =>
        obtain ⟨p0, p1, p2, p3, p4, p5, p6, p7, p8⟩ : _ ∧ _ ∧ _ ∧ _ ∧ _ ∧ _ ∧ _ ∧ _ ∧ _ := ⟨HC.out.b.cell 0 _ rfl, HC.out.b.cell 1 _ rfl, HC.out.b.cell 2 _ rfl, HC.out.b.cell 3 _ rfl, HC.out.b.cell 4 _ rfl, HC.out.b.cell 5 _ rfl, HC.out.b.cell 6 _ rfl, HC.out.b.cell 7 _ rfl, HC.out.b.cell 8 _ rfl⟩; have pf := HC.out.b.fz; have pz := HC.out.b.sz
        go_wp2_with fail
        go_meet
        case rel => exact ⟨⟨s.h, s.h, s.a, s.b, s.m, s.hl, s.hk, s.hl, s.hk, s.al, s.ak, s.bl, s.bk⟩, bb + 1, by omega, hide (HC.out.put HP4.out.1 HP4.out.2 (by omega) (by omega) (fr2c 0 1 _ _) ((HC.out.b.put 0 (.slice s.h.A s.h.n s.h.c) (by simp [Sv.cs]) (by simp)).put 1 (.slice s.h.B s.h.m s.h.d) (by simp [Sv.cs]) (by simp)) ⟨HC.out.q.h.one (fr2c 0 1 _ _) HC.out.b.nb, HC.out.q.h.one (fr2c 0 1 _ _) HC.out.b.nb, HC.out.q.a.one (fr2c 0 1 _ _) HC.out.b.nb, HC.out.q.b.one (fr2c 0 1 _ _) HC.out.b.nb⟩ (by omega))⟩
      | 3, _ =>
        go_wp2_with fail
        go_meet
        case rel => exact ⟨s, bb + 1, by omega, HC⟩
      | 4, _ =>
        go_wp2_with fail
        go_meet
        case rel => exact ⟨s, bb + 1, by omega, HC⟩
      | q + 5, h => exact absurd h (by omega)
    case rest =>
      obtain ⟨s2, b2, hb2, HC2⟩ := hcut
      have r8c := HC2.out.r.cell 8 _ rfl
      have rf := HC2.out.r.fz
      have rz := HC2.out.r.sz
      go_upto_region 13 with (go_at_call 27; (with_reducible refine (HFO.out _).mono ?_); rintro e w' ⟨rfl, rfl⟩)
      obtain ⟨raw, hraw⟩ : ∃ raw : Sv, raw = ⟨s0.l, s0.h, s0.a, s0.b, (r8 : Int), s0.ll, s0.lk, s0.hl, s0.hk, s0.al, s0.ak, s0.bl, s0.bk⟩ := ⟨_, rfl⟩
      generalize hW : World.setCell wc _ _ = wd
      have HC3 := hide (show CkP w wd T A n c l b2 w.heap.size (w.heap.size + 1) g raw s2 p lp kp by
        have hf : Fr wc wd (fun x => x = w.heap.size) := by rw [← hW]; exact fr1 8 _
        have hnb := HC2.out.r.nb
        refine ⟨?_, ?_, ?_, HC2.out.pb.one hf (by omega), HC2.out.pq.one hf hnb, HC2.out.b.one hf (by omega), HC2.out.q.one hf hnb, ?_⟩
        · refine ⟨HC2.out.tp.t.fr hf (show ¬ T = w.heap.size by omega) (fun b o hA hl2 => ?_), HC2.out.tp.nb.one hf HC2.out.tp.t.1 (by omega)⟩
          obtain ⟨b', o', h1, -, h3, -⟩ := HA.out hl2
          rw [hA] at h1
          injection h1 with h1
          injection h1 with h1
          show ¬ b = w.heap.size
          omega
        · rw [← hW, hraw]; exact HC2.out.r.put 8 (.int .i64 r8) (by simp [Sv.cs]) (by simp)
        · rw [hraw]; exact ⟨HC2.out.rq.l.one hf hnb, HC2.out.rq.h.one hf hnb, HC2.out.rq.a.one hf hnb, HC2.out.rq.b.one hf hnb⟩
        · exact (((Fr.of_below (fun b => b = w.heap.size) HC2.out.bw).trans hf).below (Nat.le_refl _) (fun k hk e => by omega)))
      clear hW hraw r8c rf rz
      obtain ⟨p0, p1, p2, p3, p4, p5, p6, p7, p8⟩ : _ ∧ _ ∧ _ ∧ _ ∧ _ ∧ _ ∧ _ ∧ _ ∧ _ := ⟨HC3.out.b.cell 0 _ rfl, HC3.out.b.cell 1 _ rfl, HC3.out.b.cell 2 _ rfl, HC3.out.b.cell 3 _ rfl, HC3.out.b.cell 4 _ rfl, HC3.out.b.cell 5 _ rfl, HC3.out.b.cell 6 _ rfl, HC3.out.b.cell 7 _ rfl, HC3.out.b.cell 8 _ rfl⟩; have pf := HC3.out.b.fz; have pz := HC3.out.b.sz
      have r0 := HC3.out.r.cell 0 _ rfl
      have r1 := HC3.out.r.cell 1 _ rfl
      have r2 := HC3.out.r.cell 2 _ rfl
      have r3 := HC3.out.r.cell 3 _ rfl
      have r4 := HC3.out.r.cell 4 _ rfl
      have r5 := HC3.out.r.cell 5 _ rfl
      have r6 := HC3.out.r.cell 6 _ rfl
      have r7 := HC3.out.r.cell 7 _ rfl
      have r8' := HC3.out.r.cell 8 _ rfl
      have rz := HC3.out.r.sz
      go_upto_region 14 with (fail)
      generalize hW : World.alloc wd _ = v3
      have HR := hide (show SRw v3 wd.heap.size [raw, s2] by rw [← hW]; exact srw_two HC3.out.rq HC3.out.q _)
      have HG := hide (show Tp v3 T A n c l b2 ∧ Bq v3 (w.heap.size + 1) p ∧ Fq v3 p lp kp ∧ Below w.heap.size w v3 by rw [← hW]; exact ⟨HC3.out.tp.alloc _, HC3.out.pb.alloc _, HC3.out.pq.alloc _, HC3.out.bw.alloc HC3.out.bw.size _⟩)
      have hTd : T < wd.heap.size := HC3.out.tp.t.1
      obtain ⟨h, hh⟩ : ∃ h, h = wd.heap.size := ⟨_, rfl⟩
      rw [← hh] at HR hTd ⊢
      clear hW hh p0 p1 p2 p3 p4 p5 p6 p7 p8 pf pz r0 r1 r2 r3 r4 r5 r6 r7 r8' rz
      go_loopw [109] (fun i wr => ∃ j b : Nat, i = .int .i64 (j : Int) ∧ j ≤ 2 ∧ b ≤ 14 + 105 * j ∧ Hid (Tp wr T A n c l b) ∧ Hid (Fr v3 wr (fun x => x = T))) (fun i _ => 2 - (intOf i).toNat)
      case atStart => exact ⟨0, b2, rfl, by omega, by omega, hide HG.out.1, hide (Fr.refl _ _)⟩
      case round =>
        obtain ⟨j, b, rfl, hj, hbj, HTr, HFr3⟩ := hrel
        have HBw := hide (show Below w.heap.size w wr from (((Fr.of_below (fun b => b = T) HG.out.2.2.2).trans HFr3.out).below (Nat.le_refl _) (fun k hk e => by omega)))
        by_cases hj2 : j = 2
        · subst hj2
          go_wp2_with (go_at_call 17; (with_reducible refine (vknown_any _).mono ?_); rintro e w9 ⟨rfl, hb⟩; have HB9 := hide (HBw.out.trans (hb.mono HBw.out.size)); clear hb)
          go_ret
          exact ⟨rfl, HB9.out⟩
        · have hj0 : (0 : Int) ≤ (j : Int) := by omega
          have hjlt : (j : Int) < 2 := by omega
          have HRr := HR.out.one HFr3.out (by omega) HG.out.1.nb
          obtain ⟨x, hx⟩ : ∃ x, [raw, s2][j]? = some x := ⟨_, List.getElem?_eq_getElem (by simp; omega)⟩
          obtain ⟨⟨k0, k1, k2, k3, k4, k5, k6, k7, k8⟩, hqx⟩ := HRr.2 j _ hx
          have HQX := hide hqx
          have hhz := HRr.1
          clear hx hqx HRr
          go_upto_region 16 with (fail)
          generalize hW : World.alloc wr _ = v4
          have HF4 := hide (show FS w v4 wr.heap.size x by rw [← hW]; exact ⟨HBw.out.alloc HBw.out.size _, (FS.mk0 HQX.out _).cb, HQX.out.alloc _⟩)
          have HT4 := hide (show Tp v4 T A n c l b by rw [← hW]; exact HTr.out.alloc _)
          have HW4 := hide (show Fr v3 v4 (fun x => x = T) by rw [← hW]; exact HFr3.out.alloc _)
          have HPB4 := hide (show Bq v4 (w.heap.size + 1) p ∧ Fq v4 p lp kp by rw [← hW]; exact ⟨(HG.out.2.1.one HFr3.out (by omega)).alloc _, (HG.out.2.2.1.one HFr3.out HG.out.1.nb).alloc _⟩)
          obtain ⟨gg, hgg⟩ : ∃ h, h = wr.heap.size := ⟨_, rfl⟩
          have hTg : T < gg := by rw [hgg]; exact HTr.out.t.1
          rw [← hgg] at HF4 ⊢
          clear hW hgg k0 k1 k2 k3 k4 k5 k6 k7 k8
          go_upto_region 17 with (go_at_call 19; refine (vattempts_any _ T A n c l b 34 HT4.out (by omega) (by omega)).mono ?_; rintro e w5 ⟨B, m, d', xs, b5, rfl, ho, hm34, hp, hpb⟩; have HO := hide (show Rs w5 none 2 atv B xs ∧ xs.length = m ∧ m ≤ d' from ⟨ho.rs, ho.len, ho.cap⟩); have HF5 := hide (HF4.out.tape ho.fr (by omega) (by omega) HT4.out.nb); have HT5 := hide hp; have HW5 := hide (HW4.out.trans ho.fr); have HPB5 := hide (show Bq w5 (w.heap.size + 1) p ∧ Fq w5 p lp kp from ⟨HPB4.out.1.one ho.fr (by omega), HPB4.out.2.one ho.fr HT4.out.nb⟩); clear ho hp)
          obtain ⟨V, U, E, h1, h2⟩ := judges_both (s := x) B m d' xs HO.out.2.1 HO.out.2.2
          obtain ⟨E2, P, hP, h3, h4⟩ := least_both (s := x) B m d' xs HO.out.2.1 HO.out.2.2
          obtain ⟨o0, o2, E3, h5, h6⟩ := chances_both (s := x) p lp kp
          have J1 := hide h1
          have J2 := hide h2
          have J3 := hide h3
          have J4 := hide h4
          have J5 := hide h5
          have J6 := hide h6
          have J0 := hide hP
          have HS0 := hide (Below.refl w5.heap.size w5)
          have z1 : (E != E) = false := by simp
          have z2 : (E2 != E2) = false := by simp
          have z3 : (E3 != E3) = false := by simp
          clear h1 h2 h3 h4 h5 h6 hP
          obtain ⟨a0, a1, a2, a3, a4, a5, a6, a7, a8, a9⟩ := HF5.out.ca
          go_upto_region 18 with (go_at_call 20; (with_reducible refine (J1.out _ HF5.out.q HO.out.1).mono ?_); rintro e w6 ⟨rfl, hb⟩; have HS6 := hide hb; have HF6 := hide (HF5.out.below hb); clear hb)
          clear a0 a1 a2 a3 a4 a5 a6 a7 a8 a9
          obtain ⟨a0, a1, a2, a3, a4, a5, a6, a7, a8, a9⟩ := HF6.out.ca
          go_upto_region 19 with (go_at_call 21; (with_reducible refine (J2.out _ HF6.out.q (HO.out.1.below HS6.out)).mono ?_); rintro e w7 ⟨rfl, hb⟩; have HS7 := hide (HS6.out.trans (hb.mono HS6.out.size)); have HF7 := hide (HF6.out.below hb); clear hb)
          clear a0 a1 a2 a3 a4 a5 a6 a7 a8 a9
          obtain ⟨a0, a1, a2, a3, a4, a5, a6, a7, a8, a9⟩ := HF7.out.ca
          go_upto_region 20 with (go_at_call 22; (with_reducible refine (J3.out _ HF7.out.q (HO.out.1.below HS7.out)).mono ?_); rintro e w8 ⟨V1, rfl, hv, hb⟩; have HV1 := hide hv; have HS8 := hide (HS7.out.trans (hb.mono HS7.out.size)); have HF8 := hide (HF7.out.below hb); clear hv hb)
          clear a0 a1 a2 a3 a4 a5 a6 a7 a8 a9
          obtain ⟨a0, a1, a2, a3, a4, a5, a6, a7, a8, a9⟩ := HF8.out.ca
          go_upto_region 21 with (go_at_call 23; (with_reducible refine (J4.out _ HF8.out.q (HO.out.1.below HS8.out)).mono ?_); rintro e w9 ⟨V2, rfl, hv, hb⟩; obtain rfl : V2 = V1 := J0.out _ _ hv HV1.out; have HS9 := hide (HS8.out.trans (hb.mono HS8.out.size)); have HF9 := hide (HF8.out.below hb); clear hv hb)
          have z4 : (V2 != V2) = false := by simp
          have HPB9 := hide (show Bq w9 (w.heap.size + 1) p ∧ Fq w9 p lp kp from ⟨HPB5.out.1.below HS9.out, HPB5.out.2.below HS9.out⟩)
          clear a0 a1 a2 a3 a4 a5 a6 a7 a8 a9
          obtain ⟨a0, a1, a2, a3, a4, a5, a6, a7, a8, a9⟩ := HF9.out.ca
          have q0 := HPB9.out.1.c0
          have q1 := HPB9.out.1.c1
          have qz := HPB9.out.1.sz
          go_upto_region 22 with (go_at_call 28; (with_reducible refine (J5.out _ HF9.out.q HPB9.out.2).mono ?_); rintro e w10 ⟨f0, f2, rfl, h0, h2, hb⟩; have HO10 := hide (And.intro h0 h2); have HS10 := hide (HS9.out.trans (hb.mono HS9.out.size)); have HF10 := hide (HF9.out.below hb); have HPB10 := hide (show Bq w10 (w.heap.size + 1) p ∧ Fq w10 p lp kp from ⟨HPB9.out.1.below hb, HPB9.out.2.below hb⟩); clear h0 h2 hb)
          generalize hW : World.alloc (World.alloc w10 _) _ = v10
          have HX11 := hide (show Bq v10 w10.heap.size f0 ∧ Bq v10 (w10.heap.size + 1) f2 ∧ Fo v10 f0 o0 ∧ Fo v10 f2 o2 by rw [← hW]; exact ⟨(Bq.mk0 _ f0 rfl).alloc _, Bq.mk0 (w := w10.alloc _) _ f2 (by simp), (HO10.out.1.alloc _).alloc _, (HO10.out.2.alloc _).alloc _⟩)
          have HS11 := hide (show Below w5.heap.size w5 v10 by rw [← hW]; exact (HS10.out.alloc HS10.out.size _).alloc (by have := HS10.out.size; simp; omega) _)
          have HF11 := hide (show FS w v10 gg x by rw [← hW]; exact (HF10.out.alloc _).alloc _)
          have HPB11 := hide (show Bq v10 (w.heap.size + 1) p ∧ Fq v10 p lp kp by rw [← hW]; exact ⟨(HPB10.out.1.alloc _).alloc _, (HPB10.out.2.alloc _).alloc _⟩)
          obtain ⟨bb0, hbb0⟩ : ∃ h, h = w10.heap.size := ⟨_, rfl⟩
          rw [← hbb0] at HX11 ⊢
          clear hW hbb0 a0 a1 a2 a3 a4 a5 a6 a7 a8 a9 q0 q1 qz
          obtain ⟨a0, a1, a2, a3, a4, a5, a6, a7, a8, a9⟩ := HF11.out.ca
          have q0 := HPB11.out.1.c0
          have q1 := HPB11.out.1.c1
          have qz := HPB11.out.1.sz
          go_upto_region 23 with (go_at_call 29; (with_reducible refine (J6.out _ HF11.out.q HPB11.out.2).mono ?_); rintro e w12 ⟨y0, y2, rfl, h0, h2, hb⟩; have HO12 := hide (And.intro h0 h2); have HS12 := hide (HS11.out.trans (hb.mono HS11.out.size)); have HX12 := hide (show Bq w12 bb0 f0 ∧ Bq w12 (bb0 + 1) f2 ∧ Fo w12 f0 o0 ∧ Fo w12 f2 o2 from ⟨HX11.out.1.below hb, HX11.out.2.1.below hb, HX11.out.2.2.1.below hb, HX11.out.2.2.2.below hb⟩); clear h0 h2 hb)
          generalize hW : World.alloc (World.alloc w12 _) _ = v12
          have HX13 := hide (show Bq v12 bb0 f0 ∧ Bq v12 (bb0 + 1) f2 ∧ Fo v12 f0 o0 ∧ Fo v12 f2 o2 by rw [← hW]; exact ⟨(HX12.out.1.alloc _).alloc _, (HX12.out.2.1.alloc _).alloc _, (HX12.out.2.2.1.alloc _).alloc _, (HX12.out.2.2.2.alloc _).alloc _⟩)
          have HY13 := hide (show Bq v12 w12.heap.size y0 ∧ Bq v12 (w12.heap.size + 1) y2 ∧ Fo v12 y0 o0 ∧ Fo v12 y2 o2 by rw [← hW]; exact ⟨(Bq.mk0 _ y0 rfl).alloc _, Bq.mk0 (w := w12.alloc _) _ y2 (by simp), (HO12.out.1.alloc _).alloc _, (HO12.out.2.alloc _).alloc _⟩)
          have HS13 := hide (show Below w5.heap.size w5 v12 by rw [← hW]; exact (HS12.out.alloc HS12.out.size _).alloc (by have := HS12.out.size; simp; omega) _)
          obtain ⟨bc0, hbc0⟩ : ∃ h, h = w12.heap.size := ⟨_, rfl⟩
          rw [← hbc0] at HY13 ⊢
          clear hW hbc0 a0 a1 a2 a3 a4 a5 a6 a7 a8 a9 q0 q1 qz
          have u0 := HX13.out.1.c0
          have u1 := HX13.out.1.c1
          have uz := HX13.out.1.sz
          have y0' := HY13.out.1.c0
          have y1' := HY13.out.1.c1
          have yz' := HY13.out.1.sz
          go_wp2_with (first
            | (go_at_call 16; (with_reducible refine (samefrac_eq _ f2 y2 _ HX14.out.2.1 HX14.out.2.2.2).mono ?_); rintro e w15 ⟨rfl, hb⟩; have HS15 := hide (HS14.out.trans (hb.mono HS14.out.size)); clear hb)
            | (go_at_call 16; (with_reducible refine (samefrac_eq _ f0 y0 _ HX13.out.2.2.1 HY13.out.2.2.1).mono ?_); rintro e w14 ⟨rfl, hb⟩; have HS14 := hide (HS13.out.trans (hb.mono HS13.out.size)); have HX14 := hide (show Bq w14 (bb0 + 1) f2 ∧ Fo w14 f2 o2 ∧ Bq w14 (bc0 + 1) y2 ∧ Fo w14 y2 o2 from ⟨HX13.out.2.1.below hb, HX13.out.2.2.2.below hb, HY13.out.2.1.below hb, HY13.out.2.2.2.below hb⟩); have n0 := HX14.out.1.c0; have n1 := HX14.out.1.c1; have m0 := HX14.out.2.2.1.c0; have m1 := HX14.out.2.2.1.c1; clear hb))
          go_roundw
          case rel => exact ⟨j + 1, b5, by go_num, by omega, by omega, hide (HT5.out.below HS15.out), hide (HW5.out.trans (Fr.of_below _ HS15.out))⟩
          case measure => simp [intOf] <;> omega
end Go.Proofs.YtnokfhkcfebimaaGreat
