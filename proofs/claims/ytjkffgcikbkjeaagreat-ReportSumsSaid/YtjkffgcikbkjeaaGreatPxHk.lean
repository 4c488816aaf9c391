/- The law's walk. -/
import Derived.Test.YtjkffgcikbkjeaaGreatP22
import Derived.Test.YtjkffgcikbkjeaaGreatP11
import Derived.Test.YtjkffgcikbkjeaaGreatP19
import Derived.Test.YtjkffgcikbkjeaaGreatP26
import Derived.Test.YtjkffgcikbkjeaaGreatP20
import Derived.BigQuiet
import Derived.Test.YtjkffgcikbkjeaaGreatP25
set_option linter.unusedVariables false
set_option linter.unusedSimpArgs false

/- Words for the book: boxes of a ledger that are filled anew. -/
namespace Go.Proofs.YtjkffgcikbkjeaaGreat
open Go.RowKit

def ldv (A : Option Addr) (n c : Nat) (L : Ld) : V7 := ⟨.slice A n c, .int .i64 L.r0, .int .i64 L.r1, .int .i64 L.r2, .int .i64 L.r3, .int .i64 L.r4, .int .i64 L.r5⟩
theorem tk_strv (t : Tk) : ∃ p, t.vals[0]? = some (.string p) := ⟨_, rfl⟩
theorem ldv_nos (A : Option Addr) (n c : Nat) (L : Ld) : noStr (ldv A n c L).v0 ∧ noStr (ldv A n c L).v1 ∧ noStr (ldv A n c L).v2 ∧ noStr (ldv A n c L).v3 ∧ noStr (ldv A n c L).v4 ∧ noStr (ldv A n c L).v5 ∧ noStr (ldv A n c L).v6 := ⟨trivial, trivial, trivial, trivial, trivial, trivial, trivial⟩
/-- A ledger's box is written: the tickets stay. -/
theorem rs_box {w w' : World} {av : Option Nat} {B A : Option Addr} {n c g : Nat} {L : Ld} {tks : List Tk} (h : Rs w av 10 Tk.vals B tks) (hb : B7 w g (ldv A n c L)) (hf : Fr w w' (fun x => x = g)) : Rs w' av 10 Tk.vals B tks :=
  h.fr hf (fun hl b o hB _ e => rs_not_b7 h tk_strv hb (ldv_nos A n c L) hl b o hB e)
theorem b7_new (w : World) (v0 v1 v2 v3 v4 v5 v6 : Value) (t : TypeId) : B7 (w.alloc (.cells #[v0, v1, v2, v3, v4, v5, v6] t)) w.heap.size ⟨v0, v1, v2, v3, v4, v5, v6⟩ := by
  refine ⟨by simp, ⟨?_, ?_, ?_, ?_, ?_, ?_, ?_⟩, fun j => by simp [go_sem], fun j => by simp [go_sem]⟩ <;> simp [go_sem]
theorem b7_at {w : World} {g : Nat} (hg : g = w.heap.size) {v0 v1 v2 v3 v4 v5 v6 : Value} {t : TypeId} : B7 (w.alloc (.cells #[v0, v1, v2, v3, v4, v5, v6] t)) g ⟨v0, v1, v2, v3, v4, v5, v6⟩ := by
  subst hg
  exact b7_new w _ _ _ _ _ _ _ _
theorem B7.below {w w' : World} {b : Nat} {v : V7} (h : B7 w b v) (hb : Below w.heap.size w w') : B7 w' b v := h.fr (Fr.of_below (fun _ => False) hb) (fun h => h)
/-- A block that was made later changes. -/
theorem fr_new7 {a b c : World} {T g : Nat} (h : Fr a b (fun x => x = T)) (k : Fr b c (fun x => x = g)) (hg : a.heap.size ≤ g) : Fr a c (fun x => x = T) :=
  ((h.mono (T := fun x => x = T ∨ x = g) (fun _ _ e => .inl e)).trans (k.mono (fun _ _ e => .inr e))).mono (fun i hi e => e.resolve_right (by omega))
end Go.Proofs.YtjkffgcikbkjeaaGreat

/- Contract: the law's book. -/
namespace Go.Proofs.YtjkffgcikbkjeaaGreat
open Go.RowKit

/-- What is kept while the book is written: the result's box, the ledger's box, the call's box, the tickets, the tape. -/
structure BS (w v : World) (T : Nat) (TA : Option Addr) (tn tc : Nat) (tl : List Int) (b : Nat) (X : Nat) (vl vx : V7) (B : Option Addr) (tks : List Tk) : Prop where
  r : B7 v w.heap.size (ldv none 0 0 (bkL []))
  l : B7 v (w.heap.size + 1) vl
  x : B7 v X vx
  hX : w.heap.size + 1 < X
  rs : Rs v (some T) 10 Tk.vals B tks
  tp : Tp v T TA tn tc tl b
  fr : Fr w v (fun b => b = T)
section
variable {w v v' : World} {T : Nat} {TA : Option Addr} {tn tc : Nat} {tl : List Int} {a b X : Nat} {vl vx : V7} {A A' B B' : Option Addr} {n n' c c' : Nat} {L L' : Ld} {tks tks' : List Tk}
theorem BS.call (h : BS w v T TA tn tc tl b X vl vx B tks) (hb : Below v.heap.size v v') (hr : Rs v' (some T) 10 Tk.vals B' tks') : BS w v' T TA tn tc tl b X vl vx B' tks' :=
  ⟨h.r.below hb, h.l.below hb, h.x.below hb, h.hX, hr, h.tp.below hb, h.fr.below_ hb⟩
theorem BS.next {b' : Nat} (h : BS w v T TA tn tc tl b X vl vx B tks) (hT : T < w.heap.size) (hf : Fr v v' (fun i => i = T)) (hp : Tp v' T TA tn tc tl b') : BS w v' T TA tn tc tl b' X vl vx B tks :=
  ⟨h.r.fr hf (by omega), h.l.fr hf (by omega), h.x.fr hf (by have := h.hX; omega), h.hX, h.rs.tape hf, hp, h.fr.trans hf⟩
theorem BS.setx (h : BS w v T TA tn tc tl b X vl (ldv A n c L) B tks) (hP : Tp w T TA tn tc tl a) (hf : Fr v v' (fun i => i = X)) (hx : B7 v' X (ldv A' n' c' L')) : BS w v' T TA tn tc tl b X vl (ldv A' n' c' L') B tks :=
  ⟨h.r.fr hf (by have := h.hX; omega), h.l.fr hf (by have := h.hX; omega), hx, h.hX, rs_box h.rs h.x hf, hP.one h.tp (by have := h.hX; omega) hf, fr_new7 h.fr hf (by have := h.hX; omega)⟩
theorem BS.setl (h : BS w v T TA tn tc tl b X (ldv A n c L) vx B tks) (hP : Tp w T TA tn tc tl a) (hf : Fr v v' (fun i => i = w.heap.size + 1)) (hx : B7 v' (w.heap.size + 1) (ldv A' n' c' L')) : BS w v' T TA tn tc tl b X (ldv A' n' c' L') vx B tks :=
  ⟨h.r.fr hf (by omega), hx, h.x.fr hf (by have := h.hX; omega), h.hX, rs_box h.rs h.l hf, hP.one h.tp (by omega) hf, fr_new7 h.fr hf (by omega)⟩
end
set_option maxRecDepth 100000 in
set_option maxHeartbeats 16000000 in
theorem pbook_any (w : World) (T : Nat) (TA : Option Addr) (tn tc : Nat) (tl : List Int) (a : Nat) (hP : Tp w T TA tn tc tl a) (ha : a ≤ 100000) :
    Calls Tryz.prog 4 #[.pointer (some ⟨T, 0, none⟩)] w fun e w' => ∃ (B : Option Addr) (d b : Nat) (cs : List (Nat × Nat)), e = .returned (.tuple #[.agg #[.slice B cs.length d, .int .i64 (bkL cs).r0, .int .i64 (bkL cs).r1, .int .i64 (bkL cs).r2, .int .i64 (bkL cs).r3, .int .i64 (bkL cs).r4, .int .i64 (bkL cs).r5], .int .i64 (sumBk cs : Int), .bool true]) ∧ (∀ x ∈ cs, okX x) ∧ cs.length ≤ 5 ∧ Rs w' (some T) 10 Tk.vals B (bkL cs).tks ∧ Tp w' T TA tn tc tl b ∧ b ≤ a + 11 ∧ Fr w w' (fun b => b = T) := by
  have HP := hide hP
  have hTl := hP.t.1
  obtain ⟨n0, hn0, hn0b⟩ := tapeV_nat tl a 6
  have HN0 := hide hn0
  have hn5 : n0 ≤ 5 := by omega
  clear hP hn0 hn0b
  go_enter Tryz.func4, Tryz.ntmps4
  go_upto_region 3 with (fail)
  generalize hW : World.alloc (World.alloc w _) _ = v
  have HR := hide (show B7 v w.heap.size (ldv none 0 0 (bkL [])) by rw [← hW]; exact (b7_new w _ _ _ _ _ _ _ _).below ((Below.refl _ _).alloc (Nat.le_refl _) _))
  have HL := hide (show B7 v (w.heap.size + 1) (ldv none 0 0 (bkL [])) by rw [← hW]; exact b7_at (by simp))
  have HT := hide (show Tp v T TA tn tc tl a ∧ Fr w v (fun b => b = T) by rw [← hW]; exact ⟨(HP.out.alloc _).alloc _, ((Fr.refl _ _).alloc _).alloc _⟩)
  clear hW
  go_upto_region 4 with (go_at_call 5; (with_reducible refine (nextp_any _ T TA tn tc tl a 6 HT.out.1 (by omega) (by omega)).mono ?_); rintro e w1 ⟨rfl, hp, hf⟩; rw [HN0.out]; have HR1 := hide (HR.out.fr hf (by omega)); have HL1 := hide (HL.out.fr hf (by omega)); have HT1 := hide (show Tp w1 T TA tn tc tl (a + 1) ∧ Fr w w1 (fun b => b = T) from ⟨hp, HT.out.2.trans hf⟩); clear hp hf)
  go_loopw [6, 7] (fun sv nv wr => ∃ (cs : List (Nat × Nat)) (m k b : Nat) (B : Option Addr) (d : Nat), sv = .int .i64 (m : Int) ∧ nv = .int .i64 (k : Int) ∧ cs.length + k ≤ 5 ∧ m ≤ 27 * cs.length ∧ b + 2 * k ≤ a + 11 ∧ Hid (m = sumBk cs) ∧ Hid (∀ x ∈ cs, okX x) ∧ Hid (B7 wr w.heap.size (ldv none 0 0 (bkL []))) ∧ Hid (B7 wr (w.heap.size + 1) (ldv B cs.length d (bkL cs))) ∧ Hid (Rs wr (some T) 10 Tk.vals B (bkL cs).tks) ∧ Hid (Tp wr T TA tn tc tl b) ∧ Hid (Fr w wr (fun b => b = T))) (fun _ nv _ => (intOf nv).toNat)
  case atStart => exact ⟨[], 0, n0, a + 1, none, 0, rfl, rfl, by simpa using hn5, by omega, by omega, hide rfl, hide (by simp), HR1, HL1, hide Rs.nil, hide HT1.out.1, hide HT1.out.2⟩
  case round =>
    obtain ⟨cs, m, k, b, B, d, rfl, rfl, hck, hm, hbk, HM, HOK, HRr, HLr, HS, HTr, HFr⟩ := hrel
    clear HR HL HT HR1 HL1 HT1
    by_cases hk0 : k = 0
    · subst hk0
      obtain ⟨az, ⟨a0, a1, a2, a3, a4, a5, a6⟩, af, -⟩ := HLr.out; dsimp only [ldv] at a0 a1 a2 a3 a4 a5 a6
      obtain ⟨bz, ⟨b0, b1, b2, b3, b4, b5, b6⟩, bf, -⟩ := HRr.out; dsimp only [ldv] at b0 b1 b2 b3 b4 b5 b6
      go_wp2_with fail
      generalize hW : World.setCell (World.setCell (World.setCell (World.setCell (World.setCell (World.setCell (World.setCell wr _ _) _ _) _ _) _ _) _ _) _ _) _ _ = v5
      have HR5 := hide (show B7 v5 w.heap.size (ldv B cs.length d (bkL cs)) by rw [← hW]; exact HRr.out.put (ldv B cs.length d (bkL cs)))
      have hf7 : Fr wr v5 (fun x => x = w.heap.size) := by rw [← hW]; exact fr_put7
      have hA := HTr.out
      clear hW a0 a1 a2 a3 a4 a5 a6 az af b0 b1 b2 b3 b4 b5 b6 bz bf
      have HZ := hide (show Rs v5 (some T) 10 Tk.vals B (bkL cs).tks ∧ Tp v5 T TA tn tc tl b ∧ Fr w v5 (fun b => b = T) from ⟨rs_box HS.out HRr.out hf7, HP.out.one hA (Nat.le_refl _) hf7, fr_new7 HFr.out hf7 (Nat.le_refl _)⟩)
      clear hf7 hA
      obtain ⟨az, ⟨a0, a1, a2, a3, a4, a5, a6⟩, af, -⟩ := HR5.out; dsimp only [ldv] at a0 a1 a2 a3 a4 a5 a6
      refine bodyPost_ret (v := .tuple #[.agg #[.slice B cs.length d, .int .i64 (bkL cs).r0, .int .i64 (bkL cs).r1, .int .i64 (bkL cs).r2, .int .i64 (bkL cs).r3, .int .i64 (bkL cs).r4, .int .i64 (bkL cs).r5], .int .i64 (m : Int), .bool true]) (by simp [results, Tryz.results4, go_sem, *]) rfl ⟨B, d, b, cs, by rw [HM.out], HOK.out, by omega, HZ.out.1, HZ.out.2.1, by omega, HZ.out.2.2⟩
    · obtain ⟨k', rfl⟩ : ∃ k', k = k' + 1 := ⟨k - 1, by omega⟩
      have hkp : (0 : Int) < ((k' + 1 : Nat) : Int) := by omega
      obtain ⟨c0, hc0, hc0b⟩ := tapeV_nat tl b 9
      have HC0 := hide hc0
      have hc8 : c0 ≤ 8 := by omega
      obtain ⟨j0, hj0, hj0b⟩ := tapeV_nat tl (b + 1) 4
      have HJ0 := hide hj0
      have hj3 : j0 ≤ 3 := by omega
      clear hc0 hc0b hj0 hj0b
      go_upto_region 7 with (go_at_call 5; (with_reducible refine (nextp_any _ T TA tn tc tl b 9 HTr.out (by omega) (by omega)).mono ?_); rintro e w2 ⟨rfl, hp, hf⟩; rw [HC0.out]; have HR2 := hide (HRr.out.fr hf (by omega)); have HL2 := hide (HLr.out.fr hf (by omega)); have HS2 := hide (HS.out.tape hf); have HT2 := hide (show Tp w2 T TA tn tc tl (b + 1) ∧ Fr w w2 (fun b => b = T) from ⟨hp, HFr.out.trans hf⟩); clear hp hf)
      have hT2 := HT2.out.1.t.1
      obtain ⟨az, ⟨a0, a1, a2, a3, a4, a5, a6⟩, af, -⟩ := HL2.out; dsimp only [ldv] at a0 a1 a2 a3 a4 a5 a6
      go_upto_region 8 with (go_at_call 16; (with_reducible refine (plan_bk _ T hT2 B d cs HS2.out HOK.out (by omega) (1 + c0) _ (by go_num) (by omega) (by omega)).mono ?_); rintro e w3 ⟨B3, d3, rfl, hs, hb⟩; have HS3 := hide hs; have HR3 := hide (HR2.out.below hb); have HL3 := hide (HL2.out.below hb); have HT3 := hide (show Tp w3 T TA tn tc tl (b + 1) ∧ Fr w w3 (fun b => b = T) from ⟨HT2.out.1.below hb, HT2.out.2.below_ hb⟩); clear hs hb)
      clear a0 a1 a2 a3 a4 a5 a6 az af
      generalize hW : World.alloc w3 _ = v4
      have HZ4 := hide (show BS w v4 T TA tn tc tl (b + 1) w3.heap.size (ldv B cs.length d (bkL cs)) (ldv B3 (cs.length + 1) d3 (bkL (cs ++ [(1 + c0, 0)]))) B3 (bkL (cs ++ [(1 + c0, 0)])).tks by rw [← hW]; exact ⟨HR3.out.below ((Below.refl _ _).alloc (Nat.le_refl _) _), HL3.out.below ((Below.refl _ _).alloc (Nat.le_refl _) _), b7_new w3 _ _ _ _ _ _ _ _, HL3.out.1, HS3.out.below ((Below.refl _ _).alloc (Nat.le_refl _) _), HT3.out.1.below ((Below.refl _ _).alloc (Nat.le_refl _) _), HT3.out.2.below_ ((Below.refl _ _).alloc (Nat.le_refl _) _)⟩)
      obtain ⟨X, hX⟩ : ∃ X, X = w3.heap.size := ⟨_, rfl⟩
      rw [← hX] at HZ4 ⊢
      clear hW hX HR3 HL3 HS3 HT3 HR2 HL2 HS2 HT2 hT2 HRr HLr HS HTr HFr
      obtain ⟨az, ⟨a0, a1, a2, a3, a4, a5, a6⟩, af, -⟩ := HZ4.out.x; dsimp only [ldv] at a0 a1 a2 a3 a4 a5 a6
      obtain ⟨bz, ⟨b0, b1, b2, b3, b4, b5, b6⟩, bf, -⟩ := HZ4.out.l; dsimp only [ldv] at b0 b1 b2 b3 b4 b5 b6
      go_upto_region 9 with (fail)
      generalize hW : World.setCell (World.setCell (World.setCell (World.setCell (World.setCell (World.setCell (World.setCell v4 _ _) _ _) _ _) _ _) _ _) _ _) _ _ = v5
      have HZ5 := hide (HZ4.out.setl HP.out (show Fr v4 v5 _ by rw [← hW]; exact fr_put7) (show B7 v5 _ (ldv B3 (cs.length + 1) d3 (bkL (cs ++ [(1 + c0, 0)]))) by rw [← hW]; exact HZ4.out.l.put (ldv B3 (cs.length + 1) d3 (bkL (cs ++ [(1 + c0, 0)])))))
      clear a0 a1 a2 a3 a4 a5 a6 az af
      clear b0 b1 b2 b3 b4 b5 b6 bz bf
      clear hW HZ4
      clear HN0 hn5
      go_upto_region 12 with (go_at_call 5; (with_reducible refine (nextp_any _ T TA tn tc tl (b + 1) 4 HZ5.out.tp (by omega) (by omega)).mono ?_); rintro e w6 ⟨rfl, hp, hf⟩; rw [HJ0.out]; have HZ6 := hide (HZ5.out.next hTl hf hp); clear hp hf)
      go_loopw [6, 11, 12] (fun sv ev jv wr => ∃ (i j m2 : Nat) (B : Option Addr) (d : Nat), sv = .int .i64 (m2 : Int) ∧ ev = .int .i64 0 ∧ jv = .int .i64 (j : Int) ∧ i + j ≤ 3 ∧ m2 ≤ m + 9 * i ∧ Hid (m2 = m + (1 + c0) * i) ∧ Hid (BS w wr T TA tn tc tl (b + 1 + 1) X (ldv B (cs.length + 1) d (bkL (cs ++ [(1 + c0, i)]))) (ldv B (cs.length + 1) d (bkL (cs ++ [(1 + c0, i)]))) B (bkL (cs ++ [(1 + c0, i)])).tks)) (fun _ _ jv _ => (intOf jv).toNat)
      case atStart => exact ⟨0, j0, m, B3, d3, rfl, rfl, rfl, by omega, by omega, hide (by simp), HZ6⟩
      case round =>
        obtain ⟨i, j, m2, Bi, di, rfl, rfl, rfl, hij, hm2, HM2, HZr⟩ := hrel
        clear HZ5 HZ6
        by_cases hj0 : j = 0
        · subst hj0
          go_wp2_with fail
          go_roundw
          case rel => exact ⟨cs ++ [(1 + c0, i)], m2, k', b + 1 + 1, Bi, di, rfl, by go_num, by simp; omega, by simp; omega, by omega, hide (by rw [HM2.out, sumBk_append, HM.out]), hide (fun x hx => by
            rcases List.mem_append.1 hx with hx | hx
            · exact HOK.out x hx
            · simp at hx; subst hx; exact ⟨by show 1 ≤ 1 + c0; omega, by show 1 + c0 ≤ 9; omega, by show i ≤ 3; omega⟩), hide HZr.out.r, hide (by have h := HZr.out.l; rwa [show (cs ++ [(1 + c0, i)]).length = cs.length + 1 by simp]), hide HZr.out.rs, hide HZr.out.tp, hide HZr.out.fr⟩
          case measure => simp [intOf] <;> omega
        · obtain ⟨j', rfl⟩ : ∃ j', j = j' + 1 := ⟨j - 1, by omega⟩
          have hjp : (0 : Int) < ((j' + 1 : Nat) : Int) := by omega
          obtain ⟨az, ⟨a0, a1, a2, a3, a4, a5, a6⟩, af, -⟩ := HZr.out.l; dsimp only [ldv] at a0 a1 a2 a3 a4 a5 a6
          obtain ⟨bz, ⟨b0, b1, b2, b3, b4, b5, b6⟩, bf, -⟩ := HZr.out.x; dsimp only [ldv] at b0 b1 b2 b3 b4 b5 b6
          have HC15 := hide (begin_bk wr T HZr.out.tp.t.1 Bi di cs (1 + c0) i HZr.out.rs HOK.out (by omega) (by omega) (by omega) (by omega))
          go_upto_region 15 with (go_at_call 17; (with_reducible refine (HC15.out).mono ?_); rintro e w7 ⟨B7', d7, rfl, hs, hb⟩; have HZ7 := hide (HZr.out.call hb hs); clear hb hs; clear b0 b1 b2 b3 b4 b5 b6 bz bf; obtain ⟨bz, ⟨b0, b1, b2, b3, b4, b5, b6⟩, bf, -⟩ := HZ7.out.x; dsimp only [ldv] at b0 b1 b2 b3 b4 b5 b6)
          generalize hW : World.setCell (World.setCell (World.setCell (World.setCell (World.setCell (World.setCell (World.setCell w7 _ _) _ _) _ _) _ _) _ _) _ _) _ _ = v8
          have HZ8 := hide (HZ7.out.setx HP.out (show Fr w7 v8 _ by rw [← hW]; exact fr_put7) (show B7 v8 X (ldv B7' (cs.length + 1) d7 (bkR cs (1 + c0, i))) by rw [← hW]; exact HZ7.out.x.put (ldv B7' (cs.length + 1) d7 (bkR cs (1 + c0, i)))))
          clear hW
          clear a0 a1 a2 a3 a4 a5 a6 az af
          clear b0 b1 b2 b3 b4 b5 b6 bz bf
          obtain ⟨az, ⟨a0, a1, a2, a3, a4, a5, a6⟩, af, -⟩ := HZ8.out.x; dsimp only [ldv] at a0 a1 a2 a3 a4 a5 a6
          obtain ⟨bz, ⟨b0, b1, b2, b3, b4, b5, b6⟩, bf, -⟩ := HZ8.out.l; dsimp only [ldv] at b0 b1 b2 b3 b4 b5 b6
          go_upto_region 16 with (fail)
          generalize hW : World.setCell (World.setCell (World.setCell (World.setCell (World.setCell (World.setCell (World.setCell v8 _ _) _ _) _ _) _ _) _ _) _ _) _ _ = v9
          have HZ9 := hide (HZ8.out.setl HP.out (show Fr v8 v9 _ by rw [← hW]; exact fr_put7) (show B7 v9 _ (ldv B7' (cs.length + 1) d7 (bkR cs (1 + c0, i))) by rw [← hW]; exact HZ8.out.l.put (ldv B7' (cs.length + 1) d7 (bkR cs (1 + c0, i)))))
          clear hW HZ7 HZ8
          clear a0 a1 a2 a3 a4 a5 a6 az af
          clear b0 b1 b2 b3 b4 b5 b6 bz bf
          obtain ⟨az, ⟨a0, a1, a2, a3, a4, a5, a6⟩, af, -⟩ := HZ9.out.l; dsimp only [ldv] at a0 a1 a2 a3 a4 a5 a6
          obtain ⟨bz, ⟨b0, b1, b2, b3, b4, b5, b6⟩, bf, -⟩ := HZ9.out.x; dsimp only [ldv] at b0 b1 b2 b3 b4 b5 b6
          have HC20 := hide (fail_bk v9 T HZ9.out.tp.t.1 B7' d7 cs (1 + c0) i HZ9.out.rs HOK.out (by omega) (by omega) (by omega) (by omega))
          go_upto_region 20 with (go_at_call 18; (with_reducible refine (HC20.out).mono ?_); rintro e w10 ⟨B10, d10, rfl, hs, hb⟩; have HZ10 := hide (HZ9.out.call hb hs); clear hb hs; clear b0 b1 b2 b3 b4 b5 b6 bz bf; obtain ⟨bz, ⟨b0, b1, b2, b3, b4, b5, b6⟩, bf, -⟩ := HZ10.out.x; dsimp only [ldv] at b0 b1 b2 b3 b4 b5 b6)
          generalize hW : World.setCell (World.setCell (World.setCell (World.setCell (World.setCell (World.setCell (World.setCell w10 _ _) _ _) _ _) _ _) _ _) _ _) _ _ = v11
          have HZ11 := hide (HZ10.out.setx HP.out (show Fr w10 v11 _ by rw [← hW]; exact fr_put7) (show B7 v11 X (ldv B10 (cs.length + 1) d10 (bkL (cs ++ [(1 + c0, i + 1)]))) by rw [← hW]; exact HZ10.out.x.put (ldv B10 (cs.length + 1) d10 (bkL (cs ++ [(1 + c0, i + 1)])))))
          clear hW
          clear a0 a1 a2 a3 a4 a5 a6 az af
          clear b0 b1 b2 b3 b4 b5 b6 bz bf
          obtain ⟨az, ⟨a0, a1, a2, a3, a4, a5, a6⟩, af, -⟩ := HZ11.out.x; dsimp only [ldv] at a0 a1 a2 a3 a4 a5 a6
          obtain ⟨bz, ⟨b0, b1, b2, b3, b4, b5, b6⟩, bf, -⟩ := HZ11.out.l; dsimp only [ldv] at b0 b1 b2 b3 b4 b5 b6
          go_upto_region 21 with (fail)
          generalize hW : World.setCell (World.setCell (World.setCell (World.setCell (World.setCell (World.setCell (World.setCell v11 _ _) _ _) _ _) _ _) _ _) _ _) _ _ = v12
          have HZ12 := hide (HZ11.out.setl HP.out (show Fr v11 v12 _ by rw [← hW]; exact fr_put7) (show B7 v12 _ (ldv B10 (cs.length + 1) d10 (bkL (cs ++ [(1 + c0, i + 1)]))) by rw [← hW]; exact HZ11.out.l.put (ldv B10 (cs.length + 1) d10 (bkL (cs ++ [(1 + c0, i + 1)])))))
          clear hW HZ9 HZ10 HZ11
          clear a0 a1 a2 a3 a4 a5 a6 az af
          clear b0 b1 b2 b3 b4 b5 b6 bz bf
          go_wp2_with fail
          go_roundw
          case rel => exact ⟨i + 1, j', m2 + (1 + c0), B10, d10, by go_num, rfl, by go_num, by omega, by omega, hide (by rw [HM2.out, Nat.mul_add]; omega), HZ12⟩
          case measure => simp [intOf] <;> omega
end Go.Proofs.YtjkffgcikbkjeaaGreat

/- Contracts: Missed of both sides. -/
namespace Go.Proofs.YtjkffgcikbkjeaaGreat
open Go.RowKit

theorem au_at {w : World} {A : Option Addr} {xs : List Au} (hR : Rs w none 6 Au.vals A xs) {k : Nat} {x : Au} (hk : xs[k]? = some x) : ∃ b o, A = some ⟨b, o, none⟩ ∧ b < w.heap.size ∧
    w.cell? ⟨b, o + k * 6, none⟩ = some (.int .i64 x.a.k) ∧ w.cell? ⟨b, o + k * 6 + 1, none⟩ = some (.int .i64 x.a.v) ∧ w.cell? ⟨b, o + k * 6 + 2, none⟩ = some (.int .i64 x.a.e) ∧ w.cell? ⟨b, o + k * 6 + 3, none⟩ = some (.int .i64 x.b.k) ∧ w.cell? ⟨b, o + k * 6 + 4, none⟩ = some (.int .i64 x.b.v) ∧ w.cell? ⟨b, o + k * 6 + 5, none⟩ = some (.int .i64 x.b.e) := by
  obtain ⟨b, o, h1, -, h3, h4⟩ := hR.at hk
  exact ⟨b, o, h1, h3, h4 0 _ rfl, h4 1 _ rfl, h4 2 _ rfl, h4 3 _ rfl, h4 4 _ rfl, h4 5 _ rfl⟩
set_option maxRecDepth 100000 in
set_option maxHeartbeats 8000000 in
theorem pmissed_any (w : World) (A : Option Addr) (n c : Nat) (xs : List Au) (hR : Rs w none 6 Au.vals A xs) (hl : xs.length = n) (hn : n ≤ 4294967296) :
    Calls Tryz.prog 13 #[.slice A n c] w fun e w' => e = .returned (.int .i64 (missOf xs : Int)) ∧ Below w.heap.size w w' := by
  have HR := hide hR
  have HL := hide hl
  clear hR hl
  go_enter Tryz.func13, Tryz.ntmps13
  go_upto_region 3 with (fail)
  go_loopw [3, 8] (fun u v wr => ∃ k m : Nat, v = .int .i64 (k : Int) ∧ k ≤ n ∧ u = .int .i64 (m : Int) ∧ m ≤ k ∧ Hid (m = missOf (xs.take k)) ∧ Hid (Below w.heap.size w wr)) (fun _ v _ => n - (intOf v).toNat)
  case atStart => exact ⟨0, 0, rfl, by omega, rfl, by omega, hide rfl, hide (Below.refl _ _)⟩
  case round =>
    obtain ⟨k, m, rfl, hk, rfl, hm, HM, HB⟩ := hrel
    by_cases hkn : k = n
    · subst hkn
      go_wp2_with fail
      go_ret
      exact ⟨by rw [HM.out, List.take_of_length_le (by rw [HL.out]; omega)]; rfl, HB.out⟩
    · have hklt : (k : Int) < (n : Int) := by omega
      have hk0 : (0 : Int) ≤ (k : Int) := by omega
      obtain ⟨x, hx⟩ : ∃ x, xs[k]? = some x := ⟨_, List.getElem?_eq_getElem (by have := HL.out; omega)⟩
      obtain ⟨b, o, hA, hb, c0, c1, c2, c3, c4, c5⟩ := au_at (HR.out.below HB.out) hx
      have HT := hide (missOf_take hx)
      clear hx
      subst hA
      obtain ⟨⟨ak, av, ae⟩, ⟨bk, bv, be⟩⟩ := x
      dsimp only at c0 c1 c2 c3 c4 c5
      by_cases h1 : bk = ak
      · subst h1
        by_cases h2 : bv = av
        · subst h2
          by_cases h3 : be = ae
          · subst h3
            go_upto_region 5 with (fail)
            go_wp2_with fail
            go_roundw
            case rel => exact ⟨k + 1, m, by go_num, by omega, rfl, by omega, hide (by rw [HT.out, if_pos rfl, ← HM.out]; rfl), hide (by (repeat' (with_reducible refine Below.setCell ?_ (by first | (simp; done) | (simp; omega)) _)); exact HB.out.alloc HB.out.size _)⟩
            case measure => simp [intOf] <;> omega
          · have q1 : decide (be = ae) = false := decide_eq_false h3
            have q2 : (be == ae) = false := by simp [h3]
            go_upto_region 5 with (fail)
            go_wp2_with fail
            go_roundw
            case rel => exact ⟨k + 1, m + 1, by go_num, by omega, by go_num, by omega, hide (by rw [HT.out, if_neg (by simp [Ne.symm h3]), ← HM.out]), hide (by (repeat' (with_reducible refine Below.setCell ?_ (by first | (simp; done) | (simp; omega)) _)); exact HB.out.alloc HB.out.size _)⟩
            case measure => simp [intOf] <;> omega
        · have q1 : decide (bv = av) = false := decide_eq_false h2
          have q2 : (bv == av) = false := by simp [h2]
          go_upto_region 5 with (fail)
          go_wp2_with fail
          go_roundw
          case rel => exact ⟨k + 1, m + 1, by go_num, by omega, by go_num, by omega, hide (by rw [HT.out, if_neg (by simp [Ne.symm h2]), ← HM.out]), hide (by (repeat' (with_reducible refine Below.setCell ?_ (by first | (simp; done) | (simp; omega)) _)); exact HB.out.alloc HB.out.size _)⟩
          case measure => simp [intOf] <;> omega
      · have q1 : decide (bk = ak) = false := decide_eq_false h1
        have q2 : (bk == ak) = false := by simp [h1]
        go_upto_region 5 with (fail)
        go_wp2_with fail
        go_roundw
        case rel => exact ⟨k + 1, m + 1, by go_num, by omega, by go_num, by omega, hide (by rw [HT.out, if_neg (by simp [Ne.symm h1]), ← HM.out]), hide (by (repeat' (with_reducible refine Below.setCell ?_ (by first | (simp; done) | (simp; omega)) _)); exact HB.out.alloc HB.out.size _)⟩
        case measure => simp [intOf] <;> omega
set_option maxRecDepth 100000 in
set_option maxHeartbeats 8000000 in
theorem r38missed_any (w : World) (A : Option Addr) (n c : Nat) (xs : List Au) (hR : Rs w none 6 Au.vals A xs) (hl : xs.length = n) (hn : n ≤ 4294967296) :
    Calls Tryz.prog 14 #[.slice A n c] w fun e w' => e = .returned (.int .i64 (missOf xs : Int)) ∧ Below w.heap.size w w' := by
  have HR := hide hR
  have HL := hide hl
  clear hR hl
  go_enter Tryz.func14, Tryz.ntmps14
  go_upto_region 3 with (fail)
  go_loopw [3, 4] (fun u v wr => ∃ k m : Nat, v = .int .i64 (k : Int) ∧ k ≤ n ∧ u = .int .i64 (m : Int) ∧ m ≤ k ∧ Hid (m = missOf (xs.take k)) ∧ Hid (Below w.heap.size w wr)) (fun _ v _ => n - (intOf v).toNat)
  case atStart => exact ⟨0, 0, rfl, by omega, rfl, by omega, hide rfl, hide (Below.refl _ _)⟩
  case round =>
    obtain ⟨k, m, rfl, hk, rfl, hm, HM, HB⟩ := hrel
    by_cases hkn : k = n
    · subst hkn
      go_wp2_with fail
      go_ret
      exact ⟨by rw [HM.out, List.take_of_length_le (by rw [HL.out]; omega)]; rfl, HB.out⟩
    · have hklt : (k : Int) < (n : Int) := by omega
      have hk0 : (0 : Int) ≤ (k : Int) := by omega
      obtain ⟨x, hx⟩ : ∃ x, xs[k]? = some x := ⟨_, List.getElem?_eq_getElem (by have := HL.out; omega)⟩
      obtain ⟨b, o, hA, hb, c0, c1, c2, c3, c4, c5⟩ := au_at (HR.out.below HB.out) hx
      have HT := hide (missOf_take hx)
      clear hx
      subst hA
      obtain ⟨⟨ak, av, ae⟩, ⟨bk, bv, be⟩⟩ := x
      dsimp only at c0 c1 c2 c3 c4 c5
      by_cases h1 : bk = ak
      · subst h1
        by_cases h2 : bv = av
        · subst h2
          by_cases h3 : be = ae
          · subst h3
            go_upto_region 5 with (fail)
            go_region
            go_wp2_with fail
            go_roundw
            case rel => exact ⟨k + 1, m, by go_num, by omega, rfl, by omega, hide (by rw [HT.out, if_pos rfl, ← HM.out]; rfl), hide HB.out.drew⟩
            case measure => simp [intOf] <;> omega
          · have q1 : decide (be = ae) = false := decide_eq_false h3
            have q2 : (be == ae) = false := by simp [h3]
            go_upto_region 5 with (fail)
            go_region
            go_wp2_with fail
            go_roundw
            case rel => exact ⟨k + 1, m + 1, by go_num, by omega, by go_num, by omega, hide (by rw [HT.out, if_neg (by simp [Ne.symm h3]), ← HM.out]), hide HB.out.drew⟩
            case measure => simp [intOf] <;> omega
        · have q1 : decide (bv = av) = false := decide_eq_false h2
          have q2 : (bv == av) = false := by simp [h2]
          go_upto_region 5 with (fail)
          go_region
          go_wp2_with fail
          go_roundw
          case rel => exact ⟨k + 1, m + 1, by go_num, by omega, by go_num, by omega, hide (by rw [HT.out, if_neg (by simp [Ne.symm h2]), ← HM.out]), hide HB.out.drew⟩
          case measure => simp [intOf] <;> omega
      · have q1 : decide (bk = ak) = false := decide_eq_false h1
        have q2 : (bk == ak) = false := by simp [h1]
        go_upto_region 5 with (fail)
        go_region
        go_wp2_with fail
        go_roundw
        case rel => exact ⟨k + 1, m + 1, by go_num, by omega, by go_num, by omega, hide (by rw [HT.out, if_neg (by simp [Ne.symm h1]), ← HM.out]), hide HB.out.drew⟩
        case measure => simp [intOf] <;> omega
end Go.Proofs.YtjkffgcikbkjeaaGreat

/- Words for the summary: choices, sums, boxes. -/
namespace Go.Proofs.YtjkffgcikbkjeaaGreat
open Go.RowKit

def V7.st (v : V7) (k : Nat) (u : Value) : V7 := match k with
  | 0 => { v with v0 := u }
  | 1 => { v with v1 := u }
  | 2 => { v with v2 := u }
  | 3 => { v with v3 := u }
  | 4 => { v with v4 := u }
  | 5 => { v with v5 := u }
  | _ => { v with v6 := u }
theorem B7.st {w : World} {b : Nat} {v : V7} (h : B7 w b v) (k : Nat) (hk : k < 7) (u : Value) : B7 (w.setCell ⟨b, k, none⟩ u) b (v.st k u) := by
  obtain ⟨h0, ⟨h1, h2, h3, h4, h5, h6, h7⟩, h8, h9⟩ := h
  have h10 : ∀ j, (w.setCell ⟨b, k, none⟩ u).cell? ⟨b, j + 7, none⟩ = none := fun j => by
    have h := isSome_setCell w ⟨b, k, none⟩ ⟨b, j + 7, none⟩ u
    rw [h9 j] at h
    exact Option.isSome_eq_false_iff.1 h |> Option.isNone_iff_eq_none.1
  have h11 : ∀ j, (w.setCell ⟨b, k, none⟩ u).frozen? ⟨b, j, none⟩ = false := fun j => by have := h8 j; go_simp
  refine ⟨by simpa using h0, ?_, h11, h10⟩
  clear h10 h11 h9 h8
  match k, hk with
  | 0, _ => simp only [V7.st]; refine ⟨?_, ?_, ?_, ?_, ?_, ?_, ?_⟩ <;> (go_simp; done)
  | 1, _ => simp only [V7.st]; refine ⟨?_, ?_, ?_, ?_, ?_, ?_, ?_⟩ <;> (go_simp; done)
  | 2, _ => simp only [V7.st]; refine ⟨?_, ?_, ?_, ?_, ?_, ?_, ?_⟩ <;> (go_simp; done)
  | 3, _ => simp only [V7.st]; refine ⟨?_, ?_, ?_, ?_, ?_, ?_, ?_⟩ <;> (go_simp; done)
  | 4, _ => simp only [V7.st]; refine ⟨?_, ?_, ?_, ?_, ?_, ?_, ?_⟩ <;> (go_simp; done)
  | 5, _ => simp only [V7.st]; refine ⟨?_, ?_, ?_, ?_, ?_, ?_, ?_⟩ <;> (go_simp; done)
  | 6, _ => simp only [V7.st]; refine ⟨?_, ?_, ?_, ?_, ?_, ?_, ?_⟩ <;> (go_simp; done)
/-- A choice. -/
structure Ch where
  pk : ByteArray
  ts : ByteArray
  r : Int
  rec' : Int
  kk : Int
  ka : ByteArray
  kb : ByteArray
  z : Rz
def Ch.vals (x : Ch) : List Value := [.string x.pk, .string x.ts, .int .i64 x.r, .int .i64 x.rec', .int .i64 x.kk, .string x.ka, .string x.kb, .int .i64 x.z.k, .int .i64 x.z.v, .int .i64 x.z.e]
/-- A summary. -/
structure Sm where
  c : Int
  r : Int
  s : Int
  sp : Int
  a : Int
  m : Int
  b : Int
def Sm.zero : Sm := ⟨0, 0, 0, 0, 0, 0, 0⟩
def Sm.v7 (x : Sm) : V7 := ⟨.int .i64 x.c, .int .i64 x.r, .int .i64 x.s, .int .i64 x.sp, .int .i64 x.a, .int .i64 x.m, .int .i64 x.b⟩
def zipC (chs : List Ch) (ks : List Int) : List (Int × Int) := (chs.map Ch.r).zip ks
def sumR (chs : List Ch) (ks : List Int) (L : Ld) (an ms V E : Int) : Sm × Int :=
  if chs.length ≠ ks.length then (.zero, 1) else if 64 < chs.length then (.zero, 2) else
  match smC (zipC chs ks) 0 0 0 with
  | none => (.zero, 3)
  | some (C, R, S) => if L.ok = false then (.zero, 1) else if E ≠ 0 then (.zero, E) else (⟨C, R, S, spentOf L.tks, an, ms, V⟩, 0)
section
variable {chs : List Ch} {ks : List Int} {L : Ld} {an ms V E C R S : Int} {k : Nat} {x : Ch} {y : Int}
theorem sumR_ne (h : chs.length ≠ ks.length) : sumR chs ks L an ms V E = (.zero, 1) := by unfold sumR; rw [if_pos h]
theorem sumR_big (h : chs.length = ks.length) (h2 : 64 < chs.length) : sumR chs ks L an ms V E = (.zero, 2) := by unfold sumR; rw [if_neg (by simp [h]), if_pos h2]
theorem sumR_none (h : chs.length = ks.length) (h2 : chs.length ≤ 64) (h3 : smC (zipC chs ks) 0 0 0 = none) : sumR chs ks L an ms V E = (.zero, 3) := by unfold sumR; rw [if_neg (by simp [h]), if_neg (by omega), h3]
theorem sumR_bad (h : chs.length = ks.length) (h2 : chs.length ≤ 64) (h3 : smC (zipC chs ks) 0 0 0 = some (C, R, S)) (h4 : L.ok = false) : sumR chs ks L an ms V E = (.zero, 1) := by unfold sumR; rw [if_neg (by simp [h]), if_neg (by omega), h3]; simp only; rw [if_pos h4]
theorem sumR_E (h : chs.length = ks.length) (h2 : chs.length ≤ 64) (h3 : smC (zipC chs ks) 0 0 0 = some (C, R, S)) (h4 : L.ok = true) (h5 : E ≠ 0) : sumR chs ks L an ms V E = (.zero, E) := by unfold sumR; rw [if_neg (by simp [h]), if_neg (by omega), h3]; simp only; rw [if_neg (by simp [h4]), if_pos h5]
theorem sumR_ok (h : chs.length = ks.length) (h2 : chs.length ≤ 64) (h3 : smC (zipC chs ks) 0 0 0 = some (C, R, S)) (h4 : L.ok = true) (h5 : E = 0) : sumR chs ks L an ms V E = (⟨C, R, S, spentOf L.tks, an, ms, V⟩, 0) := by unfold sumR; rw [if_neg (by simp [h]), if_neg (by omega), h3]; simp only; rw [if_neg (by simp [h4]), if_neg (by simp [h5])]
theorem zip_drop (hx : chs[k]? = some x) (hy : ks[k]? = some y) : (zipC chs ks).drop k = (x.r, y) :: (zipC chs ks).drop (k + 1) := by
  have h : (zipC chs ks)[k]? = some (x.r, y) := by
    unfold zipC
    rw [List.getElem?_zip_eq_some]
    exact ⟨by rw [List.getElem?_map, hx]; rfl, hy⟩
  obtain ⟨hl, he⟩ := List.getElem?_eq_some_iff.1 h
  rw [List.drop_eq_getElem_cons hl, he]
theorem smC_bad (hx : chs[k]? = some x) (hy : ks[k]? = some y) (hb : y < 0 ∨ 1048576 < y) : smC ((zipC chs ks).drop k) C R S = none := by
  rw [zip_drop hx hy]; unfold smC; rw [if_pos hb]
theorem smC_car (hx : chs[k]? = some x) (hy : ks[k]? = some y) (hb : ¬ (y < 0 ∨ 1048576 < y)) (h : x.r = 0) : smC ((zipC chs ks).drop k) C R S = smC ((zipC chs ks).drop (k + 1)) (C + 1) R (S + y) := by
  rw [zip_drop hx hy]; conv => lhs; unfold smC
  rw [if_neg hb, if_pos h]
theorem smC_amb (hx : chs[k]? = some x) (hy : ks[k]? = some y) (hb : ¬ (y < 0 ∨ 1048576 < y)) (h : x.r = 5) : smC ((zipC chs ks).drop k) C R S = smC ((zipC chs ks).drop (k + 1)) C R S := by
  rw [zip_drop hx hy]; conv => lhs; unfold smC
  rw [if_neg hb, if_neg (by simp [h]), if_pos h]
theorem smC_run (hx : chs[k]? = some x) (hy : ks[k]? = some y) (hb : ¬ (y < 0 ∨ 1048576 < y)) (h : x.r ≠ 0) (h5 : x.r ≠ 5) : smC ((zipC chs ks).drop k) C R S = smC ((zipC chs ks).drop (k + 1)) C (R + 1) S := by
  rw [zip_drop hx hy]; conv => lhs; unfold smC
  rw [if_neg hb, if_neg h, if_neg h5]
theorem smC_end (h1 : chs.length = k) (h2 : ks.length = k) : smC ((zipC chs ks).drop k) C R S = some (C, R, S) := by
  rw [List.drop_of_length_le (by simp [zipC, h1, h2])]; rfl
end
/-- The boxes of a summary: the ledger's, the level's, the result's, the sums'. -/
structure SB (w v : World) (g : Nat) (A : Option Addr) (n c : Nat) (L : Ld) (q : Fa) (r s : Sm) : Prop where
  l : Cb v w.heap.size (ldc A n c L)
  f : Cb v (w.heap.size + 1) [.slice q.A q.n q.c, .slice q.B q.m q.d]
  r : B7 v (w.heap.size + 2) r.v7
  s : B7 v g s.v7
  hg : w.heap.size + 2 < g
  bw : Below w.heap.size w v
section
variable {w v v' : World} {g : Nat} {A : Option Addr} {n c : Nat} {L : Ld} {q : Fa} {r r' s s' : Sm}
theorem SB.call (h : SB w v g A n c L q r s) (hb : Below v.heap.size v v') : SB w v' g A n c L q r s :=
  ⟨h.l.below hb, h.f.below hb, h.r.below hb, h.s.below hb, h.hg, h.bw.trans (hb.mono h.bw.size)⟩
theorem SB.drew (h : SB w v g A n c L q r s) : SB w v.drew g A n c L q r s := h.call (Below.refl _ _).drew
theorem SB.alloc (h : SB w v g A n c L q r s) (o : Obj) : SB w (v.alloc o) g A n c L q r s := h.call ((Below.refl _ _).alloc (Nat.le_refl _) _)
theorem SB.sets (h : SB w v g A n c L q r s) (hf : Fr v v' (fun i => i = g)) (hs : B7 v' g s'.v7) : SB w v' g A n c L q r s' :=
  have hg := h.hg
  ⟨h.l.one hf (by omega), h.f.one hf (by omega), h.r.fr hf (by omega), hs, hg, h.bw.trans (hf.below h.bw.size (fun k hk e => by omega))⟩
theorem SB.setr (h : SB w v g A n c L q r s) (hf : Fr v v' (fun i => i = w.heap.size + 2)) (hs : B7 v' (w.heap.size + 2) r'.v7) : SB w v' g A n c L q r' s :=
  have hg := h.hg
  ⟨h.l.one hf (by omega), h.f.one hf (by omega), hs, h.s.fr hf (by omega), hg, h.bw.trans (hf.below h.bw.size (fun k hk e => by omega))⟩
end
end Go.Proofs.YtjkffgcikbkjeaaGreat

/- The upper bound: program and reference say the same. -/
namespace Go.Proofs.YtjkffgcikbkjeaaGreat
open Go.RowKit

theorem lst_exU (g : Nat → Bool) : ∀ N, ∃ v, IsLst g N v
  | 0 => ⟨0, Nat.le_refl _, fun h hh => by omega, fun h => by omega⟩
  | N + 1 => by
    obtain ⟨v, h1, h2, h3⟩ := lst_exU g N
    by_cases hv : v < N
    · exact ⟨v, by omega, h2, fun _ => h3 hv⟩
    · obtain rfl : v = N := by omega
      cases hg : g v with
      | true => exact ⟨v, by omega, h2, fun _ => hg⟩
      | false => exact ⟨v + 1, by omega, fun h hh => by
          by_cases he : h = v
          · rw [he]; exact hg
          · exact h2 h (by omega), fun h => by omega⟩
theorem upper_both (q : Fa) (lq kq : List Nat) (n m : Int) : ∃ (V E : Int), (∀ W, Fq W q lq kq → Calls Tryz.prog 22 #[.int .i64 n, .int .i64 m, .agg #[.slice q.A q.n q.c, .slice q.B q.m q.d]] W fun e w' => e = .returned (.tuple #[.int .i64 V, .int .i64 E]) ∧ Below W.heap.size W w') ∧ (∀ W, Fq W q lq kq → Calls Tryz.prog 24 #[.int .i64 n, .int .i64 m, .agg #[.slice q.A q.n q.c, .slice q.B q.m q.d]] W fun e w' => e = .returned (.tuple #[.int .i64 V, .int .i64 E]) ∧ Below W.heap.size W w') := by
  by_cases hE : repE (fracOf lq kq) n m = 0
  · obtain ⟨r, hr, hi, h0, h32, hm0, hmn⟩ := repE_ok hE
    obtain ⟨n', rfl⟩ : ∃ n' : Nat, n = (n' : Int) := ⟨n.toNat, by omega⟩
    obtain ⟨v, hv⟩ := lst_exU (fun (b : Nat) => decide (atM (mkRat (b : Int) 1000) n' m ≤ r)) 1000
    refine ⟨(v : Int), 0, fun W hW => ?_, fun W hW => ?_⟩
    · exact (upper_ok W n' m q r (fo_of hW hr) hi (by omega) hm0 hmn).mono fun e w' ⟨v', h1, h2, h3⟩ => ⟨by rw [h1, hv.uniq h2], h3⟩
    · exact (r38up_ok W n' m q r (fo_of hW hr) hi (by omega) hm0 hmn).mono fun e w' ⟨v', h1, h2, h3⟩ => ⟨by rw [h1, hv.uniq h2], h3⟩
  · exact ⟨0, repE (fracOf lq kq) n m, fun W hW => upper_bad W n m q lq kq hW hE, fun W hW => r38up_bad W n m q lq kq hW hE⟩
end Go.Proofs.YtjkffgcikbkjeaaGreat

/- Contract: Sum. -/
namespace Go.Proofs.YtjkffgcikbkjeaaGreat
open Go.RowKit

set_option maxRecDepth 100000 in
set_option maxHeartbeats 16000000 in
theorem psum_any (w : World) (CA : Option Addr) (cn cc : Nat) (chs : List Ch) (KA : Option Addr) (kn kc : Nat) (ks : List Int) (A : Option Addr) (n c : Nat) (L : Ld) (AA : Option Addr) (an ac : Nat) (aus : List Au) (q : Fa) (lq kq : List Nat) (V E : Int)
    (hC : Rs w none 10 Ch.vals CA chs) (hcn : chs.length = cn) (hK : Rs w none 1 iv KA ks) (hkn : ks.length = kn) (hL : Rs w none 10 Tk.vals A L.tks) (hn : L.tks.length = n) (hn63 : n ≤ 4294967296) (hA : Rs w none 6 Au.vals AA aus) (han : aus.length = an) (ha63 : an ≤ 4294967296) (hF : Fq w q lq kq)
    (hU : ∀ W, Fq W q lq kq → Calls Tryz.prog 22 #[.int .i64 (an : Int), .int .i64 (missOf aus : Int), .agg #[.slice q.A q.n q.c, .slice q.B q.m q.d]] W fun e w' => e = .returned (.tuple #[.int .i64 V, .int .i64 E]) ∧ Below W.heap.size W w') :
    Calls Tryz.prog 10 #[.slice CA cn cc, .slice KA kn kc, .agg #[.slice A n c, .int .i64 L.r0, .int .i64 L.r1, .int .i64 L.r2, .int .i64 L.r3, .int .i64 L.r4, .int .i64 L.r5], .slice AA an ac, .agg #[.slice q.A q.n q.c, .slice q.B q.m q.d]] w fun e w' => e = .returned (.tuple #[.agg #[.int .i64 (sumR chs ks L an (missOf aus) V E).1.c, .int .i64 (sumR chs ks L an (missOf aus) V E).1.r, .int .i64 (sumR chs ks L an (missOf aus) V E).1.s, .int .i64 (sumR chs ks L an (missOf aus) V E).1.sp, .int .i64 (sumR chs ks L an (missOf aus) V E).1.a, .int .i64 (sumR chs ks L an (missOf aus) V E).1.m, .int .i64 (sumR chs ks L an (missOf aus) V E).1.b], .int .i64 (sumR chs ks L an (missOf aus) V E).2]) ∧ Below w.heap.size w w' := by
  have HC := hide hC
  have HCN := hide hcn
  have HK := hide hK
  have HKN := hide hkn
  have HL := hide hL
  have HN := hide hn
  have HA := hide hA
  have HAN := hide han
  have HF := hide hF
  have HU := hide hU
  clear hC hcn hK hkn hL hn hA han hF hU
  go_enter Tryz.func10, Tryz.ntmps10
  go_upto_region 1 with (fail)
  generalize hW : World.alloc (World.alloc (World.alloc w _) _) _ = v
  have HB0 := hide (show Cb v w.heap.size (ldc A n c L) ∧ Cb v (w.heap.size + 1) [.slice q.A q.n q.c, .slice q.B q.m q.d] ∧ B7 v (w.heap.size + 2) Sm.zero.v7 ∧ Below w.heap.size w v by rw [← hW]; exact ⟨((Cb.mk0 (ldc A n c L) (by simp [ldc]) _ rfl).alloc _).alloc _, (Cb.mk0 (w := w.alloc _) [.slice q.A q.n q.c, .slice q.B q.m q.d] (by simp) _ (by simp)).alloc _, b7_at (by simp), ((((Below.refl _ _).alloc (Nat.le_refl _) _).alloc (by simp) _ : Below w.heap.size w _)).alloc (by simp; omega) _⟩)
  clear hW
  by_cases hne : cn = kn
  · subst hne
    have hnek : (cn : Int) = (cn : Int) := rfl
    by_cases h64 : 64 < cn
    · have h64i : (64 : Int) < (cn : Int) := by omega
      obtain ⟨rz, ⟨r0, r1, r2, r3, r4, r5, r6⟩, rf, -⟩ := HB0.out.2.2.1; dsimp only [Sm.v7, Sm.zero] at r0 r1 r2 r3 r4 r5 r6
      go_wp2_with fail
      generalize hW : World.setCell (World.setCell (World.setCell (World.setCell (World.setCell (World.setCell (World.setCell v _ _) _ _) _ _) _ _) _ _) _ _) _ _ = v5
      have hR5 := (show B7 v5 (w.heap.size + 2) Sm.zero.v7 by rw [← hW]; exact HB0.out.2.2.1.put Sm.zero.v7)
      have HB5 := hide (show Below w.heap.size w v5 from HB0.out.2.2.2.trans ((show Fr v v5 (fun i => i = w.heap.size + 2) by rw [← hW]; exact fr_put7).below HB0.out.2.2.2.size (fun k hk e => by omega)))
      clear hW
      clear r0 r1 r2 r3 r4 r5 r6 rz rf
      obtain ⟨rz, ⟨r0, r1, r2, r3, r4, r5, r6⟩, rf, -⟩ := hR5; dsimp only [Sm.v7, Sm.zero] at r0 r1 r2 r3 r4 r5 r6
      refine bodyPost_ret (v := .tuple #[.agg #[.int .i64 0, .int .i64 0, .int .i64 0, .int .i64 0, .int .i64 0, .int .i64 0, .int .i64 0], .int .i64 2]) (by simp [results, Tryz.results10, go_sem, *]) rfl ⟨by rw [sumR_big (by rw [HCN.out, HKN.out]) (by rw [HCN.out]; omega)] <;> rfl, HB5.out⟩
    · have h64i : ¬ (64 : Int) < (cn : Int) := by omega
      obtain ⟨ms, hms⟩ : ∃ ms, ms = missOf aus := ⟨_, rfl⟩
      have HMS := hide hms
      clear hms
      go_upto_region 6 with (go_at_call 13; (with_reducible refine (pmissed_any _ AA an ac aus (HA.out.below HB0.out.2.2.2) HAN.out ha63).mono ?_); rintro e w1 ⟨rfl, hb⟩; rw [← HMS.out]; have HB1 := hide hb; clear hb)
      generalize hW : World.alloc w1 _ = v2
      have HS := hide (show SB w v2 w1.heap.size A n c L q Sm.zero ⟨0, 0, 0, 0, an, ms, 0⟩ by rw [← hW]; exact ⟨(HB0.out.1.below HB1.out).alloc _, (HB0.out.2.1.below HB1.out).alloc _, (HB0.out.2.2.1.below HB1.out).below ((Below.refl _ _).alloc (Nat.le_refl _) _), b7_at rfl, by have := HB0.out.2.2.1.1; have := HB1.out.size; omega, HB0.out.2.2.2.trans ((HB1.out.trans (((Below.refl _ _).alloc (Nat.le_refl _) _ : Below w1.heap.size w1 _).mono HB1.out.size)).mono HB0.out.2.2.2.size)⟩)
      obtain ⟨g, hg⟩ : ∃ g, g = w1.heap.size := ⟨_, rfl⟩
      rw [← hg] at HS ⊢
      clear hW hg HB1 HB0
      go_upto_region 7 with (fail)
      go_loopw [35] (fun iv' wr => ∃ (k : Nat) (C R S : Int), iv' = .int .i64 (k : Int) ∧ k ≤ cn ∧ 0 ≤ C ∧ C ≤ k ∧ 0 ≤ R ∧ R ≤ k ∧ 0 ≤ S ∧ S ≤ 1048576 * k ∧ Hid (smC ((zipC chs ks).drop k) C R S = smC (zipC chs ks) 0 0 0) ∧ Hid (SB w wr g A n c L q Sm.zero ⟨C, R, S, 0, an, ms, 0⟩)) (fun iv' _ => cn - (intOf iv').toNat)
      case atStart => exact ⟨0, 0, 0, 0, rfl, by omega, by omega, by omega, by omega, by omega, by omega, by omega, hide (by rw [List.drop_zero]), HS⟩
      case round =>
        obtain ⟨k, C, R, S, rfl, hk, hC0, hC1, hR0, hR1, hS0, hS1, HM, HSr⟩ := hrel
        clear HS
        have hg2 := HSr.out.hg
        by_cases hkn : k = cn
        · subst hkn
          have HM2 := hide (show smC (zipC chs ks) 0 0 0 = some (C, R, S) by rw [← HM.out]; exact smC_end HCN.out HKN.out)
          clear HM
          cases hok : L.ok
          · have HOK := hide hok
            clear hok
            obtain ⟨a0, a1, a2, a3, a4, a5, a6⟩ : _ ∧ _ ∧ _ ∧ _ ∧ _ ∧ _ ∧ _ := ⟨HSr.out.l.cell 0 _ rfl, HSr.out.l.cell 1 _ rfl, HSr.out.l.cell 2 _ rfl, HSr.out.l.cell 3 _ rfl, HSr.out.l.cell 4 _ rfl, HSr.out.l.cell 5 _ rfl, HSr.out.l.cell 6 _ rfl⟩; have az := HSr.out.l.sz
            obtain ⟨sz, ⟨s0, s1, s2, s3, s4, s5, s6⟩, sf, -⟩ := HSr.out.s; dsimp only [Sm.v7, Sm.zero] at s0 s1 s2 s3 s4 s5 s6
            go_upto_region 18 with (fail)
            go_upto_region 19 with (go_at_call 12; (with_reducible refine (pspent_any _ A c n L (HL.out.below HSr.out.bw) HN.out hn63).mono ?_); rintro e w3 ⟨rfl, hb⟩; rw [HOK.out]; have HS3 := hide (HSr.out.call hb); clear hb; clear s0 s1 s2 s3 s4 s5 s6 sz sf; obtain ⟨sz, ⟨s0, s1, s2, s3, s4, s5, s6⟩, sf, -⟩ := HS3.out.s; dsimp only [Sm.v7, Sm.zero] at s0 s1 s2 s3 s4 s5 s6)
            generalize hW : World.setCell w3 _ _ = v4
            have HS4 := hide (HS3.out.sets (s' := ⟨C, R, S, 0, an, ms, 0⟩) (show Fr w3 v4 _ by rw [← hW]; exact Fr.setCell (Fr.refl _ _) (Or.inr (by rfl)) _) (by rw [← hW]; exact HS3.out.s.st 3 (by omega) _))
            clear hW
            clear s0 s1 s2 s3 s4 s5 s6 sz sf
            clear a0 a1 a2 a3 a4 a5 a6 az
            obtain ⟨rz, ⟨r0, r1, r2, r3, r4, r5, r6⟩, rf, -⟩ := HS4.out.r; dsimp only [Sm.v7, Sm.zero] at r0 r1 r2 r3 r4 r5 r6
            go_wp2_with fail
            generalize hW : World.setCell (World.setCell (World.setCell (World.setCell (World.setCell (World.setCell (World.setCell v4 _ _) _ _) _ _) _ _) _ _) _ _) _ _ = v5
            have HS5 := hide (HS4.out.setr (r' := .zero) (show Fr v4 v5 _ by rw [← hW]; exact fr_put7) (by rw [← hW]; exact HS4.out.r.put Sm.zero.v7))
            clear hW
            clear r0 r1 r2 r3 r4 r5 r6 rz rf
            obtain ⟨rz, ⟨r0, r1, r2, r3, r4, r5, r6⟩, rf, -⟩ := HS5.out.r; dsimp only [Sm.v7, Sm.zero] at r0 r1 r2 r3 r4 r5 r6
            refine bodyPost_ret (v := .tuple #[.agg #[.int .i64 0, .int .i64 0, .int .i64 0, .int .i64 0, .int .i64 0, .int .i64 0, .int .i64 0], .int .i64 1]) (by simp [results, Tryz.results10, go_sem, *]) rfl ⟨by rw [sumR_bad (by rw [HCN.out, HKN.out]) (by rw [HCN.out]; omega) HM2.out HOK.out] <;> rfl, HS5.out.bw⟩
          · have HOK := hide hok
            clear hok
            obtain ⟨a0, a1, a2, a3, a4, a5, a6⟩ : _ ∧ _ ∧ _ ∧ _ ∧ _ ∧ _ ∧ _ := ⟨HSr.out.l.cell 0 _ rfl, HSr.out.l.cell 1 _ rfl, HSr.out.l.cell 2 _ rfl, HSr.out.l.cell 3 _ rfl, HSr.out.l.cell 4 _ rfl, HSr.out.l.cell 5 _ rfl, HSr.out.l.cell 6 _ rfl⟩; have az := HSr.out.l.sz
            obtain ⟨sz, ⟨s0, s1, s2, s3, s4, s5, s6⟩, sf, -⟩ := HSr.out.s; dsimp only [Sm.v7, Sm.zero] at s0 s1 s2 s3 s4 s5 s6
            go_upto_region 18 with (fail)
            go_upto_region 19 with (go_at_call 12; (with_reducible refine (pspent_any _ A c n L (HL.out.below HSr.out.bw) HN.out hn63).mono ?_); rintro e w3 ⟨rfl, hb⟩; rw [HOK.out]; have HS3 := hide (HSr.out.call hb); clear hb; clear s0 s1 s2 s3 s4 s5 s6 sz sf; obtain ⟨sz, ⟨s0, s1, s2, s3, s4, s5, s6⟩, sf, -⟩ := HS3.out.s; dsimp only [Sm.v7, Sm.zero] at s0 s1 s2 s3 s4 s5 s6)
            generalize hW : World.setCell w3 _ _ = v4
            obtain ⟨sp, hsp⟩ : ∃ sp, sp = spentOf L.tks := ⟨_, rfl⟩
            have HS4 := hide (HS3.out.sets (s' := ⟨C, R, S, spentOf L.tks, an, ms, 0⟩) (show Fr w3 v4 _ by rw [← hW]; exact Fr.setCell (Fr.refl _ _) (Or.inr (by rfl)) _) (by rw [← hW]; exact HS3.out.s.st 3 (by omega) _))
            have HSP := hide hsp
            rw [← hsp] at HS4
            clear hW hsp
            clear s0 s1 s2 s3 s4 s5 s6 sz sf
            clear a0 a1 a2 a3 a4 a5 a6 az
            obtain ⟨sz, ⟨s0, s1, s2, s3, s4, s5, s6⟩, sf, -⟩ := HS4.out.s; dsimp only [Sm.v7, Sm.zero] at s0 s1 s2 s3 s4 s5 s6
            obtain ⟨q0, q1⟩ : _ ∧ _ := ⟨HS4.out.f.cell 0 _ rfl, HS4.out.f.cell 1 _ rfl⟩; have qz := HS4.out.f.sz
            have HU4 := hide (HU.out v4 (HF.out.below HS4.out.bw))
            rw [← HMS.out] at HU4
            by_cases hE : E = 0
            · subst hE
              go_upto_region 21 with (fail)
              go_upto_region 22 with (go_at_call 22; (with_reducible refine HU4.out.mono ?_); rintro e w5 ⟨rfl, hb⟩; have HS5 := hide (HS4.out.call hb); clear hb; clear s0 s1 s2 s3 s4 s5 s6 sz sf; obtain ⟨sz, ⟨s0, s1, s2, s3, s4, s5, s6⟩, sf, -⟩ := HS5.out.s; dsimp only [Sm.v7, Sm.zero] at s0 s1 s2 s3 s4 s5 s6)
              generalize hW : World.setCell w5 _ _ = v6
              have HS6 := hide (HS5.out.sets (s' := ⟨C, R, S, sp, an, ms, V⟩) (show Fr w5 v6 _ by rw [← hW]; exact Fr.setCell (Fr.refl _ _) (Or.inr (by rfl)) _) (by rw [← hW]; exact HS5.out.s.st 6 (by omega) _))
              clear hW
              clear s0 s1 s2 s3 s4 s5 s6 sz sf
              clear q0 q1 qz
              obtain ⟨sz, ⟨s0, s1, s2, s3, s4, s5, s6⟩, sf, -⟩ := HS6.out.s; dsimp only [Sm.v7, Sm.zero] at s0 s1 s2 s3 s4 s5 s6
              obtain ⟨rz, ⟨r0, r1, r2, r3, r4, r5, r6⟩, rf, -⟩ := HS6.out.r; dsimp only [Sm.v7, Sm.zero] at r0 r1 r2 r3 r4 r5 r6
              go_wp2_with fail
              generalize hW : World.setCell (World.setCell (World.setCell (World.setCell (World.setCell (World.setCell (World.setCell v6 _ _) _ _) _ _) _ _) _ _) _ _) _ _ = v7
              have HS7 := hide (HS6.out.setr (r' := ⟨C, R, S, sp, an, ms, V⟩) (show Fr v6 v7 _ by rw [← hW]; exact fr_put7) (by rw [← hW]; exact HS6.out.r.put (Sm.v7 ⟨C, R, S, sp, an, ms, V⟩)))
              clear hW
              clear r0 r1 r2 r3 r4 r5 r6 rz rf
              clear s0 s1 s2 s3 s4 s5 s6 sz sf
              obtain ⟨rz, ⟨r0, r1, r2, r3, r4, r5, r6⟩, rf, -⟩ := HS7.out.r; dsimp only [Sm.v7, Sm.zero] at r0 r1 r2 r3 r4 r5 r6
              refine bodyPost_ret (v := .tuple #[.agg #[.int .i64 C, .int .i64 R, .int .i64 S, .int .i64 sp, .int .i64 an, .int .i64 ms, .int .i64 V], .int .i64 0]) (by simp [results, Tryz.results10, go_sem, *]) rfl ⟨by rw [sumR_ok (by rw [HCN.out, HKN.out]) (by rw [HCN.out]; omega) HM2.out HOK.out rfl, HSP.out, HMS.out] <;> rfl, HS7.out.bw⟩
            · have hE2 : decide (E = 0) = false := decide_eq_false hE
              go_upto_region 21 with (fail)
              go_upto_region 22 with (go_at_call 22; (with_reducible refine HU4.out.mono ?_); rintro e w5 ⟨rfl, hb⟩; have HS5 := hide (HS4.out.call hb); clear hb; clear s0 s1 s2 s3 s4 s5 s6 sz sf; obtain ⟨sz, ⟨s0, s1, s2, s3, s4, s5, s6⟩, sf, -⟩ := HS5.out.s; dsimp only [Sm.v7, Sm.zero] at s0 s1 s2 s3 s4 s5 s6)
              generalize hW : World.setCell w5 _ _ = v6
              have HS6 := hide (HS5.out.sets (s' := ⟨C, R, S, sp, an, ms, V⟩) (show Fr w5 v6 _ by rw [← hW]; exact Fr.setCell (Fr.refl _ _) (Or.inr (by rfl)) _) (by rw [← hW]; exact HS5.out.s.st 6 (by omega) _))
              clear hW
              clear s0 s1 s2 s3 s4 s5 s6 sz sf
              clear q0 q1 qz
              obtain ⟨rz, ⟨r0, r1, r2, r3, r4, r5, r6⟩, rf, -⟩ := HS6.out.r; dsimp only [Sm.v7, Sm.zero] at r0 r1 r2 r3 r4 r5 r6
              go_wp2_with fail
              generalize hW : World.setCell (World.setCell (World.setCell (World.setCell (World.setCell (World.setCell (World.setCell v6 _ _) _ _) _ _) _ _) _ _) _ _) _ _ = v7
              have HS7 := hide (HS6.out.setr (r' := .zero) (show Fr v6 v7 _ by rw [← hW]; exact fr_put7) (by rw [← hW]; exact HS6.out.r.put Sm.zero.v7))
              clear hW
              clear r0 r1 r2 r3 r4 r5 r6 rz rf
              obtain ⟨rz, ⟨r0, r1, r2, r3, r4, r5, r6⟩, rf, -⟩ := HS7.out.r; dsimp only [Sm.v7, Sm.zero] at r0 r1 r2 r3 r4 r5 r6
              refine bodyPost_ret (v := .tuple #[.agg #[.int .i64 0, .int .i64 0, .int .i64 0, .int .i64 0, .int .i64 0, .int .i64 0, .int .i64 0], .int .i64 E]) (by simp [results, Tryz.results10, go_sem, *]) rfl ⟨by rw [sumR_E (by rw [HCN.out, HKN.out]) (by rw [HCN.out]; omega) HM2.out HOK.out hE] <;> rfl, HS7.out.bw⟩
        · have hklt : (k : Int) < (cn : Int) := by omega
          have hk0 : (0 : Int) ≤ (k : Int) := by omega
          obtain ⟨x, hx⟩ : ∃ x, chs[k]? = some x := ⟨_, List.getElem?_eq_getElem (by have := HCN.out; omega)⟩
          obtain ⟨y, hy⟩ : ∃ y, ks[k]? = some y := ⟨_, List.getElem?_eq_getElem (by have := HKN.out; omega)⟩
          obtain ⟨b, o, hA1, -, hb, hc⟩ := (HC.out.below HSr.out.bw).at hx
          obtain ⟨b2, o2, hA2, -, hb2, hd⟩ := HK.out.at hy
          have c0 : wr.cell? ⟨b, o + k * 10, none⟩ = some (.string x.pk) := hc 0 _ rfl
          have c1 := hc 1 _ rfl
          have c2 := hc 2 _ rfl
          have c3 := hc 3 _ rfl
          have c4 := hc 4 _ rfl
          have c5 := hc 5 _ rfl
          have c6 := hc 6 _ rfl
          have c7 := hc 7 _ rfl
          have c8 := hc 8 _ rfl
          have c9 := hc 9 _ rfl
          have dw : w.cell? ⟨b2, o2 + k, none⟩ = some (.int .i64 y) := by have := hd 0 _ rfl; simpa using this
          clear hc hd
          have HX := hide hx
          have HY := hide hy
          clear hx hy
          subst hA1 hA2
          go_upto_region 9 with (fail)
          generalize hW : World.alloc wr _ = v3
          have HS3 := hide (show SB w v3 g A n c L q Sm.zero ⟨C, R, S, 0, an, ms, 0⟩ by rw [← hW]; exact HSr.out.alloc _)
          have HX3 := hide (show Cb v3 wr.heap.size x.vals by rw [← hW]; exact Cb.mk0 x.vals (by simp [Ch.vals]) _ rfl)
          have d3 : v3.cell? ⟨b2, o2 + k, none⟩ = some (.int .i64 y) := (HS3.out.bw.cell (by simpa using hb2)).trans dw
          obtain ⟨gx, hgx⟩ : ∃ gx, gx = wr.heap.size := ⟨_, rfl⟩
          rw [← hgx] at HX3 ⊢
          have x2 : v3.cell? ⟨gx, 2, none⟩ = some (.int .i64 x.r) := HX3.out.cell 2 _ rfl
          clear hW c0 c1 c2 c3 c4 c5 c6 c7 c8 c9 HSr hgx
          by_cases hy0 : y < 0
          · have q0 : decide (y < 0) = true := decide_eq_true hy0
            obtain ⟨rz, ⟨r0, r1, r2, r3, r4, r5, r6⟩, rf, -⟩ := HS3.out.r; dsimp only [Sm.v7, Sm.zero] at r0 r1 r2 r3 r4 r5 r6
            go_wp2_with fail
            generalize hW : World.setCell (World.setCell (World.setCell (World.setCell (World.setCell (World.setCell (World.setCell v3 _ _) _ _) _ _) _ _) _ _) _ _) _ _ = v5
            have HS5 := hide (HS3.out.setr (r' := .zero) (show Fr v3 v5 _ by rw [← hW]; exact fr_put7) (by rw [← hW]; exact HS3.out.r.put Sm.zero.v7))
            clear hW
            clear r0 r1 r2 r3 r4 r5 r6 rz rf
            obtain ⟨rz, ⟨r0, r1, r2, r3, r4, r5, r6⟩, rf, -⟩ := HS5.out.r; dsimp only [Sm.v7, Sm.zero] at r0 r1 r2 r3 r4 r5 r6
            refine bodyPost_ret (v := .tuple #[.agg #[.int .i64 0, .int .i64 0, .int .i64 0, .int .i64 0, .int .i64 0, .int .i64 0, .int .i64 0], .int .i64 3]) (by simp [results, Tryz.results10, go_sem, *]) rfl ⟨by rw [sumR_none (by rw [HCN.out, HKN.out]) (by rw [HCN.out]; omega) (by rw [← HM.out]; exact smC_bad HX.out HY.out (.inl hy0))] <;> rfl, HS5.out.bw⟩
          · have q0 : decide (y < 0) = false := decide_eq_false hy0
            by_cases hy1 : 1048576 < y
            · have q1 : decide (1048576 < y) = true := decide_eq_true hy1
              obtain ⟨rz, ⟨r0, r1, r2, r3, r4, r5, r6⟩, rf, -⟩ := HS3.out.r; dsimp only [Sm.v7, Sm.zero] at r0 r1 r2 r3 r4 r5 r6
              go_wp2_with fail
              generalize hW : World.setCell (World.setCell (World.setCell (World.setCell (World.setCell (World.setCell (World.setCell v3 _ _) _ _) _ _) _ _) _ _) _ _) _ _ = v5
              have HS5 := hide (HS3.out.setr (r' := .zero) (show Fr v3 v5 _ by rw [← hW]; exact fr_put7) (by rw [← hW]; exact HS3.out.r.put Sm.zero.v7))
              clear hW
              clear r0 r1 r2 r3 r4 r5 r6 rz rf
              obtain ⟨rz, ⟨r0, r1, r2, r3, r4, r5, r6⟩, rf, -⟩ := HS5.out.r; dsimp only [Sm.v7, Sm.zero] at r0 r1 r2 r3 r4 r5 r6
              refine bodyPost_ret (v := .tuple #[.agg #[.int .i64 0, .int .i64 0, .int .i64 0, .int .i64 0, .int .i64 0, .int .i64 0, .int .i64 0], .int .i64 3]) (by simp [results, Tryz.results10, go_sem, *]) rfl ⟨by rw [sumR_none (by rw [HCN.out, HKN.out]) (by rw [HCN.out]; omega) (by rw [← HM.out]; exact smC_bad HX.out HY.out (.inr hy1))] <;> rfl, HS5.out.bw⟩
            · have q1 : decide (1048576 < y) = false := decide_eq_false hy1
              have HBD := hide (show ¬ (y < 0 ∨ 1048576 < y) by omega)
              obtain ⟨sz, ⟨s0, s1, s2, s3, s4, s5, s6⟩, sf, -⟩ := HS3.out.s; dsimp only [Sm.v7, Sm.zero] at s0 s1 s2 s3 s4 s5 s6
              by_cases h0 : x.r = 0
              · rw [h0] at x2
                have HT := hide ((smC_car (C := C) (R := R) (S := S) HX.out HY.out HBD.out h0).symm.trans HM.out)
                go_upto_region 13 with (fail)
                generalize hW : World.setCell v3 _ _ = v4
                have HS4 := hide (HS3.out.sets (s' := ⟨C + 1, R, S, 0, an, ms, 0⟩) (show Fr v3 v4 _ by rw [← hW]; exact Fr.setCell (Fr.refl _ _) (Or.inr (by rfl)) _) (by rw [← hW]; exact HS3.out.s.st 0 (by omega) _))
                clear hW
                have d4 : v4.cell? ⟨b2, o2 + k, none⟩ = some (.int .i64 y) := (HS4.out.bw.cell (by simpa using hb2)).trans dw
                clear s0 s1 s2 s3 s4 s5 s6 sz sf
                obtain ⟨sz, ⟨s0, s1, s2, s3, s4, s5, s6⟩, sf, -⟩ := HS4.out.s; dsimp only [Sm.v7, Sm.zero] at s0 s1 s2 s3 s4 s5 s6
                clear d3
                go_region
                go_wp2_with fail
                go_roundw
                case rel => exact ⟨k + 1, C + 1, R, S + y, by go_num, by omega, by omega, by omega, by omega, by omega, by omega, by omega, HT, hide ((HS4.out.sets (s' := ⟨C + 1, R, S + y, 0, an, ms, 0⟩) (Fr.setCell (Fr.refl _ _) (Or.inr (by rfl)) _) (HS4.out.s.st 2 (by omega) _)).drew)⟩
                case measure => simp [intOf] <;> omega
              · have q2 : decide (x.r = 0) = false := decide_eq_false h0
                by_cases h5 : x.r = 5
                · rw [h5] at x2
                  have HT := hide ((smC_amb (C := C) (R := R) (S := S) HX.out HY.out HBD.out h5).symm.trans HM.out)
                  go_wp2_with fail
                  go_roundw
                  case rel => exact ⟨k + 1, C, R, S, by go_num, by omega, by omega, by omega, by omega, by omega, by omega, by omega, HT, HS3⟩
                  case measure => simp [intOf] <;> omega
                · have q3 : decide (x.r = 5) = false := decide_eq_false h5
                  have HT := hide ((smC_run (C := C) (R := R) (S := S) HX.out HY.out HBD.out h0 h5).symm.trans HM.out)
                  go_upto_region 16 with (fail)
                  generalize hW : World.setCell v3 _ _ = v4
                  have HS4 := hide (HS3.out.sets (s' := ⟨C, R + 1, S, 0, an, ms, 0⟩) (show Fr v3 v4 _ by rw [← hW]; exact Fr.setCell (Fr.refl _ _) (Or.inr (by rfl)) _) (by rw [← hW]; exact HS3.out.s.st 1 (by omega) _))
                  clear hW
                  go_wp2_with fail
                  go_roundw
                  case rel => exact ⟨k + 1, C, R + 1, S, by go_num, by omega, by omega, by omega, by omega, by omega, by omega, by omega, HT, HS4⟩
                  case measure => simp [intOf] <;> omega
  · have hnei : ¬ (kn : Int) = (cn : Int) := by omega
    obtain ⟨rz, ⟨r0, r1, r2, r3, r4, r5, r6⟩, rf, -⟩ := HB0.out.2.2.1; dsimp only [Sm.v7, Sm.zero] at r0 r1 r2 r3 r4 r5 r6
    go_wp2_with fail
    generalize hW : World.setCell (World.setCell (World.setCell (World.setCell (World.setCell (World.setCell (World.setCell v _ _) _ _) _ _) _ _) _ _) _ _) _ _ = v5
    have hR5 := (show B7 v5 (w.heap.size + 2) Sm.zero.v7 by rw [← hW]; exact HB0.out.2.2.1.put Sm.zero.v7)
    have HB5 := hide (show Below w.heap.size w v5 from HB0.out.2.2.2.trans ((show Fr v v5 (fun i => i = w.heap.size + 2) by rw [← hW]; exact fr_put7).below HB0.out.2.2.2.size (fun k hk e => by omega)))
    clear hW
    clear r0 r1 r2 r3 r4 r5 r6 rz rf
    obtain ⟨rz, ⟨r0, r1, r2, r3, r4, r5, r6⟩, rf, -⟩ := hR5; dsimp only [Sm.v7, Sm.zero] at r0 r1 r2 r3 r4 r5 r6
    refine bodyPost_ret (v := .tuple #[.agg #[.int .i64 0, .int .i64 0, .int .i64 0, .int .i64 0, .int .i64 0, .int .i64 0, .int .i64 0], .int .i64 1]) (by simp [results, Tryz.results10, go_sem, *]) rfl ⟨by rw [sumR_ne (by rw [HCN.out, HKN.out]; omega)] <;> rfl, HB5.out⟩
end Go.Proofs.YtjkffgcikbkjeaaGreat

/- Contract: the reference's Sum. -/
namespace Go.Proofs.YtjkffgcikbkjeaaGreat
open Go.RowKit

set_option maxRecDepth 100000 in
set_option maxHeartbeats 16000000 in
theorem r38sum_any (w : World) (CA : Option Addr) (cn cc : Nat) (chs : List Ch) (KA : Option Addr) (kn kc : Nat) (ks : List Int) (A : Option Addr) (n c : Nat) (L : Ld) (AA : Option Addr) (an ac : Nat) (aus : List Au) (q : Fa) (lq kq : List Nat) (V E : Int)
    (hC : Rs w none 10 Ch.vals CA chs) (hcn : chs.length = cn) (hK : Rs w none 1 iv KA ks) (hkn : ks.length = kn) (hL : Rs w none 10 Tk.vals A L.tks) (hn : L.tks.length = n) (hn63 : n ≤ 4294967296) (hA : Rs w none 6 Au.vals AA aus) (han : aus.length = an) (ha63 : an ≤ 4294967296) (hF : Fq w q lq kq)
    (hU : ∀ W, Fq W q lq kq → Calls Tryz.prog 24 #[.int .i64 (an : Int), .int .i64 (missOf aus : Int), .agg #[.slice q.A q.n q.c, .slice q.B q.m q.d]] W fun e w' => e = .returned (.tuple #[.int .i64 V, .int .i64 E]) ∧ Below W.heap.size W w') :
    Calls Tryz.prog 11 #[.slice CA cn cc, .slice KA kn kc, .agg #[.slice A n c, .int .i64 L.r0, .int .i64 L.r1, .int .i64 L.r2, .int .i64 L.r3, .int .i64 L.r4, .int .i64 L.r5], .slice AA an ac, .agg #[.slice q.A q.n q.c, .slice q.B q.m q.d]] w fun e w' => e = .returned (.tuple #[.agg #[.int .i64 (sumR chs ks L an (missOf aus) V E).1.c, .int .i64 (sumR chs ks L an (missOf aus) V E).1.r, .int .i64 (sumR chs ks L an (missOf aus) V E).1.s, .int .i64 (sumR chs ks L an (missOf aus) V E).1.sp, .int .i64 (sumR chs ks L an (missOf aus) V E).1.a, .int .i64 (sumR chs ks L an (missOf aus) V E).1.m, .int .i64 (sumR chs ks L an (missOf aus) V E).1.b], .int .i64 (sumR chs ks L an (missOf aus) V E).2]) ∧ Below w.heap.size w w' := by
  have HC := hide hC
  have HCN := hide hcn
  have HK := hide hK
  have HKN := hide hkn
  have HL := hide hL
  have HN := hide hn
  have HA := hide hA
  have HAN := hide han
  have HF := hide hF
  have HU := hide hU
  clear hC hcn hK hkn hL hn hA han hF hU
  go_enter Tryz.func11, Tryz.ntmps11
  go_upto_region 1 with (fail)
  generalize hW : World.alloc (World.alloc (World.alloc w _) _) _ = v
  have HB0 := hide (show Cb v w.heap.size (ldc A n c L) ∧ Cb v (w.heap.size + 1) [.slice q.A q.n q.c, .slice q.B q.m q.d] ∧ B7 v (w.heap.size + 2) Sm.zero.v7 ∧ Below w.heap.size w v by rw [← hW]; exact ⟨((Cb.mk0 (ldc A n c L) (by simp [ldc]) _ rfl).alloc _).alloc _, (Cb.mk0 (w := w.alloc _) [.slice q.A q.n q.c, .slice q.B q.m q.d] (by simp) _ (by simp)).alloc _, b7_at (by simp), ((((Below.refl _ _).alloc (Nat.le_refl _) _).alloc (by simp) _ : Below w.heap.size w _)).alloc (by simp; omega) _⟩)
  clear hW
  by_cases hne : cn = kn
  · subst hne
    have hnek : (cn : Int) = (cn : Int) := rfl
    by_cases h64 : 64 < cn
    · have h64i : (64 : Int) < (cn : Int) := by omega
      obtain ⟨rz, ⟨r0, r1, r2, r3, r4, r5, r6⟩, rf, -⟩ := HB0.out.2.2.1; dsimp only [Sm.v7, Sm.zero] at r0 r1 r2 r3 r4 r5 r6
      go_wp2_with fail
      generalize hW : World.setCell (World.setCell (World.setCell (World.setCell (World.setCell (World.setCell (World.setCell v _ _) _ _) _ _) _ _) _ _) _ _) _ _ = v5
      have hR5 := (show B7 v5 (w.heap.size + 2) Sm.zero.v7 by rw [← hW]; exact HB0.out.2.2.1.put Sm.zero.v7)
      have HB5 := hide (show Below w.heap.size w v5 from HB0.out.2.2.2.trans ((show Fr v v5 (fun i => i = w.heap.size + 2) by rw [← hW]; exact fr_put7).below HB0.out.2.2.2.size (fun k hk e => by omega)))
      clear hW
      clear r0 r1 r2 r3 r4 r5 r6 rz rf
      obtain ⟨rz, ⟨r0, r1, r2, r3, r4, r5, r6⟩, rf, -⟩ := hR5; dsimp only [Sm.v7, Sm.zero] at r0 r1 r2 r3 r4 r5 r6
      refine bodyPost_ret (v := .tuple #[.agg #[.int .i64 0, .int .i64 0, .int .i64 0, .int .i64 0, .int .i64 0, .int .i64 0, .int .i64 0], .int .i64 2]) (by simp [results, Tryz.results11, go_sem, *]) rfl ⟨by rw [sumR_big (by rw [HCN.out, HKN.out]) (by rw [HCN.out]; omega)] <;> rfl, HB5.out⟩
    · have h64i : ¬ (64 : Int) < (cn : Int) := by omega
      obtain ⟨ms, hms⟩ : ∃ ms, ms = missOf aus := ⟨_, rfl⟩
      have HMS := hide hms
      clear hms
      go_upto_region 6 with (fail)
      generalize hW : World.alloc v _ = v2
      have HS := hide (show SB w v2 v.heap.size A n c L q Sm.zero ⟨0, 0, 0, 0, 0, 0, 0⟩ by rw [← hW]; exact ⟨HB0.out.1.alloc _, HB0.out.2.1.alloc _, HB0.out.2.2.1.below ((Below.refl _ _).alloc (Nat.le_refl _) _), b7_at rfl, HB0.out.2.2.1.1, HB0.out.2.2.2.trans (((Below.refl _ _).alloc (Nat.le_refl _) _ : Below v.heap.size v _).mono HB0.out.2.2.2.size)⟩)
      obtain ⟨g, hg⟩ : ∃ g, g = v.heap.size := ⟨_, rfl⟩
      rw [← hg] at HS ⊢
      clear hW hg HB0
      go_upto_region 7 with (fail)
      go_loopw [13] (fun iv' wr => ∃ (k : Nat) (C R S : Int), iv' = .int .i64 (k : Int) ∧ k ≤ cn ∧ 0 ≤ C ∧ C ≤ k ∧ 0 ≤ R ∧ R ≤ k ∧ 0 ≤ S ∧ S ≤ 1048576 * k ∧ Hid (smC ((zipC chs ks).drop k) C R S = smC (zipC chs ks) 0 0 0) ∧ Hid (SB w wr g A n c L q Sm.zero ⟨C, R, S, 0, 0, 0, 0⟩)) (fun iv' _ => cn - (intOf iv').toNat)
      case atStart => exact ⟨0, 0, 0, 0, rfl, by omega, by omega, by omega, by omega, by omega, by omega, by omega, hide (by rw [List.drop_zero]), HS⟩
      case round =>
        obtain ⟨k, C, R, S, rfl, hk, hC0, hC1, hR0, hR1, hS0, hS1, HM, HSr⟩ := hrel
        clear HS
        have hg2 := HSr.out.hg
        by_cases hkn : k = cn
        · subst hkn
          have HM2 := hide (show smC (zipC chs ks) 0 0 0 = some (C, R, S) by rw [← HM.out]; exact smC_end HCN.out HKN.out)
          clear HM
          cases hok : L.ok
          · have HOK := hide hok
            clear hok
            obtain ⟨a0, a1, a2, a3, a4, a5, a6⟩ : _ ∧ _ ∧ _ ∧ _ ∧ _ ∧ _ ∧ _ := ⟨HSr.out.l.cell 0 _ rfl, HSr.out.l.cell 1 _ rfl, HSr.out.l.cell 2 _ rfl, HSr.out.l.cell 3 _ rfl, HSr.out.l.cell 4 _ rfl, HSr.out.l.cell 5 _ rfl, HSr.out.l.cell 6 _ rfl⟩; have az := HSr.out.l.sz
            go_upto_region 17 with (fail)
            go_upto_region 18 with (go_at_call 23; (with_reducible refine (r38spent_any _ A c n L (HL.out.below HSr.out.bw) HN.out hn63).mono ?_); rintro e w3 ⟨rfl, hb⟩; rw [HOK.out]; have HS3 := hide (HSr.out.call hb); clear hb; obtain ⟨rz, ⟨r0, r1, r2, r3, r4, r5, r6⟩, rf, -⟩ := HS3.out.r; dsimp only [Sm.v7, Sm.zero] at r0 r1 r2 r3 r4 r5 r6)
            clear a0 a1 a2 a3 a4 a5 a6 az
            go_wp2_with fail
            generalize hW : World.setCell (World.setCell (World.setCell (World.setCell (World.setCell (World.setCell (World.setCell w3 _ _) _ _) _ _) _ _) _ _) _ _) _ _ = v5
            have HS5 := hide (HS3.out.setr (r' := .zero) (show Fr w3 v5 _ by rw [← hW]; exact fr_put7) (by rw [← hW]; exact HS3.out.r.put Sm.zero.v7))
            clear hW
            clear r0 r1 r2 r3 r4 r5 r6 rz rf
            obtain ⟨rz, ⟨r0, r1, r2, r3, r4, r5, r6⟩, rf, -⟩ := HS5.out.r; dsimp only [Sm.v7, Sm.zero] at r0 r1 r2 r3 r4 r5 r6
            refine bodyPost_ret (v := .tuple #[.agg #[.int .i64 0, .int .i64 0, .int .i64 0, .int .i64 0, .int .i64 0, .int .i64 0, .int .i64 0], .int .i64 1]) (by simp [results, Tryz.results11, go_sem, *]) rfl ⟨by rw [sumR_bad (by rw [HCN.out, HKN.out]) (by rw [HCN.out]; omega) HM2.out HOK.out] <;> rfl, HS5.out.bw⟩
          · have HOK := hide hok
            clear hok
            obtain ⟨a0, a1, a2, a3, a4, a5, a6⟩ : _ ∧ _ ∧ _ ∧ _ ∧ _ ∧ _ ∧ _ := ⟨HSr.out.l.cell 0 _ rfl, HSr.out.l.cell 1 _ rfl, HSr.out.l.cell 2 _ rfl, HSr.out.l.cell 3 _ rfl, HSr.out.l.cell 4 _ rfl, HSr.out.l.cell 5 _ rfl, HSr.out.l.cell 6 _ rfl⟩; have az := HSr.out.l.sz
            go_upto_region 17 with (fail)
            obtain ⟨sp, hsp⟩ : ∃ sp, sp = spentOf L.tks := ⟨_, rfl⟩
            have HSP := hide hsp
            clear hsp
            go_upto_region 18 with (go_at_call 23; (with_reducible refine (r38spent_any _ A c n L (HL.out.below HSr.out.bw) HN.out hn63).mono ?_); rintro e w3 ⟨rfl, hb⟩; rw [HOK.out, if_pos rfl, if_pos rfl, ← HSP.out]; have HS3 := hide (HSr.out.call hb); clear hb)
            clear a0 a1 a2 a3 a4 a5 a6 az
            go_upto_region 20 with (fail)
            go_upto_region 21 with (go_at_call 14; (with_reducible refine (r38missed_any _ AA an ac aus (HA.out.below HS3.out.bw) HAN.out ha63).mono ?_); rintro e w4 ⟨rfl, hb⟩; rw [← HMS.out]; have HS3' := hide (HS3.out.call hb); clear hb; obtain ⟨sz, ⟨s0, s1, s2, s3, s4, s5, s6⟩, sf, -⟩ := HS3'.out.s; dsimp only [Sm.v7, Sm.zero] at s0 s1 s2 s3 s4 s5 s6)
            generalize hW : World.setCell (World.setCell (World.setCell w4 _ _) _ _) _ _ = v4
            have HS4 := hide (show SB w v4 g A n c L q .zero ⟨C, R, S, sp, an, ms, 0⟩ by rw [← hW]; exact ((HS3'.out.sets (s' := ⟨C, R, S, sp, 0, 0, 0⟩) (Fr.setCell (Fr.refl _ _) (Or.inr (by rfl)) _) (HS3'.out.s.st 3 (by omega) _)).sets (s' := ⟨C, R, S, sp, an, 0, 0⟩) (Fr.setCell (Fr.refl _ _) (Or.inr (by rfl)) _) ((HS3'.out.s.st 3 (by omega) _).st 4 (by omega) _)).sets (s' := ⟨C, R, S, sp, an, ms, 0⟩) (Fr.setCell (Fr.refl _ _) (Or.inr (by rfl)) _) (((HS3'.out.s.st 3 (by omega) _).st 4 (by omega) _).st 5 (by omega) _))
            clear hW
            clear s0 s1 s2 s3 s4 s5 s6 sz sf
            obtain ⟨sz, ⟨s0, s1, s2, s3, s4, s5, s6⟩, sf, -⟩ := HS4.out.s; dsimp only [Sm.v7, Sm.zero] at s0 s1 s2 s3 s4 s5 s6
            obtain ⟨q0, q1⟩ : _ ∧ _ := ⟨HS4.out.f.cell 0 _ rfl, HS4.out.f.cell 1 _ rfl⟩; have qz := HS4.out.f.sz
            have HU4 := hide (HU.out v4 (HF.out.below HS4.out.bw))
            rw [← HMS.out] at HU4
            by_cases hE : E = 0
            · subst hE
              go_upto_region 22 with (go_at_call 24; (with_reducible refine HU4.out.mono ?_); rintro e w5 ⟨rfl, hb⟩; have HS5 := hide (HS4.out.call hb); clear hb; clear s0 s1 s2 s3 s4 s5 s6 sz sf; obtain ⟨sz, ⟨s0, s1, s2, s3, s4, s5, s6⟩, sf, -⟩ := HS5.out.s; dsimp only [Sm.v7, Sm.zero] at s0 s1 s2 s3 s4 s5 s6)
              generalize hW : World.setCell w5 _ _ = v6
              have HS6 := hide (HS5.out.sets (s' := ⟨C, R, S, sp, an, ms, V⟩) (show Fr w5 v6 _ by rw [← hW]; exact Fr.setCell (Fr.refl _ _) (Or.inr (by rfl)) _) (by rw [← hW]; exact HS5.out.s.st 6 (by omega) _))
              clear hW
              clear s0 s1 s2 s3 s4 s5 s6 sz sf
              clear q0 q1 qz
              obtain ⟨sz, ⟨s0, s1, s2, s3, s4, s5, s6⟩, sf, -⟩ := HS6.out.s; dsimp only [Sm.v7, Sm.zero] at s0 s1 s2 s3 s4 s5 s6
              obtain ⟨rz, ⟨r0, r1, r2, r3, r4, r5, r6⟩, rf, -⟩ := HS6.out.r; dsimp only [Sm.v7, Sm.zero] at r0 r1 r2 r3 r4 r5 r6
              go_wp2_with fail
              generalize hW : World.setCell (World.setCell (World.setCell (World.setCell (World.setCell (World.setCell (World.setCell v6 _ _) _ _) _ _) _ _) _ _) _ _) _ _ = v7
              have HS7 := hide (HS6.out.setr (r' := ⟨C, R, S, sp, an, ms, V⟩) (show Fr v6 v7 _ by rw [← hW]; exact fr_put7) (by rw [← hW]; exact HS6.out.r.put (Sm.v7 ⟨C, R, S, sp, an, ms, V⟩)))
              clear hW
              clear r0 r1 r2 r3 r4 r5 r6 rz rf
              clear s0 s1 s2 s3 s4 s5 s6 sz sf
              obtain ⟨rz, ⟨r0, r1, r2, r3, r4, r5, r6⟩, rf, -⟩ := HS7.out.r; dsimp only [Sm.v7, Sm.zero] at r0 r1 r2 r3 r4 r5 r6
              refine bodyPost_ret (v := .tuple #[.agg #[.int .i64 C, .int .i64 R, .int .i64 S, .int .i64 sp, .int .i64 an, .int .i64 ms, .int .i64 V], .int .i64 0]) (by simp [results, Tryz.results11, go_sem, *]) rfl ⟨by rw [sumR_ok (by rw [HCN.out, HKN.out]) (by rw [HCN.out]; omega) HM2.out HOK.out rfl, HSP.out, HMS.out] <;> rfl, HS7.out.bw⟩
            · have hE2 : decide (E = 0) = false := decide_eq_false hE
              go_upto_region 22 with (go_at_call 24; (with_reducible refine HU4.out.mono ?_); rintro e w5 ⟨rfl, hb⟩; have HS5 := hide (HS4.out.call hb); clear hb; clear s0 s1 s2 s3 s4 s5 s6 sz sf; obtain ⟨sz, ⟨s0, s1, s2, s3, s4, s5, s6⟩, sf, -⟩ := HS5.out.s; dsimp only [Sm.v7, Sm.zero] at s0 s1 s2 s3 s4 s5 s6)
              generalize hW : World.setCell w5 _ _ = v6
              have HS6 := hide (HS5.out.sets (s' := ⟨C, R, S, sp, an, ms, V⟩) (show Fr w5 v6 _ by rw [← hW]; exact Fr.setCell (Fr.refl _ _) (Or.inr (by rfl)) _) (by rw [← hW]; exact HS5.out.s.st 6 (by omega) _))
              clear hW
              clear s0 s1 s2 s3 s4 s5 s6 sz sf
              clear q0 q1 qz
              obtain ⟨rz, ⟨r0, r1, r2, r3, r4, r5, r6⟩, rf, -⟩ := HS6.out.r; dsimp only [Sm.v7, Sm.zero] at r0 r1 r2 r3 r4 r5 r6
              go_wp2_with fail
              generalize hW : World.setCell (World.setCell (World.setCell (World.setCell (World.setCell (World.setCell (World.setCell v6 _ _) _ _) _ _) _ _) _ _) _ _) _ _ = v7
              have HS7 := hide (HS6.out.setr (r' := .zero) (show Fr v6 v7 _ by rw [← hW]; exact fr_put7) (by rw [← hW]; exact HS6.out.r.put Sm.zero.v7))
              clear hW
              clear r0 r1 r2 r3 r4 r5 r6 rz rf
              obtain ⟨rz, ⟨r0, r1, r2, r3, r4, r5, r6⟩, rf, -⟩ := HS7.out.r; dsimp only [Sm.v7, Sm.zero] at r0 r1 r2 r3 r4 r5 r6
              refine bodyPost_ret (v := .tuple #[.agg #[.int .i64 0, .int .i64 0, .int .i64 0, .int .i64 0, .int .i64 0, .int .i64 0, .int .i64 0], .int .i64 E]) (by simp [results, Tryz.results11, go_sem, *]) rfl ⟨by rw [sumR_E (by rw [HCN.out, HKN.out]) (by rw [HCN.out]; omega) HM2.out HOK.out hE] <;> rfl, HS7.out.bw⟩
        · have hklt : (k : Int) < (cn : Int) := by omega
          have hk0 : (0 : Int) ≤ (k : Int) := by omega
          obtain ⟨x, hx⟩ : ∃ x, chs[k]? = some x := ⟨_, List.getElem?_eq_getElem (by have := HCN.out; omega)⟩
          obtain ⟨y, hy⟩ : ∃ y, ks[k]? = some y := ⟨_, List.getElem?_eq_getElem (by have := HKN.out; omega)⟩
          obtain ⟨b, o, hA1, -, hb, hc⟩ := HC.out.at hx
          obtain ⟨b2, o2, hA2, -, hb2, hd⟩ := HK.out.at hy
          have cw : w.cell? ⟨b, o + k * 10 + 2, none⟩ = some (.int .i64 x.r) := hc 2 _ rfl
          have dw : w.cell? ⟨b2, o2 + k, none⟩ = some (.int .i64 y) := by have := hd 0 _ rfl; simpa using this
          clear hc hd
          have HX := hide hx
          have HY := hide hy
          clear hx hy
          subst hA1 hA2
          have d3 : wr.cell? ⟨b2, o2 + k, none⟩ = some (.int .i64 y) := (HSr.out.bw.cell (by simpa using hb2)).trans dw
          have x2 : wr.cell? ⟨b, o + k * 10 + 2, none⟩ = some (.int .i64 x.r) := (HSr.out.bw.cell (by simpa using hb)).trans cw
          by_cases hy0 : y < 0
          · have q0 : decide (y < 0) = true := decide_eq_true hy0
            obtain ⟨rz, ⟨r0, r1, r2, r3, r4, r5, r6⟩, rf, -⟩ := HSr.out.r; dsimp only [Sm.v7, Sm.zero] at r0 r1 r2 r3 r4 r5 r6
            go_wp2_with fail
            generalize hW : World.setCell (World.setCell (World.setCell (World.setCell (World.setCell (World.setCell (World.setCell wr _ _) _ _) _ _) _ _) _ _) _ _) _ _ = v5
            have HS5 := hide (HSr.out.setr (r' := .zero) (show Fr wr v5 _ by rw [← hW]; exact fr_put7) (by rw [← hW]; exact HSr.out.r.put Sm.zero.v7))
            clear hW
            clear r0 r1 r2 r3 r4 r5 r6 rz rf
            obtain ⟨rz, ⟨r0, r1, r2, r3, r4, r5, r6⟩, rf, -⟩ := HS5.out.r; dsimp only [Sm.v7, Sm.zero] at r0 r1 r2 r3 r4 r5 r6
            refine bodyPost_ret (v := .tuple #[.agg #[.int .i64 0, .int .i64 0, .int .i64 0, .int .i64 0, .int .i64 0, .int .i64 0, .int .i64 0], .int .i64 3]) (by simp [results, Tryz.results11, go_sem, *]) rfl ⟨by rw [sumR_none (by rw [HCN.out, HKN.out]) (by rw [HCN.out]; omega) (by rw [← HM.out]; exact smC_bad HX.out HY.out (.inl hy0))] <;> rfl, HS5.out.bw⟩
          · have q0 : decide (y < 0) = false := decide_eq_false hy0
            by_cases hy1 : 1048576 < y
            · have q1 : decide (1048576 < y) = true := decide_eq_true hy1
              obtain ⟨rz, ⟨r0, r1, r2, r3, r4, r5, r6⟩, rf, -⟩ := HSr.out.r; dsimp only [Sm.v7, Sm.zero] at r0 r1 r2 r3 r4 r5 r6
              go_wp2_with fail
              generalize hW : World.setCell (World.setCell (World.setCell (World.setCell (World.setCell (World.setCell (World.setCell wr _ _) _ _) _ _) _ _) _ _) _ _) _ _ = v5
              have HS5 := hide (HSr.out.setr (r' := .zero) (show Fr wr v5 _ by rw [← hW]; exact fr_put7) (by rw [← hW]; exact HSr.out.r.put Sm.zero.v7))
              clear hW
              clear r0 r1 r2 r3 r4 r5 r6 rz rf
              obtain ⟨rz, ⟨r0, r1, r2, r3, r4, r5, r6⟩, rf, -⟩ := HS5.out.r; dsimp only [Sm.v7, Sm.zero] at r0 r1 r2 r3 r4 r5 r6
              refine bodyPost_ret (v := .tuple #[.agg #[.int .i64 0, .int .i64 0, .int .i64 0, .int .i64 0, .int .i64 0, .int .i64 0, .int .i64 0], .int .i64 3]) (by simp [results, Tryz.results11, go_sem, *]) rfl ⟨by rw [sumR_none (by rw [HCN.out, HKN.out]) (by rw [HCN.out]; omega) (by rw [← HM.out]; exact smC_bad HX.out HY.out (.inr hy1))] <;> rfl, HS5.out.bw⟩
            · have q1 : decide (1048576 < y) = false := decide_eq_false hy1
              have HBD := hide (show ¬ (y < 0 ∨ 1048576 < y) by omega)
              obtain ⟨sz, ⟨s0, s1, s2, s3, s4, s5, s6⟩, sf, -⟩ := HSr.out.s; dsimp only [Sm.v7, Sm.zero] at s0 s1 s2 s3 s4 s5 s6
              by_cases h0 : x.r = 0
              · rw [h0] at x2
                have HT := hide ((smC_car (C := C) (R := R) (S := S) HX.out HY.out HBD.out h0).symm.trans HM.out)
                go_upto_region 15 with (fail)
                generalize hW : World.setCell wr _ _ = v4
                have HS4 := hide (HSr.out.sets (s' := ⟨C + 1, R, S, 0, 0, 0, 0⟩) (show Fr wr v4 _ by rw [← hW]; exact Fr.setCell (Fr.refl _ _) (Or.inr (by rfl)) _) (by rw [← hW]; exact HSr.out.s.st 0 (by omega) _))
                clear hW
                have d4 : v4.cell? ⟨b2, o2 + k, none⟩ = some (.int .i64 y) := (HS4.out.bw.cell (by simpa using hb2)).trans dw
                clear s0 s1 s2 s3 s4 s5 s6 sz sf
                obtain ⟨sz, ⟨s0, s1, s2, s3, s4, s5, s6⟩, sf, -⟩ := HS4.out.s; dsimp only [Sm.v7, Sm.zero] at s0 s1 s2 s3 s4 s5 s6
                clear d3
                go_region
                go_wp2_with fail
                go_roundw
                case rel => exact ⟨k + 1, C + 1, R, S + y, by go_num, by omega, by omega, by omega, by omega, by omega, by omega, by omega, HT, hide ((HS4.out.sets (s' := ⟨C + 1, R, S + y, 0, 0, 0, 0⟩) (Fr.setCell (Fr.refl _ _) (Or.inr (by rfl)) _) (HS4.out.s.st 2 (by omega) _)).drew)⟩
                case measure => simp [intOf] <;> omega
              · have q2 : decide (x.r = 0) = false := decide_eq_false h0
                by_cases h5 : x.r = 5
                · rw [h5] at x2
                  have HT := hide ((smC_amb (C := C) (R := R) (S := S) HX.out HY.out HBD.out h5).symm.trans HM.out)
                  go_wp2_with fail
                  go_roundw
                  case rel => exact ⟨k + 1, C, R, S, by go_num, by omega, by omega, by omega, by omega, by omega, by omega, by omega, HT, HSr⟩
                  case measure => simp [intOf] <;> omega
                · have q3 : decide (x.r = 5) = false := decide_eq_false h5
                  have HT := hide ((smC_run (C := C) (R := R) (S := S) HX.out HY.out HBD.out h0 h5).symm.trans HM.out)
                  go_upto_region 8 with (fail)
                  generalize hW : World.setCell wr _ _ = v4
                  have HS4 := hide (HSr.out.sets (s' := ⟨C, R + 1, S, 0, 0, 0, 0⟩) (show Fr wr v4 _ by rw [← hW]; exact Fr.setCell (Fr.refl _ _) (Or.inr (by rfl)) _) (by rw [← hW]; exact HSr.out.s.st 1 (by omega) _))
                  clear hW
                  go_wp2_with fail
                  go_roundw
                  case rel => exact ⟨k + 1, C, R + 1, S, by go_num, by omega, by omega, by omega, by omega, by omega, by omega, by omega, HT, HS4⟩
                  case measure => simp [intOf] <;> omega
  · have hnei : ¬ (cn : Int) = (kn : Int) := by omega
    obtain ⟨rz, ⟨r0, r1, r2, r3, r4, r5, r6⟩, rf, -⟩ := HB0.out.2.2.1; dsimp only [Sm.v7, Sm.zero] at r0 r1 r2 r3 r4 r5 r6
    go_wp2_with fail
    generalize hW : World.setCell (World.setCell (World.setCell (World.setCell (World.setCell (World.setCell (World.setCell v _ _) _ _) _ _) _ _) _ _) _ _) _ _ = v5
    have hR5 := (show B7 v5 (w.heap.size + 2) Sm.zero.v7 by rw [← hW]; exact HB0.out.2.2.1.put Sm.zero.v7)
    have HB5 := hide (show Below w.heap.size w v5 from HB0.out.2.2.2.trans ((show Fr v v5 (fun i => i = w.heap.size + 2) by rw [← hW]; exact fr_put7).below HB0.out.2.2.2.size (fun k hk e => by omega)))
    clear hW
    clear r0 r1 r2 r3 r4 r5 r6 rz rf
    obtain ⟨rz, ⟨r0, r1, r2, r3, r4, r5, r6⟩, rf, -⟩ := hR5; dsimp only [Sm.v7, Sm.zero] at r0 r1 r2 r3 r4 r5 r6
    refine bodyPost_ret (v := .tuple #[.agg #[.int .i64 0, .int .i64 0, .int .i64 0, .int .i64 0, .int .i64 0, .int .i64 0, .int .i64 0], .int .i64 1]) (by simp [results, Tryz.results11, go_sem, *]) rfl ⟨by rw [sumR_ne (by rw [HCN.out, HKN.out]; omega)] <;> rfl, HB5.out⟩
end Go.Proofs.YtjkffgcikbkjeaaGreat

/- The rows of the law's walk: choices, costs, audits side by side. -/
namespace Go.Proofs.YtjkffgcikbkjeaaGreat
open Go.RowKit

theorem info43 : (Tryz.prog.info? 43).map (fun i => (i.zero, i.size, i.bytes)) = some (some (.agg #[.string ⟨#[]⟩, .string ⟨#[]⟩, .int .i64 0, .int .i64 0, .int .i64 0, .string ⟨#[]⟩, .string ⟨#[]⟩, .int .i64 0, .int .i64 0, .int .i64 0]), 10, 112) := by kernel_rfl
theorem info48 : (Tryz.prog.info? 48).map (fun i => (i.zero, i.size, i.bytes)) = some (some (.agg #[.int .i64 0, .int .i64 0, .int .i64 0, .int .i64 0, .int .i64 0, .int .i64 0]), 6, 48) := by kernel_rfl
theorem info3 : (Tryz.prog.info? 3).map (fun i => (i.zero, i.size, i.bytes)) = some (some (.int .i64 0), 1, 8) := by kernel_rfl
def kdC : RK Ch := ⟨43, 10, Ch.vals, .agg #[.string ⟨#[]⟩, .string ⟨#[]⟩, .int .i64 0, .int .i64 0, .int .i64 0, .string ⟨#[]⟩, .string ⟨#[]⟩, .int .i64 0, .int .i64 0, .int .i64 0], 112⟩
def kdA : RK Au := ⟨48, 6, Au.vals, .agg #[.int .i64 0, .int .i64 0, .int .i64 0, .int .i64 0, .int .i64 0, .int .i64 0], 48⟩
def kdI : RK Int := ⟨3, 1, iv, .int .i64 0, 8⟩
theorem kdC_ok : kdC.Ok := ⟨info43, rfl, by decide, fun a => rfl, fun a u hu => by
  simp only [kdC, Ch.vals, List.mem_cons, List.not_mem_nil, or_false] at hu
  rcases hu with rfl | rfl | rfl | rfl | rfl | rfl | rfl | rfl | rfl | rfl <;> rfl, by decide⟩
theorem kdA_ok : kdA.Ok := ⟨info48, rfl, by decide, fun a => rfl, fun a u hu => by
  simp only [kdA, Au.vals, List.mem_cons, List.not_mem_nil, or_false] at hu
  rcases hu with rfl | rfl | rfl | rfl | rfl | rfl <;> rfl, by decide⟩
theorem kdI_ok : kdI.Ok := ⟨info3, rfl, by decide, fun a => rfl, fun a u hu => by
  simp only [kdI, iv, List.mem_cons, List.not_mem_nil, or_false] at hu
  subst hu; rfl, by decide⟩
theorem one_c (w : World) (x : Ch) (t : TypeId) : Rs (w.alloc (.cells #[.string x.pk, .string x.ts, .int .i64 x.r, .int .i64 x.rec', .int .i64 x.kk, .string x.ka, .string x.kb, .int .i64 x.z.k, .int .i64 x.z.v, .int .i64 x.z.e] t)) none 10 Ch.vals (some ⟨w.heap.size, 0, none⟩) [x] :=
  one_ow (K := kdC) x _ (fun j u hu => by rw [World.cell?_alloc_new]; simpa [kdC, Ch.vals] using hu)
theorem one_a (w : World) (x : Au) (t : TypeId) : Rs (w.alloc (.cells #[.int .i64 x.a.k, .int .i64 x.a.v, .int .i64 x.a.e, .int .i64 x.b.k, .int .i64 x.b.v, .int .i64 x.b.e] t)) none 6 Au.vals (some ⟨w.heap.size, 0, none⟩) [x] :=
  one_ow (K := kdA) x _ (fun j u hu => by rw [World.cell?_alloc_new]; simpa [kdA, Au.vals] using hu)
theorem one_i (w : World) (x : Int) (t : TypeId) : Rs (w.alloc (.cells #[.int .i64 x] t)) none 1 iv (some ⟨w.heap.size, 0, none⟩) [x] :=
  one_ow (K := kdI) x _ (fun j u hu => by rw [World.cell?_alloc_new]; simpa [kdI, iv] using hu)
/-- The three rows beside the tape. -/
structure MS (w0 v : World) (T : Nat) (TA : Option Addr) (tn tc : Nat) (tl : List Int) (b : Nat) (CA : Option Addr) (cn cc : Nat) (chs : List Ch) (KA : Option Addr) (kn kc : Nat) (ks : List Int) (AA : Option Addr) (an ac : Nat) (aus : List Au) : Prop where
  p0 : ∃ b0, Tp w0 T TA tn tc tl b0
  tp : Tp v T TA tn tc tl b
  c : OW kdC w0 v T CA cn cc chs
  k : OW kdI w0 v T KA kn kc ks
  a : OW kdA w0 v T AA an ac aus
section
variable {w0 v v' : World} {T : Nat} {TA : Option Addr} {tn tc : Nat} {tl : List Int} {b b' : Nat} {CA : Option Addr} {cn cc : Nat} {chs : List Ch} {KA : Option Addr} {kn kc : Nat} {ks : List Int} {AA : Option Addr} {an ac : Nat} {aus : List Au}
theorem MS.below (h : MS w0 v T TA tn tc tl b CA cn cc chs KA kn kc ks AA an ac aus) (hb : Below v.heap.size v v') : MS w0 v' T TA tn tc tl b CA cn cc chs KA kn kc ks AA an ac aus :=
  ⟨h.p0, h.tp.below hb, h.c.below hb, h.k.below hb, h.a.below hb⟩
theorem MS.alloc (h : MS w0 v T TA tn tc tl b CA cn cc chs KA kn kc ks AA an ac aus) (o : Obj) : MS w0 (v.alloc o) T TA tn tc tl b CA cn cc chs KA kn kc ks AA an ac aus := h.below ((Below.refl _ _).alloc (Nat.le_refl _) _)
theorem MS.tape (h : MS w0 v T TA tn tc tl b CA cn cc chs KA kn kc ks AA an ac aus) (hf : Fr v v' (fun i => i = T)) (hp : Tp v' T TA tn tc tl b') : MS w0 v' T TA tn tc tl b' CA cn cc chs KA kn kc ks AA an ac aus :=
  have hT : T < w0.heap.size := by obtain ⟨b0, h0⟩ := h.p0; exact h0.t.1
  ⟨h.p0, hp, h.c.tape hf hT, h.k.tape hf hT, h.a.tape hf hT⟩
theorem MS.gc {CA' : Option Addr} {cn' cc' : Nat} {chs' : List Ch} (h : MS w0 v T TA tn tc tl b CA cn cc chs KA kn kc ks AA an ac aus) (ho : OW kdC w0 v' T CA' cn' cc' chs') (hf : Fr v v' (fun i => (Value.slice CA cn cc).ownBlock = some i)) : MS w0 v' T TA tn tc tl b CA' cn' cc' chs' KA kn kc ks AA an ac aus := by
  obtain ⟨b0, h0⟩ := h.p0
  exact ⟨⟨b0, h0⟩, h.c.tp h0 h.tp hf, ho, h.k.other h.c (by decide) hf, h.a.other h.c (by decide) hf⟩
theorem MS.gk {KA' : Option Addr} {kn' kc' : Nat} {ks' : List Int} (h : MS w0 v T TA tn tc tl b CA cn cc chs KA kn kc ks AA an ac aus) (ho : OW kdI w0 v' T KA' kn' kc' ks') (hf : Fr v v' (fun i => (Value.slice KA kn kc).ownBlock = some i)) : MS w0 v' T TA tn tc tl b CA cn cc chs KA' kn' kc' ks' AA an ac aus := by
  obtain ⟨b0, h0⟩ := h.p0
  exact ⟨⟨b0, h0⟩, h.k.tp h0 h.tp hf, h.c.other h.k (by decide) hf, ho, h.a.other h.k (by decide) hf⟩
theorem MS.ga {AA' : Option Addr} {an' ac' : Nat} {aus' : List Au} (h : MS w0 v T TA tn tc tl b CA cn cc chs KA kn kc ks AA an ac aus) (ho : OW kdA w0 v' T AA' an' ac' aus') (hf : Fr v v' (fun i => (Value.slice AA an ac).ownBlock = some i)) : MS w0 v' T TA tn tc tl b CA cn cc chs KA kn kc ks AA' an' ac' aus' := by
  obtain ⟨b0, h0⟩ := h.p0
  exact ⟨⟨b0, h0⟩, h.a.tp h0 h.tp hf, h.c.other h.a (by decide) hf, h.k.other h.a (by decide) hf, ho⟩
/-- The first cost is set anew. -/
theorem OW.first (h : OW kdI w0 v T KA kn kc ks) (hk : 0 < kn) : ∃ g x, KA = some ⟨g, 0, none⟩ ∧ g < v.heap.size ∧ v.cell? ⟨g, 0, none⟩ = some (.int .i64 x) ∧ (∀ j, v.frozen? ⟨g, j, none⟩ = false) := by
  rcases h.own.2 with ⟨h1, _⟩ | ⟨g, cap, cur, hv, hb, hh, _⟩
  · injection h1 with _ h2; omega
  · obtain ⟨x, hx⟩ : ∃ x, ks[0]? = some x := ⟨_, List.getElem?_eq_getElem (by have := h.len; omega)⟩
    injection hv with hA hn hc
    subst hA
    refine ⟨g, x, rfl, (h.lo (g := g) rfl).2, ?_, fun j => h.own.frozenAt j⟩
    have := own_cells (f := iv) (fun a => rfl) h.own hx 0 (.int .i64 x) rfl
    simpa using this
theorem OW.first1 {g : Nat} (h : OW kdI w0 v T (some ⟨g, 0, none⟩) kn kc ks) (hk : 0 < kn) : g < v.heap.size ∧ (∃ x, v.cell? ⟨g, 0, none⟩ = some (.int .i64 x)) ∧ (∀ j, v.frozen? ⟨g, j, none⟩ = false) := by
  obtain ⟨g', x, h1, h2, h3, h4⟩ := h.first hk
  injection h1 with h1
  injection h1 with h1
  subst h1
  exact ⟨h2, ⟨x, h3⟩, h4⟩
theorem OW.put0 {g : Nat} (h : OW kdI w0 v T (some ⟨g, 0, none⟩) kn kc ks) (hk : 0 < kn) (u : Int) : OW kdI w0 (v.setCell ⟨g, 0, none⟩ (.int .i64 u)) T (some ⟨g, 0, none⟩) kn kc (ks.set 0 u) ∧ Fr v (v.setCell ⟨g, 0, none⟩ (.int .i64 u)) (fun i => (Value.slice (some ⟨g, 0, none⟩) kn kc).ownBlock = some i) := by
  obtain ⟨x, hx⟩ : ∃ x, ks[0]? = some x := ⟨_, List.getElem?_eq_getElem (by have := h.len; omega)⟩
  have hf : Fr v (v.setCell ⟨g, 0, none⟩ (.int .i64 u)) (fun i => (Value.slice (some ⟨g, 0, none⟩) kn kc).ownBlock = some i) := Fr.setCell (Fr.refl _ _) (Or.inr (by rfl)) _
  have h1 := own_put (s := 1) (f := iv) (j := 0) (u := .int .i64 u) (t1 := u) (fun a => rfl) (own_start h.own hx) (by have := h.len; omega) (by omega) rfl
  rw [show (0 * 1 + 0 : Nat) = 0 by rfl] at h1
  refine ⟨⟨h1, by simpa using h.len, fr_new7 h.fr (hf.mono (T := fun i => i = g) (fun i _ e => by simpa [Value.ownBlock] using e.symm)) (h.lo (g := g) rfl).1⟩, hf⟩
end
def lenOf : Value → Nat
  | .slice _ n _ => n
  | _ => 0
/-- What is read at the law's end. -/
structure FE (w v : World) (CA : Option Addr) (chs : List Ch) (KA : Option Addr) (ks : List Int) (AA : Option Addr) (aus : List Au) (g8 : Nat) (B : Option Addr) (m d : Nat) (L : Ld) (q : Fa) (lq kq : List Nat) : Prop where
  c : Rs v none 10 Ch.vals CA chs
  k : Rs v none 1 iv KA ks
  a : Rs v none 6 Au.vals AA aus
  l : B7 v g8 (ldv B m d L)
  t : Rs v none 10 Tk.vals B L.tks
  q : Fq v q lq kq
  bw : Below w.heap.size w v
theorem FE.below {w v v' : World} {CA : Option Addr} {chs : List Ch} {KA : Option Addr} {ks : List Int} {AA : Option Addr} {aus : List Au} {g8 : Nat} {B : Option Addr} {m d : Nat} {L : Ld} {q : Fa} {lq kq : List Nat} (h : FE w v CA chs KA ks AA aus g8 B m d L q lq kq) (hb : Below v.heap.size v v') : FE w v' CA chs KA ks AA aus g8 B m d L q lq kq :=
  ⟨h.c.below hb, h.k.below hb, h.a.below hb, h.l.below hb, h.t.below hb, h.q.below hb, h.bw.trans (hb.mono h.bw.size)⟩
theorem Rs.anyav {w : World} {av : Option Nat} {α : Type} {s : Nat} {f : α → List Value} {A : Option Addr} {l : List α} (h : Rs w av s f A l) : Rs w Option.none s f A l := by
  intro hl
  obtain ⟨b, o, h1, -, h2, h3⟩ := h hl
  exact ⟨b, o, h1, by simp, h2, h3⟩
end Go.Proofs.YtjkffgcikbkjeaaGreat

/- The law's walk. -/
namespace Go.Proofs.YtjkffgcikbkjeaaGreat
open Go.RowKit

set_option maxRecDepth 100000 in
set_option maxHeartbeats 32000000 in
theorem psums_walk (w : World) (A : Option Addr) (n c : Nat) (l : List Int) (a1 a2 : Int) (hA : Rs w none 1 iv A l) (hl : l.length = n) :
    Calls Tryz.prog 3 #[.slice A n c, .int .i64 a1, .int .i64 a2] w fun e w' => e = .returned (.bool true) ∧ Below w.heap.size w w' := by
  have HP := hide (tp_new (w := w) (c := c) hA hl 25)
  clear hA hl
  obtain ⟨f2, hf2, hF2⟩ := fold_nat a2 2 (by omega) (by omega)
  have HF2 := hide hF2
  have hf21 : f2 ≤ 1 := by omega
  clear hF2 hf2
  go_enter Tryz.func3, Tryz.ntmps3
  go_upto_region 3 with (go_at_call 4; (with_reducible refine (pbook_any _ w.heap.size A n c l 0 HP.out (by omega)).mono ?_); rintro e w1 ⟨B, d, b, cs, rfl, hok, hcl, hrs, htp, hb, hf⟩; have HB1 := hide (fr_new rfl hf); have HOK := hide hok; have HRS := hide hrs; have HTP := hide htp; clear hf hok hrs htp)
  generalize hW : World.alloc w1 _ = w0
  have HX0 := hide (show Below w.heap.size w w0 ∧ B7 w0 w1.heap.size (ldv B cs.length d (bkL cs)) ∧ Rs w0 (some w.heap.size) 10 Tk.vals B (bkL cs).tks ∧ Tp w0 w.heap.size A n c l b by rw [← hW]; exact ⟨HB1.out.trans (((Below.refl _ _).alloc (Nat.le_refl _) _ : Below w1.heap.size w1 _).mono HB1.out.size), b7_at rfl, HRS.out.below ((Below.refl _ _).alloc (Nat.le_refl _) _), HTP.out.alloc _⟩)
  obtain ⟨g8, hg8⟩ : ∃ g, g = w1.heap.size := ⟨_, rfl⟩
  rw [← hg8] at HX0 ⊢
  have HBW := hide HX0.out.1
  obtain ⟨T, hT⟩ : ∃ T, T = w.heap.size := ⟨_, rfl⟩
  have hTg : T < g8 := by rw [hT, hg8]; exact HTP.out.t.1
  rw [← hT] at HX0 ⊢
  have HTE := hide hT
  clear hW hg8 hT HB1 HRS HTP HP
  obtain ⟨n1, hn1, hn1b⟩ := tapeV_nat l b 8
  have HN1 := hide hn1
  have hn7 : n1 ≤ 7 := by omega
  clear hn1 hn1b
  go_upto_region 8 with (go_at_call 5; (with_reducible refine (nextp_any _ T A n c l b 8 HX0.out.2.2.2 (by omega) (by omega)).mono ?_); rintro e w2 ⟨rfl, hp, hf⟩; rw [HN1.out]; have HM := hide (show MS w0 w2 T A n c l (b + 1) none 0 0 [] none 0 0 [] none 0 0 [] from ⟨⟨b, HX0.out.2.2.2⟩, hp, OW.nil hf, OW.nil hf, OW.nil hf⟩); clear hp hf)
  go_loopw [11, 12, 13] (fun cv kv nv wr => ∃ (CA : Option Addr) (cn cc : Nat) (chs : List Ch) (KA : Option Addr) (kc : Nat) (ks : List Int) (j b' : Nat), cv = .slice CA cn cc ∧ kv = .slice KA cn kc ∧ nv = .int .i64 (j : Int) ∧ cn + j ≤ 7 ∧ b' + 3 * j ≤ 40 ∧ Hid (MS w0 wr T A n c l b' CA cn cc chs KA cn kc ks none 0 0 [])) (fun _ _ nv _ => (intOf nv).toNat)
  case atStart => exact ⟨none, 0, 0, [], none, 0, [], n1, b + 1, rfl, rfl, rfl, by omega, by omega, HM⟩
  case round =>
    obtain ⟨CA, cn, cc, chs, KA, kc, ks, j, b', rfl, rfl, rfl, hcj, hbj, HMr⟩ := hrel
    clear HM
    by_cases hj0 : j = 0
    · subst hj0
      go_upto_region 12 with (fail)
      obtain ⟨c6, hc6⟩ : ∃ x, x = decide (tapeV l b' 6 < 1) := ⟨_, rfl⟩
      have HC6 := hide hc6
      clear hc6
      go_cut [65] from 59 to 65 (fun s65 wx => ∃ (z : Bool) (b2 : Nat), s65 = .bool z ∧ b2 ≤ b' + 1 ∧ (z = false ∨ 0 < cn) ∧ Hid (MS w0 wx T A n c l b2 CA cn cc chs KA cn kc ks none 0 0 []))
      case first =>
        by_cases hc0 : 0 < cn
        · go_wp2_with (go_at_call 7; (with_reducible refine (chancetp_any _ T A n c l b' 1 6 HMr.out.tp (by omega) (by omega)).mono ?_); rintro e w9 ⟨rfl, hp, hf⟩; rw [← HC6.out]; have HM9 := hide (HMr.out.tape hf hp); clear hp hf)
          go_meet
          case rel => exact ⟨c6, b' + 1, rfl, by omega, .inr hc0, HM9⟩
        · go_wp2_with fail
          go_meet
          case rel => exact ⟨false, b', rfl, by omega, .inl rfl, HMr⟩
      case rest =>
      obtain ⟨z, b2, rfl, hb2, hz, HM1⟩ := hcut
      clear HMr HC6
      go_upto_if 65 with (fail)
      go_cut [] from 66 to 68 (fun wx => ∃ (ks2 : List Int), Hid (MS w0 wx T A n c l b2 CA cn cc chs KA cn kc ks2 none 0 0 []))
      case first =>
        cases z
        · go_wp2_with fail
          go_meet
          case rel => exact ⟨ks, HM1⟩
        · have hc0 : 0 < cn := hz.resolve_left (by simp)
          obtain ⟨g, x0, rfl, -, -, -⟩ := HM1.out.k.first hc0
          obtain ⟨gz, ⟨gx, gc⟩, gf⟩ := HM1.out.k.first1 hc0
          go_wp2_with fail
          go_meet
          case rel => exact ⟨ks.set 0 a1, hide (HM1.out.gk (HM1.out.k.put0 hc0 a1).1 (HM1.out.k.put0 hc0 a1).2)⟩
      case rest =>
      clear hz
      obtain ⟨ks2, HM2⟩ := hcut
      clear HM1
      obtain ⟨c7, hc7⟩ : ∃ x, x = decide (tapeV l b2 10 < 1) := ⟨_, rfl⟩
      have HC7 := hide hc7
      clear hc7
      go_upto_if 70 with (go_at_call 7; (with_reducible refine (chancetp_any _ T A n c l b2 1 10 HM2.out.tp (by omega) (by omega)).mono ?_); rintro e w9 ⟨rfl, hp, hf⟩; rw [← HC7.out]; have HM9 := hide (HM2.out.tape hf hp); clear hp hf)
      go_cut [12] from 71 to 73 (fun s12 wx => ∃ (KA3 : Option Addr) (kn3 kc3 : Nat) (ks3 : List Int), s12 = .slice KA3 kn3 kc3 ∧ kn3 ≤ 8 ∧ Hid (MS w0 wx T A n c l (b2 + 1) CA cn cc chs KA3 kn3 kc3 ks3 none 0 0 []))
      case first =>
        cases c7
        · go_wp2_with fail
          go_meet
          case rel => exact ⟨KA, cn, kc, ks2, rfl, by omega, HM9⟩
        · go_wp2_with (at_builtin; refine wl_app_ow kdI_ok (w0 := w0) rfl _ _ _ Tryz.underlying22 rfl T KA cn kc ks2 _ 1 1 [1] rfl rfl (HM9.out.k.alloc _) (one_i w9 _ _) rfl (by omega) ?_; intro KA' kc' w8 ho hf; have HM8 := hide ((HM9.out.alloc _).gk ho hf); clear ho hf)
          go_meet
          case rel => exact ⟨KA', cn + 1, kc', _, rfl, by omega, HM8⟩
      case rest =>
      obtain ⟨KA3, kn3, kc3, ks3, rfl, hkn3, HM3⟩ := hcut
      clear HM2 HC7
      obtain ⟨c8, hc8⟩ : ∃ x, x = decide (tapeV l (b2 + 1) 20 < 1) := ⟨_, rfl⟩
      have HC8 := hide hc8
      clear hc8
      go_upto_if 75 with (go_at_call 7; (with_reducible refine (chancetp_any _ T A n c l (b2 + 1) 1 20 HM3.out.tp (by omega) (by omega)).mono ?_); rintro e w9 ⟨rfl, hp, hf⟩; rw [← HC8.out]; have HM9 := hide (HM3.out.tape hf hp); clear hp hf)
      go_cut [11, 12] from 76 to 85 (fun s11 s12 wx => ∃ (CA4 : Option Addr) (cn4 cc4 : Nat) (chs4 : List Ch) (KA4 : Option Addr) (kn4 kc4 : Nat) (ks4 : List Int), s11 = .slice CA4 cn4 cc4 ∧ s12 = .slice KA4 kn4 kc4 ∧ cn4 ≤ 65 ∧ kn4 ≤ 73 ∧ Hid (MS w0 wx T A n c l (b2 + 1 + 1) CA4 cn4 cc4 chs4 KA4 kn4 kc4 ks4 none 0 0 []))
      case first =>
        cases c8
        · go_wp2_with fail
          go_meet
          case rel => exact ⟨CA, cn, cc, chs, KA3, kn3, kc3, ks3, rfl, rfl, by omega, by omega, HM9⟩
        · go_upto_region 17 with (fail)
          go_loopw [11, 12] (fun cv kv wr => ∃ (CA4 : Option Addr) (cn4 cc4 : Nat) (chs4 : List Ch) (KA4 : Option Addr) (kn4 kc4 : Nat) (ks4 : List Int), cv = .slice CA4 cn4 cc4 ∧ kv = .slice KA4 kn4 kc4 ∧ cn4 ≤ 65 ∧ kn4 ≤ cn4 + 8 ∧ Hid (MS w0 wr T A n c l (b2 + 1 + 1) CA4 cn4 cc4 chs4 KA4 kn4 kc4 ks4 none 0 0 [])) (fun cv _ _ => 65 - lenOf cv)
          case atStart => exact ⟨CA, cn, cc, chs, KA3, kn3, kc3, ks3, rfl, rfl, by omega, by omega, HM9⟩
          case round =>
            obtain ⟨CA4, cn4, cc4, chs4, KA4, kn4, kc4, ks4, rfl, rfl, hcn4, hkn4, HM4⟩ := hrel
            clear HM9 HM3 HC8
            by_cases h65 : cn4 ≤ 64
            · have h65i : (cn4 : Int) ≤ 64 := by omega
              go_wp2_with (first
                | (at_builtin; refine wl_app_ow kdC_ok (w0 := w0) rfl _ _ _ Tryz.underlying32 rfl T CA4 cn4 cc4 chs4 _ 1 1 [⟨⟨#[]⟩, ⟨#[]⟩, 0, 0, 0, ⟨#[]⟩, ⟨#[]⟩, ⟨0, 0, 0⟩⟩] rfl rfl (HM4.out.c.alloc _) (one_c wr _ _) rfl (by omega) ?_; intro CA' cc' w6 ho hf; have HM6 := hide ((HM4.out.alloc _).gc ho hf); clear ho hf)
                | (at_builtin; refine wl_app_ow kdI_ok (w0 := w0) rfl _ _ _ Tryz.underlying22 rfl T KA4 kn4 kc4 ks4 _ 1 1 [0] rfl rfl (HM6.out.k.alloc _) (one_i w6 _ _) rfl (by omega) ?_; intro KA' kc' w8 ho hf; have HM8 := hide ((HM6.out.alloc _).gk ho hf); clear ho hf))
              go_roundw
              case rel => exact ⟨CA', cn4 + 1, cc', _, KA', kn4 + 1, kc', _, rfl, rfl, by omega, by omega, HM8⟩
              case measure => simp [lenOf] <;> omega
            · have h65i : ¬ (cn4 : Int) ≤ 64 := by omega
              go_wp2_with fail
              go_meet
              case rel => exact ⟨CA4, cn4, cc4, chs4, KA4, kn4, kc4, ks4, rfl, rfl, by omega, by omega, HM4⟩
      case rest =>
      obtain ⟨CA4, cn4, cc4, chs4, KA4, kn4, kc4, ks4, rfl, rfl, hcn4, hkn4, HM4⟩ := hcut
      clear HM3 HC8
      obtain ⟨p, hp⟩ : ∃ p, p = b2 + 1 + 1 := ⟨_, rfl⟩
      have hp60 : p ≤ 60 := by omega
      rw [← hp] at HM4
      clear hp
      obtain ⟨n5, hn5, hn5b⟩ := tapeV_nat l p 5
      have HN5 := hide hn5
      have hn54 : n5 ≤ 4 := by omega
      obtain ⟨n6, hn6, hn6b⟩ := tapeV_nat l (p + 1) 2
      have HN6 := hide hn6
      have hn61 : n6 ≤ 1 := by omega
      clear hn5 hn5b hn6 hn6b
      go_upto_region 20 with (fail)
      go_cut [15] from 86 to 94 (fun s15 wx => ∃ (N : Nat), s15 = .int .i64 (N : Int) ∧ N ≤ 34 ∧ Hid (MS w0 wx T A n c l (p + 1 + 1) CA4 cn4 cc4 chs4 KA4 kn4 kc4 ks4 none 0 0 []))
      case first =>
        rcases (show f2 = 0 ∨ f2 = 1 by omega) with rfl | rfl
        · go_wp2_with (first
            | (go_at_call 5; (with_reducible refine (nextp_any _ T A n c l p 5 HM4.out.tp (by omega) (by omega)).mono ?_); rintro e w5 ⟨rfl, hp, hf⟩; rw [HN5.out]; have HM5 := hide (HM4.out.tape hf hp); clear hp hf)
            | (go_at_call 8; (with_reducible refine (HF2.out _).mono ?_); rintro e w' ⟨rfl, rfl⟩)
            | (go_at_call 5; (with_reducible refine (nextp_any _ T A n c l (p + 1) 2 HM5.out.tp (by omega) (by omega)).mono ?_); rintro e w6 ⟨rfl, hp, hf⟩; rw [HN6.out]; have HM6 := hide (HM5.out.tape hf hp); clear hp hf))
          go_meet
          case rel => exact ⟨n5, by simp, by omega, HM6⟩
        · go_wp2_with (first
            | (go_at_call 5; (with_reducible refine (nextp_any _ T A n c l p 5 HM4.out.tp (by omega) (by omega)).mono ?_); rintro e w5 ⟨rfl, hp, hf⟩; rw [HN5.out]; have HM5 := hide (HM4.out.tape hf hp); clear hp hf)
            | (go_at_call 8; (with_reducible refine (HF2.out _).mono ?_); rintro e w' ⟨rfl, rfl⟩)
            | (go_at_call 5; (with_reducible refine (nextp_any _ T A n c l (p + 1) 2 HM5.out.tp (by omega) (by omega)).mono ?_); rintro e w6 ⟨rfl, hp, hf⟩; rw [HN6.out]; have HM6 := hide (HM5.out.tape hf hp); clear hp hf))
          go_meet
          case rel => exact ⟨n5 + 30 * n6, by go_num, by omega, HM6⟩
      case rest =>
      obtain ⟨N, rfl, hN, HM6⟩ := hcut
      clear HM4 HN5 HN6 HF2
      go_upto_region 21 with (fail)
      go_loopw [14, 15] (fun av nv wr => ∃ (AA : Option Addr) (an ac : Nat) (aus : List Au) (j b' : Nat), av = .slice AA an ac ∧ nv = .int .i64 (j : Int) ∧ an + j ≤ 34 ∧ b' + 2 * j ≤ 200 ∧ Hid (MS w0 wr T A n c l b' CA4 cn4 cc4 chs4 KA4 kn4 kc4 ks4 AA an ac aus)) (fun _ nv _ => (intOf nv).toNat)
      case atStart => exact ⟨none, 0, 0, [], N, p + 1 + 1, rfl, rfl, by omega, by omega, HM6⟩
      case round =>
        obtain ⟨AA, an, ac, aus, j, b5, rfl, rfl, hanj, hb5, HM7⟩ := hrel
        clear HM6
        by_cases hj0 : j = 0
        · subst hj0
          have LB := hide (bkL_len cs)
          have LC := hide HM7.out.c.len
          have LK := hide HM7.out.k.len
          have LA := hide HM7.out.a.len
          have hT8 : T < w0.heap.size := HX0.out.2.2.2.t.1
          have HBO := hide (bk_ok HOK.out (by omega))
          have HSB := hide (show spentOf (bkL cs).tks = (sumBk cs : Int) from spent_bk cs)
          go_upto_region 26 with (go_at_call 9; (with_reducible refine (level_any _ T A n c l b5 HM7.out.tp (by omega)).mono ?_); rintro e w13 ⟨q, r, rfl, ho, hi, hf⟩; have HLV := hide (And.intro ho hf); clear ho hi hf)
          have HFR := hide (HM7.out.c.fr.trans HLV.out.2)
          have HE := hide (show FE w w13 CA4 chs4 KA4 ks4 AA aus g8 B cs.length d (bkL cs) q (numL (some r)) (denL (some r)) from ⟨(HM7.out.c.tape HLV.out.2 hT8).rs kdC_ok, (HM7.out.k.tape HLV.out.2 hT8).rs kdI_ok, (HM7.out.a.tape HLV.out.2 hT8).rs kdA_ok, HX0.out.2.1.fr HFR.out (by omega), (HX0.out.2.2.1.tape HFR.out).anyav, HLV.out.1.1, HBW.out.trans (HFR.out.below HBW.out.size (fun k hk e => by have := HTE.out; omega))⟩)
          generalize hW : World.alloc w13 _ = v14
          have HE14 := hide (show FE w v14 CA4 chs4 KA4 ks4 AA aus g8 B cs.length d (bkL cs) q (numL (some r)) (denL (some r)) ∧ Cb v14 w13.heap.size [.slice q.A q.n q.c, .slice q.B q.m q.d] by rw [← hW]; exact ⟨HE.out.below ((Below.refl _ _).alloc (Nat.le_refl _) _), Cb.mk0 [.slice q.A q.n q.c, .slice q.B q.m q.d] (by simp) _ rfl⟩)
          obtain ⟨g17, hg17⟩ : ∃ g, g = w13.heap.size := ⟨_, rfl⟩
          rw [← hg17] at HE14 ⊢
          obtain ⟨lq, hlq⟩ : ∃ x, x = numL (some r) := ⟨_, rfl⟩
          obtain ⟨kq, hkq⟩ : ∃ x, x = denL (some r) := ⟨_, rfl⟩
          rw [← hlq, ← hkq] at HE14
          clear hW hg17 hlq hkq HE HFR HM7 HX0
          obtain ⟨V, E, hU1, hU2⟩ := upper_both q lq kq (an : Int) (missOf aus : Int)
          have HU1 := hide hU1
          have HU2 := hide hU2
          obtain ⟨S, hS⟩ : ∃ S, S = sumR chs4 ks4 (bkL cs) (an : Int) (missOf aus : Int) V E := ⟨_, rfl⟩
          have HS := hide hS
          clear hU1 hU2 hS
          obtain ⟨az, ⟨a0, a1, a2, a3, a4, a5, a6⟩, af, -⟩ := HE14.out.1.l; dsimp only [ldv] at a0 a1 a2 a3 a4 a5 a6
          obtain ⟨q0, q1⟩ : _ ∧ _ := ⟨HE14.out.2.cell 0 _ rfl, HE14.out.2.cell 1 _ rfl⟩; have qz := HE14.out.2.sz
          have hcl9 : cs.length ≤ 4294967296 := by omega
          have han9 : an ≤ 4294967296 := by omega
          have HCL := hide (psum_any v14 CA4 cn4 cc4 chs4 KA4 kn4 kc4 ks4 B cs.length d (bkL cs) AA an ac aus q lq kq V E HE14.out.1.c LC.out HE14.out.1.k LK.out HE14.out.1.t LB.out hcl9 HE14.out.1.a LA.out han9 HE14.out.1.q HU1.out)
          go_upto_region 27 with (go_at_call 10; (with_reducible refine (HCL.out).mono ?_); rintro e w15 ⟨rfl, hb⟩; rw [← HS.out]; have HE15 := hide (And.intro (HE14.out.1.below hb) (HE14.out.2.below hb)); clear hb)
          clear a0 a1 a2 a3 a4 a5 a6 az af
          clear q0 q1 qz
          generalize hW : World.alloc w15 _ = v16
          have HE16 := hide (show (FE w v16 CA4 chs4 KA4 ks4 AA aus g8 B cs.length d (bkL cs) q lq kq ∧ Cb v16 g17 [.slice q.A q.n q.c, .slice q.B q.m q.d]) ∧ B7 v16 w15.heap.size S.1.v7 by rw [← hW]; exact ⟨⟨HE15.out.1.below ((Below.refl _ _).alloc (Nat.le_refl _) _), HE15.out.2.alloc _⟩, b7_at rfl⟩)
          obtain ⟨g18, hg18⟩ : ∃ g, g = w15.heap.size := ⟨_, rfl⟩
          rw [← hg18] at HE16 ⊢
          clear hW hg18 HE14 HE15
          obtain ⟨az, ⟨a0, a1, a2, a3, a4, a5, a6⟩, af, -⟩ := HE16.out.1.1.l; dsimp only [ldv] at a0 a1 a2 a3 a4 a5 a6
          obtain ⟨q0, q1⟩ : _ ∧ _ := ⟨HE16.out.1.2.cell 0 _ rfl, HE16.out.1.2.cell 1 _ rfl⟩; have qz := HE16.out.1.2.sz
          go_upto_region 28 with (go_at_call 11; (with_reducible refine (r38sum_any _ CA4 cn4 cc4 chs4 KA4 kn4 kc4 ks4 B cs.length d (bkL cs) AA an ac aus q lq kq V E HE16.out.1.1.c LC.out HE16.out.1.1.k LK.out HE16.out.1.1.t LB.out hcl9 HE16.out.1.1.a LA.out han9 HE16.out.1.1.q HU2.out).mono ?_); rintro e w17 ⟨rfl, hb⟩; rw [← HS.out]; have HE17 := hide (And.intro (HE16.out.1.1.below hb) (HE16.out.2.below hb)); clear hb)
          clear a0 a1 a2 a3 a4 a5 a6 az af
          clear q0 q1 qz
          generalize hW : World.alloc w17 _ = v18
          have HE18 := hide (show FE w v18 CA4 chs4 KA4 ks4 AA aus g8 B cs.length d (bkL cs) q lq kq ∧ B7 v18 g18 S.1.v7 ∧ B7 v18 w17.heap.size S.1.v7 by rw [← hW]; exact ⟨HE17.out.1.below ((Below.refl _ _).alloc (Nat.le_refl _) _), HE17.out.2.below ((Below.refl _ _).alloc (Nat.le_refl _) _), b7_at rfl⟩)
          obtain ⟨g20, hg20⟩ : ∃ g, g = w17.heap.size := ⟨_, rfl⟩
          rw [← hg20] at HE18 ⊢
          clear hW hg20 HE16 HE17
          obtain ⟨az, ⟨a0, a1, a2, a3, a4, a5, a6⟩, af, -⟩ := HE18.out.1.l; dsimp only [ldv] at a0 a1 a2 a3 a4 a5 a6
          go_upto_region 29 with (go_at_call 12; (with_reducible refine (pspent_any _ B d cs.length (bkL cs) HE18.out.1.t LB.out hcl9).mono ?_); rintro e w19 ⟨rfl, hb⟩; rw [HBO.out, if_pos rfl, if_pos rfl, HSB.out]; have HE19 := hide (And.intro (HE18.out.1.below hb) (And.intro (HE18.out.2.1.below hb) (HE18.out.2.2.below hb))); clear hb)
          clear a0 a1 a2 a3 a4 a5 a6 az af
          obtain ⟨az, ⟨a0, a1, a2, a3, a4, a5, a6⟩, af, -⟩ := HE19.out.1.l; dsimp only [ldv] at a0 a1 a2 a3 a4 a5 a6
          go_upto_region 31 with (fail)
          generalize hW : World.alloc w19 _ = v20
          have HE20 := hide (show FE w v20 CA4 chs4 KA4 ks4 AA aus g8 B cs.length d (bkL cs) q lq kq ∧ B7 v20 g18 S.1.v7 ∧ B7 v20 g20 S.1.v7 ∧ B7 v20 w19.heap.size (ldv B cs.length d { bkL cs with r0 := 1 }) by rw [← hW]; exact ⟨HE19.out.1.below ((Below.refl _ _).alloc (Nat.le_refl _) _), HE19.out.2.1.below ((Below.refl _ _).alloc (Nat.le_refl _) _), HE19.out.2.2.below ((Below.refl _ _).alloc (Nat.le_refl _) _), b7_at rfl⟩)
          obtain ⟨g24, hg24⟩ : ∃ g, g = w19.heap.size := ⟨_, rfl⟩
          rw [← hg24] at HE20 ⊢
          clear a0 a1 a2 a3 a4 a5 a6 az af
          clear hW hg24 HE19 HE18 HCL
          have HCL2 := hide (show Calls Tryz.prog 12 #[.agg #[.slice B cs.length d, .int .i64 1, .int .i64 (bkL cs).r1, .int .i64 (bkL cs).r2, .int .i64 (bkL cs).r3, .int .i64 (bkL cs).r4, .int .i64 (bkL cs).r5]] v20 (fun e w' => e = .returned (.tuple #[.int .i64 0, .int .i64 1]) ∧ Below v20.heap.size v20 w') by
            have h := pspent_any v20 B d cs.length { bkL cs with r0 := 1 } HE20.out.1.t LB.out hcl9
            rw [bk_bad] at h
            exact h)
          obtain ⟨az, ⟨a0, a1, a2, a3, a4, a5, a6⟩, af, -⟩ := HE20.out.2.2.2; dsimp only [ldv] at a0 a1 a2 a3 a4 a5 a6
          go_upto_region 32 with (go_at_call 12; (with_reducible refine (HCL2.out).mono ?_); rintro e w21 ⟨rfl, hb⟩; have HE21 := hide (And.intro (HE20.out.1.below hb) (And.intro (HE20.out.2.1.below hb) (HE20.out.2.2.1.below hb))); clear hb)
          clear a0 a1 a2 a3 a4 a5 a6 az af
          clear HE20 HCL2
          obtain ⟨sz, ⟨s0, s1, s2, s3, s4, s5, s6⟩, sf, -⟩ := HE21.out.2.1; dsimp only [Sm.v7] at s0 s1 s2 s3 s4 s5 s6
          obtain ⟨tz, ⟨t0, t1, t2, t3, t4, t5, t6⟩, tf, -⟩ := HE21.out.2.2; dsimp only [Sm.v7] at t0 t1 t2 t3 t4 t5 t6
          have HPM := hide (pmissed_any w21 AA an ac aus HE21.out.1.a LA.out han9)
          go_wp2_with (first
            | (go_at_call 13; (with_reducible refine (HPM.out).mono ?_); rintro e w22 ⟨rfl, hb⟩; have HE22 := hide (HE21.out.1.below hb); have HPN := hide (r38missed_any w22 AA an ac aus HE22.out.a LA.out han9); clear hb)
            | (go_at_call 14; (with_reducible refine (HPN.out).mono ?_); rintro e w23 ⟨rfl, hb⟩; have HE23 := hide (HE22.out.below hb); clear hb)
            | (go_at_call 15; (with_reducible refine (pknown_any _).mono ?_); rintro e w24 ⟨rfl, hb⟩; have HE24 := hide (HE23.out.below hb); clear hb))
          go_ret
          exact ⟨rfl, HE24.out.bw⟩
        · obtain ⟨j', rfl⟩ : ∃ j', j = j' + 1 := ⟨j - 1, by omega⟩
          have hjp : (0 : Int) < ((j' + 1 : Nat) : Int) := by omega
          obtain ⟨k4, hk4, hk4b⟩ := tapeV_nat l b5 4
          have HK4 := hide hk4
          have hk43 : k4 ≤ 3 := by omega
          obtain ⟨k8, hk8, hk8b⟩ := tapeV_nat l (b5 + 1) 8
          have HK8 := hide hk8
          have hk87 : k8 ≤ 7 := by omega
          clear hk4 hk4b hk8 hk8b
          go_upto_region 24 with (go_at_call 5; (with_reducible refine (nextp_any _ T A n c l b5 4 HM7.out.tp (by omega) (by omega)).mono ?_); rintro e w8 ⟨rfl, hp, hf⟩; rw [HK4.out]; have HM8 := hide (HM7.out.tape hf hp); clear hp hf)
          go_wp2_with (first
            | (go_at_call 6; (with_reducible refine (presult_any w8 _).mono ?_); rintro e w9 ⟨z1, rfl, hb⟩; have HM9 := hide (HM8.out.below hb); clear hb)
            | (go_at_call 5; (with_reducible refine (nextp_any _ T A n c l (b5 + 1) 8 HM9.out.tp (by omega) (by omega)).mono ?_); rintro e w10 ⟨rfl, hp, hf⟩; rw [HK8.out]; have HM10 := hide (HM9.out.tape hf hp); clear hp hf)
            | (go_at_call 6; (with_reducible refine (presult_any w10 _).mono ?_); rintro e w11 ⟨z2, rfl, hb⟩; have HM11 := hide (HM10.out.below hb); clear hb)
            | (at_builtin; refine wl_app_ow kdA_ok (w0 := w0) rfl _ _ _ Tryz.underlying45 rfl T AA an ac aus _ 1 1 [⟨z1, z2⟩] rfl rfl (HM11.out.a.alloc _) (one_a w11 _ _) rfl (by omega) ?_; intro AA' ac' w12 ho hf; have HM12 := hide ((HM11.out.alloc _).ga ho hf); clear ho hf))
          go_roundw
          case rel => exact ⟨AA', an + 1, ac', _, j', b5 + 1 + 1, rfl, by go_num, by omega, by omega, HM12⟩
          case measure => simp [intOf] <;> omega
    · obtain ⟨j', rfl⟩ : ∃ j', j = j' + 1 := ⟨j - 1, by omega⟩
      have hjp : (0 : Int) < ((j' + 1 : Nat) : Int) := by omega
      go_upto_region 11 with (first
        | (go_at_call 5; (with_reducible refine (nextp_any _ T A n c l b' 6 HMr.out.tp (by omega) (by omega)).mono ?_); rintro e w3 ⟨rfl, hp, hf⟩; have HM3 := hide (HMr.out.tape hf hp); clear hp hf)
        | (go_at_call 5; (with_reducible refine (nextp_any _ T A n c l (b' + 1) 4 HM3.out.tp (by omega) (by omega)).mono ?_); rintro e w4 ⟨rfl, hp, hf⟩; have HM4 := hide (HM3.out.tape hf hp); clear hp hf)
        | (go_at_call 6; (with_reducible refine (presult_any _ _).mono ?_); rintro e w5 ⟨z, rfl, hb⟩; have HM5 := hide (HM4.out.below hb); clear hb)
        | (at_builtin; refine wl_app_ow kdC_ok (w0 := w0) rfl _ _ _ Tryz.underlying32 rfl T CA cn cc chs _ 1 1 [⟨⟨#[112]⟩, ⟨#[116]⟩, tapeV l b' 6, 0, 0, ⟨#[]⟩, ⟨#[]⟩, z⟩] rfl rfl (HM5.out.c.alloc _) (one_c w5 _ _) rfl (by omega) ?_; intro CA' cc' w6 ho hf; have HM6 := hide ((HM5.out.alloc _).gc ho hf); clear ho hf))
      go_wp2_with (first
        | (go_at_call 5; (with_reducible refine (nextp_any _ T A n c l (b' + 1 + 1) 50 HM6.out.tp (by omega) (by omega)).mono ?_); rintro e w7 ⟨rfl, hp, hf⟩; have HM7 := hide (HM6.out.tape hf hp); clear hp hf)
        | (at_builtin; refine wl_app_ow kdI_ok (w0 := w0) rfl _ _ _ Tryz.underlying22 rfl T KA cn kc ks _ 1 1 [tapeV l (b' + 1 + 1) 50] rfl rfl (HM7.out.k.alloc _) (one_i w7 _ _) rfl (by omega) ?_; intro KA' kc' w8 ho hf; have HM8 := hide ((HM7.out.alloc _).gk ho hf); clear ho hf))
      go_roundw
      case rel => exact ⟨CA', cn + 1, cc', _, KA', kc', _, j', b' + 1 + 1 + 1, rfl, rfl, by go_num, by omega, by omega, HM8⟩
      case measure => simp [intOf] <;> omega
end Go.Proofs.YtjkffgcikbkjeaaGreat
