/- Contracts of the functions that these laws reach: part 15: Contracts: noise.total, Exactly, AtLeast, AtMost; Contracts: Small; Contracts: the reference's Split in one, Pow; Contracts: the reference's fractions: lowest, limited, Make, Of; Contracts: the reference's fractions: Make, Of. -/
import Derived.Test.YtnokfhkcfebimaaG14
import Derived.Test.YtnokfhkcfebimaaG10
import Derived.Test.YtnokfhkcfebimaaG9
set_option linter.unusedVariables false
set_option linter.unusedSimpArgs false

/- Contracts: noise.total, Exactly, AtLeast, AtMost. -/
namespace Go.Proofs.Ytnokfhkcfebimaa
open Go.RowKit

set_option maxRecDepth 100000 in
set_option maxHeartbeats 8000000 in
theorem total_any (w : World) (a : Fa) (l k : List Nat) (n : Int) (fid : FuncId) (G : Nat) (f : Nat → Bool) (hq : Fq w a l k)
    (hcf : ∀ vs W, (callFunc fid vs).run Try.prog W = .ok (.enter fid vs) W)
    (hf : ∀ (W : World) (j : Nat), Below w.heap.size w W → j ≤ 32 → Calls Try.prog fid #[.int .i64 (j : Int), .pointer (some ⟨G, 0, none⟩)] W fun e w' => e = .returned (.bool (f j)) ∧ w' = W) :
    Calls Try.prog 98 #[.agg #[.slice a.A a.n a.c, .slice a.B a.m a.d], .int .i64 n, .func (Fn.func fid) #[] #[.pointer (some ⟨G, 0, none⟩)]] w fun e w' => Ret w (totR (fracOf l k) n f) e w' := by
  cases hch : chO (fracOf l k)
  · have HCH := hide hch
    have HX := hide (show totR (fracOf l k) n f = (none, 41) by unfold totR; rw [if_neg (by rw [hch]; simp)])
    clear hch hf hcf
    go_enter Try.func98, Try.ntmps98
    go_upto_region 1 with (fail)
    generalize hW : World.alloc (World.alloc w _) _ = v
    have HF := hide (show F1 w v a (l) (k) by rw [← hW]; exact F1.mk0 hq _ _)
    obtain ⟨a0, a1, az, r0, r1, rf⟩ := HF.out.ca
    clear hW hq
    go_wp2_with (go_at_call 74; (with_reducible refine (chance_any _ a _ _ HF.out.q).mono ?_); rintro e w1 ⟨rfl, hb⟩; rw [HCH.out]; have HF1 := hide (HF.out.below hb); obtain ⟨e0, e1, ez, s0, s1, sf⟩ := HF1.out.ca; clear hb)
    refine bodyPost_ret (v := .tuple #[.agg #[.slice none 0 0, .slice none 0 0], .int .i64 41]) (by simp [results, Try.results98, go_sem, *]) rfl (HF1.out.err HX.out)
  · by_cases h0 : n < 0
    · have HCH := hide hch
      have HX := hide (show totR (fracOf l k) n f = (none, 3) by unfold totR; rw [if_pos hch, if_pos (.inl h0)])
      have d0 : decide (n < 0) = true := decide_eq_true h0
      clear hch hf hcf h0
      go_enter Try.func98, Try.ntmps98
      go_upto_region 1 with (fail)
      generalize hW : World.alloc (World.alloc w _) _ = v
      have HF := hide (show F1 w v a (l) (k) by rw [← hW]; exact F1.mk0 hq _ _)
      obtain ⟨a0, a1, az, r0, r1, rf⟩ := HF.out.ca
      clear hW hq
      go_wp2_with (go_at_call 74; (with_reducible refine (chance_any _ a _ _ HF.out.q).mono ?_); rintro e w1 ⟨rfl, hb⟩; rw [HCH.out]; have HF1 := hide (HF.out.below hb); obtain ⟨e0, e1, ez, s0, s1, sf⟩ := HF1.out.ca; clear hb)
      refine bodyPost_ret (v := .tuple #[.agg #[.slice none 0 0, .slice none 0 0], .int .i64 3]) (by simp [results, Try.results98, go_sem, *]) rfl (HF1.out.err HX.out)
    · by_cases h2 : 32 < n
      · have HCH := hide hch
        have HX := hide (show totR (fracOf l k) n f = (none, 3) by unfold totR; rw [if_pos hch, if_pos (.inr h2)])
        have d0 : decide (n < 0) = false := decide_eq_false h0
        have d1 : decide (n > 32) = true := decide_eq_true h2
        clear hch hf hcf h0 h2
        go_enter Try.func98, Try.ntmps98
        go_upto_region 1 with (fail)
        generalize hW : World.alloc (World.alloc w _) _ = v
        have HF := hide (show F1 w v a (l) (k) by rw [← hW]; exact F1.mk0 hq _ _)
        obtain ⟨a0, a1, az, r0, r1, rf⟩ := HF.out.ca
        clear hW hq
        go_wp2_with (go_at_call 74; (with_reducible refine (chance_any _ a _ _ HF.out.q).mono ?_); rintro e w1 ⟨rfl, hb⟩; rw [HCH.out]; have HF1 := hide (HF.out.below hb); obtain ⟨e0, e1, ez, s0, s1, sf⟩ := HF1.out.ca; clear hb)
        refine bodyPost_ret (v := .tuple #[.agg #[.slice none 0 0, .slice none 0 0], .int .i64 3]) (by simp [results, Try.results98, go_sem, *]) rfl (HF1.out.err HX.out)
      · cases hA : fracOf l k with
        | none => rw [hA] at hch; simp [chO] at hch
        | some r =>
          obtain ⟨rfl, rfl, hr0, hr⟩ := fracOf_some hA
          rw [hA] at hch
          have hc := chO_chn rfl hr0 hch
          obtain ⟨m, rfl⟩ : ∃ m : Nat, n = m := ⟨n.toNat, by omega⟩
          have hX : totR (some r) m f = (some (tot r m f), 0) := by
            unfold totR
            rw [if_pos hch, if_neg (by omega)]; rfl
          rw [hX]
          exact total_main w a r m fid G f hq (by omega) hc hr hA (by rw [hA]; exact hch) hcf hf
set_option maxRecDepth 100000 in
set_option maxHeartbeats 4000000 in
theorem exactly1_any (w : World) (j : Nat) (k : Int) (G : Nat) (h0 : w.cell? ⟨G, 0, none⟩ = some (.int .i64 k)) :
  Calls Try.prog 101 #[.int .i64 (j : Int), .pointer (some ⟨G, 0, none⟩)] w fun e w' => e = .returned (.bool (decide ((j : Int) = k))) ∧ w' = w := by
  go_enter Try.func101, Try.ntmps101
  go_wp2_with fail
  go_ret
  exact ⟨by first | (simp; done) | (simp; rfl), rfl⟩
set_option maxRecDepth 100000 in
set_option maxHeartbeats 4000000 in
theorem atleast1_any (w : World) (j : Nat) (k : Int) (G : Nat) (h0 : w.cell? ⟨G, 0, none⟩ = some (.int .i64 k)) :
  Calls Try.prog 100 #[.int .i64 (j : Int), .pointer (some ⟨G, 0, none⟩)] w fun e w' => e = .returned (.bool (decide (k ≤ (j : Int)))) ∧ w' = w := by
  go_enter Try.func100, Try.ntmps100
  go_wp2_with fail
  go_ret
  exact ⟨by first | (simp; done) | (simp; rfl), rfl⟩
set_option maxRecDepth 100000 in
set_option maxHeartbeats 4000000 in
theorem atmost1_any (w : World) (j : Nat) (k : Int) (G : Nat) (h0 : w.cell? ⟨G, 0, none⟩ = some (.int .i64 k)) :
  Calls Try.prog 99 #[.int .i64 (j : Int), .pointer (some ⟨G, 0, none⟩)] w fun e w' => e = .returned (.bool (decide ((j : Int) ≤ k))) ∧ w' = w := by
  go_enter Try.func99, Try.ntmps99
  go_wp2_with fail
  go_ret
  exact ⟨by first | (simp; done) | (simp; rfl), rfl⟩
theorem calls_func {fid : FuncId} {fn : Func} {c : Code} (hf : Try.prog.funcs[fid]? = some fn) (hname : (fn.name == "runtime.NumGoroutine") = false) (hb : fn.body = some c) (vs : Array Value) (w : World) : (callFunc fid vs).run Try.prog w = .ok (.enter fid vs) w := by
  unfold callFunc
  simp [Sem.run_bind, go_sem, hf, hb]
  simpa using hname
set_option maxRecDepth 100000 in
set_option maxHeartbeats 4000000 in
theorem exactly_any (w : World) (a : Fa) (l k : List Nat) (n m : Int) (hq : Fq w a l k) :
    Calls Try.prog 56 #[.agg #[.slice a.A a.n a.c, .slice a.B a.m a.d], .int .i64 n, .int .i64 m] w fun e w' => Ret w (totR (fracOf l k) n (fun j => decide ((j : Int) = m))) e w' := by
  have hcf := fun (vs : Array Value) (W : World) => calls_func (fid := 101) (fn := Try.f101) rfl (by kernel_rfl) rfl vs W
  have HCF := hide hcf
  clear hcf
  go_enter Try.func56, Try.ntmps56
  go_upto_region 1 with (fail)
  generalize hW : World.alloc (World.alloc (World.alloc w _) _) _ = v
  have HQ := hide (show Fq v a l k by rw [← hW]; exact ((hq.alloc _).alloc _).alloc _)
  have a0 : v.cell? ⟨w.heap.size, 0, none⟩ = some (.slice a.A a.n a.c) := by rw [← hW]; clear hW; go_simp
  have a1 : v.cell? ⟨w.heap.size, 1, none⟩ = some (.slice a.B a.m a.d) := by rw [← hW]; clear hW; go_simp
  have hk : v.cell? ⟨w.heap.size + 1, 0, none⟩ = some (.int .i64 m) := by rw [← hW]; clear hW; go_simp
  have HR := hide (show Rb v (w.heap.size + 2) by rw [← hW]; exact Rb.mk0 _ (by simp))
  have HB := hide (show Below w.heap.size w v by rw [← hW]; exact (((Below.refl _ _).alloc (Nat.le_refl _) _).alloc (by simp) _).alloc (by simp; omega) _)
  have hz : w.heap.size + 2 < v.heap.size := HR.out.sz
  obtain ⟨r0, r1, rf, rz, -⟩ := HR.out
  have HFN := hide (show ∀ (W : World) (j : Nat), Below v.heap.size v W → j ≤ 32 → Calls Try.prog 101 #[.int .i64 (j : Int), .pointer (some ⟨w.heap.size + 1, 0, none⟩)] W fun e w' => e = .returned (.bool (decide ((j : Int) = m))) ∧ w' = W from
    fun W j hb hj => exactly1_any W j m (w.heap.size + 1) (by rw [hb.cell (by simp; omega)]; exact hk))
  clear hW hq
  go_wp2_with (go_at_call 98; (with_reducible refine (total_any _ a l k n 101 (w.heap.size + 1) (fun j => decide ((j : Int) = m)) HQ.out HCF.out HFN.out).mono ?_); rintro e w1 ⟨c, rfl, ho, hb⟩; have HO := hide ho; have HB1 := hide (HB.out.trans (hb.mono HB.out.size)); have HR1 := hide (HR.out.below hb); obtain ⟨z0, z1, zf, zz, -⟩ := HR1.out; clear ho hb)
  have HE := hide (show totR (fracOf l k) n (fun j => decide ((j : Int) = m)) = totR (fracOf l k) n (fun j => decide ((j : Int) = m)) from rfl)
  refine bodyPost_ret (v := .tuple #[.agg #[.slice c.A c.n c.c, .slice c.B c.m c.d], .int .i64 (totR (fracOf l k) n (fun j => decide ((j : Int) = m))).2]) (by simp [results, Try.results56, go_sem, *]) rfl (Ret.mk0 rfl HO.out HR1.out HB1.out (by omega))
set_option maxRecDepth 100000 in
set_option maxHeartbeats 4000000 in
theorem atleast_any (w : World) (a : Fa) (l k : List Nat) (n m : Int) (hq : Fq w a l k) :
    Calls Try.prog 54 #[.agg #[.slice a.A a.n a.c, .slice a.B a.m a.d], .int .i64 n, .int .i64 m] w fun e w' => Ret w (totR (fracOf l k) n (fun j => decide (m ≤ (j : Int)))) e w' := by
  have hcf := fun (vs : Array Value) (W : World) => calls_func (fid := 100) (fn := Try.f100) rfl (by kernel_rfl) rfl vs W
  have HCF := hide hcf
  clear hcf
  go_enter Try.func54, Try.ntmps54
  go_upto_region 1 with (fail)
  generalize hW : World.alloc (World.alloc (World.alloc w _) _) _ = v
  have HQ := hide (show Fq v a l k by rw [← hW]; exact ((hq.alloc _).alloc _).alloc _)
  have a0 : v.cell? ⟨w.heap.size, 0, none⟩ = some (.slice a.A a.n a.c) := by rw [← hW]; clear hW; go_simp
  have a1 : v.cell? ⟨w.heap.size, 1, none⟩ = some (.slice a.B a.m a.d) := by rw [← hW]; clear hW; go_simp
  have hk : v.cell? ⟨w.heap.size + 1, 0, none⟩ = some (.int .i64 m) := by rw [← hW]; clear hW; go_simp
  have HR := hide (show Rb v (w.heap.size + 2) by rw [← hW]; exact Rb.mk0 _ (by simp))
  have HB := hide (show Below w.heap.size w v by rw [← hW]; exact (((Below.refl _ _).alloc (Nat.le_refl _) _).alloc (by simp) _).alloc (by simp; omega) _)
  have hz : w.heap.size + 2 < v.heap.size := HR.out.sz
  obtain ⟨r0, r1, rf, rz, -⟩ := HR.out
  have HFN := hide (show ∀ (W : World) (j : Nat), Below v.heap.size v W → j ≤ 32 → Calls Try.prog 100 #[.int .i64 (j : Int), .pointer (some ⟨w.heap.size + 1, 0, none⟩)] W fun e w' => e = .returned (.bool (decide (m ≤ (j : Int)))) ∧ w' = W from
    fun W j hb hj => atleast1_any W j m (w.heap.size + 1) (by rw [hb.cell (by simp; omega)]; exact hk))
  clear hW hq
  go_wp2_with (go_at_call 98; (with_reducible refine (total_any _ a l k n 100 (w.heap.size + 1) (fun j => decide (m ≤ (j : Int))) HQ.out HCF.out HFN.out).mono ?_); rintro e w1 ⟨c, rfl, ho, hb⟩; have HO := hide ho; have HB1 := hide (HB.out.trans (hb.mono HB.out.size)); have HR1 := hide (HR.out.below hb); obtain ⟨z0, z1, zf, zz, -⟩ := HR1.out; clear ho hb)
  have HE := hide (show totR (fracOf l k) n (fun j => decide (m ≤ (j : Int))) = totR (fracOf l k) n (fun j => decide (m ≤ (j : Int))) from rfl)
  refine bodyPost_ret (v := .tuple #[.agg #[.slice c.A c.n c.c, .slice c.B c.m c.d], .int .i64 (totR (fracOf l k) n (fun j => decide (m ≤ (j : Int)))).2]) (by simp [results, Try.results54, go_sem, *]) rfl (Ret.mk0 rfl HO.out HR1.out HB1.out (by omega))
set_option maxRecDepth 100000 in
set_option maxHeartbeats 4000000 in
theorem atmost_any (w : World) (a : Fa) (l k : List Nat) (n m : Int) (hq : Fq w a l k) :
    Calls Try.prog 53 #[.agg #[.slice a.A a.n a.c, .slice a.B a.m a.d], .int .i64 n, .int .i64 m] w fun e w' => Ret w (totR (fracOf l k) n (fun j => decide ((j : Int) ≤ m))) e w' := by
  have hcf := fun (vs : Array Value) (W : World) => calls_func (fid := 99) (fn := Try.f99) rfl (by kernel_rfl) rfl vs W
  have HCF := hide hcf
  clear hcf
  go_enter Try.func53, Try.ntmps53
  go_upto_region 1 with (fail)
  generalize hW : World.alloc (World.alloc (World.alloc w _) _) _ = v
  have HQ := hide (show Fq v a l k by rw [← hW]; exact ((hq.alloc _).alloc _).alloc _)
  have a0 : v.cell? ⟨w.heap.size, 0, none⟩ = some (.slice a.A a.n a.c) := by rw [← hW]; clear hW; go_simp
  have a1 : v.cell? ⟨w.heap.size, 1, none⟩ = some (.slice a.B a.m a.d) := by rw [← hW]; clear hW; go_simp
  have hk : v.cell? ⟨w.heap.size + 1, 0, none⟩ = some (.int .i64 m) := by rw [← hW]; clear hW; go_simp
  have HR := hide (show Rb v (w.heap.size + 2) by rw [← hW]; exact Rb.mk0 _ (by simp))
  have HB := hide (show Below w.heap.size w v by rw [← hW]; exact (((Below.refl _ _).alloc (Nat.le_refl _) _).alloc (by simp) _).alloc (by simp; omega) _)
  have hz : w.heap.size + 2 < v.heap.size := HR.out.sz
  obtain ⟨r0, r1, rf, rz, -⟩ := HR.out
  have HFN := hide (show ∀ (W : World) (j : Nat), Below v.heap.size v W → j ≤ 32 → Calls Try.prog 99 #[.int .i64 (j : Int), .pointer (some ⟨w.heap.size + 1, 0, none⟩)] W fun e w' => e = .returned (.bool (decide ((j : Int) ≤ m))) ∧ w' = W from
    fun W j hb hj => atmost1_any W j m (w.heap.size + 1) (by rw [hb.cell (by simp; omega)]; exact hk))
  clear hW hq
  go_wp2_with (go_at_call 98; (with_reducible refine (total_any _ a l k n 99 (w.heap.size + 1) (fun j => decide ((j : Int) ≤ m)) HQ.out HCF.out HFN.out).mono ?_); rintro e w1 ⟨c, rfl, ho, hb⟩; have HO := hide ho; have HB1 := hide (HB.out.trans (hb.mono HB.out.size)); have HR1 := hide (HR.out.below hb); obtain ⟨z0, z1, zf, zz, -⟩ := HR1.out; clear ho hb)
  have HE := hide (show totR (fracOf l k) n (fun j => decide ((j : Int) ≤ m)) = totR (fracOf l k) n (fun j => decide ((j : Int) ≤ m)) from rfl)
  refine bodyPost_ret (v := .tuple #[.agg #[.slice c.A c.n c.c, .slice c.B c.m c.d], .int .i64 (totR (fracOf l k) n (fun j => decide ((j : Int) ≤ m))).2]) (by simp [results, Try.results53, go_sem, *]) rfl (Ret.mk0 rfl HO.out HR1.out HB1.out (by omega))
end Go.Proofs.Ytnokfhkcfebimaa

/- Contracts: Small. -/
namespace Go.Proofs.Ytnokfhkcfebimaa
open Go.RowKit

/-- A slice of one limb just built. -/
theorem ul_one {w : World} {x : Nat} (hx : x < 4294967296) (t : TypeId) {g : Nat} (hg : g = w.heap.size) : Ul (w.alloc (.cells #[.int .u32 (x : Int)] t)) none (some ⟨g, 0, none⟩) 1 [x] := by
  subst hg
  refine ⟨fun _ => ⟨w.heap.size, 0, rfl, by simp, by simp, fun k a hk j u hu => ?_⟩, rfl, fun y hy => by simp at hy; omega⟩
  match k, j with
  | 0, 0 =>
    simp [uv] at hk hu
    subst hk
    subst hu
    rw [World.cell?_alloc_new]
    rfl
  | k + 1, _ => simp at hk
  | 0, j + 1 => simp [uv] at hu
theorem tmod_nat (a b : Nat) : ((a : Int)).tmod (b : Int) = ((a % b : Nat) : Int) := rfl
theorem tdiv_nat (a b : Nat) : ((a : Int)).tdiv (b : Int) = ((a / b : Nat) : Int) := rfl
set_option maxRecDepth 100000 in
set_option maxHeartbeats 8000000 in
theorem small_any (w : World) (x y : Nat) (hx : x < 2147483648) (hy : y < 2147483648) (h0 : 0 < y) :
    Calls Try.prog 40 #[.int .i64 (x : Int), .int .i64 (y : Int)] w fun e w' => Ret1 w (some (mkRat x y)) e w' := by
  go_enter Try.func40, Try.ntmps40
  go_upto_region 1 with (fail)
  generalize hW : World.alloc w _ = v
  have HRB := hide (show Rb v w.heap.size by rw [← hW]; exact Rb.mk0 _ rfl)
  have HBV := hide (show Below w.heap.size w v by rw [← hW]; exact (Below.refl _ _).alloc (Nat.le_refl _) _)
  clear hW
  go_wp2_with fail
  go_loopw [5, 6] (fun p q wr => ∃ a b : Nat, p = .int .i64 (a : Int) ∧ q = .int .i64 (b : Int) ∧ a < 2147483648 ∧ b < 2147483648 ∧ Hid (Nat.gcd a b = Nat.gcd x y) ∧ Hid (Below v.heap.size v wr)) (fun _ q _ => (intOf q).toNat)
  case atStart => exact ⟨x, y, rfl, rfl, hx, hy, hide rfl, hide (Below.refl _ _)⟩
  case round =>
    obtain ⟨a, b, rfl, rfl, ha, hb, HG, HB⟩ := hrel
    by_cases hb0 : b = 0
    · subst hb0
      rw [Nat.gcd_zero_right] at HG
      have hg : a = Nat.gcd x y := HG.out
      have hap : 0 < a := by rw [hg]; exact Nat.gcd_pos_of_pos_right _ h0
      have ha0 : ((a : Int) == 0) = false := by simp; omega
      have hden : (mkRat x y).den = y / a := by rw [hg]; exact mk_den x y h0
      have hrn : rn (mkRat x y) = x / a := by rw [hg]; exact mk_num x y h0
      have hyp : y / a ≠ 0 := by
        have := Nat.div_pos (Nat.le_of_dvd h0 (by rw [hg]; exact Nat.gcd_dvd_right x y)) hap
        omega
      have hxp' : x ≠ 0 → x / a ≠ 0 := fun hx0 => by
        have := Nat.div_pos (Nat.le_of_dvd (Nat.pos_of_ne_zero hx0) (by rw [hg]; exact Nat.gcd_dvd_left x y)) hap
        omega
      obtain ⟨qy, hqy⟩ : ∃ q, q = y / a := ⟨_, rfl⟩
      obtain ⟨qx, hqx⟩ : ∃ q, q = x / a := ⟨_, rfl⟩
      have hy1 : qy < 2147483648 := by rw [hqy]; exact Nat.lt_of_le_of_lt (Nat.div_le_self _ _) hy
      have hx1 : qx < 2147483648 := by rw [hqx]; exact Nat.lt_of_le_of_lt (Nat.div_le_self _ _) hx
      rw [← hqy] at hden hyp
      rw [← hqx] at hrn hxp'
      have HD := hide (show lm (mkRat x y).den = [qy] by rw [hden]; exact lm_small (by omega) hyp)
      have HN := hide (show x ≠ 0 → lm (rn (mkRat x y)) = [qx] from fun h => by rw [hrn]; exact lm_small (by omega) (hxp' h))
      have HN0 := hide (show x = 0 → lm (rn (mkRat x y)) = [] from fun h => by subst h; rw [hrn, hqx, Nat.zero_div, lm_zero])
      have HOK := hide (show okR (some (mkRat x y)) from ⟨mk_nonneg x y, fits64 (by omega) (by omega) h0⟩)
      have e1 : (y : Int) / (a : Int) = (qy : Int) := by rw [hqy]; rfl
      have e2 : (x : Int) / (a : Int) = (qx : Int) := by rw [hqx]; rfl
      have w1 : (qy : Int) % 4294967296 = (qy : Int) := by omega
      have w2 : (qx : Int) % 4294967296 = (qx : Int) := by omega
      have HR := hide (HRB.out.below HB.out)
      obtain ⟨r0, r1, rf, rz, -⟩ := HR.out
      have rz1 : w.heap.size < wr.heap.size + 1 := by omega
      have rz2 : w.heap.size < wr.heap.size + 1 + 1 := by omega
      have HBW := hide (HBV.out.trans (HB.out.mono HBV.out.size))
      clear hden hrn hyp hxp' hqy hqx hg HG HB
      by_cases hx0 : x = 0
      · have hN := HN0.out hx0
        subst hx0
        have HNN := hide hN
        clear hN HN HN0
        go_wp2_with fail
        refine bodyPost_ret (v := .agg #[.slice none 0 0, .slice (some ⟨wr.heap.size, 0, none⟩) 1 1]) (by simp [results, Try.results40, go_sem, *]) rfl ⟨⟨none, 0, 0, some ⟨wr.heap.size, 0, none⟩, 1, 1⟩, rfl, ?_, ?_⟩
        · refine ⟨⟨?_, ?_, Nat.le_refl _, Nat.le_refl _, by show 0 ≤ 9223372036854775807; omega, by show 1 ≤ 9223372036854775807; omega⟩, HOK.out⟩
          · show Ul _ none none 0 (lm (rn (mkRat _ y))); rw [HNN.out]; exact Ul.nil
          · show Ul _ none _ 1 (lm (mkRat _ y).den); rw [HD.out]; exact (ul_one (by omega) _ (by simp)).alloc _
        · exact ((Rb.end0 HBW.out (Nat.le_refl _) _ _).alloc (by simp; omega) _).alloc (by simp; omega) _
      · have HNN := hide (HN.out hx0)
        clear HN HN0
        have hxp : (0 : Int) < (x : Int) := by omega
        go_wp2_with fail
        refine bodyPost_ret (v := .agg #[.slice (some ⟨wr.heap.size + 1 + 1, 0, none⟩) 1 1, .slice (some ⟨wr.heap.size, 0, none⟩) 1 1]) (by simp [results, Try.results40, go_sem, *]) rfl ⟨⟨some ⟨wr.heap.size + 1 + 1, 0, none⟩, 1, 1, some ⟨wr.heap.size, 0, none⟩, 1, 1⟩, rfl, ?_, ?_⟩
        · refine ⟨⟨?_, ?_, Nat.le_refl _, Nat.le_refl _, by show 1 ≤ 9223372036854775807; omega, by show 1 ≤ 9223372036854775807; omega⟩, HOK.out⟩
          · show Ul _ none _ 1 (lm (rn (mkRat _ y))); rw [HNN.out]; exact ul_one (by omega) _ (by simp)
          · show Ul _ none _ 1 (lm (mkRat _ y).den); rw [HD.out]; exact ((ul_one (by omega) _ (by simp)).alloc _).alloc _
        · exact (((Rb.end0 HBW.out (Nat.le_refl _) _ _).alloc (by simp; omega) _).alloc (by simp; omega) _).alloc (by simp; omega) _
    · have e1 := tmod_nat a b
      have hm := Nat.mod_lt a (Nat.pos_of_ne_zero hb0)
      have hbI : ((b : Int) == 0) = false := by simp; omega
      go_wp2_with fail
      go_quiet (fail)
      go_wp2_with fail
      go_roundw
      case rel => exact ⟨b, a % b, rfl, by go_num, hb, by omega, hide (by rw [← HG.out]; exact gcd_step a b), hide (HB.out.trans ((Dr.below ⟨_, rfl⟩).mono HB.out.size))⟩
      case measure => simp [intOf]; omega
end Go.Proofs.Ytnokfhkcfebimaa

/- Contracts: the reference's Split in one, Pow. -/
namespace Go.Proofs.Ytnokfhkcfebimaa
open Go.RowKit

theorem r1split_any (w : World) (av av' : Option Nat) (A : Option Addr) (n c : Nat) (B : Option Addr) (m d : Nat) (x y : Nat) (hU : Ul w av A n (lm x)) (hV : Ul w av' B m (lm y)) (hn : n ≤ 500000) (hm : m ≤ 500000) (hy : 0 < y) :
    Calls Try.prog 134 #[.slice A n c, .slice B m d] w fun e w' => ∃ A' m' c' A2 m2 c2, e = .returned (.tuple #[.slice A' m' c', .slice A2 m2 c2]) ∧ m' ≤ c' ∧ m2 ≤ c2 ∧ Ul w' none A' m' (lm (x / y)) ∧ Ul w' none A2 m2 (lm (x % y)) ∧ Below w.heap.size w w' := by
  rcases Nat.lt_or_ge x y with h | h
  · exact r1split_lt w av av' A n c B m d x y hU hV hn hm h
  · have hm0 : 0 < m := lm_pos_len1 hy hV.len
    by_cases h1 : m = 1
    · subst h1
      exact r1split_one w av av' A n c B d x y hU hV hn h
    · exact r1split_gen w av av' A n c B m d x y hU hV hn hm (by omega) h
theorem pow_len_mono {a i k : Nat} (ha : 0 < a) (h : i ≤ k) : (lm (a ^ i)).length ≤ (lm (a ^ k)).length := lm_length_mono (Nat.pow_le_pow_right ha h)
set_option maxRecDepth 100000 in
set_option maxHeartbeats 8000000 in
theorem r1pow_any (w : World) (av : Option Nat) (A : Option Addr) (n c : Nat) (a k : Nat) (hU : Ul w av A n (lm a)) (hn : n ≤ 128) (hk : k ≤ 65536) :
    Calls Try.prog 111 #[.slice A n c, .int .i64 (k : Int)] w fun e w' => ∃ A' m' c' ok, e = .returned (.tuple #[.slice A' m' c', .int .i64 (if ok = true then 0 else 2)]) ∧ m' ≤ c' ∧ Hid (ok = decide ((lm (a ^ k)).length ≤ 128)) ∧ Ul w' none A' m' (if ok = true then lm (a ^ k) else []) ∧ Below w.heap.size w w' := by
  have HU := hide hU
  have HC := hide (show natB (lm a) = true by rw [natB_iff, lv_lm]; exact ⟨by rw [hU.len]; exact hn, rfl⟩)
  clear hU
  have d0 : decide ((k : Int) < 0) = false := decide_eq_false (by omega)
  have d1 : decide ((65536 : Int) < (k : Int)) = false := decide_eq_false (by omega)
  by_cases hn0 : n = 0
  · have ha0 : a = 0 := lm_eq_nil.1 (List.eq_nil_of_length_eq_zero (by rw [HU.out.len, hn0]))
    have dn0 : ((n : Int) == 0) = true := by simp; omega
    have dn1 : ((n : Int) == 1) = false := by simp; omega
    by_cases hk0 : k = 0
    · have HA := hide (show 0 < k → 0 < a by omega)
      have d2 : decide (0 < k) = false := decide_eq_false (by omega)
      clear hn0 ha0 hk0
      go_enter Try.func111, Try.ntmps111
      go_wp2_with ((go_at_call 131; (with_reducible refine (r1check_any _ av _ n c _ HU.out (by omega)).mono ?_); rintro e w' ⟨rfl, hw⟩; subst w'; rw [HC.out]))
      go_loopw [6, 7] (fun pv iv wr => ∃ (i : Nat) (A1 : Option Addr) (m1 c1 : Nat), i ≤ k ∧ pv = .slice A1 m1 c1 ∧ iv = .int .i64 (i : Int) ∧ m1 ≤ 128 ∧ m1 ≤ c1 ∧ Hid (Ul wr none A1 m1 (lm (a ^ i))) ∧ Hid (Below w.heap.size w wr)) (fun _ iv _ => k - (intOf iv).toNat)
      case atStart => exact ⟨0, _, 1, 1, by omega, rfl, rfl, by omega, by omega, hide (by rw [Nat.pow_zero, lm_one]; exact ul_one (x := 1) (by omega) _ rfl), hide ((Below.refl _ _).alloc (Nat.le_refl _) _)⟩
      case round =>
        obtain ⟨i, A1, m1, c1, hi, rfl, rfl, hm1, hc1, HU1, HB1⟩ := hrel
        by_cases hik : i = k
        · subst hik
          go_wp2_with fail
          go_ret2
          have hle : (lm (a ^ i)).length ≤ 128 := by rw [HU1.out.len]; exact hm1
          exact ⟨A1, m1, c1, true, rfl, hc1, hide (by simp [hle]), HU1.out, HB1.out⟩
        · have hlt : (i : Int) < (k : Int) := by omega
          go_wp2_with (go_at_call 109; (with_reducible refine (r1times_any _ none av A1 m1 c1 _ n c (a ^ i) a HU1.out (HU.out.below HB1.out) (by omega) (by omega)).mono ?_); rintro e w3 ⟨A3, m3, c3, rfl, hc3, hu3, hb3⟩; rw [← Nat.pow_succ] at hu3; have HU3 := hide hu3; have HB3 := hide (HB1.out.trans (hb3.mono HB1.out.size)); clear hu3 hb3)
          · go_ret2
            have ho := pow_len_mono (a := a) (i := i + 1) (k := k) (HA.out (by omega)) (by omega)
            rw [HU3.out.len] at ho
            exact ⟨none, 0, 0, false, rfl, by omega, hide (by simp; omega), Ul.nil, HB3.out⟩
          · exact ⟨⟨i + 1, A3, m3, c3, by omega, rfl, by go_num, by omega, hc3, HU3, HB3⟩, by simp [intOf] <;> omega⟩
    · have d2 : decide (0 < k) = true := decide_eq_true (by omega)
      have HK := hide hk0
      have HZ := hide ha0
      clear hn0 ha0 hk0
      go_enter Try.func111, Try.ntmps111
      go_wp2_with (first | ((go_at_call 131; (with_reducible refine (r1check_any _ av _ n c _ HU.out (by omega)).mono ?_); rintro e w' ⟨rfl, hw⟩; subst w'; rw [HC.out])) | ((at_builtin; refine wl_appall_u32 (w0 := w) rfl _ _ _ Try.underlying24 rfl none 0 0 [] av _ n c (lm _) rfl rfl (OF.nil (Fr.refl w _)) HU.out (by omega) ?_; intro A1 c1 w2 ho; rw [List.nil_append, Nat.zero_add] at ho; rw [Nat.zero_add]; have HO2 := hide ho; clear ho)))
      go_ret2
      have h0 : a ^ k = a := by rw [HZ.out]; exact Nat.zero_pow (Nat.pos_of_ne_zero HK.out)
      exact ⟨A1, n, c1, true, rfl, HO2.out.cap, hide (by rw [h0, HU.out.len]; simp [hn]), by rw [if_pos rfl, h0]; exact HO2.out.ul, fr_below HO2.out.fr⟩
  · have dn0 : ((n : Int) == 0) = false := by simp; omega
    have hap : 0 < a := by
      rcases Nat.eq_zero_or_pos a with h | h
      · exfalso
        have := HU.out.len
        rw [h, lm_zero] at this
        exact hn0 this.symm
      · exact h
    have HA := hide (show 0 < k → 0 < a from fun _ => hap)
    by_cases hn1 : n = 1
    · have dn1 : ((n : Int) == 1) = true := by simp; omega
      obtain ⟨hl1, hy1, hy2⟩ := lm_len1 (y := a) (by rw [HU.out.len]; exact hn1)
      obtain ⟨b, o, p, rfl, -, -, hp, hpl, hcell⟩ := HU.out.at (k := 0) (by omega)
      obtain rfl : p = a := by rw [hl1] at hp; simpa using hp.symm
      rw [Nat.add_zero] at hcell
      have gn1 : (0 : Int) < (n : Int) := by omega
      clear hp hl1 hn0 hn1
      by_cases hp1 : p = 1
      · have dp1 : ((p : Int) == 1) = true := by simp; omega
        have HZ := hide hp1
        clear hp1
        go_enter Try.func111, Try.ntmps111
        go_wp2_with (first | ((go_at_call 131; (with_reducible refine (r1check_any _ av _ n c _ HU.out (by omega)).mono ?_); rintro e w' ⟨rfl, hw⟩; subst w'; rw [HC.out])) | ((at_builtin; refine wl_appall_u32 (w0 := w) rfl _ _ _ Try.underlying24 rfl none 0 0 [] av _ n c (lm _) rfl rfl (OF.nil (Fr.refl w _)) HU.out (by omega) ?_; intro A1 c1 w2 ho; rw [List.nil_append, Nat.zero_add] at ho; rw [Nat.zero_add]; have HO2 := hide ho; clear ho)))
        go_ret2
        have h0 : p ^ k = p := by rw [HZ.out, Nat.one_pow]
        exact ⟨A1, n, c1, true, rfl, HO2.out.cap, hide (by rw [h0, HU.out.len]; simp [hn]), by rw [if_pos rfl, h0]; exact HO2.out.ul, fr_below HO2.out.fr⟩
      · have dp1 : ((p : Int) == 1) = false := by simp; omega
        obtain ⟨a, ha⟩ : ∃ a, a = p := ⟨p, rfl⟩
        rw [← ha] at HU HC HA
        rw [← ha]
        clear hp1
        go_enter Try.func111, Try.ntmps111
        go_wp2_with ((go_at_call 131; (with_reducible refine (r1check_any _ av _ n c _ HU.out (by omega)).mono ?_); rintro e w' ⟨rfl, hw⟩; subst w'; rw [HC.out]))
        clear hcell dp1 hap hy1 hy2 hpl ha
        go_loopw [6, 7] (fun pv iv wr => ∃ (i : Nat) (A1 : Option Addr) (m1 c1 : Nat), i ≤ k ∧ pv = .slice A1 m1 c1 ∧ iv = .int .i64 (i : Int) ∧ m1 ≤ 128 ∧ m1 ≤ c1 ∧ Hid (Ul wr none A1 m1 (lm (a ^ i))) ∧ Hid (Below w.heap.size w wr)) (fun _ iv _ => k - (intOf iv).toNat)
        case atStart => exact ⟨0, _, 1, 1, by omega, rfl, rfl, by omega, by omega, hide (by rw [Nat.pow_zero, lm_one]; exact ul_one (x := 1) (by omega) _ rfl), hide ((Below.refl _ _).alloc (Nat.le_refl _) _)⟩
        case round =>
          obtain ⟨i, A1, m1, c1, hi, rfl, rfl, hm1, hc1, HU1, HB1⟩ := hrel
          by_cases hik : i = k
          · subst hik
            go_wp2_with fail
            go_ret2
            have hle : (lm (a ^ i)).length ≤ 128 := by rw [HU1.out.len]; exact hm1
            exact ⟨A1, m1, c1, true, rfl, hc1, hide (by simp [hle]), HU1.out, HB1.out⟩
          · have hlt : (i : Int) < (k : Int) := by omega
            go_wp2_with (go_at_call 109; (with_reducible refine (r1times_any _ none av A1 m1 c1 _ n c (a ^ i) a HU1.out (HU.out.below HB1.out) (by omega) (by omega)).mono ?_); rintro e w3 ⟨A3, m3, c3, rfl, hc3, hu3, hb3⟩; rw [← Nat.pow_succ] at hu3; have HU3 := hide hu3; have HB3 := hide (HB1.out.trans (hb3.mono HB1.out.size)); clear hu3 hb3)
            · go_ret2
              have ho := pow_len_mono (a := a) (i := i + 1) (k := k) (HA.out (by omega)) (by omega)
              rw [HU3.out.len] at ho
              exact ⟨none, 0, 0, false, rfl, by omega, hide (by simp; omega), Ul.nil, HB3.out⟩
            · exact ⟨⟨i + 1, A3, m3, c3, by omega, rfl, by go_num, by omega, hc3, HU3, HB3⟩, by simp [intOf] <;> omega⟩
    · have dn1 : ((n : Int) == 1) = false := by simp; omega
      go_enter Try.func111, Try.ntmps111
      go_wp2_with ((go_at_call 131; (with_reducible refine (r1check_any _ av _ n c _ HU.out (by omega)).mono ?_); rintro e w' ⟨rfl, hw⟩; subst w'; rw [HC.out]))
      go_loopw [6, 7] (fun pv iv wr => ∃ (i : Nat) (A1 : Option Addr) (m1 c1 : Nat), i ≤ k ∧ pv = .slice A1 m1 c1 ∧ iv = .int .i64 (i : Int) ∧ m1 ≤ 128 ∧ m1 ≤ c1 ∧ Hid (Ul wr none A1 m1 (lm (a ^ i))) ∧ Hid (Below w.heap.size w wr)) (fun _ iv _ => k - (intOf iv).toNat)
      case atStart => exact ⟨0, _, 1, 1, by omega, rfl, rfl, by omega, by omega, hide (by rw [Nat.pow_zero, lm_one]; exact ul_one (x := 1) (by omega) _ rfl), hide ((Below.refl _ _).alloc (Nat.le_refl _) _)⟩
      case round =>
        obtain ⟨i, A1, m1, c1, hi, rfl, rfl, hm1, hc1, HU1, HB1⟩ := hrel
        by_cases hik : i = k
        · subst hik
          go_wp2_with fail
          go_ret2
          have hle : (lm (a ^ i)).length ≤ 128 := by rw [HU1.out.len]; exact hm1
          exact ⟨A1, m1, c1, true, rfl, hc1, hide (by simp [hle]), HU1.out, HB1.out⟩
        · have hlt : (i : Int) < (k : Int) := by omega
          go_wp2_with (go_at_call 109; (with_reducible refine (r1times_any _ none av A1 m1 c1 _ n c (a ^ i) a HU1.out (HU.out.below HB1.out) (by omega) (by omega)).mono ?_); rintro e w3 ⟨A3, m3, c3, rfl, hc3, hu3, hb3⟩; rw [← Nat.pow_succ] at hu3; have HU3 := hide hu3; have HB3 := hide (HB1.out.trans (hb3.mono HB1.out.size)); clear hu3 hb3)
          · go_ret2
            have ho := pow_len_mono (a := a) (i := i + 1) (k := k) (HA.out (by omega)) (by omega)
            rw [HU3.out.len] at ho
            exact ⟨none, 0, 0, false, rfl, by omega, hide (by simp; omega), Ul.nil, HB3.out⟩
          · exact ⟨⟨i + 1, A3, m3, c3, by omega, rfl, by go_num, by omega, hc3, HU3, HB3⟩, by simp [intOf] <;> omega⟩
end Go.Proofs.Ytnokfhkcfebimaa

/- Contracts: the reference's fractions: lowest, limited, Make, Of. -/
namespace Go.Proofs.Ytnokfhkcfebimaa
open Go.RowKit

/-- The slices read as a fraction of any size. -/
def Lo (w : World) (a : Fa) (r : Rat) : Prop := Fq w a (lm (rn r)) (lm r.den)
theorem Lo.below {w w' : World} {a : Fa} {r : Rat} (h : Lo w a r) (hb : Below w.heap.size w w') : Lo w' a r := Fq.below h hb
theorem Fq.put2 {w : World} {a : Fa} {l k : List Nat} (h : Fq w a l k) {g : Nat} (hg : NB w g) (x y : Value) (hx : ∀ i, x ≠ .int .u32 i) : Fq ((w.setCell ⟨g, 0, none⟩ x).setCell ⟨g, 1, none⟩ y) a l k := (h.put hg _ _).put (hg.put _ hx) _ _
set_option maxRecDepth 100000 in
set_option maxHeartbeats 8000000 in
theorem r2lowest_any (w : World) (av av' : Option Nat) (A : Option Addr) (n c : Nat) (B : Option Addr) (m d : Nat) (x y : Nat) (hU : Ul w av A n (lm x)) (hV : Ul w av' B m (lm y)) (hn : n ≤ 1000) (hm : m ≤ 1000) (hy : 0 < y) :
    Calls Try.prog 108 #[.slice A n c, .slice B m d] w fun e w' => ∃ a : Fa, e = .returned (.agg #[.slice a.A a.n a.c, .slice a.B a.m a.d]) ∧ Lo w' a (mkRat x y) ∧ Below w.heap.size w w' := by
  have hgp := gcd_pos' (x := x) hy
  have HN := hide (mk_num x y hy)
  have HD := hide (mk_den x y hy)
  go_enter Try.func108, Try.ntmps108
  go_upto_region 1 with (fail)
  generalize hW : World.alloc w _ = v
  have HRB := hide (show Rb v w.heap.size by rw [← hW]; exact Rb.mk0 _ rfl)
  have HBV := hide (show Below w.heap.size w v by rw [← hW]; exact (Below.refl _ _).alloc (Nat.le_refl _) _)
  have HU := hide (show Ul v av A n (lm x) by rw [← hW]; exact hU.alloc _)
  have HV := hide (show Ul v av' B m (lm y) by rw [← hW]; exact hV.alloc _)
  clear hW hU hV
  go_wp2_with (first
    | (go_at_call 133; (with_reducible refine (r1common_any _ av av' A n c B m d x y HU.out HV.out (by omega) (by omega)).mono ?_); rintro e w1 ⟨A1, m1, c1, rfl, hc1, hu1, hb1⟩; have hl1 := lm_length_mono (Nat.le_of_dvd hy (Nat.gcd_dvd_right x y)); rw [hu1.len, HV.out.len] at hl1; have HU1 := hide hu1; have HB1 := hide (HBV.out.trans (hb1.mono HBV.out.size)); have HR1 := hide (HRB.out.below hb1); have HUa := hide (HU.out.below hb1); have HVa := hide (HV.out.below hb1); clear hu1 hb1)
    | (go_at_call 134; (with_reducible refine (r1split_any _ av none A n c A1 m1 c1 x (Nat.gcd x y) HUa.out HU1.out (by omega) (by omega) hgp).mono ?_); rintro e w2 ⟨A2, m2, c2, A3, m3, c3, rfl, hc2, hc3, hu2, hu3, hb2⟩; have HU2 := hide hu2; have HB2 := hide (HB1.out.trans (hb2.mono HB1.out.size)); have HR2 := hide (HR1.out.below hb2); have HVb := hide (HVa.out.below hb2); have HU1b := hide (HU1.out.below hb2); clear hu2 hu3 hb2)
    | (go_at_call 134; (with_reducible refine (r1split_any _ av' none B m d A1 m1 c1 y (Nat.gcd x y) HVb.out HU1b.out (by omega) (by omega) hgp).mono ?_); rintro e w4 ⟨A4, m4, c4, A5, m5, c5, rfl, hc4, hc5, hu4, hu5, hb4⟩; have HU4 := hide hu4; have HB4 := hide (HB2.out.trans (hb4.mono HB2.out.size)); have HR4 := hide (HR2.out.below hb4); have HU2b := hide (HU2.out.below hb4); obtain ⟨z0, z1, zf, zz, -⟩ := HR4.out; clear hu4 hu5 hb4))
  have h2 : m2 ≤ 1000 := by
    rw [← HU2b.out.len]
    exact Nat.le_trans (lm_length_mono (Nat.div_le_self x _)) (by rw [HU.out.len]; exact hn)
  have h4 : m4 ≤ 1000 := by
    rw [← HU4.out.len]
    exact Nat.le_trans (lm_length_mono (Nat.div_le_self y _)) (by rw [HV.out.len]; exact hm)
  have HQ : Lo w4 ⟨A2, m2, c2, A4, m4, c4⟩ (mkRat x y) := by
    refine ⟨?_, ?_, hc2, hc4, by show m2 ≤ _; omega, by show m4 ≤ _; omega⟩
    · rw [HN.out]; exact HU2b.out
    · rw [HD.out]; exact HU4.out
  refine bodyPost_ret (v := .agg #[.slice A2 m2 c2, .slice A4 m4 c4]) (by simp [results, Try.results108, go_sem, *]) rfl ⟨⟨A2, m2, c2, A4, m4, c4⟩, rfl, Fq.put2 HQ HR4.out.nb _ _ (by simp), Rb.end0 HB4.out (Nat.le_refl _) _ _⟩
set_option maxRecDepth 100000 in
set_option maxHeartbeats 8000000 in
theorem r2limited_any (w : World) (a : Fa) (r : Rat) (h0 : 0 ≤ r) (hq : Lo w a r) :
    Calls Try.prog 107 #[.agg #[.slice a.A a.n a.c, .slice a.B a.m a.d]] w fun e w' => Ret w (limR r) e w' := by
  have hul := hq.u.len
  have hvl := hq.v.len
  by_cases h1 : a.n ≤ 128
  · have d1 : decide ((128 : Int) < (a.n : Int)) = false := decide_eq_false (by omega)
    by_cases h2 : a.m ≤ 128
    · have d2 : decide ((128 : Int) < (a.m : Int)) = false := decide_eq_false (by omega)
      have hf : fitsR r = true := by unfold fitsR; rw [hul, hvl]; simp [h1, h2]
      have HX := hide (limR_fit hf)
      have HOK := hide (show okR (some r) from ⟨h0, hf⟩)
      clear h1 h2 hf hul hvl
      go_enter Try.func107, Try.ntmps107
      go_upto_region 1 with (fail)
      generalize hW : World.alloc (World.alloc w _) _ = v
      have HF := hide (show F1 w v a (lm (rn r)) (lm r.den) by rw [← hW]; exact F1.mk0 hq _ _)
      obtain ⟨a0, a1, az, r0, r1, rf⟩ := HF.out.ca
      clear hW hq
      go_wp2_with fail
      refine bodyPost_ret (v := .tuple #[.agg #[.slice a.A a.n a.c, .slice a.B a.m a.d], .int .i64 0]) (by simp [results, Try.results107, go_sem, *]) rfl (HF.out.end (c := a) (by rw [HX.out]) (by rw [HX.out]; exact ⟨HF.out.q, HOK.out⟩))
    · have d2 : decide ((128 : Int) < (a.m : Int)) = true := decide_eq_true (by omega)
      have hf : fitsR r = false := by unfold fitsR; rw [hul, hvl]; simp; omega
      have HX := hide (limR_no hf)
      clear h1 h2 hf hul hvl
      go_enter Try.func107, Try.ntmps107
      go_upto_region 1 with (fail)
      generalize hW : World.alloc (World.alloc w _) _ = v
      have HF := hide (show F1 w v a (lm (rn r)) (lm r.den) by rw [← hW]; exact F1.mk0 hq _ _)
      obtain ⟨a0, a1, az, r0, r1, rf⟩ := HF.out.ca
      clear hW hq
      go_wp2_with fail
      refine bodyPost_ret (v := .tuple #[.agg #[.slice none 0 0, .slice none 0 0], .int .i64 2]) (by simp [results, Try.results107, go_sem, *]) rfl (HF.out.err HX.out)
  · have d1 : decide ((128 : Int) < (a.n : Int)) = true := decide_eq_true (by omega)
    have hf : fitsR r = false := by unfold fitsR; rw [hul, hvl]; simp; omega
    have HX := hide (limR_no hf)
    clear h1 hf hul hvl
    go_enter Try.func107, Try.ntmps107
    go_upto_region 1 with (fail)
    generalize hW : World.alloc (World.alloc w _) _ = v
    have HF := hide (show F1 w v a (lm (rn r)) (lm r.den) by rw [← hW]; exact F1.mk0 hq _ _)
    obtain ⟨a0, a1, az, r0, r1, rf⟩ := HF.out.ca
    clear hW hq
    go_wp2_with fail
    refine bodyPost_ret (v := .tuple #[.agg #[.slice none 0 0, .slice none 0 0], .int .i64 2]) (by simp [results, Try.results107, go_sem, *]) rfl (HF.out.err HX.out)
end Go.Proofs.Ytnokfhkcfebimaa

/- Contracts: the reference's fractions: Make, Of. -/
namespace Go.Proofs.Ytnokfhkcfebimaa
open Go.RowKit

theorem fits_mk {x y : Nat} (hx : (lm x).length ≤ 128) (hy : (lm y).length ≤ 128) (h0 : 0 < y) : fitsR (mkRat x y) = true := by
  unfold fitsR
  rw [mk_num x y h0, mk_den x y h0]
  have h1 := lm_length_mono (Nat.div_le_self x (Nat.gcd x y))
  have h2 := lm_length_mono (Nat.div_le_self y (Nat.gcd x y))
  simp; omega
theorem Lo.fo {w : World} {a : Fa} {r : Rat} (h : Lo w a r) (h0 : 0 ≤ r) (hf : fitsR r = true) : Fo w a (some r) := ⟨h, h0, hf⟩
set_option maxRecDepth 100000 in
set_option maxHeartbeats 8000000 in
theorem r2make_nat (w : World) (A : Option Addr) (n c : Nat) (B : Option Addr) (m d : Nat) (x y : Nat) (hU : Ul w none A n (lm x)) (hV : Ul w none B m (lm y)) (hn : n ≤ 128) (hm : m ≤ 128) (hy : 0 < y) :
    Calls Try.prog 137 #[.slice A n c, .slice B m d] w fun e w' => Ret w (some (mkRat x y), 0) e w' := by
  have hm0 := lm_pos_len1 hy hV.len
  have dm0 : ((m : Int) == 0) = false := by simp; omega
  have HC := hide (show natB (lm x) = true by rw [natB_lm, hU.len]; simp [hn])
  have HD := hide (show natB (lm y) = true by rw [natB_lm, hV.len]; simp [hm])
  have HF := hide (fits_mk (x := x) (y := y) (by rw [hU.len]; exact hn) (by rw [hV.len]; exact hm) hy)
  go_enter Try.func137, Try.ntmps137
  go_upto_region 1 with (fail)
  generalize hW : World.alloc w _ = v
  have HRB := hide (show Rb v w.heap.size by rw [← hW]; exact Rb.mk0 _ rfl)
  have HBV := hide (show Below w.heap.size w v by rw [← hW]; exact (Below.refl _ _).alloc (Nat.le_refl _) _)
  have HU := hide (show Ul v none A n (lm x) by rw [← hW]; exact hU.alloc _)
  have HV := hide (show Ul v none B m (lm y) by rw [← hW]; exact hV.alloc _)
  clear hW hU hV
  go_wp2_with (first
    | ((go_at_call 131; (with_reducible refine (r1check_any _ none A n c (lm x) HU.out (by omega)).mono ?_); rintro e w' ⟨rfl, hw⟩; subst w'; rw [HC.out]))
    | ((go_at_call 131; (with_reducible refine (r1check_any _ none B m d (lm y) HV.out (by omega)).mono ?_); rintro e w' ⟨rfl, hw⟩; subst w'; rw [HD.out]))
    | (go_at_call 108; (with_reducible refine (r2lowest_any _ none none A n c B m d x y HU.out HV.out (by omega) (by omega) hy).mono ?_); rintro e w5 ⟨q, rfl, ho, hb5⟩; have HO := hide ho; have HB5 := hide (HBV.out.trans (hb5.mono HBV.out.size)); have HR5 := hide (HRB.out.below hb5); obtain ⟨z0, z1, z2, z3, -⟩ := HR5.out; clear ho hb5))
  refine bodyPost_ret (v := .tuple #[.agg #[.slice q.A q.n q.c, .slice q.B q.m q.d], .int .i64 0]) (by simp [results, Try.results137, go_sem, *]) rfl (Ret.mk0 (x := (some (mkRat x y), 0)) rfl (HO.out.fo (mk_nonneg x y) HF.out) HR5.out HB5.out (Nat.le_refl _))
set_option maxRecDepth 100000 in
set_option maxHeartbeats 8000000 in
theorem r2of_any (w : World) (x y : Nat) (hx : x < 9223372036854775808) (hy : y < 9223372036854775808) (h0 : 0 < y) :
    Calls Try.prog 112 #[.int .i64 (x : Int), .int .i64 (y : Int)] w fun e w' => Ret w (some (mkRat x y), 0) e w' := by
  have hw1 : IntKind.u64.wrap (x : Int) = (x : Int) := by
    show (x : Int) % 18446744073709551616 = x
    omega
  have hw2 : IntKind.u64.wrap (y : Int) = (y : Int) := by
    show (y : Int) % 18446744073709551616 = y
    omega
  go_enter Try.func112, Try.ntmps112
  go_upto_region 1 with (fail)
  generalize hW : World.alloc w _ = v
  have HRB := hide (show Rb v w.heap.size by rw [← hW]; exact Rb.mk0 _ rfl)
  have HBV := hide (show Below w.heap.size w v by rw [← hW]; exact (Below.refl _ _).alloc (Nat.le_refl _) _)
  clear hW
  go_wp2_with (first
    | (go_at_call 138; (with_reducible refine (r1of_any _ x (by omega)).mono ?_); rintro e w1 ⟨A1, m1, c1, rfl, hc1, hm1, hu1, hb1⟩; have HU1 := hide hu1; have HB1 := hide (HBV.out.trans (hb1.mono HBV.out.size)); have HR1 := hide (HRB.out.below hb1); clear hu1 hb1)
    | (go_at_call 138; (with_reducible refine (r1of_any _ y (by omega)).mono ?_); rintro e w2 ⟨A2, m2, c2, rfl, hc2, hm2, hu2, hb2⟩; have HU2 := hide hu2; have HU1b := hide (HU1.out.below hb2); have HB2 := hide (HB1.out.trans (hb2.mono HB1.out.size)); have HR2 := hide (HR1.out.below hb2); clear hu2 hb2)
    | (go_at_call 137; (with_reducible refine (r2make_nat _ A1 m1 c1 A2 m2 c2 x y HU1b.out HU2.out (by omega) (by omega) h0).mono ?_); rintro e w5 ⟨q, rfl, ho, hb5⟩; have HO := hide ho; have HB5 := hide (HB2.out.trans (hb5.mono HB2.out.size)); have HR5 := hide (HR2.out.below hb5); obtain ⟨z0, z1, z2, z3, -⟩ := HR5.out; clear ho hb5))
  refine bodyPost_ret (v := .tuple #[.agg #[.slice q.A q.n q.c, .slice q.B q.m q.d], .int .i64 0]) (by simp [results, Try.results112, go_sem, *]) rfl (Ret.mk0 (x := (some (mkRat x y), 0)) rfl HO.out HR5.out HB5.out (Nat.le_refl _))
end Go.Proofs.Ytnokfhkcfebimaa
