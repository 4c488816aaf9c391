/- Contracts of the functions that these laws reach: part 19: Contracts: tasks and tickets; Contracts: a ticket is right; Contracts: copied, with, find, failed, fail; Contracts: a ledger is right; Contracts: a ticket is right, by the reference; Contracts: a ledger is right, by the reference; find; Contracts: result, Missed, Spent of both sides. -/
import Derived.Test.YtjkffgcikbkjeaaGreatP18
import Derived.Deep.LoopGhost
import Derived.Test.YtjkffgcikbkjeaaGreatP17
import Derived.Test.YtjkffgcikbkjeaaGreatP11
set_option linter.unusedVariables false
set_option linter.unusedSimpArgs false

/- Contracts: tasks and tickets. -/
namespace Go.Proofs.YtjkffgcikbkjeaaGreat
open Go.RowKit

set_option maxHeartbeats 800000 in
theorem hnew_ok (p t : ByteArray) (x : Int) (w : World) (h1 : usableB p t = true) (h2 : placeB x = true) :
    Calls Tryz.prog 50 #[.agg #[.string p, .string t], .int .i64 x, .int .i64 2] w fun e w' =>
      e = .returned (.tuple #[.agg #[.string p, .string t, .int .i64 x, .int .i64 2, .int .i64 0, .int .i64 0, .int .i64 0, .slice none 0 0], .int .i64 0]) ∧ Below w.heap.size w w' := by
  have hx : 0 ≤ x ∧ x ≤ 63 := by simpa [placeB] using h2
  obtain ⟨hx1, hx2⟩ := hx
  go_enter Tryz.func50, Tryz.ntmps50
  go_wp2_with (go_at_call 65; refine (usable_any p t _).mono ?_; rintro e w1 ⟨rfl, hb1⟩; obtain ⟨hc1, hf1, hz1⟩ := gcell (grown_of_below hb1 none) (w.heap.size + 2) (by first | (simp; done) | (simp; omega)); have : w.heap.size < w1.heap.size := (by omega); have : w.heap.size + 1 < w1.heap.size := (by omega))
  refine bodyPost_ret (v := .tuple #[.agg #[.string p, .string t, .int .i64 x, .int .i64 2, .int .i64 0, .int .i64 0, .int .i64 0, .slice none 0 0], .int .i64 0]) (by simp [results, Tryz.results50, go_sem, hc1]) rfl ⟨rfl, ?_⟩
  (repeat' refine Below.setCell ?_ (by simp) _)
  exact (((Below.refl _ _).alloc (Nat.le_refl _) _).alloc (by simp) _).trans (hb1.mono (by simp; omega))

set_option maxHeartbeats 800000 in
theorem hnew_no (p t : ByteArray) (x : Int) (w : World) (h1 : (usableB p t && placeB x) = false) :
    Calls Tryz.prog 50 #[.agg #[.string p, .string t], .int .i64 x, .int .i64 2] w fun e w' =>
      ∃ er, e = .returned (.tuple #[.agg #[.string ⟨#[]⟩, .string ⟨#[]⟩, .int .i64 0, .int .i64 0, .int .i64 0, .int .i64 0, .int .i64 0, .slice none 0 0], .int .i64 er]) ∧ (er != 0) = true ∧ Below w.heap.size w w' := by
  cases h2 : usableB p t
  · clear h1
    go_enter Tryz.func50, Tryz.ntmps50
    go_wp2_with (go_at_call 65; refine (usable_any p t _).mono ?_; rintro e w1 ⟨rfl, hb1⟩; obtain ⟨hc1, hf1, hz1⟩ := gcell (grown_of_below hb1 none) (w.heap.size + 2) (by first | (simp; done) | (simp; omega)); have : w.heap.size < w1.heap.size := (by omega); have : w.heap.size + 1 < w1.heap.size := (by omega))
    refine bodyPost_ret (v := .tuple #[.agg #[.string ⟨#[]⟩, .string ⟨#[]⟩, .int .i64 0, .int .i64 0, .int .i64 0, .int .i64 0, .int .i64 0, .slice none 0 0], .int .i64 1]) (by simp [results, Tryz.results50, go_sem, hc1]) rfl ⟨_, rfl, by decide, ?_⟩
    (repeat' refine Below.setCell ?_ (by simp) _)
    exact (((Below.refl _ _).alloc (Nat.le_refl _) _).alloc (by simp) _).trans (hb1.mono (by simp; omega))
  · have hx : x < 0 ∨ 63 < x := by
      rw [h2, Bool.true_and] at h1
      simp [placeB] at h1
      omega
    have HX := hide hx
    clear h1 hx
    go_enter Tryz.func50, Tryz.ntmps50
    go_wp2_with (go_at_call 65; refine (usable_any p t _).mono ?_; rintro e w1 ⟨rfl, hb1⟩; obtain ⟨hc1, hf1, hz1⟩ := gcell (grown_of_below hb1 none) (w.heap.size + 2) (by first | (simp; done) | (simp; omega)); have : w.heap.size < w1.heap.size := (by omega); have : w.heap.size + 1 < w1.heap.size := (by omega))
    all_goals first
      | (exfalso; have := HX.out; omega)
      | (refine bodyPost_ret (v := .tuple #[.agg #[.string ⟨#[]⟩, .string ⟨#[]⟩, .int .i64 0, .int .i64 0, .int .i64 0, .int .i64 0, .int .i64 0, .slice none 0 0], .int .i64 3]) (by simp [results, Tryz.results50, go_sem, hc1]) rfl ⟨_, rfl, by decide, ?_⟩
         (repeat' refine Below.setCell ?_ (by simp) _)
         exact (((Below.refl _ _).alloc (Nat.le_refl _) _).alloc (by simp) _).trans (hb1.mono (by simp; omega)))

set_option maxHeartbeats 800000 in
theorem shcheck1_any (t : Tk) (w : World) :
    Calls Tryz.prog 49 #[.agg #[.string t.pk, .string t.ts, .int .i64 t.env, .int .i64 t.cost]] w fun e w' => e = .returned (.bool (!taskOk t)) ∧ Below w.heap.size w w' := by
  cases h1 : (usableB t.pk t.ts && placeB t.env)
  · have HT := hide (show taskOk t = false by rw [taskOk, h1]; rfl)
    have H1 := hide h1
    clear h1
    go_enter Tryz.func49, Tryz.ntmps49
    go_wp2_with (go_at_call 50; refine (hnew_no t.pk t.ts t.env _ H1.out).mono ?_; rintro e w1 ⟨er, rfl, he, hb1⟩; obtain ⟨hc1, hf1, hz1⟩ := gcell (grown_of_below hb1 none) (w.heap.size + 1) (by first | (simp; done) | (simp; omega)); have : w.heap.size < w1.heap.size := (by omega))
    all_goals (go_ret; refine ⟨ret_bool (by rw [HT.out]; rfl), ?_⟩)
    all_goals exact (((Below.refl _ _).alloc (Nat.le_refl _) _).trans (hb1.mono (by simp; try omega))).alloc (by omega) _
  · have HT := hide (show taskOk t = costB t.cost by rw [taskOk, h1]; rfl)
    rw [Bool.and_eq_true] at h1
    obtain ⟨h1, h2⟩ := h1
    have H1 := hide h1
    have H2 := hide h2
    clear h1 h2
    go_enter Tryz.func49, Tryz.ntmps49
    go_wp2_with (go_at_call 50; refine (hnew_ok t.pk t.ts t.env _ H1.out H2.out).mono ?_; rintro e w1 ⟨rfl, hb1⟩; obtain ⟨hc1, hf1, hz1⟩ := gcell (grown_of_below hb1 none) (w.heap.size + 1) (by first | (simp; done) | (simp; omega)); have : w.heap.size < w1.heap.size := (by omega))
    all_goals (go_ret; refine ⟨ret_bool (by rw [HT.out, Bool.eq_iff_iff]; simp [costB]; try omega), ?_⟩)
    all_goals exact (((Below.refl _ _).alloc (Nat.le_refl _) _).trans (hb1.mono (by simp; try omega))).alloc (by omega) _

/-- The four cells of a task at block b. -/
def TaskAt (w : World) (b : Nat) (t : Tk) : Prop := w.cell? ⟨b, 0, none⟩ = some (.string t.pk) ∧ w.cell? ⟨b, 1, none⟩ = some (.string t.ts) ∧ w.cell? ⟨b, 2, none⟩ = some (.int .i64 t.env) ∧ w.cell? ⟨b, 3, none⟩ = some (.int .i64 t.cost)

set_option maxRecDepth 100000 in
set_option maxHeartbeats 800000 in
theorem indexf_one (b : Nat) (t : Tk) (w : World) (hT : TaskAt w b t) :
    Calls Tryz.prog 64 #[.slice (some ⟨b, 0, none⟩) 1 1, .func (.func 49) #[] #[]] w fun e w' => e = .returned (.int .i64 (if taskOk t then -1 else 0)) ∧ Below w.heap.size w w' := by
  obtain ⟨h0, h1, h2, h3⟩ := hT
  cases ht : taskOk t
  · have HT := hide ht
    clear ht
    go_enter Tryz.func64, Tryz.ntmps64
    go_wp2
    refine wp_loop_rounds 2 ?_; rw [rounds_succ]
    go_wp2_with (go_at_call 49; refine (shcheck1_any t _).mono ?_; rintro e w1 ⟨rfl, hb1⟩; rw [HT.out])
    go_ret
    exact ⟨ret_int (by simp), hb1⟩
  · have HT := hide ht
    clear ht
    go_enter Tryz.func64, Tryz.ntmps64
    go_wp2
    refine wp_loop_rounds 2 ?_; rw [rounds_succ]
    go_wp2_with (go_at_call 49; refine (shcheck1_any t _).mono ?_; rintro e w1 ⟨rfl, hb1⟩; rw [HT.out])
    rw [rounds_succ]
    go_wp2_with fail
    go_ret
    exact ⟨ret_int (by simp), hb1⟩

set_option maxHeartbeats 800000 in
theorem contf_one (b : Nat) (t : Tk) (w : World) (hT : TaskAt w b t) :
    Calls Tryz.prog 48 #[.slice (some ⟨b, 0, none⟩) 1 1, .func (.func 49) #[] #[]] w fun e w' => e = .returned (.bool (!taskOk t)) ∧ Below w.heap.size w w' := by
  cases ht : taskOk t
  · have HT := hide ht
    clear ht
    go_enter Tryz.func48, Tryz.ntmps48
    go_wp2_with (go_at_call 64; refine (indexf_one b t _ hT).mono ?_; rintro e w1 ⟨rfl, hb1⟩; simp only [HT.out])
    go_ret
    exact ⟨rfl, hb1⟩
  · have HT := hide ht
    clear ht
    go_enter Tryz.func48, Tryz.ntmps48
    go_wp2_with (go_at_call 64; refine (indexf_one b t _ hT).mono ?_; rintro e w1 ⟨rfl, hb1⟩; simp only [HT.out])
    go_ret
    exact ⟨rfl, hb1⟩

set_option maxHeartbeats 800000 in
theorem shcheck_one (b : Nat) (t : Tk) (w : World) (hT : TaskAt w b t) :
    Calls Tryz.prog 27 #[.slice (some ⟨b, 0, none⟩) 1 1] w fun e w' => e = .returned (.bool (taskOk t)) ∧ Below w.heap.size w w' := by
  go_enter Tryz.func27, Tryz.ntmps27
  go_wp2_with (go_at_call 48; refine (contf_one b t _ hT).mono ?_; rintro e w1 ⟨rfl, hb1⟩)
  go_ret
  exact ⟨ret_bool (by simp), hb1⟩

set_option maxRecDepth 100000 in
set_option maxHeartbeats 800000 in
theorem r30check_one (b : Nat) (t : Tk) (w : World) (hT : TaskAt w b t) (hb : b < w.heap.size) :
    Calls Tryz.prog 78 #[.slice (some ⟨b, 0, none⟩) 1 1] w fun e w' => e = .returned (.bool (taskOk t)) ∧ Below w.heap.size w w' := by
  obtain ⟨h0, h1, h2, h3⟩ := hT
  cases h1 : usableB t.pk t.ts
  · have HT := hide (show taskOk t = false by rw [taskOk, h1]; rfl)
    have H1 := hide h1
    clear h1
    go_enter Tryz.func78, Tryz.ntmps78
    go_wp2
    refine wp_loop_rounds 2 ?_; rw [rounds_succ]
    go_wp2_with (go_at_call 97; refine (usabler_any t.pk t.ts _).mono ?_; rintro e w1 ⟨rfl, hb1⟩; rw [H1.out])
    go_ret
    exact ⟨ret_bool HT.out.symm, hb1⟩
  · have HT := hide (show taskOk t = (placeB t.env && costB t.cost) by rw [taskOk, h1, Bool.true_and])
    have H1 := hide h1
    clear h1
    go_enter Tryz.func78, Tryz.ntmps78
    go_wp2
    refine wp_loop_rounds 2 ?_; rw [rounds_succ]
    go_wp2_with (first
      | (go_at_call 97; refine (usabler_any t.pk t.ts _).mono ?_; rintro e w1 ⟨rfl, hb1⟩; rw [H1.out]; obtain ⟨hc1, hf1, hz1⟩ := gcell (grown_of_below hb1 none) _ (Nat.le_refl _))
      | (go_at_call 98; refine (place_any t.env _).mono ?_; rintro e w2 ⟨rfl, rfl⟩))
    all_goals first
      | (go_ret; exact ⟨ret_bool (by rw [HT.out, Bool.eq_iff_iff]; simp [costB, *]; try omega), hb1⟩)
      | (rw [rounds_succ]; go_wp2_with fail; go_ret; exact ⟨ret_bool (by rw [HT.out, Bool.eq_iff_iff]; simp [costB, *]; try omega), hb1⟩)

end Go.Proofs.YtjkffgcikbkjeaaGreat

/- Contracts: a ticket is right. -/
namespace Go.Proofs.YtjkffgcikbkjeaaGreat
open Go.RowKit

theorem bb_start {w w1 : World} {o1 o2 : Obj} (hb : Below ((w.alloc o1).alloc o2).heap.size ((w.alloc o1).alloc o2) w1) : Below w.heap.size w w1 :=
  (((Below.refl _ _).alloc (Nat.le_refl _) _).alloc (by simp) _).trans (hb.mono (by simp; omega))
theorem bb_trans {B : Nat} {w w1 w2 : World} (h : Below B w w1) (hB : B ≤ w1.heap.size) (hb : Below w1.heap.size w1 w2) : Below B w w2 := h.trans (hb.mono hB)


set_option maxRecDepth 100000 in
set_option maxHeartbeats 2000000 in
theorem right_any (t : Tk) (w : World) :
    Calls Tryz.prog 43 #[.agg #[.string t.pk, .string t.ts, .int .i64 t.env, .int .i64 t.cost, .int .i64 t.rev, .int .i64 t.st, .int .i64 t.att, .int .i64 t.run, .int .i64 t.ep, .int .i64 t.out]] w fun e w' => e = .returned (.bool (tkOk t)) ∧ Below w.heap.size w w' := by
  go_enter Tryz.func43, Tryz.ntmps43
  go_wp2_with (first | (go_at_call 27; refine (shcheck_one (w.heap.size + 1) t _ (by simp [TaskAt])).mono ?_; rintro e w1 ⟨rfl, hb1⟩; have hb2 := bb_start hb1; obtain ⟨hc1, hf1, hz1⟩ := gcell (grown_of_below hb1 none) (w.heap.size + 1) (by first | (simp; done) | (simp; omega)); have : w.heap.size < w1.heap.size := (by omega)) | (go_at_call 31; refine (runs_any t _).mono ?_; rintro e w2 ⟨rfl, hb3⟩; obtain ⟨hc2, hf2, hz2⟩ := gcell (grown_of_below hb3 none) (w.heap.size + 1) hz1; have hb4 := bb_trans hb2 (by omega) hb3) | (go_at_call 62; refine (rests_any t _).mono ?_; rintro e w3 ⟨rfl, hb5⟩; obtain ⟨hc3, hf3, hz3⟩ := gcell (grown_of_below hb5 none) (w.heap.size + 1) (by omega); have hb6 : Below w.heap.size w w3 := (by first | exact bb_trans hb4 (by omega) hb5 | exact bb_trans hb2 (by omega) hb5)) | (go_at_call 44; refine (reported_any _ _).mono ?_; rintro e w4 ⟨rfl, rfl⟩))
  all_goals (go_ret; refine ⟨ret_bool ?_, ?_⟩)
  all_goals first
    | (first | exact hb6 | exact hb4 | exact hb2)
    | (simp_all [tkOk, stateB, revB]; done)
    | (simp_all [tkOk, stateB, revB]; omega)
    | trace_state

end Go.Proofs.YtjkffgcikbkjeaaGreat

/- Contracts: copied, with, find, failed, fail. -/
namespace Go.Proofs.YtjkffgcikbkjeaaGreat
open Go.RowKit

def Tk.vals (t : Tk) : List Value := [.string t.pk, .string t.ts, .int .i64 t.env, .int .i64 t.cost, .int .i64 t.rev, .int .i64 t.st, .int .i64 t.att, .int .i64 t.run, .int .i64 t.ep, .int .i64 t.out]
theorem Tk.vals_len (t : Tk) : t.vals.length = 10 := rfl
theorem Tk.vals_one (t : Tk) : ∀ u ∈ t.vals, u.oneCell' = true := by
  intro u hu
  simp [Tk.vals] at hu
  rcases hu with rfl | rfl | rfl | rfl | rfl | rfl | rfl | rfl | rfl | rfl <;> rfl

/-- The ten cells of a ticket from place o on of block b. -/
def TkAt (w : World) (b o : Nat) (t : Tk) : Prop :=
  w.cell? ⟨b, o, none⟩ = some (.string t.pk) ∧ w.cell? ⟨b, o + 1, none⟩ = some (.string t.ts) ∧ w.cell? ⟨b, o + 2, none⟩ = some (.int .i64 t.env) ∧ w.cell? ⟨b, o + 3, none⟩ = some (.int .i64 t.cost) ∧
  w.cell? ⟨b, o + 4, none⟩ = some (.int .i64 t.rev) ∧ w.cell? ⟨b, o + 5, none⟩ = some (.int .i64 t.st) ∧ w.cell? ⟨b, o + 6, none⟩ = some (.int .i64 t.att) ∧ w.cell? ⟨b, o + 7, none⟩ = some (.int .i64 t.run) ∧
  w.cell? ⟨b, o + 8, none⟩ = some (.int .i64 t.ep) ∧ w.cell? ⟨b, o + 9, none⟩ = some (.int .i64 t.out)
theorem tkAt_of {w : World} {b o : Nat} {t : Tk} (h : ∀ j u, t.vals[j]? = some u → w.cell? ⟨b, o + j, none⟩ = some u) : TkAt w b o t :=
  ⟨h 0 _ rfl, h 1 _ rfl, h 2 _ rfl, h 3 _ rfl, h 4 _ rfl, h 5 _ rfl, h 6 _ rfl, h 7 _ rfl, h 8 _ rfl, h 9 _ rfl⟩

theorem info76 : (Tryz.prog.info? 76).map (fun i => (i.zero, i.size, i.bytes)) = some (some (.agg #[.string ByteArray.empty, .string ByteArray.empty, .int .i64 0, .int .i64 0, .int .i64 0, .int .i64 0, .int .i64 0, .int .i64 0, .int .i64 0, .int .i64 0]), 10, 96) := by kernel_rfl
theorem size76 : (Tryz.prog.info? 76).map (·.size) = some 10 := by kernel_rfl

set_option maxHeartbeats 800000 in
theorem copied_any (A : Option Addr) (c n : Nat) (L : Ld) (w : World) (av : Option Nat) (hR : Rs w av 10 Tk.vals A L.tks) (hn : L.tks.length = n) (h128 : n ≤ 128) :
    Calls Tryz.prog 28 #[.agg #[.slice A n c, .int .i64 L.r0, .int .i64 L.r1, .int .i64 L.r2, .int .i64 L.r3, .int .i64 L.r4, .int .i64 L.r5]] w fun e w' =>
      ∃ g, e = .returned (.agg #[.slice (some ⟨g, 0, none⟩) n (n + 1), .int .i64 L.r0, .int .i64 L.r1, .int .i64 L.r2, .int .i64 L.r3, .int .i64 L.r4, .int .i64 L.r5]) ∧
        w'.ownsRow w.heap.size 76 10 (.slice (some ⟨g, 0, none⟩) n (n + 1)) n (L.tks.flatMap Tk.vals) ∧ Below w.heap.size w w' := by
  have hN := hide hn; clear hn
  go_enter Tryz.func28, Tryz.ntmps28
  go_wp2_with (first
    | (at_make; refine wl_make _ rfl _ _ _ rfl w.heap.size 76 _ 10 96 Tryz.underlying26 info76 (w.heap.size + 2) n (n + 1) (by simp) _ _ rfl rfl rfl (by omega) (by omega) rfl (by omega) (by simp only [maxLen]; omega) (by simp; omega) ?_; intro w1 ys hown1 _ hg1; obtain ⟨hc1, hf1, hz1⟩ := gcell hg1 (w.heap.size + 2) (by simp))
    | (refine wl_copy _ rfl (.tmp 12) (.tmp 14) 26 26 rfl 76 10 Tryz.underlying26 size76 w.heap.size (w.heap.size + 2) n (n + 1) c ys A rfl rfl hown1 L.tks (((hR.alloc _).alloc _).grown hg1 (.inr rfl)) hN.out Tk.vals_len Tk.vals_one ?_; intro w2 hown2 hg2; obtain ⟨hc2, hf2, hz2⟩ := gcell hg2 (w.heap.size + 2) hz1))
  refine bodyPost_ret (v := .agg #[.slice (some ⟨w.heap.size + 2, 0, none⟩) n (n + 1), .int .i64 L.r0, .int .i64 L.r1, .int .i64 L.r2, .int .i64 L.r3, .int .i64 L.r4, .int .i64 L.r5]) (by simp [results, Tryz.results28, go_sem, hc1, hc2]) rfl ⟨_, rfl, ?_, ?_⟩
  · (repeat' refine own_far ?_ (by simp [Value.ownBlock]) _); exact hown2
  · (repeat' refine Below.setCell ?_ (by simp) _)
    exact ((((Below.refl _ _).alloc (Nat.le_refl _) _).alloc (by simp) _).grown hg1 (by simp; omega) (by simp)).grown hg2 (by omega) (by simp)

end Go.Proofs.YtjkffgcikbkjeaaGreat

/- Contracts: a ledger is right. -/
namespace Go.Proofs.YtjkffgcikbkjeaaGreat
open Go.RowKit

theorem ix0 (a b c d e f : Int) (w : World) : (Instr.index 27 (.agg #[.int .i64 a, .int .i64 b, .int .i64 c, .int .i64 d, .int .i64 e, .int .i64 f]) (.int .i64 0)).run Tryz.prog w = .ok (.int .i64 a) w := by kernel_rfl
theorem ix1 (a b c d e f : Int) (w : World) : (Instr.index 27 (.agg #[.int .i64 a, .int .i64 b, .int .i64 c, .int .i64 d, .int .i64 e, .int .i64 f]) (.int .i64 1)).run Tryz.prog w = .ok (.int .i64 b) w := by kernel_rfl
theorem ix2 (a b c d e f : Int) (w : World) : (Instr.index 27 (.agg #[.int .i64 a, .int .i64 b, .int .i64 c, .int .i64 d, .int .i64 e, .int .i64 f]) (.int .i64 2)).run Tryz.prog w = .ok (.int .i64 c) w := by kernel_rfl
theorem ix3 (a b c d e f : Int) (w : World) : (Instr.index 27 (.agg #[.int .i64 a, .int .i64 b, .int .i64 c, .int .i64 d, .int .i64 e, .int .i64 f]) (.int .i64 3)).run Tryz.prog w = .ok (.int .i64 d) w := by kernel_rfl
theorem ix4 (a b c d e f : Int) (w : World) : (Instr.index 27 (.agg #[.int .i64 a, .int .i64 b, .int .i64 c, .int .i64 d, .int .i64 e, .int .i64 f]) (.int .i64 4)).run Tryz.prog w = .ok (.int .i64 e) w := by kernel_rfl
theorem ix5 (a b c d e f : Int) (w : World) : (Instr.index 27 (.agg #[.int .i64 a, .int .i64 b, .int .i64 c, .int .i64 d, .int .i64 e, .int .i64 f]) (.int .i64 5)).run Tryz.prog w = .ok (.int .i64 f) w := by kernel_rfl

/-- What the two loops' outcome is. -/
theorem ok_take {L : Ld} {k : Nat} {t : Tk} (hk : L.tks[k]? = some t) (h : tkOk t = false) : L.ok = false := by
  have hm : t ∈ L.tks := List.mem_of_getElem? hk
  have : L.tks.all tkOk = false := by
    cases ha : L.tks.all tkOk
    · rfl
    · rw [List.all_eq_true] at ha
      rw [ha t hm] at h
      cases h
  simp [Ld.ok, this]
theorem acc_take {l : List Tk} {k : Nat} {t : Tk} (hk : l[k]? = some t) : accOf (l.take (k + 1)) = accOf (l.take k) + if repB t.out then 1 else 0 := by
  induction l generalizing k with
  | nil => simp at hk
  | cons a l ih =>
    cases k with
    | zero => simp at hk; subst hk; simp [accOf]
    | succ k =>
      have := ih (k := k) (by simpa using hk)
      simp only [List.take_succ_cons, accOf, this]
      omega
theorem acc_le (l : List Tk) : accOf l ≤ l.length := by
  induction l with
  | nil => simp [accOf]
  | cons a l ih => simp only [accOf, List.length_cons]; split <;> omega
theorem all_take {l : List Tk} {k : Nat} {t : Tk} (hk : l[k]? = some t) (h : (l.take k).all tkOk = true) (ht : tkOk t = true) : (l.take (k + 1)).all tkOk = true := by
  rw [List.take_add_one, List.all_append, h, hk]
  simp [ht]

def CheckI (L : Ld) (n : Nat) (W wr : World) (acc i : Value) : Prop :=
  ∃ k : Nat, k ≤ n ∧ i = .int .i64 k ∧ acc = .int .i64 (accOf (L.tks.take k)) ∧ (L.tks.take k).all tkOk = true ∧ Below W.heap.size W wr

set_option maxRecDepth 100000 in
set_option maxHeartbeats 2000000 in
theorem check_any (A : Option Addr) (c n : Nat) (L : Ld) (w : World) (av : Option Nat) (hR : Rs w av 10 Tk.vals A L.tks) (hn : L.tks.length = n) (hc63 : n ≤ 4294967296) :
    Calls Tryz.prog 25 #[.agg #[.slice A n c, .int .i64 L.r0, .int .i64 L.r1, .int .i64 L.r2, .int .i64 L.r3, .int .i64 L.r4, .int .i64 L.r5]] w fun e w' => e = .returned (.bool L.ok) ∧ Below w.heap.size w w' := by
  have hN := hide hn; clear hn
  by_cases h128 : 128 < n
  · have HK := hide (show L.ok = false by simp [Ld.ok, hN.out]; omega)
    go_enter Tryz.func25, Tryz.ntmps25
    go_wp2
    go_ret
    exact ⟨ret_bool HK.out.symm, (Below.refl _ _).alloc (Nat.le_refl _) _⟩
  cases h0 : (L.r0 != 0)
  case true =>
    have HK := hide (show L.ok = false by have : (L.r0 == 0) = false := (by simpa using h0); simp [Ld.ok, Ld.repsOk, this])
    go_enter Tryz.func25, Tryz.ntmps25
    go_wp2
    go_ret
    exact ⟨ret_bool HK.out.symm, (Below.refl _ _).alloc (Nat.le_refl _) _⟩
  have j0 := ix0 L.r0 L.r1 L.r2 L.r3 L.r4 L.r5
  have j1 := ix1 L.r0 L.r1 L.r2 L.r3 L.r4 L.r5
  have j2 := ix2 L.r0 L.r1 L.r2 L.r3 L.r4 L.r5
  have j3 := ix3 L.r0 L.r1 L.r2 L.r3 L.r4 L.r5
  have j4 := ix4 L.r0 L.r1 L.r2 L.r3 L.r4 L.r5
  have j5 := ix5 L.r0 L.r1 L.r2 L.r3 L.r4 L.r5
  have z0 : L.r0 = 0 := by simpa using h0
  cases hreps : L.repsOk
  · have HK := hide (show L.ok = false by simp [Ld.ok, hreps])
    have HR := hide (show ¬ ((0 ≤ L.r1 ∧ L.r1 ≤ 1073741824) ∧ (0 ≤ L.r2 ∧ L.r2 ≤ 1073741824) ∧ (0 ≤ L.r3 ∧ L.r3 ≤ 1073741824) ∧ (0 ≤ L.r4 ∧ L.r4 ≤ 1073741824) ∧ (0 ≤ L.r5 ∧ L.r5 ≤ 1073741824)) by
      intro h
      simp [Ld.repsOk, cntB, z0] at hreps
      omega)
    have Z0 := hide z0
    have y0 : 0 ≤ L.r0 ∧ L.r0 ≤ 1073741824 := by omega
    obtain ⟨y0, y0'⟩ := y0
    clear hreps z0
    go_enter Tryz.func25, Tryz.ntmps25
    go_wp2
    refine wp_loop_rounds 7 ?_
    iterate 6 (all_goals (first | (rw [rounds_succ]; go_wp2) | skip))
    all_goals first
      | (go_ret; exact ⟨ret_bool HK.out.symm, (Below.refl _ _).alloc (Nat.le_refl _) _⟩)
      | (exfalso; have := HR.out; omega)
  · have hq : (0 ≤ L.r1 ∧ L.r1 ≤ 1073741824) ∧ (0 ≤ L.r2 ∧ L.r2 ≤ 1073741824) ∧ (0 ≤ L.r3 ∧ L.r3 ≤ 1073741824) ∧ (0 ≤ L.r4 ∧ L.r4 ≤ 1073741824) ∧ (0 ≤ L.r5 ∧ L.r5 ≤ 1073741824) := by
      simp [Ld.repsOk, cntB] at hreps
      omega
    obtain ⟨⟨y1, y1'⟩, ⟨y2, y2'⟩, ⟨y3, y3'⟩, ⟨y4, y4'⟩, y5, y5'⟩ := hq
    have y0 : 0 ≤ L.r0 ∧ L.r0 ≤ 1073741824 := by omega
    obtain ⟨y0, y0'⟩ := y0
    have HREP := hide hreps
    clear hreps z0
    go_enter Tryz.func25, Tryz.ntmps25
    go_wp2
    refine wp_loop_rounds 7 ?_
    iterate 7 (rw [rounds_succ]; go_wp2)
    clear j0 j1 j2 j3 j4 j5 y0 y1 y2 y3 y4 y5 y0' y1' y2' y3' y4' y5'
    go_loopw [5, 33] (fun acc i wr => CheckI L n (w.alloc (.cells #[.slice A n c, .int .i64 L.r0, .int .i64 L.r1, .int .i64 L.r2, .int .i64 L.r3, .int .i64 L.r4, .int .i64 L.r5] 29)) wr acc i) (fun _ i _ => n - (intOf i).toNat)
    case atStart => exact ⟨0, Nat.zero_le _, rfl, rfl, rfl, Below.refl _ _⟩
    case round =>
      obtain ⟨k, hk, rfl, rfl, hall, hbr⟩ := hrel
      have HALL := hide hall
      clear hall
      obtain ⟨hc0, hf0, hz0⟩ := gcell (grown_of_below hbr none) (w.heap.size + 1) (by simp)
      by_cases hlt : k < n
      · have hget : L.tks[k]? = some (L.tks[k]'(by rw [hN.out]; exact hlt)) := List.getElem?_eq_getElem _
        generalize L.tks[k]'(by rw [hN.out]; exact hlt) = t at hget
        obtain ⟨b, o, hA, hne, hb, hcells⟩ := hR.at hget
        subst hA
        have HG := hide hget
        clear hget
        obtain ⟨f0, f1, f2, f3, f4, f5, f6, f7, f8, f9⟩ := tkAt_of hcells
        clear hcells
        have hacc : accOf (L.tks.take k) ≤ k := Nat.le_trans (acc_le _) (List.length_take_le _ _)
        go_wp2_with (first | (go_at_call 43; refine (right_any t _).mono ?_; rintro e w1 ⟨rfl, hb1⟩; obtain ⟨hc1, hf1, hz1⟩ := gcell (grown_of_below hb1 none) (wr.heap.size + 1) (by simp)) | (go_at_call 44; refine (reported_any t.out _).mono ?_; rintro e w2 ⟨rfl, rfl⟩))
        · go_ret
          exact ⟨ret_bool (ok_take HG.out (by simpa using ‹(!tkOk t) = true›)).symm, ((((Below.refl _ _).alloc (Nat.le_refl _) _).trans (hbr.mono (by simp))).alloc (by omega) _).trans (hb1.mono (by simp; omega))⟩
        · have ht : tkOk t = true := by simpa using ‹(!tkOk t) = false›
          have hrep : repB t.out = true := by assumption
          have ha := acc_take HG.out
          refine ⟨⟨k + 1, by omega, by go_num, ?_, all_take HG.out HALL.out ht, ?_⟩, by simp [intOf]; omega⟩
          · rw [ha, hrep]; rfl
          · exact (hbr.alloc (by simp; omega) _).trans (hb1.mono (by simp; omega))
        · have ht : tkOk t = true := by simpa using ‹(!tkOk t) = false›
          have hrep : repB t.out = false := by assumption
          have ha := acc_take HG.out
          refine ⟨⟨k + 1, by omega, by go_num, ?_, all_take HG.out HALL.out ht, ?_⟩, by simp [intOf]; omega⟩
          · rw [ha, hrep]; rfl
          · exact (hbr.alloc (by simp; omega) _).trans (hb1.mono (by simp; omega))
      · have HL := hide (show L.ok = (L.r1 == accOf (L.tks.take k)) by
          have : k = L.tks.length := by have := hN.out; omega
          have hall := HALL.out
          rw [this, List.take_length] at *
          have hlen := hN.out
          simp [Ld.ok, HREP.out, hall]
          omega)
        go_wp2
        go_ret
        exact ⟨ret_bool HL.out.symm, ((Below.refl _ _).alloc (Nat.le_refl _) _).trans (hbr.mono (by simp))⟩

end Go.Proofs.YtjkffgcikbkjeaaGreat

/- Contracts: a ticket is right, by the reference. -/
namespace Go.Proofs.YtjkffgcikbkjeaaGreat
open Go.RowKit


set_option maxRecDepth 100000 in
set_option maxHeartbeats 2000000 in
theorem ticket_any (t : Tk) (w : World) :
    Calls Tryz.prog 57 #[.agg #[.string t.pk, .string t.ts, .int .i64 t.env, .int .i64 t.cost, .int .i64 t.rev, .int .i64 t.st, .int .i64 t.att, .int .i64 t.run, .int .i64 t.ep, .int .i64 t.out]] w fun e w' => e = .returned (.bool (tkOk t)) ∧ Below w.heap.size w w' := by
  go_enter Tryz.func57, Tryz.ntmps57
  go_wp2_with (first | (go_at_call 78; refine (r30check_one (w.heap.size + 1) t _ (by simp [TaskAt]) (by simp)).mono ?_; rintro e w1 ⟨rfl, hb1⟩; have hb2 := bb_start hb1; obtain ⟨hc1, hf1, hz1⟩ := gcell (grown_of_below hb1 none) (w.heap.size + 1) (by first | (simp; done) | (simp; omega)); have : w.heap.size < w1.heap.size := (by omega)) | (go_at_call 80; refine (ran_any t _).mono ?_; rintro e w2 ⟨rfl, hb3⟩; obtain ⟨hc2, hf2, hz2⟩ := gcell (grown_of_below hb3 none) (w.heap.size + 1) hz1; have hb4 := bb_trans hb2 (by omega) hb3) | (go_at_call 79; refine (idle_any t _).mono ?_; rintro e w3 ⟨rfl, hb5⟩; obtain ⟨hc3, hf3, hz3⟩ := gcell (grown_of_below hb5 none) (w.heap.size + 1) (by omega); have hb6 : Below w.heap.size w w3 := (by first | exact bb_trans hb4 (by omega) hb5 | exact bb_trans hb2 (by omega) hb5)))
  all_goals (go_ret; refine ⟨ret_bool ?_, ?_⟩)
  all_goals first
    | (first | exact hb6 | exact hb4 | exact hb2)
    | (simp_all [tkOk, stateB, revB, repB]; done)
    | (simp_all [tkOk, stateB, revB, repB]; omega)
    | trace_state

end Go.Proofs.YtjkffgcikbkjeaaGreat

/- Contracts: a ledger is right, by the reference; find. -/
namespace Go.Proofs.YtjkffgcikbkjeaaGreat
open Go.RowKit

theorem ok_when {L : Ld} (hl : L.tks.length ≤ 128) (hall : L.tks.all tkOk = true) :
    L.ok = (L.repsOk && (L.r1 == accOf L.tks)) := by
  simp [Ld.ok, hall, hl]

set_option maxRecDepth 100000 in
set_option maxHeartbeats 4000000 in
theorem rcheck_any (A : Option Addr) (c n : Nat) (L : Ld) (w : World) (av : Option Nat) (hR : Rs w av 10 Tk.vals A L.tks) (hn : L.tks.length = n) (hc63 : n ≤ 4294967296) :
    Calls Tryz.prog 40 #[.agg #[.slice A n c, .int .i64 L.r0, .int .i64 L.r1, .int .i64 L.r2, .int .i64 L.r3, .int .i64 L.r4, .int .i64 L.r5]] w fun e w' => e = .returned (.bool L.ok) ∧ Below w.heap.size w w' := by
  have hN := hide hn; clear hn
  by_cases h128 : 128 < n
  · have HK := hide (show L.ok = false by simp [Ld.ok, hN.out]; omega)
    go_enter Tryz.func40, Tryz.ntmps40
    go_wp2
    go_ret
    exact ⟨ret_bool HK.out.symm, (Below.refl _ _).alloc (Nat.le_refl _) _⟩
  go_enter Tryz.func40, Tryz.ntmps40
  go_wp2
  go_loopw [3, 4] (fun acc i wr => CheckI L n (w.alloc (.cells #[.slice A n c, .int .i64 L.r0, .int .i64 L.r1, .int .i64 L.r2, .int .i64 L.r3, .int .i64 L.r4, .int .i64 L.r5] 29)) wr acc i) (fun _ i _ => n - (intOf i).toNat)
  case atStart => exact ⟨0, Nat.zero_le _, rfl, rfl, rfl, Below.refl _ _⟩
  case round =>
    obtain ⟨k, hk, rfl, rfl, hall, hbr⟩ := hrel
    have HALL := hide hall
    clear hall
    obtain ⟨hc0, hf0, hz0⟩ := gcell (grown_of_below hbr none) (w.heap.size + 1) (by simp)
    by_cases hlt : k < n
    · have hget : L.tks[k]? = some (L.tks[k]'(by rw [hN.out]; exact hlt)) := List.getElem?_eq_getElem _
      generalize L.tks[k]'(by rw [hN.out]; exact hlt) = t at hget
      obtain ⟨b, o, hA, hne, hb, hcells⟩ := hR.at hget
      subst hA
      have HG := hide hget
      clear hget
      obtain ⟨f0, f1, f2, f3, f4, f5, f6, f7, f8, f9⟩ := tkAt_of hcells
      clear hcells
      have hacc : accOf (L.tks.take k) ≤ k := Nat.le_trans (acc_le _) (List.length_take_le _ _)
      have hbb : b < w.heap.size + 1 := by omega
      go_wp2_with (go_at_call 57; refine (ticket_any t _).mono ?_; rintro e w1 ⟨rfl, hb1⟩; obtain ⟨hc1, hf1, hz1⟩ := gcell (grown_of_below hb1 none) (w.heap.size + 1) (by omega))
      · go_ret
        exact ⟨ret_bool (ok_take HG.out (by simpa using ‹(!tkOk t) = true›)).symm, (((Below.refl _ _).alloc (Nat.le_refl _) _).trans (hbr.mono (by simp))).trans (hb1.mono (by omega))⟩
      all_goals
        have ht : tkOk t = true := by simpa using ‹(!tkOk t) = false›
        have ha := acc_take HG.out
        refine ⟨⟨k + 1, by omega, by go_num, ?_, all_take HG.out HALL.out ht, hbr.trans (hb1.mono (by simp; omega))⟩, by simp [intOf]; omega⟩
        rw [ha]
        congr 1
        simp [repB]
        split <;> omega
    · have HL := hide (show L.ok = (L.repsOk && (L.r1 == accOf (L.tks.take k))) by
        have : k = L.tks.length := by have := hN.out; omega
        have hall := HALL.out
        rw [this, List.take_length] at *
        exact ok_when (by have := hN.out; omega) hall)
      have HB := hide (((Below.refl _ _).alloc (Nat.le_refl _) _).trans (hbr.mono (by simp)) : Below w.heap.size w wr)
      go_wp2
      refine wp_loop_rounds 7 ?_
      iterate 7 (all_goals (first | (rw [rounds_succ]; go_wp2) | skip))
      all_goals (go_ret; refine ⟨ret_bool ?_, HB.out⟩; rw [HL.out, Bool.eq_iff_iff]; simp [Ld.repsOk, cntB]; try omega)

end Go.Proofs.YtjkffgcikbkjeaaGreat

/- Contracts: result, Missed, Spent of both sides. -/
namespace Go.Proofs.YtjkffgcikbkjeaaGreat
open Go.RowKit

/-- A result: kind, value, error. -/
structure Rz where
  k : Int
  v : Int
  e : Int
deriving DecidableEq
/-- An audit: what was carried, what a run gave. -/
structure Au where
  a : Rz
  b : Rz
def Au.vals (x : Au) : List Value := [.int .i64 x.a.k, .int .i64 x.a.v, .int .i64 x.a.e, .int .i64 x.b.k, .int .i64 x.b.v, .int .i64 x.b.e]
def missOf : List Au → Nat
  | [] => 0
  | x :: l => missOf l + if x.a = x.b then 0 else 1
theorem missOf_append (t : Au) : ∀ l : List Au, missOf (l ++ [t]) = missOf l + if t.a = t.b then 0 else 1
  | [] => by simp [missOf]
  | x :: l => by simp only [List.cons_append, missOf, missOf_append t l]; omega
theorem missOf_take {l : List Au} {k : Nat} {x : Au} (h : l[k]? = some x) : missOf (l.take (k + 1)) = missOf (l.take k) + if x.a = x.b then 0 else 1 := by
  rw [List.take_add_one, h]
  exact missOf_append x _
def resOf (n : Nat) : Rz := if n = 0 then ⟨1, 1, 0⟩ else if n = 1 then ⟨2, 0, 0⟩ else if n = 2 then ⟨1, 2, 0⟩ else ⟨3, 0, 14⟩
set_option maxRecDepth 100000 in
set_option maxHeartbeats 8000000 in
theorem presult_any (w : World) (v : Int) : Calls Tryz.prog 6 #[.int .i64 v] w fun e w' => ∃ r : Rz, e = .returned (.agg #[.int .i64 r.k, .int .i64 r.v, .int .i64 r.e]) ∧ Below w.heap.size w w' := by
  obtain ⟨m, hm, hF⟩ := fold_nat v 4 (by omega) (by omega)
  have HF := hide hF
  clear hF
  have hm4 : m < 4 := by omega
  clear hm
  go_enter Tryz.func6, Tryz.ntmps6
  go_upto_region 1 with (fail)
  match m, hm4 with
  | 0, _ =>
    go_wp2_with (go_at_call 8; (with_reducible refine (HF.out _).mono ?_); rintro e w' ⟨rfl, rfl⟩)
    refine bodyPost_ret (v := .agg #[.int .i64 1, .int .i64 1, .int .i64 0]) (by simp [results, Tryz.results6, go_sem, *]) rfl ⟨⟨1, 1, 0⟩, rfl, by (repeat' (with_reducible refine Below.setCell ?_ (by first | (simp; done) | (simp; omega)) _)); exact ((Below.refl _ _).alloc (Nat.le_refl _) _).alloc (by simp) _⟩
  | 1, _ =>
    go_wp2_with (go_at_call 8; (with_reducible refine (HF.out _).mono ?_); rintro e w' ⟨rfl, rfl⟩)
    refine bodyPost_ret (v := .agg #[.int .i64 2, .int .i64 0, .int .i64 0]) (by simp [results, Tryz.results6, go_sem, *]) rfl ⟨⟨2, 0, 0⟩, rfl, by (repeat' (with_reducible refine Below.setCell ?_ (by first | (simp; done) | (simp; omega)) _)); exact ((Below.refl _ _).alloc (Nat.le_refl _) _).alloc (by simp) _⟩
  | 2, _ =>
    go_wp2_with (go_at_call 8; (with_reducible refine (HF.out _).mono ?_); rintro e w' ⟨rfl, rfl⟩)
    refine bodyPost_ret (v := .agg #[.int .i64 1, .int .i64 2, .int .i64 0]) (by simp [results, Tryz.results6, go_sem, *]) rfl ⟨⟨1, 2, 0⟩, rfl, by (repeat' (with_reducible refine Below.setCell ?_ (by first | (simp; done) | (simp; omega)) _)); exact ((Below.refl _ _).alloc (Nat.le_refl _) _).alloc (by simp) _⟩
  | 3, _ =>
    go_wp2_with (go_at_call 8; (with_reducible refine (HF.out _).mono ?_); rintro e w' ⟨rfl, rfl⟩)
    refine bodyPost_ret (v := .agg #[.int .i64 3, .int .i64 0, .int .i64 14]) (by simp [results, Tryz.results6, go_sem, *]) rfl ⟨⟨3, 0, 14⟩, rfl, by (repeat' (with_reducible refine Below.setCell ?_ (by first | (simp; done) | (simp; omega)) _)); exact ((Below.refl _ _).alloc (Nat.le_refl _) _).alloc (by simp) _⟩
  | q + 4, h => exact absurd h (by omega)
end Go.Proofs.YtjkffgcikbkjeaaGreat
