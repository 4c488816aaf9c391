/- Contracts of the functions that these laws reach: part 14: Contracts: Take, whole. -/
import Derived.Test.YtjhkgoengoiljaaG13
set_option linter.unusedVariables false
set_option linter.unusedSimpArgs false

/- Contracts: Take, whole. -/
namespace Go.Proofs.Ytjhkgoengoiljaa
open Go.RowKit

theorem kindOf_mem (t : Tk) (p : Rp) : kindOf t p = 1 ∨ kindOf t p = 2 ∨ kindOf t p = 3 ∨ kindOf t p = 4 ∨ kindOf t p = 5 := by
  unfold kindOf
  split
  · simp
  · split
    · simp
    · split <;> simp
theorem kind_mem (L : Ld) (p : Rp) : L.kind p = 1 ∨ L.kind p = 2 ∨ L.kind p = 3 ∨ L.kind p = 4 ∨ L.kind p = 5 := by
  unfold Ld.kind
  split
  · simp
  · exact kindOf_mem _ _
theorem kind_one {L : Ld} {p : Rp} (h : L.kind p = 1) : ∃ (i : Nat) (t : Tk), p.tick = i ∧ i < L.tks.length ∧ L.tks[i]? = some t ∧ L.get? p.tick = some t := by
  cases hk : L.get? p.tick with
  | none => simp [Ld.kind, hk] at h
  | some t =>
    obtain ⟨i, h1, h2, h3⟩ := get?_some hk
    exact ⟨i, t, h1, h2, h3, rfl⟩
theorem take_acc {L : Ld} {p : Rp} {i : Nat} {t : Tk} (h1 : p.tick = i) (h4 : L.get? p.tick = some t) : ((L.count 1).accept p) = { L with r1 := L.r1 + 1, tks := L.tks.set i { t with st := 2, out := p.out } } := by
  have h5 : (L.count 1).get? p.tick = some t := by simpa [Ld.count, Ld.get?] using h4
  unfold Ld.accept
  rw [h5]
  simp [Ld.put, Ld.count, h1]

theorem take_any (w : World) (av : Option Nat) (A : Option Addr) (c n : Nat) (L : Ld) (hR : Rs w av 10 Tk.vals A L.tks) (hn : L.tks.length = n) (hc63 : n ≤ 4294967296) (p : Rp) (hav : ∀ x, av = some x → x < w.heap.size) :
    Calls Try.prog 18 #[.agg #[.slice A n c, .int .i64 L.r0, .int .i64 L.r1, .int .i64 L.r2, .int .i64 L.r3, .int .i64 L.r4, .int .i64 L.r5], .agg #[.int .i64 p.tick, .int .i64 p.att, .int .i64 p.run, .int .i64 p.ep, .int .i64 p.out]] w fun e w' => ∃ A' c', e = .returned (.tuple #[.agg #[.slice A' (L.take p).1.tks.length c', .int .i64 (L.take p).1.r0, .int .i64 (L.take p).1.r1, .int .i64 (L.take p).1.r2, .int .i64 (L.take p).1.r3, .int .i64 (L.take p).1.r4, .int .i64 (L.take p).1.r5], .int .i64 (L.take p).2.1, .int .i64 (L.take p).2.2]) ∧ Rs w' av 10 Tk.vals A' (L.take p).1.tks ∧ Below w.heap.size w w' := by
  cases hp : reportOk p
  · have e1 : L.take p = (.nil, 0, 1) := by simp [Ld.take, hp]
    rw [e1]
    exact (take_badrep w av A c n L hR hn hc63 p hp).mono fun e w' ⟨he, hb⟩ => ⟨none, 0, he, Rs.nil, hb⟩
  cases hok : L.ok
  · have e1 : L.take p = (.nil, 0, 1) := by simp [Ld.take, hok]
    rw [e1]
    exact (take_bad w av A c n L hR hn hc63 p hp hok).mono fun e w' ⟨he, hb⟩ => ⟨none, 0, he, Rs.nil, hb⟩
  rcases kind_mem L p with hk | hk | hk | hk | hk
  · by_cases hr : L.r1 = 1073741824
    · have e1 : L.take p = (.nil, 0, 2) := by simp [Ld.take, hok, hp, hk, Ld.rep, hr]
      rw [e1]
      exact (take_full1 w av A c n L hR hn hc63 p hp hok hk hr).mono fun e w' ⟨he, hb⟩ => ⟨none, 0, he, Rs.nil, hb⟩
    · obtain ⟨i, t, h1, h2, h3, h4⟩ := kind_one hk
      have e1 : L.take p = ({ L with r1 := L.r1 + 1, tks := L.tks.set i { t with st := 2, out := p.out } }, 1, 0) := by
        simp [Ld.take, hok, hp, hk, Ld.rep, hr]; exact take_acc h1 h4
      rw [e1]
      refine (take_ok1 w av A c n L hR hn hc63 p i t h1 (by omega) h3 hp hok hk hr hav).mono fun e w' ⟨A', c', he, hr', hb⟩ => ⟨A', c', ?_, hr', hb⟩
      have hlen : (L.tks.set i { t with st := 2, out := p.out }).length = n := by simp [hn]
      dsimp only
      rw [hlen]
      exact he
  · by_cases hr : L.r2 = 1073741824
    · have e1 : L.take p = (.nil, 0, 2) := by simp [Ld.take, hok, hp, hk, Ld.rep, hr]
      rw [e1]
      exact (take_full2 w av A c n L hR hn hc63 p hp hok hk hr).mono fun e w' ⟨he, hb⟩ => ⟨none, 0, he, Rs.nil, hb⟩
    · have e1 : L.take p = ({ L with r2 := L.r2 + 1 }, 2, 0) := by simp [Ld.take, hok, hp, hk, Ld.rep, hr, Ld.count]
      rw [e1]
      refine (take_ok2 w av A c n L hR hn hc63 p hp hok hk hr hav).mono fun e w' ⟨A', c', he, hr', hb⟩ => ⟨A', c', ?_, hr', hb⟩
      dsimp only
      rw [hn]
      exact he
  · by_cases hr : L.r3 = 1073741824
    · have e1 : L.take p = (.nil, 0, 2) := by simp [Ld.take, hok, hp, hk, Ld.rep, hr]
      rw [e1]
      exact (take_full3 w av A c n L hR hn hc63 p hp hok hk hr).mono fun e w' ⟨he, hb⟩ => ⟨none, 0, he, Rs.nil, hb⟩
    · have e1 : L.take p = ({ L with r3 := L.r3 + 1 }, 3, 0) := by simp [Ld.take, hok, hp, hk, Ld.rep, hr, Ld.count]
      rw [e1]
      refine (take_ok3 w av A c n L hR hn hc63 p hp hok hk hr hav).mono fun e w' ⟨A', c', he, hr', hb⟩ => ⟨A', c', ?_, hr', hb⟩
      dsimp only
      rw [hn]
      exact he
  · by_cases hr : L.r4 = 1073741824
    · have e1 : L.take p = (.nil, 0, 2) := by simp [Ld.take, hok, hp, hk, Ld.rep, hr]
      rw [e1]
      exact (take_full4 w av A c n L hR hn hc63 p hp hok hk hr).mono fun e w' ⟨he, hb⟩ => ⟨none, 0, he, Rs.nil, hb⟩
    · have e1 : L.take p = ({ L with r4 := L.r4 + 1 }, 4, 0) := by simp [Ld.take, hok, hp, hk, Ld.rep, hr, Ld.count]
      rw [e1]
      refine (take_ok4 w av A c n L hR hn hc63 p hp hok hk hr hav).mono fun e w' ⟨A', c', he, hr', hb⟩ => ⟨A', c', ?_, hr', hb⟩
      dsimp only
      rw [hn]
      exact he
  · by_cases hr : L.r5 = 1073741824
    · have e1 : L.take p = (.nil, 0, 2) := by simp [Ld.take, hok, hp, hk, Ld.rep, hr]
      rw [e1]
      exact (take_full5 w av A c n L hR hn hc63 p hp hok hk hr).mono fun e w' ⟨he, hb⟩ => ⟨none, 0, he, Rs.nil, hb⟩
    · have e1 : L.take p = ({ L with r5 := L.r5 + 1 }, 5, 0) := by simp [Ld.take, hok, hp, hk, Ld.rep, hr, Ld.count]
      rw [e1]
      refine (take_ok5 w av A c n L hR hn hc63 p hp hok hk hr hav).mono fun e w' ⟨A', c', he, hr', hb⟩ => ⟨A', c', ?_, hr', hb⟩
      dsimp only
      rw [hn]
      exact he

end Go.Proofs.Ytjhkgoengoiljaa
