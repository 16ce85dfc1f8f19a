/- Plain facts of the reference's next pair, as printed. -/
import Derived.Test.YtnjhncplodpafaaPickA
import Derived.Test.YtnjhncplodpafaaPrint2
namespace Go.Proofs.Ytnjhncplodpafaa.Pure
set_option linter.unusedVariables false
set_option linter.unusedSimpArgs false
open Go.RowKit Go.Proofs.Ytnjhncplodpafaa.Print Go.Proofs.YtnjhncplodpafaaW.PrintWords Go.Proofs.YtnjhncplodpafaaW.PrintLast Go.Proofs.YtnjhncplodpafaaW.PrintMore

theorem pr_wrap (l : List Int) (i : Nat) : wrap64 (held (rd l (i : Int)) + held (rd l ((i + 1 : Nat) : Int))) = pr l i := by
  have hp := pr_bd l i
  show wrap64 (pr l i) = pr l i
  exact w64 (by omega) (by omega)
theorem succ_wrap {i : Nat} (h : i < 4611686018427387904) : wrap64 ((i : Int) + 1) = ((i + 1 : Nat) : Int) := by rw [w64 (by omega) (by omega)]; simp

/-- What is best among the pairs below i (-1: none may be). -/
def Best (l : List Int) (i : Nat) (b : Int) : Prop :=
  (b = -1 ∧ ∀ j, j < i → 64 < pr l j) ∨ ∃ k : Nat, b = (k : Int) ∧ k < i ∧ pr l k ≤ 64 ∧ (∀ j, j < i → pr l k ≤ pr l j) ∧ ∀ j, j < k → pr l k < pr l j

theorem refNext_stop (l : List Int) (d b : Int) (i : Nat) (hl : l.length < 17592186044416) (hi : i < 17592186044416) (h : ¬ (i + 1 < l.length ∧ 1 ≤ d ∧ d < l.length)) : Ev (fun k => shaleref17_Next.l0 k l d b (i : Int)) b := by
  have hw := succ_wrap (i := i) (by omega)
  have hj : Ev (fun k => shaleref17_Next.j1 k l d b (i : Int) false) b := Ev.step (f := fun _ => some b) (fun k => by simp [shaleref17_Next.j1]) (Ev.now _)
  refine Ev.step (f := fun k => shaleref17_Next.j1 k l d b (i : Int) false) (fun k => ?_) hj
  simp only [shaleref17_Next.l0, hw]
  by_cases h1 : i + 1 < l.length
  · rw [if_pos (by omega)]
    by_cases h2 : 1 ≤ d
    · rw [if_pos (by omega), decide_eq_false (by omega)]
    · rw [if_neg (by omega)]
  · rw [if_neg (by omega)]

theorem refNext_step (l : List Int) (d b : Int) (i : Nat) (hl : l.length < 17592186044416) (h : i + 1 < l.length ∧ 1 ≤ d ∧ d < l.length) (hb : Best l i b) :
    ∃ b', Best l (i + 1) b' ∧ ∀ r, Ev (fun k => shaleref17_Next.l0 k l d b' ((i + 1 : Nat) : Int)) r → Ev (fun k => shaleref17_Next.l0 k l d b (i : Int)) r := by
  have hw := succ_wrap (i := i) (by omega)
  have hj : ∀ r, Ev (fun k => shaleref17_Next.j1 k l d b (i : Int) true) r → Ev (fun k => shaleref17_Next.l0 k l d b (i : Int)) r := fun r hr => by
    refine Ev.step (fun k => ?_) hr
    simp only [shaleref17_Next.l0, hw]
    rw [if_pos (by omega), if_pos (by omega), decide_eq_true (by omega)]
  have hp := pr_wrap l i
  have hpb := pr_bd l i
  rcases hb with ⟨rfl, hn⟩ | ⟨k, rfl, hk, hk2, hk3, hk4⟩
  · by_cases e : pr l i ≤ 64
    · refine ⟨(i : Int), .inr ⟨i, rfl, by omega, e, fun j hj => ?_, fun j hj => by have := hn j hj; omega⟩, fun r hr => hj r (Ev.step (fun k => ?_) hr)⟩
      · by_cases e' : j = i
        · subst e'; exact Int.le_refl _
        · have := hn j (by omega); omega
      · simp only [shaleref17_Next.j1, size_eq, Option.bind_some, hw, hp]
        rw [if_pos (by simp), if_pos (by omega), if_pos (by omega), if_pos (by omega), if_pos (by omega), if_pos e, if_pos (by omega)]
    · refine ⟨-1, .inl ⟨rfl, fun j hj => ?_⟩, fun r hr => hj r (Ev.step (fun k => ?_) hr)⟩
      · by_cases e' : j = i
        · subst e'; omega
        · exact hn j (by omega)
      · simp only [shaleref17_Next.j1, size_eq, Option.bind_some, hw, hp]
        rw [if_pos (by simp), if_pos (by omega), if_pos (by omega), if_pos (by omega), if_pos (by omega), if_neg e]
  · have hwk := succ_wrap (i := k) (by omega)
    have hpk := pr_wrap l k
    by_cases e : pr l i < pr l k
    · refine ⟨(i : Int), .inr ⟨i, rfl, by omega, by omega, fun j hj => ?_, fun j hj => by have := hk3 j hj; omega⟩, fun r hr => hj r (Ev.step (fun k => ?_) hr)⟩
      · by_cases e' : j = i
        · subst e'; exact Int.le_refl _
        · have := hk3 j (by omega); omega
      · simp only [shaleref17_Next.j1, size_eq, Option.bind_some, hw, hp, hwk, hpk]
        rw [if_pos (by simp), if_pos (by omega), if_pos (by omega), if_pos (by omega), if_pos (by omega), if_pos (by omega), if_neg (by omega), if_pos (by omega), if_pos (by omega), if_pos (by omega), if_pos (by omega), if_pos e]
    · refine ⟨(k : Int), .inr ⟨k, rfl, by omega, hk2, fun j hj => ?_, hk4⟩, fun r hr => hj r (Ev.step (fun k' => ?_) hr)⟩
      · by_cases e' : j = i
        · subst e'; omega
        · exact hk3 j (by omega)
      · simp only [shaleref17_Next.j1, size_eq, Option.bind_some, hw, hp, hwk, hpk]
        by_cases e1 : pr l i ≤ 64
        · rw [if_pos (by simp), if_pos (by omega), if_pos (by omega), if_pos (by omega), if_pos (by omega), if_pos e1, if_neg (by omega), if_pos (by omega), if_pos (by omega), if_pos (by omega), if_pos (by omega), if_neg e]
        · rw [if_pos (by simp), if_pos (by omega), if_pos (by omega), if_pos (by omega), if_pos (by omega), if_neg e1]

theorem refNext_loop (l : List Int) (d : Int) (hl : l.length < 17592186044416) (h1 : 1 ≤ d) (h2 : d < l.length) (m : Nat) : ∀ (i : Nat) (b : Int), i + m = l.length - 1 → Best l i b →
    ∃ r, Ev (fun k => shaleref17_Next.l0 k l d b (i : Int)) r ∧ Best l (l.length - 1) r := by
  induction m with
  | zero =>
    intro i b hi hb
    obtain rfl : i = l.length - 1 := by omega
    exact ⟨b, refNext_stop l d b _ hl (by omega) (by omega), hb⟩
  | succ m ih =>
    intro i b hi hb
    obtain ⟨b', hb', hs⟩ := refNext_step l d b i hl ⟨by omega, h1, h2⟩ hb
    obtain ⟨r, hr, h⟩ := ih (i + 1) b' (by omega) hb'
    exact ⟨r, hs r hr, h⟩

theorem refNext_ev (l : List Int) (hl : l.length < 17592186044416) (d : Int) : ∃ r, Ev (fun k => shaleref17_Next.f k l d) r ∧ ((∃ k : Nat, r = (k : Int) ∧ At l d k) ∨ r = -1 ∧ No l d) := by
  unfold shaleref17_Next.f
  by_cases h : 1 ≤ d ∧ d < l.length
  · obtain ⟨r, hr, hb⟩ := refNext_loop l d hl h.1 h.2 (l.length - 1) 0 (-1) (by omega) (.inl ⟨rfl, fun j hj => by omega⟩)
    refine ⟨r, hr, ?_⟩
    rcases hb with ⟨rfl, hn⟩ | ⟨k, rfl, hk, hk2, hk3, hk4⟩
    · exact .inr ⟨rfl, fun _ _ => hn⟩
    · exact .inl ⟨k, rfl, h.1, h.2, hk, hk2, hk3, hk4⟩
  · exact ⟨-1, refNext_stop l d (-1) 0 hl (by omega) (fun c => h c.2), .inr ⟨rfl, fun a b => absurd ⟨a, b⟩ h⟩⟩

/-- The two agree. -/
theorem next_both {l : List Int} {d : Int} {r : Int × Bool} {n : Int} (h : Nx l d r) (h' : (∃ k : Nat, n = (k : Int) ∧ At l d k) ∨ n = -1 ∧ No l d) :
    (∃ k : Nat, r = ((k : Int), true) ∧ n = (k : Int) ∧ At l d k) ∨ (r = (0, false) ∧ n = -1 ∧ No l d) := by
  rcases h with ⟨k, rfl, hk⟩ | ⟨rfl, hn⟩
  · rcases h' with ⟨j, rfl, hj⟩ | ⟨rfl, hn⟩
    · exact .inl ⟨k, rfl, by rw [hk.one hj], hk⟩
    · exact (hk.not hn).elim
  · rcases h' with ⟨j, rfl, hj⟩ | ⟨rfl, _⟩
    · exact (hj.not hn).elim
    · exact .inr ⟨rfl, rfl, hn⟩
end Go.Proofs.Ytnjhncplodpafaa.Pure
