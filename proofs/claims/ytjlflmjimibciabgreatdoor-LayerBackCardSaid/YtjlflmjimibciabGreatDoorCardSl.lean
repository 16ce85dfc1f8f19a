/- Slices as arguments: what they hold, as the print's words read it. -/
import Derived.Test.YtjlflmjimibciabGreatDoorCardBase
import Derived.Test.YtjlflmjimibciabGreatDoorPrint0
import Derived.Deep.Slices
namespace Go.Proofs.YtjlflmjimibciabGreatDoor.Card
set_option linter.unusedSimpArgs false
set_option linter.unusedVariables false
open Go Go.Deep Go.ChangeShapes Go.WideShapes Go.RowKit Go.Proofs.YtjlflmjimibciabGreatDoor.Print Go.Proofs.YtjlflmjimibciabGreatDoorW.PrintWords
section
variable {H : Type} {enc : TypeId × Value → H} {w : World} {spare : Nat → Bool} {held : Bool}
theorem laidOut : laidOutB Tryz.prog = true := by kernel_rfl
theorem choose_list {α : Type} (p : Nat → α → Prop) : ∀ n, (∀ i, i < n → ∃ a, p i a) → ∃ l : List α, l.length = n ∧ ∀ i a, l[i]? = some a → p i a
  | 0, _ => ⟨[], rfl, fun i a h => by simp at h⟩
  | n + 1, h => by
    obtain ⟨l, hl, hp⟩ := choose_list p n (fun i hi => h i (by omega))
    obtain ⟨a, ha⟩ := h n (by omega)
    refine ⟨l ++ [a], by simp [hl], fun i b hb => ?_⟩
    by_cases hi : i < n
    · rw [List.getElem?_append_left (by omega)] at hb; exact hp i b hb
    · have hi2 : i = n := by
        have := (List.getElem?_eq_some_iff.1 hb).1
        simp at this; omega
      subst hi2
      rw [List.getElem?_append_right (by omega), hl] at hb
      simp at hb; subst hb; exact ha
/-- A slice that is read as data, element by element. -/
theorem open_row {α : Type} (d : Kd α) {t e : TypeId} (ht : Tryz.prog.underlying t = some (.slice e)) (hsz : Tryz.prog.cellsOf e = d.sz) (q : α → DataW H → Prop)
    (hK : ∀ fuel cs x, cs.length = d.sz → DataW.trod enc Tryz.prog w 0 spare held fuel e cs = some x → ∃ y : α, d.K w y cs ∧ q y x.1)
    {fuel : Nat} {cs : List Value} {x : DataW H × List MemPlace} (h : DataW.trod enc Tryz.prog w 0 spare held fuel t cs = some x) :
    ∃ (A : Option Addr) (n c : Nat) (l : List α), cs = [.slice A n c] ∧ l.length = n ∧ n ≤ c ∧ c ≤ maxLen ∧ d.C w A n l ∧ ((x.1 = .nil ∧ l = []) ∨ ∃ (D sp : List (DataW H)), x.1 = .slice D sp ∧ D.length = l.length ∧ ∀ (i : Nat) (y : α) (z : DataW H), l[i]? = some y → D[i]? = some z → q y z) := by
  rcases open_slice ht h with ⟨rfl, rfl⟩ | ⟨a, len, cap, m, n, D, Pl, rfl, _, hl, hm, hmm, rfl, hx⟩
  · exact ⟨none, 0, 0, [], rfl, rfl, Nat.le_refl _, Nat.zero_le _, ⟨rfl, by decide, fun h => absurd h (by decide)⟩, .inl ⟨rfl, rfl⟩⟩
  · have hlm : len ≤ m := by rw [hmm]; split <;> omega
    obtain ⟨l, hll, hp⟩ := choose_list (fun i (y : α) => q y (D i) ∧ ∃ c, c.length = d.sz ∧ d.K w y c ∧ ∀ j u, c[j]? = some u → w.cell? (a.add (i * d.sz + j)) = some u) len (fun i hi => by
      obtain ⟨cs', h1, h2⟩ := hx i (by omega)
      obtain ⟨_, h3, h4⟩ := World.cells?_some h1
      rw [hsz] at h3
      obtain ⟨y, hy, hqy⟩ := hK _ cs' _ h3 h2
      refine ⟨y, hqy, cs', h3, hy, fun j u hj => ?_⟩
      have hjl : j < d.sz := by rw [← h3]; exact (List.getElem?_eq_some_iff.1 hj).1
      have := h4 j (by rw [hsz]; exact hjl)
      rw [hsz, Addr.add_add, hj] at this
      exact this)
    unfold maxLen at hm
    refine ⟨some a, len, cap, l, rfl, hll, hl, by unfold maxLen; exact hm, ⟨hll, by omega, fun _ => ⟨a, rfl, fun j p hj => ?_⟩⟩, .inr ⟨_, _, rfl, by simp [hll], fun i y z hy hz => ?_⟩⟩
    · exact (hp j p hj).2
    · have := (hp i y hy).1
      rw [List.getElem?_map] at hz
      obtain ⟨k, hk, rfl⟩ := Option.map_eq_some_iff.1 hz
      have : i = k := by
        obtain ⟨h5, h6⟩ := List.getElem?_eq_some_iff.1 hk
        simpa using h6
      subst this; assumption
end
end Go.Proofs.YtjlflmjimibciabGreatDoor.Card
