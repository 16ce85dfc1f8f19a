/- Go's search in a sorted list: the place of the first that is not less. -/
import Derived.Test.YtdmnpofodechpaaDoorSearchW
namespace Go.Proofs.YtdmnpofodechpaaDoor.Th
open Go Go.Proofs.YtdmnpofodechpaaDoor.Print
theorem cmp_lt : ∀ a b : List UInt8, (Lib.compareBytes a b < 0) ↔ Op.bytesLess a b = true
  | [], [] => by simp [Lib.compareBytes, Op.bytesLess]
  | [], y :: b => by simp [Lib.compareBytes, Op.bytesLess]
  | x :: a, [] => by simp [Lib.compareBytes, Op.bytesLess]
  | x :: a, y :: b => by
    have ih := cmp_lt a b
    simp only [Lib.compareBytes, Op.bytesLess]
    by_cases h : x < y
    · simp [h]
    · by_cases h2 : y < x
      · have : ¬ x = y := fun e => by subst e; exact UInt8.lt_irrefl _ h2
        simp [h, h2, this]
      · have : x = y := UInt8.le_antisymm (UInt8.not_lt.1 h2) (UInt8.not_lt.1 h)
        subst this
        simp [h, ih]
theorem cmp_cases (a b : List UInt8) : Lib.compareBytes a b = if Op.bytesLess a b then -1 else if Op.bytesLess b a then 1 else 0 := by
  have h1 := cmp_lt a b
  have h2 := cmp_lt b a
  have hr : ∀ a b : List UInt8, (Lib.compareBytes a b = -1 ∧ Lib.compareBytes b a = 1) ∨ (Lib.compareBytes a b = 1 ∧ Lib.compareBytes b a = -1) ∨ (Lib.compareBytes a b = 0 ∧ Lib.compareBytes b a = 0) := by
    intro a
    induction a with
    | nil => intro b; cases b <;> simp [Lib.compareBytes]
    | cons x a ih =>
      intro b
      cases b with
      | nil => simp [Lib.compareBytes]
      | cons y b =>
        simp only [Lib.compareBytes]
        by_cases h : x < y
        · have : ¬ y < x := fun h2 => UInt8.lt_irrefl _ (UInt8.lt_trans h h2)
          simp [h, this]
        · by_cases h2 : y < x
          · simp [h, h2]
          · simp [h, h2]; exact ih b
  rcases hr a b with ⟨e1, e2⟩ | ⟨e1, e2⟩ | ⟨e1, e2⟩
  · rw [if_pos (h1.1 (by omega)), e1]
  · rw [if_neg (fun h => by have := h1.2 h; omega), if_pos (h2.1 (by omega)), e1]
  · rw [if_neg (fun h => by have := h1.2 h; omega), if_neg (fun h => by have := h2.2 h; omega), e1]
theorem bsF_spec (F : Nat → ByteArray) (p : ByteArray) (N : Nat) (hm : ∀ a b, a ≤ b → b < N → Lib.compareBytes (F b).data.toList p.data.toList < 0 → Lib.compareBytes (F a).data.toList p.data.toList < 0) :
    ∀ (n lo hi : Nat), lo ≤ hi → hi ≤ N → hi - lo ≤ n → (∀ t, t < lo → Lib.compareBytes (F t).data.toList p.data.toList < 0) → (∀ t, hi ≤ t → t < N → ¬ Lib.compareBytes (F t).data.toList p.data.toList < 0) →
      bsF F p n lo hi ≤ N ∧ (∀ t, t < bsF F p n lo hi → Lib.compareBytes (F t).data.toList p.data.toList < 0) ∧ (∀ t, bsF F p n lo hi ≤ t → t < N → ¬ Lib.compareBytes (F t).data.toList p.data.toList < 0)
  | 0, lo, hi, h1, h2, h3, h4, h5 => by
    rw [bsF]
    exact ⟨by omega, h4, fun t ht => h5 t (by omega)⟩
  | n + 1, lo, hi, h1, h2, h3, h4, h5 => by
    rw [bsF]
    by_cases hl : lo < hi
    · rw [if_pos hl]
      by_cases hc : Lib.compareBytes (F ((lo + hi) / 2)).data.toList p.data.toList < 0
      · rw [if_pos hc]
        exact bsF_spec F p N hm n _ hi (by omega) h2 (by omega) (fun t ht => hm t ((lo + hi) / 2) (by omega) (by omega) hc) h5
      · rw [if_neg hc]
        exact bsF_spec F p N hm n lo _ (by omega) (by omega) (by omega) h4 (fun t h6 h7 h8 => hc (hm ((lo + hi) / 2) t h6 h7 h8))
    · rw [if_neg hl]
      exact ⟨by omega, h4, fun t ht => h5 t (by omega)⟩
end Go.Proofs.YtdmnpofodechpaaDoor.Th
