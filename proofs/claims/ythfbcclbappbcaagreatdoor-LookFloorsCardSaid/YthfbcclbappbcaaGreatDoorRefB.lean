/- The reference of stacks in plain words: shaleref12.Right. -/
import Derived.Test.YthfbcclbappbcaaGreatDoorRefA
import Derived.Test.YthfbcclbappbcaaGreatDoorPrintR12
namespace Go.Proofs.YthfbcclbappbcaaGreatDoor.Th
open Go Go.RowKit Go.Proofs.YthfbcclbappbcaaGreatDoor.Print Go.Proofs.YthfbcclbappbcaaGreatDoorW.PrintWords
open Classical
theorem r12_l0 (s : List (List En)) (hf : FitS s) : ∀ (n i k : Nat), i + n = s.length → n + 10000 < k → (∀ l ∈ s.take i, LR l) → z7.l0 k s (i : Int) = some (decide (s.length ≤ 9 ∧ ∀ l ∈ s, LR l)) := by
  have h12 := hf.1
  intro n
  induction n with
  | zero =>
    intro i k hn hk hq
    obtain ⟨k, rfl⟩ := Nat.exists_eq_add_of_le' (show 1 ≤ k by omega)
    rw [List.take_of_length_le (by omega)] at hq
    rw [z7.l0, if_neg (by omega)]
    exact congrArg some (decide_eq_decide.2 ⟨fun h => ⟨by omega, hq⟩, fun h => by have := h.1; omega⟩)
  | succ n ih =>
    intro i k hn hk hq
    obtain ⟨k, rfl⟩ := Nat.exists_eq_add_of_le' (show 1 ≤ k by omega)
    have hi : i < s.length := by omega
    have hm := List.getElem_mem hi
    rw [z7.l0, if_pos (by omega), if_pos (by omega), rdL_get s i hi, r09_eq _ (hf.2 _ hm) k (by omega), Option.bind_some, wrap_up i (by omega)]
    by_cases hL : LR s[i]
    · rw [decide_eq_true hL, if_pos rfl]
      refine ih (i + 1) k (by omega) (by omega) fun l hl => ?_
      rw [List.take_succ_eq_append_getElem hi] at hl
      rcases List.mem_append.1 hl with hl | hl
      · exact hq l hl
      · rw [List.mem_singleton.1 hl]; exact hL
    · rw [decide_eq_false hL, if_neg (by decide)]
      exact congrArg some (decide_eq_false (fun h => hL (h.2 _ hm))).symm
theorem r12_eq (s : List (List En)) (hf : FitS s) (k : Nat) (hk : 11000 ≤ k) : z7.f k s = some (decide (s.length ≤ 9 ∧ ∀ l ∈ s, LR l)) := by
  unfold z7.f
  exact r12_l0 s hf s.length 0 k (by omega) (by have := hf.1; omega) (by rw [List.take_zero]; intro l hl; cases hl)
end Go.Proofs.YthfbcclbappbcaaGreatDoor.Th
