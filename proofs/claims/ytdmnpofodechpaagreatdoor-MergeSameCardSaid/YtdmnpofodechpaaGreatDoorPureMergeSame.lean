/- MergeSame: the law's function answers true. -/
import Derived.Test.YtdmnpofodechpaaGreatDoorMrgA
import Derived.Test.YtdmnpofodechpaaGreatDoorStackA
import Derived.Test.YtdmnpofodechpaaGreatDoorSameA
import Derived.Test.YtdmnpofodechpaaGreatDoorPrintMergeSame
namespace Go.Proofs.YtdmnpofodechpaaGreatDoor.Th
open Go Go.RowKit Go.Proofs.YtdmnpofodechpaaGreatDoor.Print Go.Proofs.YtdmnpofodechpaaGreatDoorW.PrintWords
set_option linter.unusedVariables false
set_option linter.unusedSimpArgs false
open Classical
theorem stk_ok {s : List (List En)} (h9 : s.length ≤ 9) (h : ∀ l ∈ s, LR l) (k : Nat) (hk : 500 ≤ k) : fold_Stack.f k s = some (stkL s) := by
  rw [stack_eq s (fun l hl => (h l hl).1.b) k hk]
  unfold stX; rw [if_pos (show SR s from ⟨h9, h⟩)]
theorem same_self (a : List En) (ha : a.length ≤ 2000) (k : Nat) (hk : 2100 ≤ k) : shalelaw09_Same.f k a a = some 1 := by
  rw [same_eq a a k ha hk, if_pos rfl]
theorem MergeSame (l0 l1 : List En) : ∃ k, shalelaw15_MergeSame.f k l0 l1 = some true := by
  refine ⟨4000, ?_⟩
  have ja : ∀ k, 100 ≤ k → shalelaw15_MergeSame.j0 (k + 1) l0 l1 true = some true := fun k hk => by
    rw [shalelaw15_MergeSame.j0, if_pos rfl, awake15 k (by omega), Option.bind_some]
  unfold shalelaw15_MergeSame.f
  rw [awake15 _ (by omega), Option.bind_some, if_pos rfl, size_eq l0 _ (by omega), Option.bind_some]
  by_cases hf0 : Fit l0
  · rw [if_pos hf0, if_neg (by decide), size_eq l1 _ (by omega), Option.bind_some]
    by_cases hf1 : Fit l1
    · rw [if_pos hf1, if_neg (by decide), lr_eq l0 hf0.b _ (by omega), Option.bind_some]
      by_cases h0 : LR l0
      · rw [decide_eq_true h0, if_pos rfl, lr_eq l1 hf1.b _ (by omega), Option.bind_some]
        by_cases h1 : LR l1
        · have n0 := h0.2
          have n1 := h1.2
          have hw : wrap64 ((l0.length : Int) + (l1.length : Int)) = ((l0.length + l1.length : Nat) : Int) := by unfold wrap64; omega
          rw [decide_eq_true h1, if_pos rfl, hw]
          by_cases h64 : l0.length + l1.length ≤ 64
          · have t1 := twoL_self_len h0.1
            have t2 := twO_len l0 l1 true
            have x1 : twX l0 l0 false = (twoL l0 l0, []) := by
              unfold twX; rw [if_pos ⟨h0, h0⟩]
              have e : twO l0 l0 false = twoL l0 l0 := rfl
              rw [e, if_pos (by omega)]
            have x2 : twX l0 l1 true = (botL (twoL l0 l1), []) := by
              unfold twX; rw [if_pos ⟨h0, h1⟩, if_pos (by omega)]; rfl
            have e2 : twO l0 l1 true = botL (twoL l0 l1) := rfl
            rw [e2] at t2
            have hx : LR (twoL l0 l0) := ⟨twoL_lyr h0.1 h0.1, by omega⟩
            have hT := botL_tre (twoL_lyr h0.1 h1.1)
            have l1s : (stkL [l0]).length ≤ 64 := by have := SR.len (s := [l0]) (by simpa using h0); simpa using this
            rw [decide_eq_false (by omega), shalelaw15_MergeSame.j0, if_neg (by decide), two_eq l0 l0 false hf0.b hf0.b _ (by omega), Option.bind_some, two_eq l0 l1 true hf0.b hf1.b _ (by omega), Option.bind_some, x1, x2]
            dsimp only
            rw [mbot_eq _ (by omega), Option.bind_some, botL_id hT, code_nilM, Option.bind_some, if_pos rfl, stk_ok (by simp) (by simpa using hx) _ (by omega), Option.bind_some, stk_ok (by simp) (by simpa using h0) _ (by omega), Option.bind_some, stk_self h0.1, same_self _ (by omega) _ (by omega), Option.bind_some, if_pos rfl, Option.bind_some, if_pos rfl, tr_eq _ hT.lyr.b, Option.bind_some, decide_eq_true (show TR _ from ⟨hT, by omega⟩), if_pos rfl, same_self _ (by omega) _ (by omega), Option.bind_some, if_pos rfl, stk_ok (by simp) (by simpa using ⟨h0, h1⟩) _ (by omega), Option.bind_some, stk_two h0.1 h1.1, same_self _ (by omega) _ (by omega), Option.bind_some]
            rfl
          · rw [decide_eq_true (by omega)]; exact ja _ (by omega)
        · rw [decide_eq_false h1, if_neg (by decide)]; exact ja _ (by omega)
      · rw [decide_eq_false h0, if_neg (by decide)]; exact ja _ (by omega)
    · rw [if_neg hf1, if_pos rfl]; exact ja _ (by omega)
  · rw [if_neg hf0, if_pos rfl]; exact ja _ (by omega)
end Go.Proofs.YtdmnpofodechpaaGreatDoor.Th
