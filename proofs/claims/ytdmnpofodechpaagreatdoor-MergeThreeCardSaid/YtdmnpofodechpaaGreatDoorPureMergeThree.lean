/- MergeThree: the law's function answers true. -/
import Derived.Test.YtdmnpofodechpaaGreatDoorMrgA
import Derived.Test.YtdmnpofodechpaaGreatDoorStackA
import Derived.Test.YtdmnpofodechpaaGreatDoorSameA
import Derived.Test.YtdmnpofodechpaaGreatDoorPrintMergeThree
namespace Go.Proofs.YtdmnpofodechpaaGreatDoor.Th
open Go Go.RowKit Go.Proofs.YtdmnpofodechpaaGreatDoor.Print Go.Proofs.YtdmnpofodechpaaGreatDoorW.PrintWords
set_option linter.unusedVariables false
set_option linter.unusedSimpArgs false
open Classical
theorem stk_ok {s : List (List En)} (h9 : s.length ≤ 9) (h : ∀ l ∈ s, LR l) (k : Nat) (hk : 500 ≤ k) : fold_Stack.f k s = some (stkL s) := by
  rw [stack_eq s (fun l hl => (h l hl).1.b) k hk]
  unfold stX; rw [if_pos (show SR s from ⟨h9, h⟩)]
theorem same_self (a : List En) (ha : a.length ≤ 2000) (k : Nat) (hk : 2100 ≤ k) : shalelaw09_Same.f k a a = some 1 := by
  rw [same_eq a a k ha hk, if_pos rfl]
theorem MergeThree (l0 l1 l2 : List En) (b : Bool) : ∃ k, shalelaw15_MergeThree.f k l0 l1 l2 b = some true := by
  refine ⟨4000, ?_⟩
  have ja : ∀ k, 100 ≤ k → shalelaw15_MergeThree.j0 (k + 1) l0 l1 l2 b true = some true := fun k hk => by
    rw [shalelaw15_MergeThree.j0, if_pos rfl, awake15 k (by omega), Option.bind_some]
  unfold shalelaw15_MergeThree.f
  rw [awake15 _ (by omega), Option.bind_some, if_pos rfl, size_eq l0 _ (by omega), Option.bind_some]
  by_cases hf0 : Fit l0
  · rw [if_pos hf0, if_neg (by decide), size_eq l1 _ (by omega), Option.bind_some]
    by_cases hf1 : Fit l1
    · rw [if_pos hf1, if_neg (by decide), size_eq l2 _ (by omega), Option.bind_some]
      by_cases hf2 : Fit l2
      · have m0 := hf0.1
        have m1 := hf1.1
        have m2 := hf2.1
        have hw1 : wrap64 ((l0.length : Int) + (l1.length : Int)) = ((l0.length + l1.length : Nat) : Int) := by unfold wrap64; omega
        have hw : wrap64 (((l0.length + l1.length : Nat) : Int) + (l2.length : Int)) = ((l0.length + l1.length + l2.length : Nat) : Int) := by unfold wrap64; omega
        rw [if_pos hf2, if_neg (by decide), hw1, hw]
        by_cases h64 : l0.length + l1.length + l2.length ≤ 64
        · rw [decide_eq_false (by omega), shalelaw15_MergeThree.j0, if_neg (by decide), two_eq l0 l1 b hf0.b hf1.b _ (by omega), Option.bind_some, two_eq l1 l2 false hf1.b hf2.b _ (by omega), Option.bind_some]
          by_cases h01 : LR l0 ∧ LR l1
          · have t1 := twO_len l0 l1 b
            have x1 : twX l0 l1 b = (twO l0 l1 b, []) := by unfold twX; rw [if_pos h01, if_pos (by omega)]
            rw [x1]
            dsimp only
            rw [code_nilM, Option.bind_some, if_pos rfl]
            by_cases h2 : LR l2
            · have t2 := twO_len l1 l2 false
              have x2 : twX l1 l2 false = (twO l1 l2 false, []) := by unfold twX; rw [if_pos ⟨h01.2, h2⟩, if_pos (by omega)]
              have r1 := twO_lr h01.1 h01.2 b (by omega)
              have r2 := twO_lr h01.2 h2 false (by omega)
              have t3 := twO_len (twO l0 l1 b) l2 b
              have t4 := twO_len l0 (twO l1 l2 false) b
              have x3 : twX (twO l0 l1 b) l2 b = (twO (twO l0 l1 b) l2 b, []) := by unfold twX; rw [if_pos ⟨r1, h2⟩, if_pos (by omega)]
              have x4 : twX l0 (twO l1 l2 false) b = (twO l0 (twO l1 l2 false) b, []) := by unfold twX; rw [if_pos ⟨h01.1, r2⟩, if_pos (by omega)]
              have r3 := twO_lr r1 h2 b (by omega)
              have r4 := twO_lr h01.1 r2 b (by omega)
              rw [x2]
              dsimp only
              rw [code_nilM, Option.bind_some, show ((0 : Int) != 0) = false from rfl, shalelaw15_MergeThree.j1, if_neg (by decide), two_eq _ l2 b r1.1.b hf2.b _ (by omega), Option.bind_some, two_eq l0 _ b hf0.b r2.1.b _ (by omega), Option.bind_some, x3, x4]
              dsimp only
              rw [code_nilM, Option.bind_some, if_pos rfl, Option.bind_some, show ((0 : Int) != 0) = false from rfl, shalelaw15_MergeThree.j2, if_neg (by decide), stk_ok (by simp) (by simpa using r3) _ (by omega), Option.bind_some, stk_ok (by simp) (by simpa using r4) _ (by omega), Option.bind_some]
              have ls : (stkL [twO l0 (twO l1 l2 false) b]).length ≤ 64 := by have := SR.len (s := [twO l0 (twO l1 l2 false) b]) (by simpa using r4); simpa using this
              have he2 : twO l1 l2 false = twoL l1 l2 := rfl
              cases b with
              | true =>
                have e : twO (twO l0 l1 true) l2 true = twO l0 (twO l1 l2 false) true := botL_three h01.1.1 h01.2.1 h2.1
                rw [e, same_self _ (by omega) _ (by omega), Option.bind_some, if_pos rfl, if_pos rfl, same_self _ (by omega) _ (by omega), Option.bind_some, if_pos rfl]
              | false =>
                have e : stkL [twO (twO l0 l1 false) l2 false] = stkL [twO l0 (twO l1 l2 false) false] := stk_three h01.1.1 h01.2.1 h2.1
                have el : (twO (twO l0 l1 false) l2 false).length = (twO l0 (twO l1 l2 false) false).length := twoL_three_len h01.1.1 h01.2.1 h2.1
                rw [e, same_self _ (by omega) _ (by omega), Option.bind_some, if_pos rfl, if_neg (by decide), el]
                simp
            · have x2 : twX l1 l2 false = ([], [16]) := by unfold twX; rw [if_neg (fun k => h2 k.2)]
              rw [x2]
              dsimp only
              rw [code_oneM, Option.bind_some, show ((16 : Int) != 0) = true from rfl, shalelaw15_MergeThree.j1, if_pos rfl, code_nilM, Option.bind_some, if_neg (by decide), code_oneM, Option.bind_some]
              rfl
          · have x1 : twX l0 l1 b = ([], [16]) := by unfold twX; rw [if_neg h01]
            rw [x1]
            dsimp only
            rw [code_oneM, Option.bind_some, if_neg (by decide), shalelaw15_MergeThree.j1, if_pos rfl, code_oneM, Option.bind_some, if_pos rfl]
        · rw [decide_eq_true (by omega)]; exact ja _ (by omega)
      · rw [if_neg hf2, if_pos rfl]; exact ja _ (by omega)
    · rw [if_neg hf1, if_pos rfl]; exact ja _ (by omega)
  · rw [if_neg hf0, if_pos rfl]; exact ja _ (by omega)
end Go.Proofs.YtdmnpofodechpaaGreatDoor.Th
