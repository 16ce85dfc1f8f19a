/- FoldTrees: the law's function answers true. -/
import Derived.Test.YtklcceccadlgkaaDoorFoldC
import Derived.Test.YtklcceccadlgkaaDoorPrint5
namespace Go.Proofs.YtklcceccadlgkaaDoor.Th
open Go Go.RowKit Go.Proofs.YtklcceccadlgkaaDoor.Print Go.Proofs.YtklcceccadlgkaaDoorW.PrintWords
open Classical
theorem FoldTrees (l0 : List (List En)) (l1 : List En) : ∃ k, shalelaw10_FoldTrees.f k l0 l1 = some true := by
  refine ⟨4000, ?_⟩
  have ja : ∀ k, 100 ≤ k → shalelaw10_FoldTrees.j0 (k + 1) l0 l1 true = some true := fun k hk => by
    rw [shalelaw10_FoldTrees.j0, if_pos rfl, awake10 k (by omega), Option.bind_some]
  unfold shalelaw10_FoldTrees.f
  rw [awake10 _ (by omega), Option.bind_some, if_pos rfl, few_eq l0 _ (by omega), Option.bind_some]
  by_cases hf : FitS l0
  · rw [if_pos hf, if_neg (by decide), size_eq l1 _ (by omega), Option.bind_some]
    by_cases h1 : Fit l1
    · rw [if_pos h1]
      obtain ⟨hT, hTn⟩ := stX_tre l0
      obtain ⟨hU, hUn⟩ := ovX_tre (stX l0) l1
      rw [show ((1 : Int) == 0) = false from rfl, shalelaw10_FoldTrees.j0, if_neg (by decide), stack_eq l0 (fun l hl => (hf.2 l hl).b) _ (by omega), Option.bind_some, tr_eq _ hT.lyr.b, Option.bind_some, decide_eq_true (show TR (stX l0) from ⟨hT, by omega⟩), if_pos rfl]
      rw [over_eq _ _ _ (by omega) hT.lyr.b h1.b, Option.bind_some, over_eq _ _ _ (by omega) hU.lyr.b h1.b, Option.bind_some, lr_eq _ h1.b _ (by omega), Option.bind_some]
      by_cases hL : LR l1
      · have e1 : ovX (stX l0) l1 = overL (stX l0) l1 := ovX_ok hT (by omega) hL
        have hlen := overL_len (stX l0) l1
        have h2 := hL.2
        rw [e1] at hU hUn
        have e2 : ovX (overL (stX l0) l1) l1 = overL (stX l0) l1 := by
          rw [ovX_ok hU (by omega) hL, overL_twice hT.lyr.srt hL.1.srt]
        rw [decide_eq_true hL, if_pos rfl, e1, e2, tr_eq _ hU.lyr.b, Option.bind_some, decide_eq_true (show TR (overL (stX l0) l1) from ⟨hU, hUn⟩), if_pos rfl, same_eq _ _ _ (by omega) (by omega), Option.bind_some, if_pos rfl, show ((1 : Int) == 0) = false from rfl]
        rw [shalelaw10_FoldTrees.j1, if_neg (by decide)]
        by_cases h64 : (stX l0).length ≤ 64
        · rw [if_neg (by omega), over_eq [] _ _ (by omega) (fun e he => by cases he) hT.lyr.b, Option.bind_some, ovX_ok Tre.nil (by simp) ⟨hT.lyr, h64⟩, overL_tree hT, same_eq _ _ _ (by omega) (by omega), Option.bind_some, if_pos rfl]
          rfl
        · rw [if_pos (by omega)]
      · rw [decide_eq_false hL, if_neg (by decide), ovX_not hL]
        rfl
    · rw [if_neg h1]
      exact ja _ (by omega)
  · rw [if_neg hf, if_pos rfl]
    exact ja _ (by omega)
end Go.Proofs.YtklcceccadlgkaaDoor.Th
