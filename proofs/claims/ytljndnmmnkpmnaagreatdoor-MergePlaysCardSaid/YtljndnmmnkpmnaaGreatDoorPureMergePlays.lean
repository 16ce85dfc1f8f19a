/- MergePlays: the law's function answers true. -/
import Derived.Test.YtljndnmmnkpmnaaGreatDoorMrgA
import Derived.Test.YtljndnmmnkpmnaaGreatDoorSameA
import Derived.Test.YtljndnmmnkpmnaaGreatDoorRefM
import Derived.Test.YtljndnmmnkpmnaaGreatDoorPrintMergePlays
namespace Go.Proofs.YtljndnmmnkpmnaaGreatDoor.Th
open Go Go.RowKit Go.Proofs.YtljndnmmnkpmnaaGreatDoor.Print Go.Proofs.YtljndnmmnkpmnaaGreatDoorW.PrintWords
set_option linter.unusedVariables false
set_option linter.unusedSimpArgs false
open Classical
theorem MergePlays (l0 l1 : List En) (a2 : Bool) : ∃ k, z2.f k l0 l1 a2 = some true := by
 obtain ⟨K, hK⟩ : ∃ K, 40000 ≤ K := ⟨40000, Nat.le_refl _⟩
 refine ⟨K + 1 + 1, ?_⟩
 have ja : z2.j0 (K + 1 + 1) l0 l1 a2 true = some true := by
  rw [z2.j0, if_pos rfl, awake15 _ (by omega), Option.bind_some]
 unfold z2.f
 rw [awake15 _ (by omega), Option.bind_some, if_pos rfl, size_eq l0 _ (by omega), Option.bind_some]
 by_cases h0 : Fit l0
 ·rw [if_pos h0, if_neg (by decide), size_eq l1 _ (by omega), Option.bind_some]
  by_cases h1 : Fit l1
  ·rw [if_pos h1, show ((1 : Int) == 0) = false from rfl, z2.j0, if_neg (by decide), two_eq l0 l1 a2 h0.b h1.b _ (by omega), Option.bind_some, r09_eq l0 h0 _ (by omega), Option.bind_some]
   have bad : ¬ (LR l0 ∧ LR l1) → z2.j1 (K + 1) l0 l1 a2 (twX l0 l1 a2).1 (twX l0 l1 a2).2 true = some true := fun hno => by
    have hx : twX l0 l1 a2 = ([], [16]) := by unfold twX; rw [if_neg hno]
    rw [hx, z2.j1, if_pos rfl]
    dsimp only
    rw [code_oneM, Option.bind_some, if_pos rfl]; rfl
   by_cases hL0 : LR l0
   ·rw [decide_eq_true hL0, if_pos rfl, r09_eq l1 h1 _ (by omega), Option.bind_some]
    by_cases hL1 : LR l1
    ·have hs0 : Sml l0 := ⟨h0.1, fun e he => by have := (h0.2 e he).1; omega⟩
     have hs1 : Sml l1 := ⟨h1.1, fun e he => by have := (h1.2 e he).1; omega⟩
     have hr := rtwo_f l0 l1 hs0 hs1 hL0.1.srt a2 K (by omega)
     rw [rtwo_eq hL0.1 hL1.1] at hr
     have hlen := twO_len l0 l1 a2
     have h70 := h0.1
     have h71 := h1.1
     have hro : z25.f K l0 l1 a2 = some (twO l0 l1 a2) := hr
     rw [decide_eq_true hL1, Bool.not_true, z2.j1, if_neg (by decide), hro, Option.bind_some]
     by_cases h64 : (twO l0 l1 a2).length ≤ 64
     ·have hx : twX l0 l1 a2 = (twO l0 l1 a2, []) := by unfold twX; rw [if_pos ⟨hL0, hL1⟩, if_pos h64]
      have hlr := twO_lr hL0 hL1 a2 h64
      rw [if_neg (by omega), hx]
      dsimp only
      rw [code_nilM, Option.bind_some, if_pos rfl, same_eq _ _ _ (by omega) (by omega), Option.bind_some, if_pos rfl, if_pos rfl, lr_eq _ hlr.1.b _ (by omega), Option.bind_some, decide_eq_true hlr]
     ·have hx : twX l0 l1 a2 = ([], [9]) := by unfold twX; rw [if_pos ⟨hL0, hL1⟩, if_neg h64]
      rw [if_pos (by omega), hx]
      dsimp only
      rw [code_oneM, Option.bind_some, if_pos rfl]; rfl
    ·rw [decide_eq_false hL1, Bool.not_false]
     exact bad fun k => hL1 k.2
   ·rw [decide_eq_false hL0, if_neg (by decide)]
    exact bad fun k => hL0 k.1
  ·rw [if_neg h1]; exact ja
 ·rw [if_neg h0, if_pos rfl]; exact ja
end Go.Proofs.YtljndnmmnkpmnaaGreatDoor.Th
