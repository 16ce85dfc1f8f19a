/- LookAll: the law's function answers true. -/
import Derived.Test.YtdmnpofodechpaaGreatDoorLookW
import Derived.Test.YtdmnpofodechpaaGreatDoorStackA
import Derived.Test.YtdmnpofodechpaaGreatDoorRefB
import Derived.Test.YtdmnpofodechpaaGreatDoorAw12
import Derived.Test.YtdmnpofodechpaaGreatDoorPrintLookAll
namespace Go.Proofs.YtdmnpofodechpaaGreatDoor.Th
open Go Go.RowKit Go.Proofs.YtdmnpofodechpaaGreatDoor.Print Go.Proofs.YtdmnpofodechpaaGreatDoorW.PrintWords
set_option linter.unusedVariables false
set_option linter.unusedSimpArgs false
open Classical
theorem all_l0 (s : List (List En)) (hs : s.length ≤ 1000) (hb : ∀ l ∈ s, ∀ e ∈ l, e.f0.size ≤ 9223372036854775807) (hS : SL s) (t : List En) (ht : t = stkL s) (hl : t.length ≤ 1000) : ∀ (n i k : Nat), i + n = t.length → n + 4000 < k → shalelaw12_LookAll.l0 k s t (i : Int) = some true := by
  intro n
  induction n with
  | zero =>
    intro i k hn hk
    obtain ⟨k, rfl⟩ := Nat.exists_eq_add_of_le' (show 1 ≤ k by omega)
    rw [shalelaw12_LookAll.l0, if_neg (by omega)]
  | succ n ih =>
    intro i k hn hk
    obtain ⟨k, rfl⟩ := Nat.exists_eq_add_of_le' (show 1 ≤ k by omega)
    have hi : i < t.length := by omega
    have hm : t[i] ∈ stkL s := ht ▸ List.getElem_mem hi
    obtain ⟨f, _, hf⟩ := at_entry hS hm
    have hT := stkL_tre (s := s) fun l hl => (hS.2 l hl).1
    have hsz := pth_size (hT.lyr.rt _ hm).1
    rw [shalelaw12_LookAll.l0, if_pos (by omega), if_pos (by omega), rd_get t i hi, at_x s hs hb _ (by omega) k (by omega), hf, Option.bind_some]
    dsimp only
    rw [code_nil', Option.bind_some, if_pos rfl, if_neg (by simp), wrap_up i (by omega)]
    exact ih (i + 1) k (by omega) (by omega)
theorem LookAll (l0 : List (List En)) : ∃ k, shalelaw12_LookAll.f k l0 = some true := by
  refine ⟨20000, ?_⟩
  have ja : ∀ k, 100 ≤ k → shalelaw12_LookAll.j0 (k + 1) l0 true = some true := fun k hk => by
    rw [shalelaw12_LookAll.j0, if_pos rfl, awake12 k (by omega), Option.bind_some]
  unfold shalelaw12_LookAll.f
  rw [awake12 _ (by omega), Option.bind_some, if_pos rfl, few_eq l0 _ (by omega), Option.bind_some]
  by_cases hf : FitS l0
  · have hb : ∀ l ∈ l0, ∀ e ∈ l, e.f0.size ≤ 9223372036854775807 := fun l hl => (hf.2 l hl).b
    rw [if_pos hf, if_neg (by decide), r12_eq l0 hf _ (by omega), Option.bind_some]
    by_cases hS : l0.length ≤ 9 ∧ ∀ l ∈ l0, LR l
    · have hlen := SR.len hS.2
      have h9 := hS.1
      rw [decide_eq_true hS, Bool.not_true, shalelaw12_LookAll.j0, if_neg (by decide), stack_eq l0 hb _ (by omega), Option.bind_some]
      have hx : stX l0 = stkL l0 := by unfold stX; rw [if_pos (show SR l0 from hS)]
      rw [hx]
      exact all_l0 l0 (by omega) hb hS (stkL l0) rfl (by omega) (stkL l0).length 0 _ (by omega) (by omega)
    · rw [decide_eq_false hS, Bool.not_false]
      exact ja _ (by omega)
  · rw [if_neg hf, if_pos rfl]; exact ja _ (by omega)
end Go.Proofs.YtdmnpofodechpaaGreatDoor.Th
