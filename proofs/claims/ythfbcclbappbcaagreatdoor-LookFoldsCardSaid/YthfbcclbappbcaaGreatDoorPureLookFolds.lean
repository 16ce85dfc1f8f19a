/- LookFolds: the law's function answers true. -/
import Derived.Test.YthfbcclbappbcaaGreatDoorRefE
import Derived.Test.YthfbcclbappbcaaGreatDoorRefB
import Derived.Test.YthfbcclbappbcaaGreatDoorAw12
import Derived.Test.YthfbcclbappbcaaGreatDoorPrintLookFolds
namespace Go.Proofs.YthfbcclbappbcaaGreatDoor.Th
open Go Go.RowKit Go.Proofs.YthfbcclbappbcaaGreatDoor.Print Go.Proofs.YthfbcclbappbcaaGreatDoorW.PrintWords
set_option linter.unusedVariables false
set_option linter.unusedSimpArgs false
open Classical
theorem shows_eq (s : List (List En)) (hs : s.length ≤ 1000) (hb : ∀ l ∈ s, ∀ e ∈ l, e.f0.size ≤ 9223372036854775807) (p : ByteArray) (hp : p.size ≤ 9223372036854775807) (k : Nat) (hk : 3000 ≤ k) : look_Shows.f k s p = some ((atX s p).2.2.2.2.isEmpty) := by
  unfold look_Shows.f
  rw [at_x s hs hb p hp k hk, Option.bind_some]
theorem LookFolds (l0 : List (List En)) (a1 : ByteArray) : ∃ k, shalelaw12_LookFolds.f k l0 a1 = some true := by
  obtain ⟨K, hK⟩ : ∃ K, 20000 ≤ K := ⟨20000, Nat.le_refl _⟩
  refine ⟨K + 1 + 1, ?_⟩
  have hnb : noB.toList = ([] : List UInt8) := by rw [lst_data]; rfl
  have ja : shalelaw12_LookFolds.j0 (K + 1 + 1) l0 a1 true = some true := by
    rw [shalelaw12_LookFolds.j0, if_pos rfl, awake12 _ (by omega), Option.bind_some]
  unfold shalelaw12_LookFolds.f
  rw [awake12 _ (by omega), Option.bind_some, if_pos rfl, few_eq l0 _ (by omega), Option.bind_some]
  by_cases hf : FitS l0
  · have hb : ∀ l ∈ l0, ∀ e ∈ l, e.f0.size ≤ 9223372036854775807 := fun l hl => (hf.2 l hl).b
    have h12 := hf.1
    rw [if_pos hf, if_neg (by decide)]
    by_cases h100 : a1.size ≤ 100
    · rw [decide_eq_false (by omega), shalelaw12_LookFolds.j0, if_neg (by decide), at_x l0 (by omega) hb a1 (by omega) _ (by omega), Option.bind_some, r12_eq l0 hf _ (by omega), Option.bind_some]
      have hsh := shows_eq l0 (by omega) hb a1 (by omega) (K + 1) (by omega)
      by_cases hS : l0.length ≤ 9 ∧ ∀ l ∈ l0, LR l
      · rw [decide_eq_true hS, if_pos rfl]
        have hS' : SL l0 := hS
        rcases rat_eq hS' a1 (by omega) (K + 1) (by omega) with ⟨hn, hr⟩ | ⟨L, hn, ⟨her, hp, hr⟩ | ⟨c, hc, hx, hr⟩⟩
        · have hx : atX l0 a1 = (noB, 0, noB, 0, [2]) := by unfold atX; rw [if_pos hS', hn]
          rw [hx] at hsh ⊢
          rw [hr, hsh, Option.bind_some]
          dsimp only
          rw [code_one', Option.bind_some, if_pos rfl, Option.bind_some]
          rw [show ((([2] : List Int).isEmpty) != ((2 : Int) == 0)) = false from rfl, shalelaw12_LookFolds.j1, if_neg (by decide), if_neg (by decide), hnb]
          rfl
        · rw [hr, hsh, Option.bind_some, her]
          dsimp only
          rw [code_nil', Option.bind_some, if_pos rfl, Option.bind_some]
          rw [show ((([] : List Int).isEmpty) != ((0 : Int) == 0)) = false from rfl, shalelaw12_LookFolds.j1, if_neg (by decide), if_pos rfl, hp]
          simp
        · rw [hx] at hsh ⊢
          rw [hr, hsh, Option.bind_some]
          dsimp only
          rw [code_one', Option.bind_some, if_pos rfl, Option.bind_some]
          rcases hc with rfl | rfl
          · rw [show ((([3] : List Int).isEmpty) != ((3 : Int) == 0)) = false from rfl, shalelaw12_LookFolds.j1, if_neg (by decide), if_neg (by decide), hnb]
            rfl
          · rw [show ((([6] : List Int).isEmpty) != ((6 : Int) == 0)) = false from rfl, shalelaw12_LookFolds.j1, if_neg (by decide), if_neg (by decide), hnb]
            rfl
      · have hS' : ¬ SL l0 := hS
        have hx : atX l0 a1 = (noB, 0, noB, 0, [16]) := by unfold atX; rw [if_neg hS']
        rw [hx] at hsh ⊢
        rw [decide_eq_false hS, if_neg (by decide), hsh]
        dsimp only
        rw [code_one', Option.bind_some, if_pos rfl, hnb]
        rfl
    · rw [decide_eq_true (by omega)]; exact ja
  · rw [if_neg hf, if_pos rfl]; exact ja
end Go.Proofs.YthfbcclbappbcaaGreatDoor.Th
