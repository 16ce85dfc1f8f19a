/- LookFloors: the law's function answers true. -/
import Derived.Test.YthfbcclbappbcaaGreatDoorRefF
import Derived.Test.YthfbcclbappbcaaGreatDoorRefB
import Derived.Test.YthfbcclbappbcaaGreatDoorAw12
import Derived.Test.YthfbcclbappbcaaGreatDoorPrintLookFloors
namespace Go.Proofs.YthfbcclbappbcaaGreatDoor.Th
open Go Go.RowKit Go.Proofs.YthfbcclbappbcaaGreatDoor.Print Go.Proofs.YthfbcclbappbcaaGreatDoorW.PrintWords
set_option linter.unusedVariables false
set_option linter.unusedSimpArgs false
open Classical
noncomputable def dirX (s : List (List En)) (p : ByteArray) : Int × List Int :=
  if (atX s p).2.2.2.2 = [] then (if (atX s p).2.1 = 1 then (0, [6]) else ((atX s p).2.2.2.1, [])) else (0, (atX s p).2.2.2.2)
theorem dir_x (s : List (List En)) (hs : s.length ≤ 1000) (hb : ∀ l ∈ s, ∀ e ∈ l, e.f0.size ≤ 9223372036854775807) (p : ByteArray) (hp : p.size ≤ 9223372036854775807) (k : Nat) (hk : 3000 ≤ k) : z42.f k s p = some (dirX s p) := by
  unfold z42.f dirX
  rw [at_x s hs hb p hp k hk, Option.bind_some]
  by_cases h : (atX s p).2.2.2.2 = []
  · rw [if_pos h, if_pos (by rw [h]; rfl)]
    by_cases h1 : (atX s p).2.1 = 1
    · rw [if_pos h1, if_pos h1]; rfl
    · rw [if_neg h1, if_neg h1]
  · rw [if_neg h, if_neg (by rw [List.isEmpty_iff]; exact h)]
theorem LookFloors (l0 : List (List En)) (a1 : ByteArray) : ∃ k, z1.f k l0 a1 = some true := by
  obtain ⟨K, hK⟩ : ∃ K, 20000 ≤ K := ⟨20000, Nat.le_refl _⟩
  refine ⟨K + 1 + 1, ?_⟩
  have ja : z1.j0 (K + 1 + 1) l0 a1 true = some true := by
    rw [z1.j0, if_pos rfl, awake12 _ (by omega), Option.bind_some]
  unfold z1.f
  rw [awake12 _ (by omega), Option.bind_some, if_pos rfl, few_eq l0 _ (by omega), Option.bind_some]
  by_cases hf : FitS l0
  · have hb : ∀ l ∈ l0, ∀ e ∈ l, e.f0.size ≤ 9223372036854775807 := fun l hl => (hf.2 l hl).b
    have h12 := hf.1
    rw [if_pos hf, if_neg (by decide)]
    by_cases h100 : a1.size ≤ 100
    · rw [if_neg (by omega), r12_eq l0 hf _ (by omega), Option.bind_some]
      by_cases hS : l0.length ≤ 9 ∧ ∀ l ∈ l0, LR l
      · have hS' : SL l0 := hS
        rw [decide_eq_true hS, Bool.not_true, z1.j0, if_neg (by decide), at_x l0 (by omega) hb a1 (by omega) _ (by omega), Option.bind_some, dir_x l0 (by omega) hb a1 (by omega) _ (by omega), Option.bind_some]
        have bad : ∀ c : Int, c ≠ 0 → atX l0 a1 = (noB, 0, noB, 0, [c]) → dirX l0 a1 = (0, [c]) := fun c _ h => by unfold dirX; rw [h, if_neg (by simp)]
        cases hn : nm a1 with
        | none =>
          have hx : atX l0 a1 = (noB, 0, noB, 0, [2]) := by unfold atX; rw [if_pos hS', hn]
          rw [bad 2 (by decide) hx, hx]
          rfl
        | some L =>
          have hA := at_all hS' hn
          by_cases her : (atX l0 a1).2.2.2.2 = []
          case neg =>
            rcases (hA.bad her).1 with h | h
            · rw [bad 3 (by decide) h, h]; rfl
            · rw [bad 6 (by decide) h, h]; rfl
          case pos =>
            obtain ⟨f, hfl, hg, hi⟩ := hA.good her
            have hok := nm_ok hn
            rw [her, code_nil', Option.bind_some, if_pos rfl]
            rcases hi with ⟨h2, hI⟩ | ⟨h1, l, hl, hfd⟩
            · have hd : dirX l0 a1 = ((f : Int), []) := by unfold dirX; rw [if_pos her, if_neg (by omega), hfl]
              have hx : atG l0 L L.length 0 (B [47]) 2 noB 0 = ((atX l0 a1).1, 2, (atX l0 a1).2.2.1, (f : Int), []) := by
                have h0 : atX l0 a1 = atG l0 L L.length 0 (B [47]) 2 noB 0 := by unfold atX; rw [if_pos hS', hn]
                rw [← h0, ← h2, ← hfl, ← her]
              have hfo := floor_ok hS' hok L.length (Nat.le_refl _) _ _ f hx (K + 1) (by have := hok.1; omega)
              rw [List.take_length, ← nm_path hn] at hfo
              rw [if_neg (by omega), hd]
              dsimp only
              rw [code_nil', Option.bind_some, if_pos rfl, hfl, if_pos rfl, hfo, Option.bind_some]
              simp
            · have hd : dirX l0 a1 = (0, [6]) := by unfold dirX; rw [if_pos her, if_pos h1]
              obtain ⟨hfl2, hle⟩ := List.getElem?_eq_some_iff.1 hl
              have hpj : a1.data.toList = joinB L := by
                rw [nm_path hn, pathB_data]
                rintro rfl
                rcases hg with ⟨_, h3⟩ | ⟨h3, _⟩
                · rw [h3] at h1; cases h1
                · exact h3 rfl
              rw [if_pos h1, hd, hfl, if_pos (by omega), if_pos (by omega), rdL_get l0 f hfl2, hle, find_eq l (hS.2 l (List.mem_of_getElem? hl)) a1 _ (by omega), Option.bind_some]
              dsimp only
              rw [code_one', Option.bind_some, if_pos rfl, if_pos rfl, hpj, hfd]
              rw [show fnR (some (⟨(atX l0 a1).1, (atX l0 a1).2.1, (atX l0 a1).2.2.1⟩ : En)) = ((atX l0 a1).1, (atX l0 a1).2.1, (atX l0 a1).2.2.1, true) from rfl]
              dsimp only
              rw [if_pos rfl]
              simp
      · rw [decide_eq_false hS, Bool.not_false]; exact ja
    · rw [if_pos (by omega)]; exact ja
  · rw [if_neg hf, if_pos rfl]; exact ja
end Go.Proofs.YthfbcclbappbcaaGreatDoor.Th
