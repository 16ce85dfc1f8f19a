/- Same: two lists of entries alike. -/
import Derived.Test.YthfbcclbappbcaaGreatDoorLayC
import Derived.Test.YthfbcclbappbcaaGreatDoorPrintSa
namespace Go.Proofs.YthfbcclbappbcaaGreatDoor.Th
open Go Go.RowKit Go.Proofs.YthfbcclbappbcaaGreatDoor.Print Go.Proofs.YthfbcclbappbcaaGreatDoorW.PrintWords
set_option linter.unusedVariables false
set_option linter.unusedSimpArgs false
theorem differ (a b : En) : (!((a.f0.toList) == (b.f0.toList)) || (!((a.f1) == (b.f1)) || (!((a.f2.toList) == (b.f2.toList))))) = true ↔ a ≠ b := by
 rw [lst_eq, lst_eq]
 constructor
 ·rintro h rfl; simp at h
 ·intro h
  by_cases h0 : ky a = ky b
  ·by_cases h1 : a.f1 = b.f1
   ·by_cases h2 : da a = da b
    ·exact absurd (en_ext h0 h1 h2) h
    ·unfold da at h2; simp [h2]
   ·simp [h1]
  ·unfold ky at h0; simp [h0]
open Classical in
theorem same_l0 (a b : List En) (hab : a.length = b.length) (hl : a.length ≤ 3000) : ∀ (n i k : Nat), i + n = a.length → n < k → z18.l0 k a b (i : Int) = some (if a.drop i = b.drop i then 1 else 0) := by
 intro n
 induction n with
 | zero =>
  intro i k hn hk
  obtain ⟨k, rfl⟩ := Nat.exists_eq_add_of_le' (show 1 ≤ k by omega)
  rw [z18.l0, if_neg (by omega), List.drop_of_length_le (by omega), List.drop_of_length_le (by omega), if_pos rfl]
 | succ n ih =>
  intro i k hn hk
  obtain ⟨k, rfl⟩ := Nat.exists_eq_add_of_le' (show 1 ≤ k by omega)
  have hi : i < a.length := by omega
  have hj : i < b.length := by omega
  rw [z18.l0, if_pos (by omega), if_pos (by omega), if_pos (by omega), rd_get a i hi, rd_get b i hj, wrap_up i (by omega), ih (i + 1) k (by omega) (by omega), List.drop_eq_getElem_cons hi, List.drop_eq_getElem_cons hj]
  by_cases h1 : a[i] = b[i]
  ·rw [if_neg (fun h => (differ _ _).1 h h1)]
   congr 1
   exact ifc (by rw [h1]; exact ⟨fun h => by rw [h], fun h => (List.cons.inj h).2⟩)
  ·rw [if_pos ((differ _ _).2 h1), if_neg (fun h => h1 (List.cons.inj h).1)]
open Classical in
theorem same_eq (a b : List En) (k : Nat) (hl : a.length ≤ 2000) (hk : 2100 ≤ k) : z18.f k a b = some (if a = b then 1 else 0) := by
 unfold z18.f
 by_cases hab : a.length = b.length
 ·rw [if_pos (by omega)]
  have h := same_l0 a b hab (by omega) a.length 0 k (by omega) (by omega)
  rwa [List.drop_zero, List.drop_zero] at h
 ·rw [if_neg (by omega), if_neg (fun h => hab (by rw [h]))]
end Go.Proofs.YthfbcclbappbcaaGreatDoor.Th
