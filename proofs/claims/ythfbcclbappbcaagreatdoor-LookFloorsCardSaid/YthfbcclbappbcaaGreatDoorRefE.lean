/- The reference of trees and stacks in plain words: shaleref11.Kind, Data; shaleref12.At. -/
import Derived.Test.YthfbcclbappbcaaGreatDoorRefD
import Derived.Test.YthfbcclbappbcaaGreatDoorLookB
import Derived.Test.YthfbcclbappbcaaGreatDoorPrint0
import Derived.Test.YthfbcclbappbcaaGreatDoorPrint1
import Derived.Test.YthfbcclbappbcaaGreatDoorPrint8
import Derived.Test.YthfbcclbappbcaaGreatDoorPrint9
import Derived.Test.YthfbcclbappbcaaGreatDoorPrintKi
import Derived.Test.YthfbcclbappbcaaGreatDoorPrintOv
namespace Go.Proofs.YthfbcclbappbcaaGreatDoor.Th
open Go Go.RowKit Go.Proofs.YthfbcclbappbcaaGreatDoor.Print Go.Proofs.YthfbcclbappbcaaGreatDoorW.PrintWords
set_option linter.unusedVariables false
set_option linter.unusedSimpArgs false
open Classical
theorem nm_rootE {p : ByteArray} : nm p = some [] ↔ p.toList = [47] := by
  constructor
  · intro hn; rw [nm_path hn, lst_data]; unfold pathB; rw [if_pos rfl, B_data]
  · intro h1; unfold nm; rw [← lst_data, h1]; exact splitF_root
def kndR (o : Option En) : Int × Int := match o with | some e => (e.f1, 0) | none => (0, 3)
theorem kind_l0 (t : List En) (p : ByteArray) (hl : t.length ≤ 100000) : ∀ (n i k : Nat), i + n = t.length → n < k → z22.l0 k t p (i : Int) = some (kndR (fnd (t.drop i) p.data.toList)) := by
  intro n
  induction n with
  | zero =>
    intro i k hn hk
    obtain ⟨k, rfl⟩ := Nat.exists_eq_add_of_le' (show 1 ≤ k by omega)
    rw [z22.l0, if_neg (by omega), List.drop_of_length_le (by omega), fnd_nil]; rfl
  | succ n ih =>
    intro i k hn hk
    obtain ⟨k, rfl⟩ := Nat.exists_eq_add_of_le' (show 1 ≤ k by omega)
    have hi : i < t.length := by omega
    rw [z22.l0, if_pos (by omega), if_pos (by omega), rd_get t i hi, wrap_up i (by omega), lst_data, lst_data, List.drop_eq_getElem_cons hi, fnd_cons]
    by_cases h : ky t[i] = p.data.toList
    · rw [if_pos (show t[i].f0.data.toList = p.data.toList from h), if_pos h]; rfl
    · rw [if_neg (show ¬ t[i].f0.data.toList = p.data.toList from h), if_neg h]
      exact ih (i + 1) k (by omega) (by omega)
theorem kind_eq (t : List En) (p : ByteArray) (hl : t.length ≤ 2000) (hp : p.size ≤ 1000) (k : Nat) (hk : 3300 ≤ k) : z22.f k t p = some (match nm p with | none => (0, 2) | some L => if L = [] then (2, 0) else kndR (fnd t p.data.toList)) := by
  unfold z22.f
  rw [rsplit p hp k (by omega), Option.bind_some]
  cases hn : nm p with
  | none => dsimp only; rw [if_neg (by decide)]
  | some L =>
    dsimp only
    rw [if_pos rfl]
    by_cases hL : L = []
    · subst hL
      rw [if_pos (nm_rootE.1 hn), if_pos rfl]
    · rw [if_neg (fun h => hL (Option.some.inj (hn.symm.trans (nm_rootE.2 h)))), if_neg hL]
      have := kind_l0 t p (by omega) t.length 0 k (by omega) (by omega)
      rwa [List.drop_zero] at this
theorem kind_path (t : List En) {L : List By} (hL : Okn L) (hl : t.length ≤ 2000) (k : Nat) (hk : 3300 ≤ k) : z22.f k t (pathB L) = some (if L = [] then (2, 0) else kndR (fnd t (joinB L))) := by
  have hn := nm_pathB hL
  rw [kind_eq t _ hl (by have := (nm_len hn).1; omega) k hk, hn]
  by_cases h : L = []
  · rw [if_pos h]; dsimp only; rw [if_pos h]
  · rw [if_neg h]; dsimp only; rw [if_neg h, pathB_data h]
end Go.Proofs.YthfbcclbappbcaaGreatDoor.Th
