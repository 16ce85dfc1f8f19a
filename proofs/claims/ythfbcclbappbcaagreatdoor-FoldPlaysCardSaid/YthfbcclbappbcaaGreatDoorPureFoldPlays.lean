/- FoldPlays: the law's function answers true. -/
import Derived.Test.YthfbcclbappbcaaGreatDoorRefT
import Derived.Test.YthfbcclbappbcaaGreatDoorRefD
import Derived.Test.YthfbcclbappbcaaGreatDoorFoldC
import Derived.Test.YthfbcclbappbcaaGreatDoorPrintFoldPlays
namespace Go.Proofs.YthfbcclbappbcaaGreatDoor.Th
open Go Go.RowKit Go.Proofs.YthfbcclbappbcaaGreatDoor.Print Go.Proofs.YthfbcclbappbcaaGreatDoorW.PrintWords
set_option linter.unusedVariables false
set_option linter.unusedSimpArgs false
open Classical
theorem plays_l0 (s : List (List En)) (t : List En) (hs : FitS s) (ht : Fit t) : ∀ (n i k : Nat), i + n = s.length → 3 * n + 11000 ≤ k → (∀ l ∈ s.take i, LR l) → z6.l0 k s t (i : Int) = some true := by
 have h12 := hs.1
 intro n
 induction n with
 | zero =>
  intro i k hn hk hq
  obtain ⟨k, rfl⟩ := Nat.exists_eq_add_of_le' (show 1 ≤ k by omega)
  rw [List.take_of_length_le (by omega)] at hq
  rw [z6.l0, if_neg (by omega)]
  by_cases h9 : s.length ≤ 9
  ·have hlen := SR.len hq
   have hx : stX s = stkL s := by unfold stX; exact if_pos ⟨h9, hq⟩
   rw [if_neg (by omega), stack_eq s (fun l hl => (hs.2 l hl).b) k (by omega), Option.bind_some, rstack_eq s (by omega) hq k (by omega), Option.bind_some, hx, same_eq _ _ _ (by omega) (by omega), Option.bind_some, if_pos rfl]
   rfl
  ·rw [if_pos (by omega)]
 | succ n ih =>
  intro i k hn hk hq
  obtain ⟨k, rfl⟩ := Nat.exists_eq_add_of_le' (show 3 ≤ k by omega)
  have hi : i < s.length := by omega
  have hm := hs.2 _ (List.getElem_mem hi)
  have h70 := ht.1
  have h71 := hm.1
  have hnext : ∀ k, 3 * n + 11000 ≤ k → LR s[i] → z6.l0 k s t (wrap64 ((i : Int) + 1)) = some true := fun k hk hL => by
   rw [wrap_up i (by omega)]
   refine ih (i + 1) k (by omega) hk fun l hl => ?_
   rw [List.take_succ_eq_append_getElem hi] at hl
   rcases List.mem_append.1 hl with hl | hl
   ·exact hq l hl
   ·rw [List.mem_singleton.1 hl]; exact hL
  have j3 : ∀ x : List En, x.length ≤ 2000 → z6.j3 (k + 1) s t (i : Int) x x = some true := fun x hx => by
   rw [z6.j3, same_eq x x _ hx (by omega), Option.bind_some, if_pos rfl, if_neg (by decide), if_pos (by omega), if_pos (by omega), rdL_get s i hi, r09_eq _ hm k (by omega), Option.bind_some]
   by_cases hL : LR s[i]
   ·rw [decide_eq_true hL, if_pos rfl]; exact hnext k (by omega) hL
   ·rw [decide_eq_false hL, if_neg (by decide)]
  rw [z6.l0, if_pos (by omega), if_pos (by omega), rdL_get s i hi, over_eq t s[i] _ (by omega) ht.b hm.b, Option.bind_some, rt_eq t ht _ (by omega), Option.bind_some]
  by_cases hT : TR t
  ·rw [decide_eq_true hT, if_pos rfl, r09_eq _ hm _ (by omega), Option.bind_some]
   by_cases hL : LR s[i]
   ·have hlen := overL_len t s[i]
    rw [decide_eq_true hL, z6.j2, if_pos rfl, if_pos (by omega), if_pos (by omega), rdL_get s i hi, rover_eq t s[i] hT.1.qt hL.1.rt (by omega), Option.bind_some, ovX_ok hT.1 (by omega) hL]
    exact j3 _ (by omega)
   ·rw [decide_eq_false hL, z6.j2, if_neg (by decide), ovX_not hL]
    exact j3 [] (by simp)
  ·have hx : ovX t s[i] = [] := by unfold ovX; rw [if_neg (fun h => hT h.1)]
   rw [decide_eq_false hT, if_neg (by decide), z6.j2, if_neg (by decide), hx]
   exact j3 [] (by simp)
theorem FoldPlays (l0 : List (List En)) (l1 : List En) : ∃ k, z6.f k l0 l1 = some true := by
 obtain ⟨K, hK⟩ : ∃ K, 20000 ≤ K := ⟨20000, Nat.le_refl _⟩
 refine ⟨K + 1, ?_⟩
 have ja : z6.j0 (K + 1) l0 l1 true = some true := by
  rw [z6.j0, if_pos rfl, awake10 K (by omega), Option.bind_some]
 unfold z6.f
 rw [awake10 _ (by omega), Option.bind_some, if_pos rfl, few_eq l0 _ (by omega), Option.bind_some]
 by_cases hf : FitS l0
 ·have h12 := hf.1
  rw [if_pos hf, if_neg (by decide), size_eq l1 _ (by omega), Option.bind_some]
  by_cases h1 : Fit l1
  ·rw [if_pos h1, show ((1 : Int) == 0) = false from rfl, z6.j0, if_neg (by decide), tr_eq l1 h1.b, Option.bind_some, rt_eq l1 h1 K (by omega), Option.bind_some, if_neg (by simp)]
   exact plays_l0 l0 l1 hf h1 l0.length 0 K (by omega) (by omega) (by rw [List.take_zero]; intro l hl; cases hl)
  ·rw [if_neg h1]; exact ja
 ·rw [if_neg hf, if_pos rfl]; exact ja
end Go.Proofs.YthfbcclbappbcaaGreatDoor.Th
