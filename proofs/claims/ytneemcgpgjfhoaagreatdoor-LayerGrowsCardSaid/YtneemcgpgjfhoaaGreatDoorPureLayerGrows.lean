/- LayerGrows: the law's function answers true. -/
import Derived.Test.YtneemcgpgjfhoaaGreatDoorPutA
import Derived.Test.YtneemcgpgjfhoaaGreatDoorSameA
import Derived.Test.YtneemcgpgjfhoaaGreatDoorPrintLay
import Derived.Test.YtneemcgpgjfhoaaGreatDoorPrintLayerGrows
namespace Go.Proofs.YtneemcgpgjfhoaaGreatDoor.Th
open Go Go.RowKit Go.Proofs.YtneemcgpgjfhoaaGreatDoor.Print Go.Proofs.YtneemcgpgjfhoaaGreatDoorW.PrintWords
set_option linter.unusedVariables false
set_option linter.unusedSimpArgs false
open Classical
theorem awake09_0 : shalelaw09_awake.f 60 = some true := by kernel_rfl
theorem awake09 (k : Nat) (hk : 60 ≤ k) : shalelaw09_awake.f k = some true := mono_le (fun k => shalelaw09_awake.mono k) hk awake09_0
theorem code_nil9 : fail_Code.f [] = some 0 := rfl
theorem lr_take {l : List En} (h : LR l) (i : Nat) : LR (l.take i) := ⟨Lyr.pre (r := l.drop i) (by rw [List.take_append_drop]; exact h.1), by rw [List.length_take]; have := h.2; omega⟩
theorem put_next {l : List En} (h : LR l) (i : Nat) (hi : i < l.length) : putX (l.take i) l[i] = (l.take (i + 1), []) := by
  have hp : putL (l.take i) l[i] = l.take (i + 1) := by
    rw [List.take_succ_eq_append_getElem hi]
    refine putL_last ?_
    rw [← List.take_succ_eq_append_getElem hi]
    exact (lr_take h (i + 1)).1.srt
  have h64 := h.2
  unfold putX
  rw [if_pos ⟨lr_take h i, h.1.rt _ (List.getElem_mem hi)⟩, hp, if_neg (fun k => by have := k.2; rw [List.length_take] at this; omega), if_pos (lr_take h (i + 1))]
theorem put_same {l : List En} (h : LR l) {e : En} (he : e ∈ l) : putX l e = (l, []) := by
  unfold putX
  rw [if_pos ⟨h, h.1.rt e he⟩, putL_mem_eq h.1.srt he, if_neg (fun k => by rw [h.1.srt.at_ he] at k; cases k.1), if_pos h]
theorem grows_l1 (l : List En) (h : LR l) : ∀ (n i k : Nat), i + n = l.length → n + 2200 < k → shalelaw09_LayerGrows.l1 k l l (i : Int) = some true := by
  have h64 := h.2
  intro n
  induction n with
  | zero =>
    intro i k hn hk
    obtain ⟨k, rfl⟩ := Nat.exists_eq_add_of_le' (show 1 ≤ k by omega)
    rw [shalelaw09_LayerGrows.l1, if_neg (by omega), same_eq l l k (by omega) (by omega), Option.bind_some, if_pos rfl]; rfl
  | succ n ih =>
    intro i k hn hk
    obtain ⟨k, rfl⟩ := Nat.exists_eq_add_of_le' (show 1 ≤ k by omega)
    have hi : i < l.length := by omega
    have hm := List.getElem_mem hi
    rw [shalelaw09_LayerGrows.l1, if_pos (by omega), if_pos (by omega), rd_get l i hi, put_eq l h.1.b _ (h.1.b _ hm), put_same h hm, Option.bind_some, find_any l h.1.b _ k (by omega), if_pos h, Option.bind_some]
    have hf : fnd l l[i].f0.data.toList = some l[i] := h.1.srt.at_ hm
    rw [hf, show fnR (some l[i]) = (l[i].f0, l[i].f1, l[i].f2, true) from rfl]
    dsimp only
    rw [code_nil9, Option.bind_some, if_pos rfl, same_eq l l k (by omega) (by omega), Option.bind_some, if_pos rfl, if_neg (by decide), if_pos rfl, if_neg (fun k => (differ _ _).1 k rfl), wrap_up i (by omega)]
    exact ih (i + 1) k (by omega) (by omega)
theorem grows_l0 (l : List En) (h : LR l) : ∀ (n i k : Nat), i + n = l.length → 2 * n + 2400 < k → shalelaw09_LayerGrows.l0 k l (l.take i) (i : Int) = some true := by
  have h64 := h.2
  intro n
  induction n with
  | zero =>
    intro i k hn hk
    obtain ⟨k, rfl⟩ := Nat.exists_eq_add_of_le' (show 1 ≤ k by omega)
    rw [shalelaw09_LayerGrows.l0, if_neg (by omega), List.take_of_length_le (by omega)]
    exact grows_l1 l h l.length 0 k (by omega) (by omega)
  | succ n ih =>
    intro i k hn hk
    obtain ⟨k, rfl⟩ := Nat.exists_eq_add_of_le' (show 1 ≤ k by omega)
    have hi : i < l.length := by omega
    have hm := List.getElem_mem hi
    rw [shalelaw09_LayerGrows.l0, if_pos (by omega), if_pos (by omega), rd_get l i hi, put_eq (l.take i) (lr_take h i).1.b _ (h.1.b _ hm), put_next h i hi, Option.bind_some]
    dsimp only
    rw [code_nil9, Option.bind_some, if_pos rfl, wrap_up i (by omega), if_pos (by rw [List.length_take]; omega)]
    exact ih (i + 1) k (by omega) (by omega)
theorem LayerGrows (l0 : List En) : ∃ k, shalelaw09_LayerGrows.f k l0 = some true := by
  obtain ⟨K, hK⟩ : ∃ K, 5000 ≤ K := ⟨5000, Nat.le_refl _⟩
  refine ⟨K + 1, ?_⟩
  have ja : shalelaw09_LayerGrows.j0 (K + 1) l0 true = some true := by
    rw [shalelaw09_LayerGrows.j0, if_pos rfl, awake09 K (by omega), Option.bind_some]
  unfold shalelaw09_LayerGrows.f
  rw [awake09 _ (by omega), Option.bind_some, if_pos rfl, size_eq l0 _ (by omega), Option.bind_some]
  by_cases hf : Fit l0
  · rw [if_pos hf, if_neg (by decide), lr_eq l0 hf.b _ (by omega), Option.bind_some]
    by_cases hL : LR l0
    · have h64 := hL.2
      rw [decide_eq_true hL, Bool.not_true, shalelaw09_LayerGrows.j0, if_neg (by decide)]
      have := grows_l0 l0 hL l0.length 0 K (by omega) (by omega)
      rwa [List.take_zero] at this
    · rw [decide_eq_false hL, Bool.not_false]; exact ja
  · rw [if_neg hf, if_pos rfl]; exact ja
end Go.Proofs.YtneemcgpgjfhoaaGreatDoor.Th
