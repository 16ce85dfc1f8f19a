/- FoldSteps: the law's function answers true. -/
import Derived.Test.YtklcceccadlgkaaDoorFoldC
import Derived.Test.YtklcceccadlgkaaDoorPrint6
namespace Go.Proofs.YtklcceccadlgkaaDoor.Th
open Go Go.RowKit Go.Proofs.YtklcceccadlgkaaDoor.Print Go.Proofs.YtklcceccadlgkaaDoorW.PrintWords
open Classical
theorem steps_l0 (s : List (List En)) (hs : s.length ≤ 12) (hb : ∀ l ∈ s, ∀ e ∈ l, e.f0.size ≤ 9223372036854775807) (r : Bool) (hend : ∀ k, 3000 ≤ k → shalelaw10_FoldSteps.l0 k s (decide (∀ l ∈ s, LR l)) (s.length : Int) = some r) :
    ∀ (n i k : Nat), i + n = s.length → n + 3000 < k → shalelaw10_FoldSteps.l0 k s (decide (∀ l ∈ s.take i, LR l)) (i : Int) = some r := by
  intro n
  induction n with
  | zero =>
    intro i k hn hk
    rw [List.take_of_length_le (by omega), show i = s.length by omega]
    exact hend k (by omega)
  | succ n ih =>
    intro i k hn hk
    obtain ⟨k, rfl⟩ := Nat.exists_eq_add_of_le' (show 1 ≤ k by omega)
    have hi : i < s.length := by omega
    have hm := List.getElem_mem hi
    have key : (∀ l ∈ s.take (i + 1), LR l) ↔ (∀ l ∈ s.take i, LR l) ∧ LR s[i] := by
      rw [List.take_succ_eq_append_getElem hi]
      constructor
      · intro h; exact ⟨fun l hl => h l (List.mem_append_left _ hl), h _ (List.mem_append_right _ (List.Mem.head _))⟩
      · rintro ⟨h1, h2⟩ l hl
        rcases List.mem_append.1 hl with hl | hl
        · exact h1 l hl
        · rw [List.mem_singleton.1 hl]; exact h2
    rw [shalelaw10_FoldSteps.l0, if_pos (by omega), wrap_up i (by omega)]
    have nx := ih (i + 1) k (by omega) (by omega)
    by_cases hq : ∀ l ∈ s.take i, LR l
    · rw [decide_eq_true hq, if_pos rfl, if_pos (by omega), rdL_get s i hi, lr_eq _ (hb _ hm) _ (by omega), Option.bind_some]
      rwa [decide_eq_decide.2 (show (∀ l ∈ s.take (i + 1), LR l) ↔ LR s[i] from ⟨fun h => (key.1 h).2, fun h => key.2 ⟨hq, h⟩⟩)] at nx
    · rw [decide_eq_false hq, if_neg (by decide)]
      rwa [decide_eq_false (fun h => hq (key.1 h).1)] at nx
theorem FoldSteps (l0 : List (List En)) : ∃ k, shalelaw10_FoldSteps.f k l0 = some true := by
  refine ⟨4000, ?_⟩
  unfold shalelaw10_FoldSteps.f
  rw [awake10 _ (by omega), Option.bind_some, if_pos rfl, few_eq l0 _ (by omega), Option.bind_some]
  by_cases hf : FitS l0
  · rw [if_pos hf, show ((1 : Int) == 0) = false from rfl, shalelaw10_FoldSteps.j0, if_neg (by decide)]
    have hb : ∀ l ∈ l0, ∀ e ∈ l, e.f0.size ≤ 9223372036854775807 := fun l hl => (hf.2 l hl).b
    have h12 := hf.1
    have := steps_l0 l0 hf.1 hb true (fun k hk => ?_) l0.length 0 3999 (by omega) (by omega)
    · rwa [List.take_zero, decide_eq_true (show ∀ l ∈ ([] : List (List En)), LR l from fun l hl => by cases hl)] at this
    · obtain ⟨k, rfl⟩ := Nat.exists_eq_add_of_le' (show 2 ≤ k by omega)
      rw [shalelaw10_FoldSteps.l0, if_neg (by omega)]
      have bad : ¬ SR l0 → shalelaw10_FoldSteps.j2 (k + 1) l0 true = some true := fun h => by
        rw [shalelaw10_FoldSteps.j2, if_pos rfl, stack_eq l0 hb _ (by omega), Option.bind_some]
        unfold stX; rw [if_neg h]; rfl
      by_cases hq : ∀ l ∈ l0, LR l
      · rw [decide_eq_true hq, if_pos rfl]
        by_cases h9 : l0.length ≤ 9
        · have hS : SR l0 := ⟨h9, hq⟩
          rw [decide_eq_false (by omega), shalelaw10_FoldSteps.j2, if_neg (by decide)]
          rcases List.eq_nil_or_concat l0 with rfl | ⟨q, x, rfl⟩
          · rw [if_pos (by rfl), stack_eq _ hb _ (by omega), Option.bind_some]
            unfold stX; rw [if_pos hS]; rfl
          · rw [List.concat_eq_append] at *
            have hn : (q ++ [x]).length = q.length + 1 := by simp
            have hw : wrap64 (((q ++ [x]).length : Int) - 1) = ((q.length : Nat) : Int) := by rw [hn]; rw [hn] at h9; unfold wrap64; omega
            have hSq : SR q := ⟨by omega, fun l hl => hq l (List.mem_append_left _ hl)⟩
            have hx : LR x := hq x (by simp)
            rw [hw, if_neg (by omega), stack_eq _ hb _ (by omega), Option.bind_some, if_pos (by omega), if_pos (by omega), Int.toNat_natCast, List.take_left' rfl, stack_eq q (fun l hl => hb l (List.mem_append_left _ hl)) _ (by omega), Option.bind_some, if_pos (by omega), rdL_get _ _ (by omega)]
            have hgx : (q ++ [x])[q.length]'(by omega) = x := by simp
            rw [hgx, over_eq _ _ _ (by omega) (stX_tre q).1.lyr.b hx.1.b, Option.bind_some, ovX_ok (stX_tre q).1 (by have := (stX_tre q).2; omega) hx]
            have : overL (stX q) x = stX (q ++ [x]) := by
              unfold stX; rw [if_pos hS, if_pos hSq, stkL_snoc]
            rw [this, same_eq _ _ _ (by have := (stX_tre (q ++ [x])).2; omega) (by omega), Option.bind_some, if_pos rfl]
            rfl
        · rw [decide_eq_true (by omega)]
          exact bad (fun h => h9 h.1)
      · rw [decide_eq_false hq, if_neg (by decide)]
        exact bad (fun h => hq h.2)
  · rw [if_neg hf, show ((0 : Int) == 0) = true from rfl, shalelaw10_FoldSteps.j0, if_pos rfl, awake10 _ (by omega), Option.bind_some]
end Go.Proofs.YtklcceccadlgkaaDoor.Th
