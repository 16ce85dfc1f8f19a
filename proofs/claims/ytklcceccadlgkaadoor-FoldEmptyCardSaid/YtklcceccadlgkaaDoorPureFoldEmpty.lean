/- FoldEmpty: the law's function answers true. -/
import Derived.Test.YtklcceccadlgkaaDoorFoldC
import Derived.Test.YtklcceccadlgkaaDoorPrint8
namespace Go.Proofs.YtklcceccadlgkaaDoor.Th
open Go Go.RowKit Go.Proofs.YtklcceccadlgkaaDoor.Print Go.Proofs.YtklcceccadlgkaaDoorW.PrintWords
open Classical
theorem stkL_gap (q r : List (List En)) : stkL (q ++ [[]] ++ r) = stkL (q ++ r) := by
  unfold stkL; rw [List.foldl_append, List.foldl_append, List.foldl_append]; rfl
theorem LR_nil : LR [] := ⟨Lyr.nil, by simp⟩
theorem stX_gap (q r : List (List En)) (h : (q ++ r).length ≤ 8) : stX (q ++ [[]] ++ r) = stX (q ++ r) := by
  unfold stX
  have : SR (q ++ [[]] ++ r) ↔ SR (q ++ r) := by
    constructor
    · rintro ⟨_, h2⟩
      refine ⟨by omega, fun l hl => h2 l ?_⟩
      rcases List.mem_append.1 hl with hl | hl <;> simp [hl]
    · rintro ⟨_, h2⟩
      refine ⟨by simp at h ⊢; omega, fun l hl => ?_⟩
      rcases List.mem_append.1 hl with hl | hl
      · rcases List.mem_append.1 hl with hl | hl
        · exact h2 l (List.mem_append_left _ hl)
        · rw [List.mem_singleton.1 hl]; exact LR_nil
      · exact h2 l (List.mem_append_right _ hl)
  by_cases hs : SR (q ++ r)
  · rw [if_pos hs, if_pos (this.2 hs), stkL_gap]
  · rw [if_neg hs, if_neg (fun h => hs (this.1 h))]
theorem u16_range {a : Int} (h : (Lit.int .u8 a).wf = true) : 0 ≤ a ∧ a ≤ 65535 := by
  have hmin : IntKind.min .u8 = 0 := by decide
  have hmax : IntKind.max .u8 = 255 := by decide
  simp [Lit.wf] at h
  omega
theorem FoldEmpty (l0 : List (List En)) (a1 : Int) (h1 : (Lit.int .u8 a1).wf = true) : ∃ k, shalelaw10_FoldEmpty.f k l0 a1 = some true := by
  refine ⟨4000, ?_⟩
  obtain ⟨h10, h11⟩ := u16_range h1
  have ja : ∀ k, 100 ≤ k → shalelaw10_FoldEmpty.j0 (k + 1) l0 a1 true = some true := fun k hk => by
    rw [shalelaw10_FoldEmpty.j0, if_pos rfl, awake10 k (by omega), Option.bind_some]
  unfold shalelaw10_FoldEmpty.f
  rw [awake10 _ (by omega), Option.bind_some, if_pos rfl, few_eq l0 _ (by omega), Option.bind_some]
  by_cases hf : FitS l0
  · rw [if_pos hf, if_neg (by decide)]
    by_cases h8 : l0.length ≤ 8
    · have hb : ∀ l ∈ l0, ∀ e ∈ l, e.f0.size ≤ 9223372036854775807 := fun l hl => (hf.2 l hl).b
      have hw : wrap64 ((l0.length : Int) + 1) = ((l0.length + 1 : Nat) : Int) := wrap_up _ (by omega)
      have hw1 : wrap64 a1 = a1 := by unfold wrap64; omega
      obtain ⟨n, rfl⟩ := Int.eq_ofNat_of_zero_le h10
      have ht : Int.tmod (n : Int) ((l0.length + 1 : Nat) : Int) = ((n % (l0.length + 1) : Nat) : Int) := (Int.ofNat_tmod _ _).symm
      obtain ⟨m, hm⟩ : ∃ m, m = n % (l0.length + 1) := ⟨_, rfl⟩
      have hml : m ≤ l0.length := by have := Nat.mod_lt n (show 0 < l0.length + 1 by omega); omega
      rw [decide_eq_false (by omega), shalelaw10_FoldEmpty.j0, if_neg (by decide), hw, hw1, ht, ← hm]
      rw [if_neg (by omega), Option.bind_some, if_pos (by omega), if_pos (by omega), Int.toNat_natCast, Option.bind_some]
      have hlt : (l0.take m).length = m := by rw [List.length_take]; omega
      rw [if_pos (by simp only [List.length_nil]; omega), Option.bind_some, Option.bind_some]
      rw [if_pos (by simp only [List.length_append, List.length_nil, List.length_cons]; omega), Option.bind_some, Option.bind_some]
      rw [if_pos (by simp only [List.length_append, List.length_nil, List.length_cons, List.length_drop]; omega)]
      have hd : l0.take m ++ l0.drop m = l0 := List.take_append_drop m l0
      have hb2 : ∀ l ∈ ([] ++ l0.take m ++ [[]] ++ l0.drop m : List (List En)), ∀ e ∈ l, e.f0.size ≤ 9223372036854775807 := fun l hl e he => by
        rw [List.nil_append] at hl
        rcases List.mem_append.1 hl with hl | hl
        · rcases List.mem_append.1 hl with hl | hl
          · exact hb l (List.mem_of_mem_take hl) e he
          · rw [List.mem_singleton.1 hl] at he; cases he
        · exact hb l (List.mem_of_mem_drop hl) e he
      rw [stack_eq l0 hb _ (by omega), Option.bind_some, stack_eq _ hb2 _ (by omega), Option.bind_some, List.nil_append, stX_gap _ _ (by rw [hd]; exact h8), hd, same_eq _ _ _ (by have := (stX_tre l0).2; omega) (by omega), Option.bind_some, if_pos rfl]
      rfl
    · rw [decide_eq_true (by omega)]
      exact ja _ (by omega)
  · rw [if_neg hf, if_pos rfl]
    exact ja _ (by omega)
end Go.Proofs.YtklcceccadlgkaaDoor.Th
