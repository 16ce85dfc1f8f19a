/- EntryKinds in plain words: the printed function of the law returns true. -/
import Derived.Test.YtklcceccadlgkaaDoorPureA
import Derived.Test.YtklcceccadlgkaaDoorPrint3
namespace Go.Proofs.YtklcceccadlgkaaDoor.Pure
open Go.RowKit Go.Proofs.YtklcceccadlgkaaDoor.Print
set_option linter.unusedVariables false
theorem kind_of (a1 : Int) (h : (Lit.int .u8 a1).wf = true) : ∃ m : Int, wrap64 (1 + (Int.tmod (wrap64 a1) 4)) = m ∧ (m = 1 ∨ m = 2 ∨ m = 3 ∨ m = 4) := by
  have hb : 0 ≤ a1 ∧ a1 < 256 := by
    have h0 := h
    have e1 : IntKind.u8.min = 0 := rfl
    have e2 : IntKind.u8.max = 255 := rfl
    simp [Lit.wf, e1, e2] at h0
    omega
  have w1 : wrap64 a1 = a1 := by unfold wrap64; omega
  rw [w1, Int.tmod_eq_emod_of_nonneg hb.1]
  refine ⟨1 + a1 % 4, ?_, by omega⟩
  unfold wrap64
  omega
theorem EntryKinds (a0_0 : ByteArray) (a0_1 : Int) (a0_2 : ByteArray) (a1 : Int) (y1 : (Lit.int .u8 a1).wf = true) : ∃ k, shalelaw08_EntryKinds.f k a0_0 a0_1 a0_2 a1 = some true := by
  refine ⟨5 + 1, ?_⟩
  unfold shalelaw08_EntryKinds.f
  have a6 : shalelaw08_awake.f (5 + 1) = some true := by kernel_rfl
  rw [a6, Option.bind_some, if_pos rfl, few_eq, Option.bind_some]
  have j6 : ∀ x a b c, shalelaw08_EntryKinds.j0 (5 + 1) x true a b c = some true := by
    intro x a b c
    rw [shalelaw08_EntryKinds.j0, if_pos rfl, awake5]; rfl
  by_cases hf : a0_0.size ≤ 600 ∧ a0_2.size ≤ 600
  · have hs : a0_0.size ≤ 9223372036854775807 := by omega
    rw [if_pos (decide_eq_true hf), right_eq _ _ _ hs, Option.bind_some]
    cases hr : rightOf a0_0 a0_1 a0_2
    · exact j6 _ _ _ _
    · rw [shalelaw08_EntryKinds.j0, if_neg (by decide), right_eq _ _ _ hs, Option.bind_some, deep_eq _ hs]
      obtain ⟨m, hm, hm4⟩ := kind_of a1 y1
      rw [hm]
      have hd : 1 ≤ deepOf a0_0 := by
        unfold rightOf at hr
        rw [Bool.and_eq_true] at hr
        exact of_decide_eq_true hr.1
      have hge : (some (deepOf a0_0)).bind (fun t => some (decide (t ≥ 1))) = some true := by
        rw [Option.bind_some, decide_eq_true hd]
      have hk : a0_1 = 1 ∨ (a0_2.toList = ([] : List UInt8)) := by
        unfold rightOf at hr
        rw [Bool.and_eq_true] at hr
        by_cases h1 : a0_1 = 1
        · exact Or.inl h1
        · right
          have h2 := hr.2
          rw [if_neg h1] at h2
          split at h2
          · exact eq_of_beq h2
          · cases h2
      have hd1 : (a0_2.size : Int) ≤ 256 := by
        rcases hk with h1 | h1
        · unfold rightOf at hr
          rw [Bool.and_eq_true, if_pos h1] at hr
          exact of_decide_eq_true hr.2
        · have : a0_2.data.toList = [] := by rw [← Lib.toList_data]; exact h1
          have h2 : a0_2.size = a0_2.data.toList.length := rfl
          rw [h2, this]; decide
      have hr2 : rightOf a0_0 m a0_2 = (decide (m = 1) || (a0_2.toList == ([] : List UInt8))) := by
        unfold rightOf
        rw [decide_eq_true hd, Bool.true_and]
        by_cases h1 : m = 1
        · rw [if_pos h1, decide_eq_true h1, decide_eq_true hd1]; rfl
        · rw [if_neg h1, decide_eq_false h1, if_pos (by omega), Bool.false_or]
      rw [hr2]
      have fin : (if a0_1 = 1 then (some (deepOf a0_0)).bind (fun t => some (decide (t ≥ 1))) else if a0_2.toList = ([] : List UInt8) then (some (deepOf a0_0)).bind (fun t => some (decide (t ≥ 1))) else some false) = some true := by
        rcases hk with h1 | h1
        · rw [if_pos h1]; exact hge
        · rw [if_pos h1, hge]; split <;> rfl
      by_cases h1 : m = 1
      · rw [if_pos h1, decide_eq_true h1, Bool.true_or, if_pos (by decide)]
        exact fin
      · rw [if_neg h1, decide_eq_false h1, Bool.false_or, if_pos (beq_self_eq_true _)]
        exact fin
  · rw [decide_eq_false hf, if_neg (by decide)]
    exact j6 _ _ _ _
end Go.Proofs.YtklcceccadlgkaaDoor.Pure
