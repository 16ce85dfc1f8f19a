/- What the printed functions of paths and entries say, in plain words. -/
import Derived.Test.YtklcceccadlgkaaDoorPrint1
namespace Go.Proofs.YtklcceccadlgkaaDoor.Pure
open Go.RowKit Go.Proofs.YtklcceccadlgkaaDoor.Print
set_option linter.unusedVariables false
/-- How many names a path has; -1: no path. -/
def deepOf (s : ByteArray) : Int := match splitF s.data.toList with
  | some l => l.length
  | none => -1
theorem deep_eq (s : ByteArray) (h : s.size ≤ 9223372036854775807) : path_Deep.f s = some (deepOf s) := by
  unfold path_Deep.f path_Split.f deepOf
  rw [if_pos h]
  cases hs : splitF s.data.toList with
  | none => rfl
  | some l => simp
/-- Is an entry right? -/
def rightOf (a : ByteArray) (k : Int) (d : ByteArray) : Bool :=
  decide (1 ≤ deepOf a) && (if k = 1 then decide ((d.size : Int) ≤ 256) else if k = 2 ∨ k = 3 ∨ k = 4 then d.toList == ([] : List UInt8) else false)
theorem right_eq (a : ByteArray) (k : Int) (d : ByteArray) (h : a.size ≤ 9223372036854775807) : entry_Right.f a k d = some (rightOf a k d) := by
  unfold entry_Right.f rightOf
  rw [deep_eq a h, Option.bind_some]
  by_cases h1 : deepOf a < 1
  · rw [if_pos h1, decide_eq_false (show ¬ 1 ≤ deepOf a by omega)]; rfl
  · rw [if_neg h1, decide_eq_true (show 1 ≤ deepOf a by omega), Bool.true_and]
    by_cases k1 : k = 1
    · rw [if_pos k1, if_pos k1]
    · rw [if_neg k1, if_neg k1]
      by_cases k2 : k = 2
      · rw [if_pos k2, if_pos (Or.inl k2)]
      · rw [if_neg k2]
        by_cases k3 : k = 3
        · rw [if_pos k3, if_pos (Or.inr (Or.inl k3))]
        · rw [if_neg k3]
          by_cases k4 : k = 4
          · rw [if_pos k4, if_pos (Or.inr (Or.inr k4))]
          · rw [if_neg k4, if_neg (by omega)]
theorem awake5 : shalelaw08_awake.f 5 = some true := by kernel_rfl
theorem few_eq (a : ByteArray) (k : Int) (d : ByteArray) : shalelaw08_few.f a k d = some (decide (a.size ≤ 600 ∧ d.size ≤ 600)) := by
  unfold shalelaw08_few.f
  by_cases h : (a.size : Int) ≤ 600
  · rw [if_pos h]
    exact congrArg some (decide_eq_decide.2 (by omega))
  · rw [if_neg h, decide_eq_false (show ¬ (a.size ≤ 600 ∧ d.size ≤ 600) by omega)]
end Go.Proofs.YtklcceccadlgkaaDoor.Pure
