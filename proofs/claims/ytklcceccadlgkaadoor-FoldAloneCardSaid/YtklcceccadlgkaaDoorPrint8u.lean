-- Written by pr.py out of the translation (no hand typed it); Lean checks it.
import Derived.Test.YtklcceccadlgkaaDoorPrint0
import Derived.Test.YtklcceccadlgkaaDoorPrint2
import Derived.Test.YtklcceccadlgkaaDoorPrint4
namespace Go.Proofs.YtklcceccadlgkaaDoor.Print
open Go.RowKit Go.Proofs.YtklcceccadlgkaaDoorW.PrintWords Go.Proofs.YtklcceccadlgkaaDoorW.PrintLast Go.Proofs.YtklcceccadlgkaaDoorW.PrintMore
attribute [local go_sem] max2_int min2_int max_two min_two max_three min_three max_four min_four   -- for this text's walks alone
set_option linter.unusedVariables false
set_option linter.unusedSimpArgs false

/-! ### shaleref10_Under: function 53 -/
def shaleref10_Under.f (a0 : ByteArray) (a1 : ByteArray) : Option (Bool) := if (a0.size : Int) > (a1.size : Int) then (if 0 ≤ (wrap64 ((a1.size : Int) + 1)) then (if (wrap64 ((a1.size : Int) + 1)) ≤ (a0.size : Int) then (if a1.size + 1 ≤ 9223372036854775807 then (some ((a0.extract 0 ((wrap64 ((a1.size : Int) + 1)) : Int).toNat).toList == (a1 ++ (⟨#[47]⟩ : ByteArray)).toList)) else (none)) else (none)) else (none)) else (some false)
set_option maxHeartbeats 8000000 in
set_option maxRecDepth 100000 in
theorem shaleref10_Under.calls (a0 : ByteArray) (a1 : ByteArray) (r : Bool) (w : World) (h : shaleref10_Under.f a0 a1 = some r) :
    Calls Tryd.prog 53 #[.string a0, .string a1] w fun e w' => e = .returned (.bool r) ∧ Drawn0 w w' := by
  have H : (if (a0.size : Int) > (a1.size : Int) then (if 0 ≤ (wrap64 ((a1.size : Int) + 1)) then (if (wrap64 ((a1.size : Int) + 1)) ≤ (a0.size : Int) then (if a1.size + 1 ≤ 9223372036854775807 then (some ((a0.extract 0 ((wrap64 ((a1.size : Int) + 1)) : Int).toNat).toList == (a1 ++ (⟨#[47]⟩ : ByteArray)).toList)) else (none)) else (none)) else (none)) else (some false)) = some r := h
  clear h
  by_cases c3 : (a0.size : Int) > (a1.size : Int)
  · rw [if_pos c3] at H
    have c3b0 : decide ((a1.size : Int) < (a0.size : Int)) = true := decide_eq_true c3
    have c3b1 : decide (a1.size < a0.size) = true := decide_eq_true (Int.ofNat_lt.mp c3)
    clear c3
    obtain ⟨ji4, hji4⟩ : ∃ j_ : Int, (wrap64 ((a1.size : Int) + 1)) = j_ := ⟨_, rfl⟩
    replace H : (if 0 ≤ (ji4) then (if (ji4) ≤ (a0.size : Int) then (if a1.size + 1 ≤ 9223372036854775807 then (some ((a0.extract 0 ((ji4) : Int).toNat).toList == (a1 ++ (⟨#[47]⟩ : ByteArray)).toList)) else (none)) else (none)) else (none)) = some r := by first | (rw [hji4] at H; exact H) | (simp only [hji4] at H ⊢; exact H)
    have hji4w : (IntKind.i64.wrap ((a1.size : Int) + 1)) = ji4 := (i64_w _).trans hji4
    by_cases c5 : 0 ≤ (ji4)
    · rw [if_pos c5] at H
      have c5b0 := eq_true c5
      have c5b1 : decide (0 ≤ (ji4)) = true := decide_eq_true c5
      clear c5
      by_cases c6 : (ji4) ≤ (a0.size : Int)
      · rw [if_pos c6] at H
        have c6b0 := eq_true c6
        have c6b1 : decide ((ji4) ≤ (a0.size : Int)) = true := decide_eq_true c6
        clear c6
        by_cases c7 : a1.size + 1 ≤ 9223372036854775807
        · rw [if_pos c7] at H
          have c7b0 := eq_true c7
          have c7b1 : decide (a1.size + 1 ≤ 9223372036854775807) = true := decide_eq_true c7
          try have c7b2 : (9223372036854775807 < a1.size + 1) = False := eq_false (Nat.not_lt.2 c7)
          obtain rfl := Option.some.inj H
          go_enter Tryd.func53, Tryd.ntmps53
          go_wp2
          go_ret
          exact ⟨by first | rfl | (simp; done) | (simp only [← hji4] <;> (first | rfl | simp)) | (simp [*]; done), by repeat (first | exact Drawn0.refl _ | apply Drawn0.step)⟩
        · rw [if_neg c7] at H
          exact absurd H (by simp)
      · rw [if_neg c6] at H
        exact absurd H (by simp)
    · rw [if_neg c5] at H
      exact absurd H (by simp)
  · rw [if_neg c3] at H
    have c3b0 : decide ((a1.size : Int) < (a0.size : Int)) = false := decide_eq_false c3
    have c3b1 : decide (a1.size < a0.size) = false := decide_eq_false (fun h => c3 (Int.ofNat_lt.mpr h))
    clear c3
    obtain rfl := Option.some.inj H
    go_enter Tryd.func53, Tryd.ntmps53
    go_wp2
    go_ret
    exact ⟨by first | rfl | (simp; done) | (simp [*]; done), by repeat (first | exact Drawn0.refl _ | apply Drawn0.step)⟩

end Go.Proofs.YtklcceccadlgkaaDoor.Print
