/- StepMany: the law's function answers true. -/
import Derived.Test.YtjlflmjimibciaaGreatDoorPrintStepMany
namespace Go.Proofs.YtjlflmjimibciaaGreatDoor.Th
open Go Go.Proofs.YtjlflmjimibciaaGreatDoor.Print
theorem StepMany (l0 : List S41) (l1 : List S41) (a2 : Bool) (a3 : Int) (y3 : (Lit.int .u8 a3).wf = true) : ∃ k, shalelaw16_StepMany.f k l0 l1 a2 a3 = some true := by
  refine ⟨0, ?_⟩
  unfold shalelaw16_StepMany.f
  rw [if_pos]
  have h : IntKind.u8.min ≤ a3 ∧ a3 ≤ IntKind.u8.max := by simpa [Lit.wf] using y3
  have e0 : IntKind.u8.min = 0 := by decide
  have e1 : IntKind.u8.max = 255 := by decide
  omega
end Go.Proofs.YtjlflmjimibciaaGreatDoor.Th
