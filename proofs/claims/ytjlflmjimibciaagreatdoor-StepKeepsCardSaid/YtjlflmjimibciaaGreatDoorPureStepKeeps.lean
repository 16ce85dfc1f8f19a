/- StepKeeps: the law's function answers true. -/
import Derived.Test.YtjlflmjimibciaaGreatDoorPrintStepKeeps
namespace Go.Proofs.YtjlflmjimibciaaGreatDoor.Th
open Go Go.Proofs.YtjlflmjimibciaaGreatDoor.Print
theorem StepKeeps (l0 : List S41) (l1 : List S41) (a2 : Bool) : ∃ k, shalelaw16_StepKeeps.f k l0 l1 a2 = some true := ⟨0, rfl⟩
end Go.Proofs.YtjlflmjimibciaaGreatDoor.Th
