/- StepAlike: the law's function answers true. -/
import Derived.Test.YtjlflmjimibciaaGreatDoorPrintStepAlike
namespace Go.Proofs.YtjlflmjimibciaaGreatDoor.Th
open Go Go.Proofs.YtjlflmjimibciaaGreatDoor.Print
theorem StepAlike (l0 : List S41) (l1 : List S41) (a2 : Bool) (l3 : List Int) : ∃ k, shalelaw16_StepAlike.f k l0 l1 a2 l3 = some true := ⟨0, rfl⟩
end Go.Proofs.YtjlflmjimibciaaGreatDoor.Th
