/- StepShows: the law's function answers true. -/
import Derived.Test.YtjlflmjimibciaaGreatDoorPrintStepShows
namespace Go.Proofs.YtjlflmjimibciaaGreatDoor.Th
open Go Go.Proofs.YtjlflmjimibciaaGreatDoor.Print
theorem StepShows (l0 : List (List S41)) (l1 : List S41) (l2 : List S41) : ∃ k, shalelaw16_StepShows.f k l0 l1 l2 = some true := ⟨0, rfl⟩
end Go.Proofs.YtjlflmjimibciaaGreatDoor.Th
