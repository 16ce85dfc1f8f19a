/- The law's example of look.At; the errors' numbers. -/
import Derived.Test.YtdmnpofodechpaaGreatDoorLayC
import Derived.Test.YtdmnpofodechpaaGreatDoorPrintF
import Derived.Test.YtdmnpofodechpaaGreatDoorPrintAw12
namespace Go.Proofs.YtdmnpofodechpaaGreatDoor.Th
open Go Go.RowKit Go.Proofs.YtdmnpofodechpaaGreatDoor.Print Go.Proofs.YtdmnpofodechpaaGreatDoorW.PrintWords
theorem awake12_0 : shalelaw12_awake.f 40 = some true := by kernel_rfl
theorem awake12 (k : Nat) (hk : 40 ≤ k) : shalelaw12_awake.f k = some true := mono_le (fun k => shalelaw12_awake.mono k) hk awake12_0
theorem code_nil' : fail_Code.f [] = some 0 := rfl
end Go.Proofs.YtdmnpofodechpaaGreatDoor.Th
