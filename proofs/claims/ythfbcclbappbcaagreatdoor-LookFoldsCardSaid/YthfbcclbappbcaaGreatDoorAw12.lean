/- The law's example of look.At; the errors' numbers. -/
import Derived.Test.YthfbcclbappbcaaGreatDoorLayC
import Derived.Test.YthfbcclbappbcaaGreatDoorPrintF
import Derived.Test.YthfbcclbappbcaaGreatDoorPrintAw12
namespace Go.Proofs.YthfbcclbappbcaaGreatDoor.Th
open Go Go.RowKit Go.Proofs.YthfbcclbappbcaaGreatDoor.Print Go.Proofs.YthfbcclbappbcaaGreatDoorW.PrintWords
theorem awake12_0 : shalelaw12_awake.f 40 = some true := by kernel_rfl
theorem awake12 (k : Nat) (hk : 40 ≤ k) : shalelaw12_awake.f k = some true := mono_le (fun k => shalelaw12_awake.mono k) hk awake12_0
theorem code_nil' : fail_Code.f [] = some 0 := rfl
theorem code_one' (c : Int) : fail_Code.f [c] = some c := rfl
end Go.Proofs.YthfbcclbappbcaaGreatDoor.Th
