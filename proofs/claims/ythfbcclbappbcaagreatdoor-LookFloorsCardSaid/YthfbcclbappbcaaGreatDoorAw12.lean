/- The law's example of look.At; the errors' numbers. -/
import Derived.Test.YthfbcclbappbcaaGreatDoorLayC
import Derived.Test.YthfbcclbappbcaaGreatDoorPrintF
import Derived.Test.YthfbcclbappbcaaGreatDoorPrintAw12
namespace Go.Proofs.YthfbcclbappbcaaGreatDoor.Th
open Go Go.RowKit Go.Proofs.YthfbcclbappbcaaGreatDoor.Print Go.Proofs.YthfbcclbappbcaaGreatDoorW.PrintWords
theorem awake12_0 : z11.f 40 = some true := by kernel_rfl
theorem awake12 (k : Nat) (hk : 40 ≤ k) : z11.f k = some true := mono_le (fun k => z11.mono k) hk awake12_0
theorem code_nil' : z39.f [] = some 0 := rfl
theorem code_one' (c : Int) : z39.f [c] = some c := rfl
end Go.Proofs.YthfbcclbappbcaaGreatDoor.Th
