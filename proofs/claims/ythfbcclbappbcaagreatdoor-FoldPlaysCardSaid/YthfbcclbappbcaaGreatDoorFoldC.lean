/- The law's example; all of Over, Stack, Same. -/
import Derived.Test.YthfbcclbappbcaaGreatDoorStackA
import Derived.Test.YthfbcclbappbcaaGreatDoorSameA
import Derived.Test.YthfbcclbappbcaaGreatDoorPrintAw10
namespace Go.Proofs.YthfbcclbappbcaaGreatDoor.Th
open Go Go.RowKit Go.Proofs.YthfbcclbappbcaaGreatDoor.Print Go.Proofs.YthfbcclbappbcaaGreatDoorW.PrintWords
set_option linter.unusedVariables false
set_option linter.unusedSimpArgs false
theorem awake10_0 : z14.f 40 = some true := by kernel_rfl
theorem awake10 (k : Nat) (hk : 40 ≤ k) : z14.f k = some true := mono_le (fun k => z14.mono k) hk awake10_0
end Go.Proofs.YthfbcclbappbcaaGreatDoor.Th
