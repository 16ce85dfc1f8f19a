/- What all the cards of this seat share: the world in which the listed variables lie, and what the premise says of errors.errorType. -/
import Derived.Test.YthfbcclbappbcaaGreatDoorRows
import Derived.Test.YthfbcclbappbcaaGreatDoorSplitP
import Derived.ProofKit
import Derived.ChangeVars
import Derived.JoinedOf
import Derived.RowKitTokens
import Derived.LaidLaws
import Derived.LaidMore
import Derived.LaidHandle
import Derived.LaidByTextLater
import Derived.Stop.Joined
namespace Go.Proofs.YthfbcclbappbcaaGreatDoor.Card
open Go Go.ChangeShapes Go.WideShapes Go.RowKit
def laid : List (String × DataW Unit) := [("unicode/utf8.acceptRanges", Rows.laid_unicode_utf8_acceptRanges), ("errors.errorType", Rows.laid_errors_errorType), ("unicode/utf8.first", Rows.laid_unicode_utf8_first)]
theorem own : ownKnob Tryz.prog.godebug = none := by kernel_rfl
theorem et : Tryz.prog.globalNamed "errors.errorType" = some 0 := by kernel_rfl
theorem rt : (Tryz.prog.cutTypes.find? (·.1 == "internal/reflectlite.rtype")).map (·.2) = some 119 := by kernel_rfl
theorem size : Tryz.prog.types.size = 193 := by kernel_rfl
def firstCells : Array Value := match (Rows.laid_unicode_utf8_first : DataW Unit) with
 | .agg ds => (ds.filterMap fun d => match d with
  | .lit (.int k n) => some (.int k n)
  | _ => none).toArray
 | _ => #[]
/-- A world that meets the condition: the one that the door's run leaves, utf8's table laid. -/
noncomputable def laidWorld (os : Os) : World :=
 { World.doorLaid Tryz.prog 26 os with heap := (World.doorLaid Tryz.prog 26 os).heap.modify 2 fun o => match o with
   | .cells _ t f => .cells firstCells t f
   | o => o }
/-- Of a law that reads no error's kind. -/
def laid2 : List (String × DataW Unit) := [("unicode/utf8.acceptRanges", Rows.laid_unicode_utf8_acceptRanges), ("unicode/utf8.first", Rows.laid_unicode_utf8_first)]
theorem laid2_met (os : Os) (args : Array Value) : laidMetH Tryz.prog laid2 ((laidWorld os).forCall (fun _ _ => 0) ⟨#[], args, []⟩).memory :=
 laidMetH_of_parts (laidMet_of_run' 33 (by kernel_rfl) (by kernel_rfl)) (by kernel_rfl)
end Go.Proofs.YthfbcclbappbcaaGreatDoor.Card
