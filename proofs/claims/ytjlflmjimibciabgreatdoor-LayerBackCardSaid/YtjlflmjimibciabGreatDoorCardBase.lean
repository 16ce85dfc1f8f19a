/- What all the cards of this seat share: the world in which the listed variables lie, and what the premise says of errors.errorType. -/
import Derived.Test.YtjlflmjimibciabGreatDoorRows
import Derived.Test.YtjlflmjimibciabGreatDoorSplitP
import Derived.ProofKit
import Derived.ChangeVars
import Derived.JoinedOf
import Derived.RowKitTokens
import Derived.LaidLaws
import Derived.LaidMore
import Derived.LaidHandle
import Derived.LaidByTextLater
import Derived.Stop.Joined
namespace Go.Proofs.YtjlflmjimibciabGreatDoor.Card
open Go Go.ChangeShapes Go.WideShapes Go.RowKit
def laid : List (String × DataW Unit) := [("unicode/utf8.acceptRanges", Rows.laid_unicode_utf8_acceptRanges), ("errors.errorType", Rows.laid_errors_errorType), ("unicode/utf8.first", Rows.laid_unicode_utf8_first)]
theorem own : ownKnob Tryz.prog.godebug = none := by kernel_rfl
theorem et : Tryz.prog.globalNamed "errors.errorType" = some 0 := by kernel_rfl
theorem rt : (Tryz.prog.cutTypes.find? (·.1 == "internal/reflectlite.rtype")).map (·.2) = some 116 := by kernel_rfl
theorem oneRow : ((List.range 193).filter fun t => Tryz.prog.rowNamed t [101, 114, 114, 111, 114]) = [27] := by kernel_rfl
theorem size : Tryz.prog.types.size = 193 := by kernel_rfl
theorem gl_of_laid {W : World} (h : laidMetH Tryz.prog laid W) : Print.Gl W := by
  have h' : laidMet Tryz.prog (laid.filter fun x => x.2.handleName?.isNone) W ∧ handlesMet Tryz.prog [("errors.errorType", Rows.laid_errors_errorType)] W := h
  obtain ⟨name, u, ty, e1, e2, e3, e4, e5⟩ := h'.2 _ (List.mem_singleton.2 rfl)
  have en : name = [101, 114, 114, 111, 114] := (Option.some.inj e1).symm
  subst en
  obtain rfl := Option.some.inj (rt.symm.trans e2)
  have hm : ty ∈ (List.range 193).filter fun t => Tryz.prog.rowNamed t [101, 114, 114, 111, 114] := List.mem_filter.2 ⟨List.mem_range.2 (by rw [← size]; exact e3), e4⟩
  rw [oneRow] at hm
  obtain rfl := List.mem_singleton.1 hm
  have hh : typeHandle Tryz.prog 27 = .pointer (some ⟨4, 27, none⟩) := by kernel_rfl
  rw [hh] at e5
  simpa [Print.Gl] using World.var?_cell et e5 0
def firstCells : Array Value := match (Rows.laid_unicode_utf8_first : DataW Unit) with
  | .agg ds => (ds.filterMap fun d => match d with
    | .lit (.int k n) => some (.int k n)
    | _ => none).toArray
  | _ => #[]
/-- A world that meets the condition: the one that the door's run leaves, utf8's table laid. -/
noncomputable def laidWorld (os : Os) : World :=
  { World.doorLaid Tryz.prog 26 os with heap := (World.doorLaid Tryz.prog 26 os).heap.modify 2 fun o => match o with
      | .cells _ t f => .cells firstCells t f
      | o => o }
theorem laid_met (os : Os) (args : Array Value) : laidMetH Tryz.prog laid ((laidWorld os).forCall (fun _ _ => 0) ⟨#[], args, []⟩).memory :=
  laidMetH_of_parts (laidMet_of_run' 33 (by kernel_rfl) (by kernel_rfl)) (by kernel_rfl)
end Go.Proofs.YtjlflmjimibciabGreatDoor.Card
