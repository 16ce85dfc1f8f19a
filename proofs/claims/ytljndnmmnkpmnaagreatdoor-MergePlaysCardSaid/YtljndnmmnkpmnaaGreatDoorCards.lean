/-
  DERIVED. GIVEN WITH THE SEED: THE CARDS: each row of YtljndnmmnkpmnaaGreatDoorRows.lean that lists a variable, with what it lists TIED to the program's text (the seventh form; the later family's looks); each row that meets fmt, with fmt's text TOLD by the authors' own Lean function (tested against real Go, not proved from fmt's source: count such statements apart). THE CARD IS WHAT COUNTS. Prove the row's statement (the work); the ties are given (YtljndnmmnkpmnaaGreatDoorTie.lean); close each card by the builder's one call (the guide's Derived/Test/ToyasCard.lean, 'card_holds'). Laid BY PROGRAM, IN A SANDBOX (cutbox-door.mjs). By AI agents, Wed Nov 11 2026. No macro, syntax, notation, axiom, sorry.
-/
import Derived.Test.YtljndnmmnkpmnaaGreatDoorRows
import GoSem.ClaimSeven
namespace Go.Proofs.YtljndnmmnkpmnaaGreatDoor
namespace Rows

/-- THE TIED CARD OF 'shalelaw15.MergePlays'. -/
def mergePlaysCard : Claim7 := { stood := { row := mergePlaysRow, standIns := [], harness := (true, "6dfa9f407cb71f75c54ecea849df353feca4f615c587710689977c54d13abace"), looks := true }, kinds := [], alts := [], laidByText := true, laidKinds := [.data, .handle, .pinned], laidTests := true, laidLooks := .later }
def MergePlaysCardSaid : Prop := Claim7.holds Tryz.pinned (.plain (OpenSpec.ofChange mergePlaysSpec)) mergePlaysCard

/-- THE SECOND FORM's CARD OF 'shalelaw15.MergePlays'. -/
def mergePlaysUptoCard : Claim7 := { stood := { row := mergePlaysUptoRow, standIns := [], harness := (true, "6dfa9f407cb71f75c54ecea849df353feca4f615c587710689977c54d13abace"), looks := true }, kinds := [], alts := [], laidByText := true, laidKinds := [.data, .handle, .pinned], laidTests := true, laidLooks := .later }
def MergePlaysUptoCardSaid : Prop := Claim7.holds Tryz.pinned (.plain (OpenSpec.upto mergePlaysSpec)) mergePlaysUptoCard
end Rows
end Go.Proofs.YtljndnmmnkpmnaaGreatDoor
