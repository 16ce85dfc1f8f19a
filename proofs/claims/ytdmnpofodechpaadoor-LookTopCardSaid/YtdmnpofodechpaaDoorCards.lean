/-
  DERIVED. GIVEN WITH THE SEED: THE CARDS: each row of YtdmnpofodechpaaDoorRows.lean that lists a variable, with what it lists TIED to the program's text (the seventh form; the later family's looks); each row that meets fmt, with fmt's text TOLD by the authors' own Lean function (tested against real Go, not proved from fmt's source: count such statements apart). THE CARD IS WHAT COUNTS. Prove the row's statement (the work); the ties are given (YtdmnpofodechpaaDoorTie.lean); close each card by the builder's one call (the guide's Derived/Test/ToyasCard.lean, 'card_holds'). Laid BY PROGRAM, IN A SANDBOX (cutbox-door.mjs). By AI agents, Wed Nov 11 2026. No macro, syntax, notation, axiom, sorry.
-/
import Derived.Test.YtdmnpofodechpaaDoorRows
import GoSem.ClaimSeven
namespace Go.Proofs.YtdmnpofodechpaaDoor
namespace Rows

/-- THE TIED CARD OF 'shalelaw12.LookTop'. -/
def lookTopCard : Claim7 := { stood := { row := lookTopRow, standIns := [], harness := (true, "cd812d4e35eafac3d891afa595bbabcc5fbaf8289323d18ab8a9c34cb82133c4"), looks := true }, kinds := [], alts := [], laidByText := true, laidKinds := [.data, .handle, .pinned], laidTests := true, laidLooks := .later }
def LookTopCardSaid : Prop := Claim7.holds Tryd.pinned (.plain (OpenSpec.ofChange lookTopSpec)) lookTopCard

/-- THE TIED CARD OF 'shalelaw12.LookParents'. -/
def lookParentsCard : Claim7 := { stood := { row := lookParentsRow, standIns := [], harness := (true, "cd812d4e35eafac3d891afa595bbabcc5fbaf8289323d18ab8a9c34cb82133c4"), looks := true }, kinds := [], alts := [], laidByText := true, laidKinds := [.data, .handle, .pinned], laidTests := true, laidLooks := .later }
def LookParentsCardSaid : Prop := Claim7.holds Tryd.pinned (.plain (OpenSpec.ofChange lookParentsSpec)) lookParentsCard

/-- THE SECOND FORM's CARD OF 'shalelaw12.LookTop'. -/
def lookTopUptoCard : Claim7 := { stood := { row := lookTopUptoRow, standIns := [], harness := (true, "cd812d4e35eafac3d891afa595bbabcc5fbaf8289323d18ab8a9c34cb82133c4"), looks := true }, kinds := [], alts := [], laidByText := true, laidKinds := [.data, .handle, .pinned], laidTests := true, laidLooks := .later }
def LookTopUptoCardSaid : Prop := Claim7.holds Tryd.pinned (.plain (OpenSpec.upto lookTopSpec)) lookTopUptoCard

/-- THE SECOND FORM's CARD OF 'shalelaw12.LookParents'. -/
def lookParentsUptoCard : Claim7 := { stood := { row := lookParentsUptoRow, standIns := [], harness := (true, "cd812d4e35eafac3d891afa595bbabcc5fbaf8289323d18ab8a9c34cb82133c4"), looks := true }, kinds := [], alts := [], laidByText := true, laidKinds := [.data, .handle, .pinned], laidTests := true, laidLooks := .later }
def LookParentsUptoCardSaid : Prop := Claim7.holds Tryd.pinned (.plain (OpenSpec.upto lookParentsSpec)) lookParentsUptoCard
end Rows
end Go.Proofs.YtdmnpofodechpaaDoor
