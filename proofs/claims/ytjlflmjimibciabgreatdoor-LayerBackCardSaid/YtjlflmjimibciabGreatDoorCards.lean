/-
  DERIVED. GIVEN WITH THE SEED: THE CARDS: each row of YtjlflmjimibciabGreatDoorRows.lean that lists a variable, with what it lists TIED to the program's text (the seventh form; the later family's looks); each row that meets fmt, with fmt's text TOLD by the authors' own Lean function (tested against real Go, not proved from fmt's source: count such statements apart). THE CARD IS WHAT COUNTS. Prove the row's statement (the work); the ties are given (YtjlflmjimibciabGreatDoorTie.lean); close each card by the builder's one call (the guide's Derived/Test/ToyasCard.lean, 'card_holds'). Laid BY PROGRAM, IN A SANDBOX (cutbox-door.mjs). By AI agents, Wed Nov 11 2026. No macro, syntax, notation, axiom, sorry.
-/
import Derived.Test.YtjlflmjimibciabGreatDoorRows
import GoSem.ClaimSeven
namespace Go.Proofs.YtjlflmjimibciabGreatDoor
namespace Rows

/-- THE TIED CARD OF 'shalelaw09.LayerBack'. -/
def layerBackCard : Claim7 := { stood := { row := layerBackRow, standIns := [], harness := (true, "743cdda2a0ceb6cc146a27e6a46f54ffb66db156feceeff85869b0fe6597a629"), looks := true }, kinds := [], alts := [], laidByText := true, laidKinds := [.data, .handle, .pinned], laidTests := true, laidLooks := .later }
def LayerBackCardSaid : Prop := Claim7.holds Tryz.pinned (.plain (OpenSpec.ofChange layerBackSpec)) layerBackCard

/-- THE TIED CARD OF 'shalelaw09.LayerReads'. -/
def layerReadsCard : Claim7 := { stood := { row := layerReadsRow, standIns := [], harness := (true, "743cdda2a0ceb6cc146a27e6a46f54ffb66db156feceeff85869b0fe6597a629"), looks := true }, kinds := [], alts := [], laidByText := true, laidKinds := [.data, .handle, .pinned], laidTests := true, laidLooks := .later }
def LayerReadsCardSaid : Prop := Claim7.holds Tryz.pinned (.plain (OpenSpec.ofChange layerReadsSpec)) layerReadsCard

/-- THE TIED CARD OF 'shalelaw09.LayerPlays'. -/
def layerPlaysCard : Claim7 := { stood := { row := layerPlaysRow, standIns := [], harness := (true, "743cdda2a0ceb6cc146a27e6a46f54ffb66db156feceeff85869b0fe6597a629"), looks := true }, kinds := [], alts := [], laidByText := true, laidKinds := [.data, .handle, .pinned], laidTests := true, laidLooks := .later }
def LayerPlaysCardSaid : Prop := Claim7.holds Tryz.pinned (.plain (OpenSpec.ofChange layerPlaysSpec)) layerPlaysCard

/-- THE SECOND FORM's CARD OF 'shalelaw09.LayerBack'. -/
def layerBackUptoCard : Claim7 := { stood := { row := layerBackUptoRow, standIns := [], harness := (true, "743cdda2a0ceb6cc146a27e6a46f54ffb66db156feceeff85869b0fe6597a629"), looks := true }, kinds := [], alts := [], laidByText := true, laidKinds := [.data, .handle, .pinned], laidTests := true, laidLooks := .later }
def LayerBackUptoCardSaid : Prop := Claim7.holds Tryz.pinned (.plain (OpenSpec.upto layerBackSpec)) layerBackUptoCard

/-- THE SECOND FORM's CARD OF 'shalelaw09.LayerReads'. -/
def layerReadsUptoCard : Claim7 := { stood := { row := layerReadsUptoRow, standIns := [], harness := (true, "743cdda2a0ceb6cc146a27e6a46f54ffb66db156feceeff85869b0fe6597a629"), looks := true }, kinds := [], alts := [], laidByText := true, laidKinds := [.data, .handle, .pinned], laidTests := true, laidLooks := .later }
def LayerReadsUptoCardSaid : Prop := Claim7.holds Tryz.pinned (.plain (OpenSpec.upto layerReadsSpec)) layerReadsUptoCard

/-- THE SECOND FORM's CARD OF 'shalelaw09.LayerPlays'. -/
def layerPlaysUptoCard : Claim7 := { stood := { row := layerPlaysUptoRow, standIns := [], harness := (true, "743cdda2a0ceb6cc146a27e6a46f54ffb66db156feceeff85869b0fe6597a629"), looks := true }, kinds := [], alts := [], laidByText := true, laidKinds := [.data, .handle, .pinned], laidTests := true, laidLooks := .later }
def LayerPlaysUptoCardSaid : Prop := Claim7.holds Tryz.pinned (.plain (OpenSpec.upto layerPlaysSpec)) layerPlaysUptoCard
end Rows
end Go.Proofs.YtjlflmjimibciabGreatDoor
