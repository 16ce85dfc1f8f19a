/-
  DERIVED. GIVEN WITH THE SEED: THE CARDS: each row of YthfbcclbappbcaaGreatDoorRows.lean that lists a variable, with what it lists TIED to the program's text (the seventh form; the later family's looks); each row that meets fmt, with fmt's text TOLD by the authors' own Lean function (tested against real Go, not proved from fmt's source: count such statements apart). THE CARD IS WHAT COUNTS. Prove the row's statement (the work); the ties are given (YthfbcclbappbcaaGreatDoorTie.lean); close each card by the builder's one call (the guide's Derived/Test/ToyasCard.lean, 'card_holds'). Laid BY PROGRAM, IN A SANDBOX (cutbox-door.mjs). By AI agents, Wed Nov 11 2026. No macro, syntax, notation, axiom, sorry.
-/
import Derived.Test.YthfbcclbappbcaaGreatDoorRows
import GoSem.ClaimSeven
namespace Go.Proofs.YthfbcclbappbcaaGreatDoor
namespace Rows

/-- THE TIED CARD OF 'shalelaw12.LookWhite'. -/
def lookWhiteCard : Claim7 := { stood := { row := lookWhiteRow, standIns := [], harness := (true, "f777de423d9535f8f0cc136dc72c8634e3aa1d45a2b47a85db4c651714d3466f"), looks := true }, kinds := [], alts := [], laidByText := true, laidKinds := [.data, .handle, .pinned], laidTests := true, laidLooks := .later }
def LookWhiteCardSaid : Prop := Claim7.holds Tryz.pinned (.plain (OpenSpec.ofChange lookWhiteSpec)) lookWhiteCard

/-- THE TIED CARD OF 'shalelaw12.LookFolds'. -/
def lookFoldsCard : Claim7 := { stood := { row := lookFoldsRow, standIns := [], harness := (true, "f777de423d9535f8f0cc136dc72c8634e3aa1d45a2b47a85db4c651714d3466f"), looks := true }, kinds := [], alts := [], laidByText := true, laidKinds := [.data, .handle, .pinned], laidTests := true, laidLooks := .later }
def LookFoldsCardSaid : Prop := Claim7.holds Tryz.pinned (.plain (OpenSpec.ofChange lookFoldsSpec)) lookFoldsCard

/-- THE TIED CARD OF 'shalelaw10.FoldPlays'. -/
def foldPlaysCard : Claim7 := { stood := { row := foldPlaysRow, standIns := [], harness := (true, "f777de423d9535f8f0cc136dc72c8634e3aa1d45a2b47a85db4c651714d3466f"), looks := true }, kinds := [], alts := [], laidByText := true, laidKinds := [.data, .pinned], laidTests := true, laidLooks := .later }
def FoldPlaysCardSaid : Prop := Claim7.holds Tryz.pinned (.plain (OpenSpec.ofChange foldPlaysSpec)) foldPlaysCard

/-- THE TIED CARD OF 'shalelaw12.LookFloors'. -/
def lookFloorsCard : Claim7 := { stood := { row := lookFloorsRow, standIns := [], harness := (true, "f777de423d9535f8f0cc136dc72c8634e3aa1d45a2b47a85db4c651714d3466f"), looks := true }, kinds := [], alts := [], laidByText := true, laidKinds := [.data, .handle, .pinned], laidTests := true, laidLooks := .later }
def LookFloorsCardSaid : Prop := Claim7.holds Tryz.pinned (.plain (OpenSpec.ofChange lookFloorsSpec)) lookFloorsCard

/-- THE SECOND FORM's CARD OF 'shalelaw12.LookWhite'. -/
def lookWhiteUptoCard : Claim7 := { stood := { row := lookWhiteUptoRow, standIns := [], harness := (true, "f777de423d9535f8f0cc136dc72c8634e3aa1d45a2b47a85db4c651714d3466f"), looks := true }, kinds := [], alts := [], laidByText := true, laidKinds := [.data, .handle, .pinned], laidTests := true, laidLooks := .later }
def LookWhiteUptoCardSaid : Prop := Claim7.holds Tryz.pinned (.plain (OpenSpec.upto lookWhiteSpec)) lookWhiteUptoCard

/-- THE SECOND FORM's CARD OF 'shalelaw12.LookFolds'. -/
def lookFoldsUptoCard : Claim7 := { stood := { row := lookFoldsUptoRow, standIns := [], harness := (true, "f777de423d9535f8f0cc136dc72c8634e3aa1d45a2b47a85db4c651714d3466f"), looks := true }, kinds := [], alts := [], laidByText := true, laidKinds := [.data, .handle, .pinned], laidTests := true, laidLooks := .later }
def LookFoldsUptoCardSaid : Prop := Claim7.holds Tryz.pinned (.plain (OpenSpec.upto lookFoldsSpec)) lookFoldsUptoCard

/-- THE SECOND FORM's CARD OF 'shalelaw10.FoldPlays'. -/
def foldPlaysUptoCard : Claim7 := { stood := { row := foldPlaysUptoRow, standIns := [], harness := (true, "f777de423d9535f8f0cc136dc72c8634e3aa1d45a2b47a85db4c651714d3466f"), looks := true }, kinds := [], alts := [], laidByText := true, laidKinds := [.data, .pinned], laidTests := true, laidLooks := .later }
def FoldPlaysUptoCardSaid : Prop := Claim7.holds Tryz.pinned (.plain (OpenSpec.upto foldPlaysSpec)) foldPlaysUptoCard

/-- THE SECOND FORM's CARD OF 'shalelaw12.LookFloors'. -/
def lookFloorsUptoCard : Claim7 := { stood := { row := lookFloorsUptoRow, standIns := [], harness := (true, "f777de423d9535f8f0cc136dc72c8634e3aa1d45a2b47a85db4c651714d3466f"), looks := true }, kinds := [], alts := [], laidByText := true, laidKinds := [.data, .handle, .pinned], laidTests := true, laidLooks := .later }
def LookFloorsUptoCardSaid : Prop := Claim7.holds Tryz.pinned (.plain (OpenSpec.upto lookFloorsSpec)) lookFloorsUptoCard
end Rows
end Go.Proofs.YthfbcclbappbcaaGreatDoor
