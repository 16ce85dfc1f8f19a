/-
  DERIVED. GIVEN WITH THE SEED: THE CARDS: each row of YtneemcgpgjfhoaaGreatDoorRows.lean that lists a variable, with what it lists TIED to the program's text (the seventh form; the later family's looks); each row that meets fmt, with fmt's text TOLD by the authors' own Lean function (tested against real Go, not proved from fmt's source: count such statements apart). THE CARD IS WHAT COUNTS. Prove the row's statement (the work); the ties are given (YtneemcgpgjfhoaaGreatDoorTie.lean); close each card by the builder's one call (the guide's Derived/Test/ToyasCard.lean, 'card_holds'). Laid BY PROGRAM, IN A SANDBOX (cutbox-door.mjs). By AI agents, Wed Nov 11 2026. No macro, syntax, notation, axiom, sorry.
-/
import Derived.Test.YtneemcgpgjfhoaaGreatDoorRows
import GoSem.ClaimSeven
namespace Go.Proofs.YtneemcgpgjfhoaaGreatDoor
namespace Rows

/-- THE TIED CARD OF 'shalelaw09.LayerGrows'. -/
def layerGrowsCard : Claim7 := { stood := { row := layerGrowsRow, standIns := [], harness := (true, "38de284f4d84ff17fd1c40a7817e633c7839cc105660f09555ba243899a0c434"), looks := true }, kinds := [], alts := [], laidByText := true, laidKinds := [.data, .handle, .pinned], laidTests := true, laidLooks := .later }
def LayerGrowsCardSaid : Prop := Claim7.holds Tryz.pinned (.plain (OpenSpec.ofChange layerGrowsSpec)) layerGrowsCard

/-- THE TIED CARD OF 'shalelaw09.LayerPuts'. -/
def layerPutsCard : Claim7 := { stood := { row := layerPutsRow, standIns := [], harness := (true, "38de284f4d84ff17fd1c40a7817e633c7839cc105660f09555ba243899a0c434"), looks := true }, kinds := [], alts := [], laidByText := true, laidKinds := [.data, .handle, .pinned], laidTests := true, laidLooks := .later }
def LayerPutsCardSaid : Prop := Claim7.holds Tryz.pinned (.plain (OpenSpec.ofChange layerPutsSpec)) layerPutsCard

/-- THE SECOND FORM's CARD OF 'shalelaw09.LayerGrows'. -/
def layerGrowsUptoCard : Claim7 := { stood := { row := layerGrowsUptoRow, standIns := [], harness := (true, "38de284f4d84ff17fd1c40a7817e633c7839cc105660f09555ba243899a0c434"), looks := true }, kinds := [], alts := [], laidByText := true, laidKinds := [.data, .handle, .pinned], laidTests := true, laidLooks := .later }
def LayerGrowsUptoCardSaid : Prop := Claim7.holds Tryz.pinned (.plain (OpenSpec.upto layerGrowsSpec)) layerGrowsUptoCard

/-- THE SECOND FORM's CARD OF 'shalelaw09.LayerPuts'. -/
def layerPutsUptoCard : Claim7 := { stood := { row := layerPutsUptoRow, standIns := [], harness := (true, "38de284f4d84ff17fd1c40a7817e633c7839cc105660f09555ba243899a0c434"), looks := true }, kinds := [], alts := [], laidByText := true, laidKinds := [.data, .handle, .pinned], laidTests := true, laidLooks := .later }
def LayerPutsUptoCardSaid : Prop := Claim7.holds Tryz.pinned (.plain (OpenSpec.upto layerPutsSpec)) layerPutsUptoCard
end Rows
end Go.Proofs.YtneemcgpgjfhoaaGreatDoor
