/-
  DERIVED. GIVEN WITH THE SEED: THE CARDS: each row of YtdmnpofodechpaaGreatDoorRows.lean that lists a variable, with what it lists TIED to the program's text (the seventh form; the later family's looks); each row that meets fmt, with fmt's text TOLD by the authors' own Lean function (tested against real Go, not proved from fmt's source: count such statements apart). THE CARD IS WHAT COUNTS. Prove the row's statement (the work); the ties are given (YtdmnpofodechpaaGreatDoorTie.lean); close each card by the builder's one call (the guide's Derived/Test/ToyasCard.lean, 'card_holds'). Laid BY PROGRAM, IN A SANDBOX (cutbox-door.mjs). By AI agents, Wed Nov 11 2026. No macro, syntax, notation, axiom, sorry.
-/
import Derived.Test.YtdmnpofodechpaaGreatDoorRows
import GoSem.ClaimSeven
namespace Go.Proofs.YtdmnpofodechpaaGreatDoor
namespace Rows

/-- THE TIED CARD OF 'shalelaw09.LayerBelows'. -/
def layerBelowsCard : Claim7 := { stood := { row := layerBelowsRow, standIns := [], harness := (true, "481c031083046d0d41b595320cf6117976a8d2aa518b94afed1d92245c6cdc4c"), looks := true }, kinds := [], alts := [], laidByText := true, laidKinds := [.data, .handle, .pinned], laidTests := true, laidLooks := .later }
def LayerBelowsCardSaid : Prop := Claim7.holds Tryz.pinned (.plain (OpenSpec.ofChange layerBelowsSpec)) layerBelowsCard

/-- THE TIED CARD OF 'shalelaw12.LookWhite'. -/
def lookWhiteCard : Claim7 := { stood := { row := lookWhiteRow, standIns := [], harness := (true, "481c031083046d0d41b595320cf6117976a8d2aa518b94afed1d92245c6cdc4c"), looks := true }, kinds := [], alts := [], laidByText := true, laidKinds := [.data, .handle, .pinned], laidTests := true, laidLooks := .later }
def LookWhiteCardSaid : Prop := Claim7.holds Tryz.pinned (.plain (OpenSpec.ofChange lookWhiteSpec)) lookWhiteCard

/-- THE TIED CARD OF 'shalelaw12.LookFolds'. -/
def lookFoldsCard : Claim7 := { stood := { row := lookFoldsRow, standIns := [], harness := (true, "481c031083046d0d41b595320cf6117976a8d2aa518b94afed1d92245c6cdc4c"), looks := true }, kinds := [], alts := [], laidByText := true, laidKinds := [.data, .handle, .pinned], laidTests := true, laidLooks := .later }
def LookFoldsCardSaid : Prop := Claim7.holds Tryz.pinned (.plain (OpenSpec.ofChange lookFoldsSpec)) lookFoldsCard

/-- THE TIED CARD OF 'shalelaw10.FoldPlays'. -/
def foldPlaysCard : Claim7 := { stood := { row := foldPlaysRow, standIns := [], harness := (true, "481c031083046d0d41b595320cf6117976a8d2aa518b94afed1d92245c6cdc4c"), looks := true }, kinds := [], alts := [], laidByText := true, laidKinds := [.data, .pinned], laidTests := true, laidLooks := .later }
def FoldPlaysCardSaid : Prop := Claim7.holds Tryz.pinned (.plain (OpenSpec.ofChange foldPlaysSpec)) foldPlaysCard

/-- THE TIED CARD OF 'shalelaw12.LookFloors'. -/
def lookFloorsCard : Claim7 := { stood := { row := lookFloorsRow, standIns := [], harness := (true, "481c031083046d0d41b595320cf6117976a8d2aa518b94afed1d92245c6cdc4c"), looks := true }, kinds := [], alts := [], laidByText := true, laidKinds := [.data, .handle, .pinned], laidTests := true, laidLooks := .later }
def LookFloorsCardSaid : Prop := Claim7.holds Tryz.pinned (.plain (OpenSpec.ofChange lookFloorsSpec)) lookFloorsCard

/-- THE TIED CARD OF 'shalelaw09.LayerBack'. -/
def layerBackCard : Claim7 := { stood := { row := layerBackRow, standIns := [], harness := (true, "481c031083046d0d41b595320cf6117976a8d2aa518b94afed1d92245c6cdc4c"), looks := true }, kinds := [], alts := [], laidByText := true, laidKinds := [.data, .handle, .pinned], laidTests := true, laidLooks := .later }
def LayerBackCardSaid : Prop := Claim7.holds Tryz.pinned (.plain (OpenSpec.ofChange layerBackSpec)) layerBackCard

/-- THE TIED CARD OF 'shalelaw09.LayerReads'. -/
def layerReadsCard : Claim7 := { stood := { row := layerReadsRow, standIns := [], harness := (true, "481c031083046d0d41b595320cf6117976a8d2aa518b94afed1d92245c6cdc4c"), looks := true }, kinds := [], alts := [], laidByText := true, laidKinds := [.data, .handle, .pinned], laidTests := true, laidLooks := .later }
def LayerReadsCardSaid : Prop := Claim7.holds Tryz.pinned (.plain (OpenSpec.ofChange layerReadsSpec)) layerReadsCard

/-- THE TIED CARD OF 'shalelaw09.LayerGrows'. -/
def layerGrowsCard : Claim7 := { stood := { row := layerGrowsRow, standIns := [], harness := (true, "481c031083046d0d41b595320cf6117976a8d2aa518b94afed1d92245c6cdc4c"), looks := true }, kinds := [], alts := [], laidByText := true, laidKinds := [.data, .handle, .pinned], laidTests := true, laidLooks := .later }
def LayerGrowsCardSaid : Prop := Claim7.holds Tryz.pinned (.plain (OpenSpec.ofChange layerGrowsSpec)) layerGrowsCard

/-- THE TIED CARD OF 'shalelaw15.MergePlays'. -/
def mergePlaysCard : Claim7 := { stood := { row := mergePlaysRow, standIns := [], harness := (true, "481c031083046d0d41b595320cf6117976a8d2aa518b94afed1d92245c6cdc4c"), looks := true }, kinds := [], alts := [], laidByText := true, laidKinds := [.data, .handle, .pinned], laidTests := true, laidLooks := .later }
def MergePlaysCardSaid : Prop := Claim7.holds Tryz.pinned (.plain (OpenSpec.ofChange mergePlaysSpec)) mergePlaysCard

/-- THE TIED CARD OF 'shalelaw09.LayerPuts'. -/
def layerPutsCard : Claim7 := { stood := { row := layerPutsRow, standIns := [], harness := (true, "481c031083046d0d41b595320cf6117976a8d2aa518b94afed1d92245c6cdc4c"), looks := true }, kinds := [], alts := [], laidByText := true, laidKinds := [.data, .handle, .pinned], laidTests := true, laidLooks := .later }
def LayerPutsCardSaid : Prop := Claim7.holds Tryz.pinned (.plain (OpenSpec.ofChange layerPutsSpec)) layerPutsCard

/-- THE TIED CARD OF 'shalelaw16.StepOnes'. -/
def stepOnesCard : Claim7 := { stood := { row := stepOnesRow, standIns := [], harness := (true, "481c031083046d0d41b595320cf6117976a8d2aa518b94afed1d92245c6cdc4c"), looks := true }, kinds := [], alts := [], laidByText := true, laidKinds := [.data, .handle, .pinned], laidTests := true, laidLooks := .later }
def StepOnesCardSaid : Prop := Claim7.holds Tryz.pinned (.plain (OpenSpec.ofChange stepOnesSpec)) stepOnesCard

/-- THE TIED CARD OF 'shalelaw16.StepMany'. -/
def stepManyCard : Claim7 := { stood := { row := stepManyRow, standIns := [], harness := (true, "481c031083046d0d41b595320cf6117976a8d2aa518b94afed1d92245c6cdc4c"), looks := true }, kinds := [], alts := [], laidByText := true, laidKinds := [.data, .handle, .pinned], laidTests := true, laidLooks := .later }
def StepManyCardSaid : Prop := Claim7.holds Tryz.pinned (.plain (OpenSpec.ofChange stepManySpec)) stepManyCard

/-- THE TIED CARD OF 'shalelaw09.LayerPlays'. -/
def layerPlaysCard : Claim7 := { stood := { row := layerPlaysRow, standIns := [], harness := (true, "481c031083046d0d41b595320cf6117976a8d2aa518b94afed1d92245c6cdc4c"), looks := true }, kinds := [], alts := [], laidByText := true, laidKinds := [.data, .handle, .pinned], laidTests := true, laidLooks := .later }
def LayerPlaysCardSaid : Prop := Claim7.holds Tryz.pinned (.plain (OpenSpec.ofChange layerPlaysSpec)) layerPlaysCard

/-- THE TIED CARD OF 'shalelaw16.StepKeeps'. -/
def stepKeepsCard : Claim7 := { stood := { row := stepKeepsRow, standIns := [], harness := (true, "481c031083046d0d41b595320cf6117976a8d2aa518b94afed1d92245c6cdc4c"), looks := true }, kinds := [], alts := [], laidByText := true, laidKinds := [.data, .handle, .pinned], laidTests := true, laidLooks := .later }
def StepKeepsCardSaid : Prop := Claim7.holds Tryz.pinned (.plain (OpenSpec.ofChange stepKeepsSpec)) stepKeepsCard

/-- THE TIED CARD OF 'shalelaw16.StepAlike'. -/
def stepAlikeCard : Claim7 := { stood := { row := stepAlikeRow, standIns := [], harness := (true, "481c031083046d0d41b595320cf6117976a8d2aa518b94afed1d92245c6cdc4c"), looks := true }, kinds := [], alts := [], laidByText := true, laidKinds := [.data, .handle, .pinned], laidTests := true, laidLooks := .later }
def StepAlikeCardSaid : Prop := Claim7.holds Tryz.pinned (.plain (OpenSpec.ofChange stepAlikeSpec)) stepAlikeCard

/-- THE TIED CARD OF 'shalelaw15.MergeThree'. -/
def mergeThreeCard : Claim7 := { stood := { row := mergeThreeRow, standIns := [], harness := (true, "481c031083046d0d41b595320cf6117976a8d2aa518b94afed1d92245c6cdc4c"), looks := true }, kinds := [], alts := [], laidByText := true, laidKinds := [.data, .handle, .pinned], laidTests := true, laidLooks := .later }
def MergeThreeCardSaid : Prop := Claim7.holds Tryz.pinned (.plain (OpenSpec.ofChange mergeThreeSpec)) mergeThreeCard

/-- THE TIED CARD OF 'shalelaw15.MergeSame'. -/
def mergeSameCard : Claim7 := { stood := { row := mergeSameRow, standIns := [], harness := (true, "481c031083046d0d41b595320cf6117976a8d2aa518b94afed1d92245c6cdc4c"), looks := true }, kinds := [], alts := [], laidByText := true, laidKinds := [.data, .handle, .pinned], laidTests := true, laidLooks := .later }
def MergeSameCardSaid : Prop := Claim7.holds Tryz.pinned (.plain (OpenSpec.ofChange mergeSameSpec)) mergeSameCard

/-- THE TIED CARD OF 'shalelaw12.LookAll'. -/
def lookAllCard : Claim7 := { stood := { row := lookAllRow, standIns := [], harness := (true, "481c031083046d0d41b595320cf6117976a8d2aa518b94afed1d92245c6cdc4c"), looks := true }, kinds := [], alts := [], laidByText := true, laidKinds := [.data, .handle, .pinned], laidTests := true, laidLooks := .later }
def LookAllCardSaid : Prop := Claim7.holds Tryz.pinned (.plain (OpenSpec.ofChange lookAllSpec)) lookAllCard

/-- THE TIED CARD OF 'shalelaw16.StepShows'. -/
def stepShowsCard : Claim7 := { stood := { row := stepShowsRow, standIns := [], harness := (true, "481c031083046d0d41b595320cf6117976a8d2aa518b94afed1d92245c6cdc4c"), looks := true }, kinds := [], alts := [], laidByText := true, laidKinds := [.data, .handle, .pinned], laidTests := true, laidLooks := .later }
def StepShowsCardSaid : Prop := Claim7.holds Tryz.pinned (.plain (OpenSpec.ofChange stepShowsSpec)) stepShowsCard

/-- THE TIED CARD OF 'shalelaw15.MergeShows'. -/
def mergeShowsCard : Claim7 := { stood := { row := mergeShowsRow, standIns := [], harness := (true, "481c031083046d0d41b595320cf6117976a8d2aa518b94afed1d92245c6cdc4c"), looks := true }, kinds := [], alts := [], laidByText := true, laidKinds := [.data, .handle, .pinned], laidTests := true, laidLooks := .later }
def MergeShowsCardSaid : Prop := Claim7.holds Tryz.pinned (.plain (OpenSpec.ofChange mergeShowsSpec)) mergeShowsCard

/-- THE SECOND FORM's CARD OF 'shalelaw09.LayerBelows'. -/
def layerBelowsUptoCard : Claim7 := { stood := { row := layerBelowsUptoRow, standIns := [], harness := (true, "481c031083046d0d41b595320cf6117976a8d2aa518b94afed1d92245c6cdc4c"), looks := true }, kinds := [], alts := [], laidByText := true, laidKinds := [.data, .handle, .pinned], laidTests := true, laidLooks := .later }
def LayerBelowsUptoCardSaid : Prop := Claim7.holds Tryz.pinned (.plain (OpenSpec.upto layerBelowsSpec)) layerBelowsUptoCard

/-- THE SECOND FORM's CARD OF 'shalelaw12.LookWhite'. -/
def lookWhiteUptoCard : Claim7 := { stood := { row := lookWhiteUptoRow, standIns := [], harness := (true, "481c031083046d0d41b595320cf6117976a8d2aa518b94afed1d92245c6cdc4c"), looks := true }, kinds := [], alts := [], laidByText := true, laidKinds := [.data, .handle, .pinned], laidTests := true, laidLooks := .later }
def LookWhiteUptoCardSaid : Prop := Claim7.holds Tryz.pinned (.plain (OpenSpec.upto lookWhiteSpec)) lookWhiteUptoCard

/-- THE SECOND FORM's CARD OF 'shalelaw12.LookFolds'. -/
def lookFoldsUptoCard : Claim7 := { stood := { row := lookFoldsUptoRow, standIns := [], harness := (true, "481c031083046d0d41b595320cf6117976a8d2aa518b94afed1d92245c6cdc4c"), looks := true }, kinds := [], alts := [], laidByText := true, laidKinds := [.data, .handle, .pinned], laidTests := true, laidLooks := .later }
def LookFoldsUptoCardSaid : Prop := Claim7.holds Tryz.pinned (.plain (OpenSpec.upto lookFoldsSpec)) lookFoldsUptoCard

/-- THE SECOND FORM's CARD OF 'shalelaw10.FoldPlays'. -/
def foldPlaysUptoCard : Claim7 := { stood := { row := foldPlaysUptoRow, standIns := [], harness := (true, "481c031083046d0d41b595320cf6117976a8d2aa518b94afed1d92245c6cdc4c"), looks := true }, kinds := [], alts := [], laidByText := true, laidKinds := [.data, .pinned], laidTests := true, laidLooks := .later }
def FoldPlaysUptoCardSaid : Prop := Claim7.holds Tryz.pinned (.plain (OpenSpec.upto foldPlaysSpec)) foldPlaysUptoCard

/-- THE SECOND FORM's CARD OF 'shalelaw12.LookFloors'. -/
def lookFloorsUptoCard : Claim7 := { stood := { row := lookFloorsUptoRow, standIns := [], harness := (true, "481c031083046d0d41b595320cf6117976a8d2aa518b94afed1d92245c6cdc4c"), looks := true }, kinds := [], alts := [], laidByText := true, laidKinds := [.data, .handle, .pinned], laidTests := true, laidLooks := .later }
def LookFloorsUptoCardSaid : Prop := Claim7.holds Tryz.pinned (.plain (OpenSpec.upto lookFloorsSpec)) lookFloorsUptoCard

/-- THE SECOND FORM's CARD OF 'shalelaw09.LayerBack'. -/
def layerBackUptoCard : Claim7 := { stood := { row := layerBackUptoRow, standIns := [], harness := (true, "481c031083046d0d41b595320cf6117976a8d2aa518b94afed1d92245c6cdc4c"), looks := true }, kinds := [], alts := [], laidByText := true, laidKinds := [.data, .handle, .pinned], laidTests := true, laidLooks := .later }
def LayerBackUptoCardSaid : Prop := Claim7.holds Tryz.pinned (.plain (OpenSpec.upto layerBackSpec)) layerBackUptoCard

/-- THE SECOND FORM's CARD OF 'shalelaw09.LayerReads'. -/
def layerReadsUptoCard : Claim7 := { stood := { row := layerReadsUptoRow, standIns := [], harness := (true, "481c031083046d0d41b595320cf6117976a8d2aa518b94afed1d92245c6cdc4c"), looks := true }, kinds := [], alts := [], laidByText := true, laidKinds := [.data, .handle, .pinned], laidTests := true, laidLooks := .later }
def LayerReadsUptoCardSaid : Prop := Claim7.holds Tryz.pinned (.plain (OpenSpec.upto layerReadsSpec)) layerReadsUptoCard

/-- THE SECOND FORM's CARD OF 'shalelaw09.LayerGrows'. -/
def layerGrowsUptoCard : Claim7 := { stood := { row := layerGrowsUptoRow, standIns := [], harness := (true, "481c031083046d0d41b595320cf6117976a8d2aa518b94afed1d92245c6cdc4c"), looks := true }, kinds := [], alts := [], laidByText := true, laidKinds := [.data, .handle, .pinned], laidTests := true, laidLooks := .later }
def LayerGrowsUptoCardSaid : Prop := Claim7.holds Tryz.pinned (.plain (OpenSpec.upto layerGrowsSpec)) layerGrowsUptoCard

/-- THE SECOND FORM's CARD OF 'shalelaw15.MergePlays'. -/
def mergePlaysUptoCard : Claim7 := { stood := { row := mergePlaysUptoRow, standIns := [], harness := (true, "481c031083046d0d41b595320cf6117976a8d2aa518b94afed1d92245c6cdc4c"), looks := true }, kinds := [], alts := [], laidByText := true, laidKinds := [.data, .handle, .pinned], laidTests := true, laidLooks := .later }
def MergePlaysUptoCardSaid : Prop := Claim7.holds Tryz.pinned (.plain (OpenSpec.upto mergePlaysSpec)) mergePlaysUptoCard

/-- THE SECOND FORM's CARD OF 'shalelaw09.LayerPuts'. -/
def layerPutsUptoCard : Claim7 := { stood := { row := layerPutsUptoRow, standIns := [], harness := (true, "481c031083046d0d41b595320cf6117976a8d2aa518b94afed1d92245c6cdc4c"), looks := true }, kinds := [], alts := [], laidByText := true, laidKinds := [.data, .handle, .pinned], laidTests := true, laidLooks := .later }
def LayerPutsUptoCardSaid : Prop := Claim7.holds Tryz.pinned (.plain (OpenSpec.upto layerPutsSpec)) layerPutsUptoCard

/-- THE SECOND FORM's CARD OF 'shalelaw16.StepOnes'. -/
def stepOnesUptoCard : Claim7 := { stood := { row := stepOnesUptoRow, standIns := [], harness := (true, "481c031083046d0d41b595320cf6117976a8d2aa518b94afed1d92245c6cdc4c"), looks := true }, kinds := [], alts := [], laidByText := true, laidKinds := [.data, .handle, .pinned], laidTests := true, laidLooks := .later }
def StepOnesUptoCardSaid : Prop := Claim7.holds Tryz.pinned (.plain (OpenSpec.upto stepOnesSpec)) stepOnesUptoCard

/-- THE SECOND FORM's CARD OF 'shalelaw16.StepMany'. -/
def stepManyUptoCard : Claim7 := { stood := { row := stepManyUptoRow, standIns := [], harness := (true, "481c031083046d0d41b595320cf6117976a8d2aa518b94afed1d92245c6cdc4c"), looks := true }, kinds := [], alts := [], laidByText := true, laidKinds := [.data, .handle, .pinned], laidTests := true, laidLooks := .later }
def StepManyUptoCardSaid : Prop := Claim7.holds Tryz.pinned (.plain (OpenSpec.upto stepManySpec)) stepManyUptoCard

/-- THE SECOND FORM's CARD OF 'shalelaw09.LayerPlays'. -/
def layerPlaysUptoCard : Claim7 := { stood := { row := layerPlaysUptoRow, standIns := [], harness := (true, "481c031083046d0d41b595320cf6117976a8d2aa518b94afed1d92245c6cdc4c"), looks := true }, kinds := [], alts := [], laidByText := true, laidKinds := [.data, .handle, .pinned], laidTests := true, laidLooks := .later }
def LayerPlaysUptoCardSaid : Prop := Claim7.holds Tryz.pinned (.plain (OpenSpec.upto layerPlaysSpec)) layerPlaysUptoCard

/-- THE SECOND FORM's CARD OF 'shalelaw16.StepKeeps'. -/
def stepKeepsUptoCard : Claim7 := { stood := { row := stepKeepsUptoRow, standIns := [], harness := (true, "481c031083046d0d41b595320cf6117976a8d2aa518b94afed1d92245c6cdc4c"), looks := true }, kinds := [], alts := [], laidByText := true, laidKinds := [.data, .handle, .pinned], laidTests := true, laidLooks := .later }
def StepKeepsUptoCardSaid : Prop := Claim7.holds Tryz.pinned (.plain (OpenSpec.upto stepKeepsSpec)) stepKeepsUptoCard

/-- THE SECOND FORM's CARD OF 'shalelaw16.StepAlike'. -/
def stepAlikeUptoCard : Claim7 := { stood := { row := stepAlikeUptoRow, standIns := [], harness := (true, "481c031083046d0d41b595320cf6117976a8d2aa518b94afed1d92245c6cdc4c"), looks := true }, kinds := [], alts := [], laidByText := true, laidKinds := [.data, .handle, .pinned], laidTests := true, laidLooks := .later }
def StepAlikeUptoCardSaid : Prop := Claim7.holds Tryz.pinned (.plain (OpenSpec.upto stepAlikeSpec)) stepAlikeUptoCard

/-- THE SECOND FORM's CARD OF 'shalelaw15.MergeThree'. -/
def mergeThreeUptoCard : Claim7 := { stood := { row := mergeThreeUptoRow, standIns := [], harness := (true, "481c031083046d0d41b595320cf6117976a8d2aa518b94afed1d92245c6cdc4c"), looks := true }, kinds := [], alts := [], laidByText := true, laidKinds := [.data, .handle, .pinned], laidTests := true, laidLooks := .later }
def MergeThreeUptoCardSaid : Prop := Claim7.holds Tryz.pinned (.plain (OpenSpec.upto mergeThreeSpec)) mergeThreeUptoCard

/-- THE SECOND FORM's CARD OF 'shalelaw15.MergeSame'. -/
def mergeSameUptoCard : Claim7 := { stood := { row := mergeSameUptoRow, standIns := [], harness := (true, "481c031083046d0d41b595320cf6117976a8d2aa518b94afed1d92245c6cdc4c"), looks := true }, kinds := [], alts := [], laidByText := true, laidKinds := [.data, .handle, .pinned], laidTests := true, laidLooks := .later }
def MergeSameUptoCardSaid : Prop := Claim7.holds Tryz.pinned (.plain (OpenSpec.upto mergeSameSpec)) mergeSameUptoCard

/-- THE SECOND FORM's CARD OF 'shalelaw12.LookAll'. -/
def lookAllUptoCard : Claim7 := { stood := { row := lookAllUptoRow, standIns := [], harness := (true, "481c031083046d0d41b595320cf6117976a8d2aa518b94afed1d92245c6cdc4c"), looks := true }, kinds := [], alts := [], laidByText := true, laidKinds := [.data, .handle, .pinned], laidTests := true, laidLooks := .later }
def LookAllUptoCardSaid : Prop := Claim7.holds Tryz.pinned (.plain (OpenSpec.upto lookAllSpec)) lookAllUptoCard

/-- THE SECOND FORM's CARD OF 'shalelaw16.StepShows'. -/
def stepShowsUptoCard : Claim7 := { stood := { row := stepShowsUptoRow, standIns := [], harness := (true, "481c031083046d0d41b595320cf6117976a8d2aa518b94afed1d92245c6cdc4c"), looks := true }, kinds := [], alts := [], laidByText := true, laidKinds := [.data, .handle, .pinned], laidTests := true, laidLooks := .later }
def StepShowsUptoCardSaid : Prop := Claim7.holds Tryz.pinned (.plain (OpenSpec.upto stepShowsSpec)) stepShowsUptoCard

/-- THE SECOND FORM's CARD OF 'shalelaw15.MergeShows'. -/
def mergeShowsUptoCard : Claim7 := { stood := { row := mergeShowsUptoRow, standIns := [], harness := (true, "481c031083046d0d41b595320cf6117976a8d2aa518b94afed1d92245c6cdc4c"), looks := true }, kinds := [], alts := [], laidByText := true, laidKinds := [.data, .handle, .pinned], laidTests := true, laidLooks := .later }
def MergeShowsUptoCardSaid : Prop := Claim7.holds Tryz.pinned (.plain (OpenSpec.upto mergeShowsSpec)) mergeShowsUptoCard
end Rows
end Go.Proofs.YtdmnpofodechpaaGreatDoor
