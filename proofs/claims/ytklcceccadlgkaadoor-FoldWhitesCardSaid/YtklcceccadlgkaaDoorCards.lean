/-
  DERIVED. GIVEN WITH THE SEED: THE CARDS: each row of YtklcceccadlgkaaDoorRows.lean that lists a variable, with what it lists TIED to the program's text (the seventh form; the later family's looks); each row that meets fmt, with fmt's text TOLD by the authors' own Lean function (tested against real Go, not proved from fmt's source: count such statements apart). THE CARD IS WHAT COUNTS. Prove the row's statement (the work); the ties are given (YtklcceccadlgkaaDoorTie.lean); close each card by the builder's one call (the guide's Derived/Test/ToyasCard.lean, 'card_holds'). Laid BY PROGRAM, IN A SANDBOX (cutbox-door.mjs). By AI agents, Wed Nov 11 2026. No macro, syntax, notation, axiom, sorry.
-/
import Derived.Test.YtklcceccadlgkaaDoorRows
import GoSem.ClaimSeven
namespace Go.Proofs.YtklcceccadlgkaaDoor
namespace Rows

/-- THE TIED CARD OF 'shalelaw08.EntryKinds'. -/
def entryKindsCard : Claim7 := { stood := { row := entryKindsRow, standIns := [], harness := (true, "847e4b443be152c23e94052f7b56613d99f6409020f8b307beda3917b93934c7"), looks := true }, kinds := [], alts := [], laidByText := true, laidKinds := [.data, .handle, .pinned], laidTests := true, laidLooks := .later }
def EntryKindsCardSaid : Prop := Claim7.holds Tryd.pinned (.plain (OpenSpec.ofChange entryKindsSpec)) entryKindsCard

/-- THE TIED CARD OF 'shalelaw08.EntryUnlike'. -/
def entryUnlikeCard : Claim7 := { stood := { row := entryUnlikeRow, standIns := [], harness := (true, "847e4b443be152c23e94052f7b56613d99f6409020f8b307beda3917b93934c7"), looks := true }, kinds := [], alts := [], laidByText := true, laidKinds := [.data, .handle, .pinned], laidTests := true, laidLooks := .later }
def EntryUnlikeCardSaid : Prop := Claim7.holds Tryd.pinned (.plain (OpenSpec.ofChange entryUnlikeSpec)) entryUnlikeCard

/-- THE TIED CARD OF 'shalelaw08.EntryOrder'. -/
def entryOrderCard : Claim7 := { stood := { row := entryOrderRow, standIns := [], harness := (true, "847e4b443be152c23e94052f7b56613d99f6409020f8b307beda3917b93934c7"), looks := true }, kinds := [], alts := [], laidByText := true, laidKinds := [.data, .handle, .pinned], laidTests := true, laidLooks := .later }
def EntryOrderCardSaid : Prop := Claim7.holds Tryd.pinned (.plain (OpenSpec.ofChange entryOrderSpec)) entryOrderCard

/-- THE TIED CARD OF 'shalelaw03.PathBack'. -/
def pathBackCard : Claim7 := { stood := { row := pathBackRow, standIns := [], harness := (true, "847e4b443be152c23e94052f7b56613d99f6409020f8b307beda3917b93934c7"), looks := true }, kinds := [], alts := [], laidByText := true, laidKinds := [.data, .handle, .pinned], laidTests := true, laidLooks := .later }
def PathBackCardSaid : Prop := Claim7.holds Tryd.pinned (.plain (OpenSpec.ofChange pathBackSpec)) pathBackCard

/-- THE TIED CARD OF 'shalelaw03.PathNames'. -/
def pathNamesCard : Claim7 := { stood := { row := pathNamesRow, standIns := [], harness := (true, "847e4b443be152c23e94052f7b56613d99f6409020f8b307beda3917b93934c7"), looks := true }, kinds := [], alts := [], laidByText := true, laidKinds := [.data, .handle, .pinned], laidTests := true, laidLooks := .later }
def PathNamesCardSaid : Prop := Claim7.holds Tryd.pinned (.plain (OpenSpec.ofChange pathNamesSpec)) pathNamesCard

/-- THE TIED CARD OF 'shalelaw03.PathParents'. -/
def pathParentsCard : Claim7 := { stood := { row := pathParentsRow, standIns := [], harness := (true, "847e4b443be152c23e94052f7b56613d99f6409020f8b307beda3917b93934c7"), looks := true }, kinds := [], alts := [], laidByText := true, laidKinds := [.data, .handle, .pinned], laidTests := true, laidLooks := .later }
def PathParentsCardSaid : Prop := Claim7.holds Tryd.pinned (.plain (OpenSpec.ofChange pathParentsSpec)) pathParentsCard

/-- THE TIED CARD OF 'shalelaw03.PathPlays'. -/
def pathPlaysCard : Claim7 := { stood := { row := pathPlaysRow, standIns := [], harness := (true, "847e4b443be152c23e94052f7b56613d99f6409020f8b307beda3917b93934c7"), looks := true }, kinds := [], alts := [], laidByText := true, laidKinds := [.data, .handle, .pinned], laidTests := true, laidLooks := .later }
def PathPlaysCardSaid : Prop := Claim7.holds Tryd.pinned (.plain (OpenSpec.ofChange pathPlaysSpec)) pathPlaysCard

/-- THE TIED CARD OF 'shalelaw03.PathOrder'. -/
def pathOrderCard : Claim7 := { stood := { row := pathOrderRow, standIns := [], harness := (true, "847e4b443be152c23e94052f7b56613d99f6409020f8b307beda3917b93934c7"), looks := true }, kinds := [], alts := [], laidByText := true, laidKinds := [.data, .handle, .pinned], laidTests := true, laidLooks := .later }
def PathOrderCardSaid : Prop := Claim7.holds Tryd.pinned (.plain (OpenSpec.ofChange pathOrderSpec)) pathOrderCard

/-- THE TIED CARD OF 'shalelaw08.EntryBack'. -/
def entryBackCard : Claim7 := { stood := { row := entryBackRow, standIns := [], harness := (true, "847e4b443be152c23e94052f7b56613d99f6409020f8b307beda3917b93934c7"), looks := true }, kinds := [], alts := [], laidByText := true, laidKinds := [.data, .handle, .pinned], laidTests := true, laidLooks := .later }
def EntryBackCardSaid : Prop := Claim7.holds Tryd.pinned (.plain (OpenSpec.ofChange entryBackSpec)) entryBackCard

/-- THE TIED CARD OF 'shalelaw08.EntryOnly'. -/
def entryOnlyCard : Claim7 := { stood := { row := entryOnlyRow, standIns := [], harness := (true, "847e4b443be152c23e94052f7b56613d99f6409020f8b307beda3917b93934c7"), looks := true }, kinds := [], alts := [], laidByText := true, laidKinds := [.data, .handle, .pinned], laidTests := true, laidLooks := .later }
def EntryOnlyCardSaid : Prop := Claim7.holds Tryd.pinned (.plain (OpenSpec.ofChange entryOnlySpec)) entryOnlyCard

/-- THE TIED CARD OF 'shalelaw08.EntryPlays'. -/
def entryPlaysCard : Claim7 := { stood := { row := entryPlaysRow, standIns := [], harness := (true, "847e4b443be152c23e94052f7b56613d99f6409020f8b307beda3917b93934c7"), looks := true }, kinds := [], alts := [], laidByText := true, laidKinds := [.data, .handle, .pinned], laidTests := true, laidLooks := .later }
def EntryPlaysCardSaid : Prop := Claim7.holds Tryd.pinned (.plain (OpenSpec.ofChange entryPlaysSpec)) entryPlaysCard

/-- THE TIED CARD OF 'shalelaw12.LookTop'. -/
def lookTopCard : Claim7 := { stood := { row := lookTopRow, standIns := [], harness := (true, "847e4b443be152c23e94052f7b56613d99f6409020f8b307beda3917b93934c7"), looks := true }, kinds := [], alts := [], laidByText := true, laidKinds := [.data, .handle, .pinned], laidTests := true, laidLooks := .later }
def LookTopCardSaid : Prop := Claim7.holds Tryd.pinned (.plain (OpenSpec.ofChange lookTopSpec)) lookTopCard

/-- THE TIED CARD OF 'shalelaw10.FoldTrees'. -/
def foldTreesCard : Claim7 := { stood := { row := foldTreesRow, standIns := [], harness := (true, "847e4b443be152c23e94052f7b56613d99f6409020f8b307beda3917b93934c7"), looks := true }, kinds := [], alts := [], laidByText := true, laidKinds := [.data, .pinned], laidTests := true, laidLooks := .later }
def FoldTreesCardSaid : Prop := Claim7.holds Tryd.pinned (.plain (OpenSpec.ofChange foldTreesSpec)) foldTreesCard

/-- THE TIED CARD OF 'shalelaw10.FoldSteps'. -/
def foldStepsCard : Claim7 := { stood := { row := foldStepsRow, standIns := [], harness := (true, "847e4b443be152c23e94052f7b56613d99f6409020f8b307beda3917b93934c7"), looks := true }, kinds := [], alts := [], laidByText := true, laidKinds := [.data, .pinned], laidTests := true, laidLooks := .later }
def FoldStepsCardSaid : Prop := Claim7.holds Tryd.pinned (.plain (OpenSpec.ofChange foldStepsSpec)) foldStepsCard

/-- THE TIED CARD OF 'shalelaw10.FoldWhites'. -/
def foldWhitesCard : Claim7 := { stood := { row := foldWhitesRow, standIns := [], harness := (true, "847e4b443be152c23e94052f7b56613d99f6409020f8b307beda3917b93934c7"), looks := true }, kinds := [], alts := [], laidByText := true, laidKinds := [.data, .pinned], laidTests := true, laidLooks := .later }
def FoldWhitesCardSaid : Prop := Claim7.holds Tryd.pinned (.plain (OpenSpec.ofChange foldWhitesSpec)) foldWhitesCard

/-- THE TIED CARD OF 'shalelaw10.FoldEmpty'. -/
def foldEmptyCard : Claim7 := { stood := { row := foldEmptyRow, standIns := [], harness := (true, "847e4b443be152c23e94052f7b56613d99f6409020f8b307beda3917b93934c7"), looks := true }, kinds := [], alts := [], laidByText := true, laidKinds := [.data, .pinned], laidTests := true, laidLooks := .later }
def FoldEmptyCardSaid : Prop := Claim7.holds Tryd.pinned (.plain (OpenSpec.ofChange foldEmptySpec)) foldEmptyCard

/-- THE TIED CARD OF 'shalelaw10.FoldAlone'. -/
def foldAloneCard : Claim7 := { stood := { row := foldAloneRow, standIns := [], harness := (true, "847e4b443be152c23e94052f7b56613d99f6409020f8b307beda3917b93934c7"), looks := true }, kinds := [], alts := [], laidByText := true, laidKinds := [.data, .pinned], laidTests := true, laidLooks := .later }
def FoldAloneCardSaid : Prop := Claim7.holds Tryd.pinned (.plain (OpenSpec.ofChange foldAloneSpec)) foldAloneCard

/-- THE TIED CARD OF 'shalelaw12.LookParents'. -/
def lookParentsCard : Claim7 := { stood := { row := lookParentsRow, standIns := [], harness := (true, "847e4b443be152c23e94052f7b56613d99f6409020f8b307beda3917b93934c7"), looks := true }, kinds := [], alts := [], laidByText := true, laidKinds := [.data, .handle, .pinned], laidTests := true, laidLooks := .later }
def LookParentsCardSaid : Prop := Claim7.holds Tryd.pinned (.plain (OpenSpec.ofChange lookParentsSpec)) lookParentsCard

/-- THE SECOND FORM's CARD OF 'shalelaw08.EntryKinds'. -/
def entryKindsUptoCard : Claim7 := { stood := { row := entryKindsUptoRow, standIns := [], harness := (true, "847e4b443be152c23e94052f7b56613d99f6409020f8b307beda3917b93934c7"), looks := true }, kinds := [], alts := [], laidByText := true, laidKinds := [.data, .handle, .pinned], laidTests := true, laidLooks := .later }
def EntryKindsUptoCardSaid : Prop := Claim7.holds Tryd.pinned (.plain (OpenSpec.upto entryKindsSpec)) entryKindsUptoCard

/-- THE SECOND FORM's CARD OF 'shalelaw08.EntryUnlike'. -/
def entryUnlikeUptoCard : Claim7 := { stood := { row := entryUnlikeUptoRow, standIns := [], harness := (true, "847e4b443be152c23e94052f7b56613d99f6409020f8b307beda3917b93934c7"), looks := true }, kinds := [], alts := [], laidByText := true, laidKinds := [.data, .handle, .pinned], laidTests := true, laidLooks := .later }
def EntryUnlikeUptoCardSaid : Prop := Claim7.holds Tryd.pinned (.plain (OpenSpec.upto entryUnlikeSpec)) entryUnlikeUptoCard

/-- THE SECOND FORM's CARD OF 'shalelaw08.EntryOrder'. -/
def entryOrderUptoCard : Claim7 := { stood := { row := entryOrderUptoRow, standIns := [], harness := (true, "847e4b443be152c23e94052f7b56613d99f6409020f8b307beda3917b93934c7"), looks := true }, kinds := [], alts := [], laidByText := true, laidKinds := [.data, .handle, .pinned], laidTests := true, laidLooks := .later }
def EntryOrderUptoCardSaid : Prop := Claim7.holds Tryd.pinned (.plain (OpenSpec.upto entryOrderSpec)) entryOrderUptoCard

/-- THE SECOND FORM's CARD OF 'shalelaw03.PathBack'. -/
def pathBackUptoCard : Claim7 := { stood := { row := pathBackUptoRow, standIns := [], harness := (true, "847e4b443be152c23e94052f7b56613d99f6409020f8b307beda3917b93934c7"), looks := true }, kinds := [], alts := [], laidByText := true, laidKinds := [.data, .handle, .pinned], laidTests := true, laidLooks := .later }
def PathBackUptoCardSaid : Prop := Claim7.holds Tryd.pinned (.plain (OpenSpec.upto pathBackSpec)) pathBackUptoCard

/-- THE SECOND FORM's CARD OF 'shalelaw03.PathNames'. -/
def pathNamesUptoCard : Claim7 := { stood := { row := pathNamesUptoRow, standIns := [], harness := (true, "847e4b443be152c23e94052f7b56613d99f6409020f8b307beda3917b93934c7"), looks := true }, kinds := [], alts := [], laidByText := true, laidKinds := [.data, .handle, .pinned], laidTests := true, laidLooks := .later }
def PathNamesUptoCardSaid : Prop := Claim7.holds Tryd.pinned (.plain (OpenSpec.upto pathNamesSpec)) pathNamesUptoCard

/-- THE SECOND FORM's CARD OF 'shalelaw03.PathParents'. -/
def pathParentsUptoCard : Claim7 := { stood := { row := pathParentsUptoRow, standIns := [], harness := (true, "847e4b443be152c23e94052f7b56613d99f6409020f8b307beda3917b93934c7"), looks := true }, kinds := [], alts := [], laidByText := true, laidKinds := [.data, .handle, .pinned], laidTests := true, laidLooks := .later }
def PathParentsUptoCardSaid : Prop := Claim7.holds Tryd.pinned (.plain (OpenSpec.upto pathParentsSpec)) pathParentsUptoCard

/-- THE SECOND FORM's CARD OF 'shalelaw03.PathPlays'. -/
def pathPlaysUptoCard : Claim7 := { stood := { row := pathPlaysUptoRow, standIns := [], harness := (true, "847e4b443be152c23e94052f7b56613d99f6409020f8b307beda3917b93934c7"), looks := true }, kinds := [], alts := [], laidByText := true, laidKinds := [.data, .handle, .pinned], laidTests := true, laidLooks := .later }
def PathPlaysUptoCardSaid : Prop := Claim7.holds Tryd.pinned (.plain (OpenSpec.upto pathPlaysSpec)) pathPlaysUptoCard

/-- THE SECOND FORM's CARD OF 'shalelaw03.PathOrder'. -/
def pathOrderUptoCard : Claim7 := { stood := { row := pathOrderUptoRow, standIns := [], harness := (true, "847e4b443be152c23e94052f7b56613d99f6409020f8b307beda3917b93934c7"), looks := true }, kinds := [], alts := [], laidByText := true, laidKinds := [.data, .handle, .pinned], laidTests := true, laidLooks := .later }
def PathOrderUptoCardSaid : Prop := Claim7.holds Tryd.pinned (.plain (OpenSpec.upto pathOrderSpec)) pathOrderUptoCard

/-- THE SECOND FORM's CARD OF 'shalelaw08.EntryBack'. -/
def entryBackUptoCard : Claim7 := { stood := { row := entryBackUptoRow, standIns := [], harness := (true, "847e4b443be152c23e94052f7b56613d99f6409020f8b307beda3917b93934c7"), looks := true }, kinds := [], alts := [], laidByText := true, laidKinds := [.data, .handle, .pinned], laidTests := true, laidLooks := .later }
def EntryBackUptoCardSaid : Prop := Claim7.holds Tryd.pinned (.plain (OpenSpec.upto entryBackSpec)) entryBackUptoCard

/-- THE SECOND FORM's CARD OF 'shalelaw08.EntryOnly'. -/
def entryOnlyUptoCard : Claim7 := { stood := { row := entryOnlyUptoRow, standIns := [], harness := (true, "847e4b443be152c23e94052f7b56613d99f6409020f8b307beda3917b93934c7"), looks := true }, kinds := [], alts := [], laidByText := true, laidKinds := [.data, .handle, .pinned], laidTests := true, laidLooks := .later }
def EntryOnlyUptoCardSaid : Prop := Claim7.holds Tryd.pinned (.plain (OpenSpec.upto entryOnlySpec)) entryOnlyUptoCard

/-- THE SECOND FORM's CARD OF 'shalelaw08.EntryPlays'. -/
def entryPlaysUptoCard : Claim7 := { stood := { row := entryPlaysUptoRow, standIns := [], harness := (true, "847e4b443be152c23e94052f7b56613d99f6409020f8b307beda3917b93934c7"), looks := true }, kinds := [], alts := [], laidByText := true, laidKinds := [.data, .handle, .pinned], laidTests := true, laidLooks := .later }
def EntryPlaysUptoCardSaid : Prop := Claim7.holds Tryd.pinned (.plain (OpenSpec.upto entryPlaysSpec)) entryPlaysUptoCard

/-- THE SECOND FORM's CARD OF 'shalelaw12.LookTop'. -/
def lookTopUptoCard : Claim7 := { stood := { row := lookTopUptoRow, standIns := [], harness := (true, "847e4b443be152c23e94052f7b56613d99f6409020f8b307beda3917b93934c7"), looks := true }, kinds := [], alts := [], laidByText := true, laidKinds := [.data, .handle, .pinned], laidTests := true, laidLooks := .later }
def LookTopUptoCardSaid : Prop := Claim7.holds Tryd.pinned (.plain (OpenSpec.upto lookTopSpec)) lookTopUptoCard

/-- THE SECOND FORM's CARD OF 'shalelaw10.FoldTrees'. -/
def foldTreesUptoCard : Claim7 := { stood := { row := foldTreesUptoRow, standIns := [], harness := (true, "847e4b443be152c23e94052f7b56613d99f6409020f8b307beda3917b93934c7"), looks := true }, kinds := [], alts := [], laidByText := true, laidKinds := [.data, .pinned], laidTests := true, laidLooks := .later }
def FoldTreesUptoCardSaid : Prop := Claim7.holds Tryd.pinned (.plain (OpenSpec.upto foldTreesSpec)) foldTreesUptoCard

/-- THE SECOND FORM's CARD OF 'shalelaw10.FoldSteps'. -/
def foldStepsUptoCard : Claim7 := { stood := { row := foldStepsUptoRow, standIns := [], harness := (true, "847e4b443be152c23e94052f7b56613d99f6409020f8b307beda3917b93934c7"), looks := true }, kinds := [], alts := [], laidByText := true, laidKinds := [.data, .pinned], laidTests := true, laidLooks := .later }
def FoldStepsUptoCardSaid : Prop := Claim7.holds Tryd.pinned (.plain (OpenSpec.upto foldStepsSpec)) foldStepsUptoCard

/-- THE SECOND FORM's CARD OF 'shalelaw10.FoldWhites'. -/
def foldWhitesUptoCard : Claim7 := { stood := { row := foldWhitesUptoRow, standIns := [], harness := (true, "847e4b443be152c23e94052f7b56613d99f6409020f8b307beda3917b93934c7"), looks := true }, kinds := [], alts := [], laidByText := true, laidKinds := [.data, .pinned], laidTests := true, laidLooks := .later }
def FoldWhitesUptoCardSaid : Prop := Claim7.holds Tryd.pinned (.plain (OpenSpec.upto foldWhitesSpec)) foldWhitesUptoCard

/-- THE SECOND FORM's CARD OF 'shalelaw10.FoldEmpty'. -/
def foldEmptyUptoCard : Claim7 := { stood := { row := foldEmptyUptoRow, standIns := [], harness := (true, "847e4b443be152c23e94052f7b56613d99f6409020f8b307beda3917b93934c7"), looks := true }, kinds := [], alts := [], laidByText := true, laidKinds := [.data, .pinned], laidTests := true, laidLooks := .later }
def FoldEmptyUptoCardSaid : Prop := Claim7.holds Tryd.pinned (.plain (OpenSpec.upto foldEmptySpec)) foldEmptyUptoCard

/-- THE SECOND FORM's CARD OF 'shalelaw10.FoldAlone'. -/
def foldAloneUptoCard : Claim7 := { stood := { row := foldAloneUptoRow, standIns := [], harness := (true, "847e4b443be152c23e94052f7b56613d99f6409020f8b307beda3917b93934c7"), looks := true }, kinds := [], alts := [], laidByText := true, laidKinds := [.data, .pinned], laidTests := true, laidLooks := .later }
def FoldAloneUptoCardSaid : Prop := Claim7.holds Tryd.pinned (.plain (OpenSpec.upto foldAloneSpec)) foldAloneUptoCard

/-- THE SECOND FORM's CARD OF 'shalelaw12.LookParents'. -/
def lookParentsUptoCard : Claim7 := { stood := { row := lookParentsUptoRow, standIns := [], harness := (true, "847e4b443be152c23e94052f7b56613d99f6409020f8b307beda3917b93934c7"), looks := true }, kinds := [], alts := [], laidByText := true, laidKinds := [.data, .handle, .pinned], laidTests := true, laidLooks := .later }
def LookParentsUptoCardSaid : Prop := Claim7.holds Tryd.pinned (.plain (OpenSpec.upto lookParentsSpec)) lookParentsUptoCard
end Rows
end Go.Proofs.YtklcceccadlgkaaDoor
