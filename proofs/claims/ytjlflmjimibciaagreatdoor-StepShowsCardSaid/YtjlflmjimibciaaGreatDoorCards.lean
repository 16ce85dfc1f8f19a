/-
  DERIVED. GIVEN WITH THE SEED: THE CARDS: each row of YtjlflmjimibciaaGreatDoorRows.lean that lists a variable, with what it lists TIED to the program's text (the seventh form; the later family's looks); each row that meets fmt, with fmt's text TOLD by the authors' own Lean function (tested against real Go, not proved from fmt's source: count such statements apart). THE CARD IS WHAT COUNTS. Prove the row's statement (the work); the ties are given (YtjlflmjimibciaaGreatDoorTie.lean); close each card by the builder's one call (the guide's Derived/Test/ToyasCard.lean, 'card_holds'). Laid BY PROGRAM, IN A SANDBOX (cutbox-door.mjs). By AI agents, Wed Nov 11 2026. No macro, syntax, notation, axiom, sorry.
-/
import Derived.Test.YtjlflmjimibciaaGreatDoorRows
import GoSem.ClaimSeven
namespace Go.Proofs.YtjlflmjimibciaaGreatDoor
namespace Rows

/-- THE TIED CARD OF 'shalelaw16.StepOnes'. -/
def stepOnesCard : Claim7 := { stood := { row := stepOnesRow, standIns := [], harness := (true, "d91f4ba8b5a76f61d52eed809b29b6e94aa8e1fec0c78302f3f5c7df99cd31ba"), looks := true }, kinds := [], alts := [], laidByText := true, laidKinds := [.data, .handle, .pinned], laidTests := true, laidLooks := .later }
def StepOnesCardSaid : Prop := Claim7.holds Tryz.pinned (.plain (OpenSpec.ofChange stepOnesSpec)) stepOnesCard

/-- THE TIED CARD OF 'shalelaw16.StepMany'. -/
def stepManyCard : Claim7 := { stood := { row := stepManyRow, standIns := [], harness := (true, "d91f4ba8b5a76f61d52eed809b29b6e94aa8e1fec0c78302f3f5c7df99cd31ba"), looks := true }, kinds := [], alts := [], laidByText := true, laidKinds := [.data, .handle, .pinned], laidTests := true, laidLooks := .later }
def StepManyCardSaid : Prop := Claim7.holds Tryz.pinned (.plain (OpenSpec.ofChange stepManySpec)) stepManyCard

/-- THE TIED CARD OF 'shalelaw16.StepKeeps'. -/
def stepKeepsCard : Claim7 := { stood := { row := stepKeepsRow, standIns := [], harness := (true, "d91f4ba8b5a76f61d52eed809b29b6e94aa8e1fec0c78302f3f5c7df99cd31ba"), looks := true }, kinds := [], alts := [], laidByText := true, laidKinds := [.data, .handle, .pinned], laidTests := true, laidLooks := .later }
def StepKeepsCardSaid : Prop := Claim7.holds Tryz.pinned (.plain (OpenSpec.ofChange stepKeepsSpec)) stepKeepsCard

/-- THE TIED CARD OF 'shalelaw16.StepAlike'. -/
def stepAlikeCard : Claim7 := { stood := { row := stepAlikeRow, standIns := [], harness := (true, "d91f4ba8b5a76f61d52eed809b29b6e94aa8e1fec0c78302f3f5c7df99cd31ba"), looks := true }, kinds := [], alts := [], laidByText := true, laidKinds := [.data, .handle, .pinned], laidTests := true, laidLooks := .later }
def StepAlikeCardSaid : Prop := Claim7.holds Tryz.pinned (.plain (OpenSpec.ofChange stepAlikeSpec)) stepAlikeCard

/-- THE TIED CARD OF 'shalelaw16.StepShows'. -/
def stepShowsCard : Claim7 := { stood := { row := stepShowsRow, standIns := [], harness := (true, "d91f4ba8b5a76f61d52eed809b29b6e94aa8e1fec0c78302f3f5c7df99cd31ba"), looks := true }, kinds := [], alts := [], laidByText := true, laidKinds := [.data, .handle, .pinned], laidTests := true, laidLooks := .later }
def StepShowsCardSaid : Prop := Claim7.holds Tryz.pinned (.plain (OpenSpec.ofChange stepShowsSpec)) stepShowsCard

/-- THE SECOND FORM's CARD OF 'shalelaw16.StepOnes'. -/
def stepOnesUptoCard : Claim7 := { stood := { row := stepOnesUptoRow, standIns := [], harness := (true, "d91f4ba8b5a76f61d52eed809b29b6e94aa8e1fec0c78302f3f5c7df99cd31ba"), looks := true }, kinds := [], alts := [], laidByText := true, laidKinds := [.data, .handle, .pinned], laidTests := true, laidLooks := .later }
def StepOnesUptoCardSaid : Prop := Claim7.holds Tryz.pinned (.plain (OpenSpec.upto stepOnesSpec)) stepOnesUptoCard

/-- THE SECOND FORM's CARD OF 'shalelaw16.StepMany'. -/
def stepManyUptoCard : Claim7 := { stood := { row := stepManyUptoRow, standIns := [], harness := (true, "d91f4ba8b5a76f61d52eed809b29b6e94aa8e1fec0c78302f3f5c7df99cd31ba"), looks := true }, kinds := [], alts := [], laidByText := true, laidKinds := [.data, .handle, .pinned], laidTests := true, laidLooks := .later }
def StepManyUptoCardSaid : Prop := Claim7.holds Tryz.pinned (.plain (OpenSpec.upto stepManySpec)) stepManyUptoCard

/-- THE SECOND FORM's CARD OF 'shalelaw16.StepKeeps'. -/
def stepKeepsUptoCard : Claim7 := { stood := { row := stepKeepsUptoRow, standIns := [], harness := (true, "d91f4ba8b5a76f61d52eed809b29b6e94aa8e1fec0c78302f3f5c7df99cd31ba"), looks := true }, kinds := [], alts := [], laidByText := true, laidKinds := [.data, .handle, .pinned], laidTests := true, laidLooks := .later }
def StepKeepsUptoCardSaid : Prop := Claim7.holds Tryz.pinned (.plain (OpenSpec.upto stepKeepsSpec)) stepKeepsUptoCard

/-- THE SECOND FORM's CARD OF 'shalelaw16.StepAlike'. -/
def stepAlikeUptoCard : Claim7 := { stood := { row := stepAlikeUptoRow, standIns := [], harness := (true, "d91f4ba8b5a76f61d52eed809b29b6e94aa8e1fec0c78302f3f5c7df99cd31ba"), looks := true }, kinds := [], alts := [], laidByText := true, laidKinds := [.data, .handle, .pinned], laidTests := true, laidLooks := .later }
def StepAlikeUptoCardSaid : Prop := Claim7.holds Tryz.pinned (.plain (OpenSpec.upto stepAlikeSpec)) stepAlikeUptoCard

/-- THE SECOND FORM's CARD OF 'shalelaw16.StepShows'. -/
def stepShowsUptoCard : Claim7 := { stood := { row := stepShowsUptoRow, standIns := [], harness := (true, "d91f4ba8b5a76f61d52eed809b29b6e94aa8e1fec0c78302f3f5c7df99cd31ba"), looks := true }, kinds := [], alts := [], laidByText := true, laidKinds := [.data, .handle, .pinned], laidTests := true, laidLooks := .later }
def StepShowsUptoCardSaid : Prop := Claim7.holds Tryz.pinned (.plain (OpenSpec.upto stepShowsSpec)) stepShowsUptoCard
end Rows
end Go.Proofs.YtjlflmjimibciaaGreatDoor
