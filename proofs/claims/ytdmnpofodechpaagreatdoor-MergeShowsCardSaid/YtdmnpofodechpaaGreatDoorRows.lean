/-
  NARROWER THAN 'FOR EVERY INPUT', by the rows' own cells (each row's printed sentence says how): LayerBelows: laid · LookWhite: laid · LookFolds: laid · FoldPlays: laid · LookFloors: laid · LayerBack: laid · LayerReads: laid · LayerGrows: laid · MergePlays: laid · LayerPuts: laid · StepOnes: laid · StepMany: laid · LayerPlays: laid · StepKeeps: laid · StepAlike: laid · MergeThree: laid · MergeSame: laid · LookAll: laid · StepShows: laid · MergeShows: laid.
  DERIVED. THE GIVEN ROWS OF THIS SEAT. 20 by the template 'for every input the law returns true; each argument reads behind the call as it read before'; 0 by the template 'total and deterministic' (their statements: YtdmnpofodechpaaGreatDoorTotals.lean).
  GIVEN WITH THE SEED: the statements are not yours to turn. If you find one false, say at which input.
  Laid BY PROGRAM, IN A SANDBOX (cutbox-rows.mjs): the forced cells as the released guide's own fill.sh prints them over the translation b2fe318b27c29582… (all of the seat's roots in one cut). By AI agents, Wed Nov 11 2026. No macro, syntax, notation, axiom, sorry.
-/
import Derived.Test.YtdmnpofodechpaaGreatDoorChecked
import GoSem.PinnedTables
import GoSem.Claim
import GoSem.ClaimJoined
import GoSem.ClaimMapViews
import Derived.JoinedTies
import Derived.KernelRfl
namespace Go.Proofs.YtdmnpofodechpaaGreatDoor
/- THE CELL 'sum', in the pinned program and in every row, IS THE sha256 OF THE DUMP (.gsa) THAT YtdmnpofodechpaaGreatDoorProg.lean LOADS. Nothing in Lean hashes anything: it is a label: what it is worth is what the hold of that sum in a sandbox is worth. -/
noncomputable def Tryz.pinned : Pinned := { name := "ytdmnpofodechpaagreatdoor", sum := "b2fe318b27c29582a6e22fdcab594d0a84eb21cc5e1a6bae3c8330021697d869", checked := Tryz.checked }
namespace Rows
def none {H : Type} : Left H := { results := [], args := [] }

/- WHAT THE LISTED PACKAGE-LEVEL VARIABLES READ AS WHEN THE CALL BEGINS. Each datum BY PROGRAM (the guide's laid-datum.mjs) off the statement by which the dump's own 'gosem.cut.vars' lays the variable. In a bare row this is a premise. The card (YtdmnpofodechpaaGreatDoorCards.lean) ties it to the program's text. -/
def laid_unicode_utf8_acceptRanges {H : Type} : DataW H := .agg [.agg [.lit (.int .u8 128), .lit (.int .u8 191)], .agg [.lit (.int .u8 160), .lit (.int .u8 191)], .agg [.lit (.int .u8 128), .lit (.int .u8 159)], .agg [.lit (.int .u8 144), .lit (.int .u8 191)], .agg [.lit (.int .u8 128), .lit (.int .u8 143)], .agg [.lit (.int .u8 0), .lit (.int .u8 0)], .agg [.lit (.int .u8 0), .lit (.int .u8 0)], .agg [.lit (.int .u8 0), .lit (.int .u8 0)], .agg [.lit (.int .u8 0), .lit (.int .u8 0)], .agg [.lit (.int .u8 0), .lit (.int .u8 0)], .agg [.lit (.int .u8 0), .lit (.int .u8 0)], .agg [.lit (.int .u8 0), .lit (.int .u8 0)], .agg [.lit (.int .u8 0), .lit (.int .u8 0)], .agg [.lit (.int .u8 0), .lit (.int .u8 0)], .agg [.lit (.int .u8 0), .lit (.int .u8 0)], .agg [.lit (.int .u8 0), .lit (.int .u8 0)]]
def laid_errors_errorType {H : Type} : DataW H := .iface "internal/reflectlite.rtype" (.agg [.ptr (.lit (.string [101, 114, 114, 111, 114]))])
/-- One of Go's own tables, pinned by name: the form's constant. -/
def laid_unicode_utf8_first : DataW Unit := Go.Pinned.utf8First

/-- 'shalelaw09.LayerBelows': WHATEVER THE INPUT: true; the input reads as it did. -/
def layerBelowsSpec : ChangeSpec := { name := "layerBelows", fn := fun _ => fun
  | [d1, d2] => { results := [.lit (.bool true)], args := [d1, d2] }
  | _ => none }
def layerBelowsRow : OpenClaim := { program := "ytdmnpofodechpaagreatdoor", sum := "b2fe318b27c29582a6e22fdcab594d0a84eb21cc5e1a6bae3c8330021697d869", func := "shale/shalelaw09.LayerBelows", spec := "layerBelows", inPlace := ["internal/bytealg.IndexByteString", "internal/bytealg.IndexString", "internal/abi.NoEscape", "internal/bytealg.MakeNoZero", "internal/bytealg.abigen_runtime_cmpstring", "internal/reflectlite.ValueOf", "(internal/reflectlite.Value).Type", "(internal/reflectlite.Value).IsNil", "internal/reflectlite.TypeOf", "(internal/reflectlite.Value).Elem", "(internal/reflectlite.Value).Set"], unfollowed := true, recurses := true, named := ["unicode/utf8.first", "unicode/utf8.acceptRanges", "internal/bytealg.MaxLen", "errors.errorType"], apart := false, laid := [("unicode/utf8.acceptRanges", laid_unicode_utf8_acceptRanges), ("errors.errorType", laid_errors_errorType), ("unicode/utf8.first", laid_unicode_utf8_first)] }
def LayerBelowsSaid : Prop := layerBelowsRow.holds Tryz.pinned (OpenSpec.ofChange layerBelowsSpec)

/-- ITS FALSE NEIGHBOUR: 'it returns false'. Refute it at one input. -/
def layerBelowsWrong : ChangeSpec := { name := "layerBelows", fn := fun _ => fun
  | [d1, d2] => { results := [.lit (.bool false)], args := [d1, d2] }
  | _ => none }
def LayerBelowsWrongFalsely : Prop := layerBelowsRow.holds Tryz.pinned (OpenSpec.ofChange layerBelowsWrong)

/-- 'shalelaw12.LookWhite': WHATEVER THE INPUT: true; the input reads as it did. -/
def lookWhiteSpec : ChangeSpec := { name := "lookWhite", fn := fun _ => fun
  | [d1, d2, d3] => { results := [.lit (.bool true)], args := [d1, d2, d3] }
  | _ => none }
def lookWhiteRow : OpenClaim := { program := "ytdmnpofodechpaagreatdoor", sum := "b2fe318b27c29582a6e22fdcab594d0a84eb21cc5e1a6bae3c8330021697d869", func := "shale/shalelaw12.LookWhite", spec := "lookWhite", inPlace := ["internal/bytealg.IndexByteString", "internal/bytealg.IndexString", "internal/abi.NoEscape", "internal/bytealg.MakeNoZero", "internal/bytealg.abigen_runtime_cmpstring", "internal/reflectlite.ValueOf", "(internal/reflectlite.Value).Type", "(internal/reflectlite.Value).IsNil", "internal/reflectlite.TypeOf", "(internal/reflectlite.Value).Elem", "(internal/reflectlite.Value).Set"], unfollowed := true, recurses := true, named := ["unicode/utf8.first", "unicode/utf8.acceptRanges", "internal/bytealg.MaxLen", "errors.errorType"], apart := false, laid := [("unicode/utf8.acceptRanges", laid_unicode_utf8_acceptRanges), ("errors.errorType", laid_errors_errorType), ("unicode/utf8.first", laid_unicode_utf8_first)] }
def LookWhiteSaid : Prop := lookWhiteRow.holds Tryz.pinned (OpenSpec.ofChange lookWhiteSpec)

/-- ITS FALSE NEIGHBOUR: 'it returns false'. Refute it at one input. -/
def lookWhiteWrong : ChangeSpec := { name := "lookWhite", fn := fun _ => fun
  | [d1, d2, d3] => { results := [.lit (.bool false)], args := [d1, d2, d3] }
  | _ => none }
def LookWhiteWrongFalsely : Prop := lookWhiteRow.holds Tryz.pinned (OpenSpec.ofChange lookWhiteWrong)

/-- 'shalelaw12.LookFolds': WHATEVER THE INPUT: true; the input reads as it did. -/
def lookFoldsSpec : ChangeSpec := { name := "lookFolds", fn := fun _ => fun
  | [d1, d2] => { results := [.lit (.bool true)], args := [d1, d2] }
  | _ => none }
def lookFoldsRow : OpenClaim := { program := "ytdmnpofodechpaagreatdoor", sum := "b2fe318b27c29582a6e22fdcab594d0a84eb21cc5e1a6bae3c8330021697d869", func := "shale/shalelaw12.LookFolds", spec := "lookFolds", inPlace := ["internal/bytealg.IndexByteString", "internal/bytealg.IndexString", "internal/abi.NoEscape", "internal/bytealg.MakeNoZero", "internal/bytealg.abigen_runtime_cmpstring", "internal/reflectlite.ValueOf", "(internal/reflectlite.Value).Type", "(internal/reflectlite.Value).IsNil", "internal/reflectlite.TypeOf", "(internal/reflectlite.Value).Elem", "(internal/reflectlite.Value).Set"], unfollowed := true, recurses := true, named := ["unicode/utf8.first", "unicode/utf8.acceptRanges", "internal/bytealg.MaxLen", "errors.errorType"], apart := false, laid := [("unicode/utf8.acceptRanges", laid_unicode_utf8_acceptRanges), ("errors.errorType", laid_errors_errorType), ("unicode/utf8.first", laid_unicode_utf8_first)] }
def LookFoldsSaid : Prop := lookFoldsRow.holds Tryz.pinned (OpenSpec.ofChange lookFoldsSpec)

/-- ITS FALSE NEIGHBOUR: 'it returns false'. Refute it at one input. -/
def lookFoldsWrong : ChangeSpec := { name := "lookFolds", fn := fun _ => fun
  | [d1, d2] => { results := [.lit (.bool false)], args := [d1, d2] }
  | _ => none }
def LookFoldsWrongFalsely : Prop := lookFoldsRow.holds Tryz.pinned (OpenSpec.ofChange lookFoldsWrong)

/-- 'shalelaw10.FoldPlays': WHATEVER THE INPUT: true; the input reads as it did. -/
def foldPlaysSpec : ChangeSpec := { name := "foldPlays", fn := fun _ => fun
  | [d1, d2] => { results := [.lit (.bool true)], args := [d1, d2] }
  | _ => none }
def foldPlaysRow : OpenClaim := { program := "ytdmnpofodechpaagreatdoor", sum := "b2fe318b27c29582a6e22fdcab594d0a84eb21cc5e1a6bae3c8330021697d869", func := "shale/shalelaw10.FoldPlays", spec := "foldPlays", inPlace := ["internal/bytealg.IndexByteString", "internal/bytealg.IndexString", "internal/abi.NoEscape", "internal/bytealg.MakeNoZero", "internal/bytealg.abigen_runtime_cmpstring", "slices.overlaps[shale/api.Entry]"], unfollowed := true, recurses := true, named := ["unicode/utf8.first", "unicode/utf8.acceptRanges", "internal/bytealg.MaxLen"], apart := false, laid := [("unicode/utf8.acceptRanges", laid_unicode_utf8_acceptRanges), ("unicode/utf8.first", laid_unicode_utf8_first)] }
def FoldPlaysSaid : Prop := foldPlaysRow.holds Tryz.pinned (OpenSpec.ofChange foldPlaysSpec)

/-- ITS FALSE NEIGHBOUR: 'it returns false'. Refute it at one input. -/
def foldPlaysWrong : ChangeSpec := { name := "foldPlays", fn := fun _ => fun
  | [d1, d2] => { results := [.lit (.bool false)], args := [d1, d2] }
  | _ => none }
def FoldPlaysWrongFalsely : Prop := foldPlaysRow.holds Tryz.pinned (OpenSpec.ofChange foldPlaysWrong)

/-- 'shalelaw12.LookFloors': WHATEVER THE INPUT: true; the input reads as it did. -/
def lookFloorsSpec : ChangeSpec := { name := "lookFloors", fn := fun _ => fun
  | [d1, d2] => { results := [.lit (.bool true)], args := [d1, d2] }
  | _ => none }
def lookFloorsRow : OpenClaim := { program := "ytdmnpofodechpaagreatdoor", sum := "b2fe318b27c29582a6e22fdcab594d0a84eb21cc5e1a6bae3c8330021697d869", func := "shale/shalelaw12.LookFloors", spec := "lookFloors", inPlace := ["internal/bytealg.IndexByteString", "internal/bytealg.IndexString", "internal/abi.NoEscape", "internal/bytealg.MakeNoZero", "internal/bytealg.abigen_runtime_cmpstring", "internal/reflectlite.ValueOf", "(internal/reflectlite.Value).Type", "(internal/reflectlite.Value).IsNil", "internal/reflectlite.TypeOf", "(internal/reflectlite.Value).Elem", "(internal/reflectlite.Value).Set"], unfollowed := true, recurses := true, named := ["unicode/utf8.first", "unicode/utf8.acceptRanges", "internal/bytealg.MaxLen", "errors.errorType"], apart := false, laid := [("unicode/utf8.acceptRanges", laid_unicode_utf8_acceptRanges), ("errors.errorType", laid_errors_errorType), ("unicode/utf8.first", laid_unicode_utf8_first)] }
def LookFloorsSaid : Prop := lookFloorsRow.holds Tryz.pinned (OpenSpec.ofChange lookFloorsSpec)

/-- ITS FALSE NEIGHBOUR: 'it returns false'. Refute it at one input. -/
def lookFloorsWrong : ChangeSpec := { name := "lookFloors", fn := fun _ => fun
  | [d1, d2] => { results := [.lit (.bool false)], args := [d1, d2] }
  | _ => none }
def LookFloorsWrongFalsely : Prop := lookFloorsRow.holds Tryz.pinned (OpenSpec.ofChange lookFloorsWrong)

/-- 'shalelaw09.LayerBack': WHATEVER THE INPUT: true; the input reads as it did. -/
def layerBackSpec : ChangeSpec := { name := "layerBack", fn := fun _ => fun
  | [d1, d2, d3] => { results := [.lit (.bool true)], args := [d1, d2, d3] }
  | _ => none }
def layerBackRow : OpenClaim := { program := "ytdmnpofodechpaagreatdoor", sum := "b2fe318b27c29582a6e22fdcab594d0a84eb21cc5e1a6bae3c8330021697d869", func := "shale/shalelaw09.LayerBack", spec := "layerBack", inPlace := ["internal/bytealg.IndexByteString", "internal/bytealg.IndexString", "internal/abi.NoEscape", "internal/bytealg.MakeNoZero", "internal/bytealg.abigen_runtime_cmpstring", "internal/reflectlite.ValueOf", "(internal/reflectlite.Value).Type", "(internal/reflectlite.Value).IsNil", "internal/reflectlite.TypeOf", "(internal/reflectlite.Value).Elem", "(internal/reflectlite.Value).Set"], unfollowed := true, recurses := true, named := ["unicode/utf8.first", "unicode/utf8.acceptRanges", "internal/bytealg.MaxLen", "errors.errorType"], apart := false, laid := [("unicode/utf8.acceptRanges", laid_unicode_utf8_acceptRanges), ("errors.errorType", laid_errors_errorType), ("unicode/utf8.first", laid_unicode_utf8_first)] }
def LayerBackSaid : Prop := layerBackRow.holds Tryz.pinned (OpenSpec.ofChange layerBackSpec)

/-- ITS FALSE NEIGHBOUR: 'it returns false'. Refute it at one input. -/
def layerBackWrong : ChangeSpec := { name := "layerBack", fn := fun _ => fun
  | [d1, d2, d3] => { results := [.lit (.bool false)], args := [d1, d2, d3] }
  | _ => none }
def LayerBackWrongFalsely : Prop := layerBackRow.holds Tryz.pinned (OpenSpec.ofChange layerBackWrong)

/-- 'shalelaw09.LayerReads': WHATEVER THE INPUT: true; the input reads as it did. -/
def layerReadsSpec : ChangeSpec := { name := "layerReads", fn := fun _ => fun
  | [d] => { results := [.lit (.bool true)], args := [d] }
  | _ => none }
def layerReadsRow : OpenClaim := { program := "ytdmnpofodechpaagreatdoor", sum := "b2fe318b27c29582a6e22fdcab594d0a84eb21cc5e1a6bae3c8330021697d869", func := "shale/shalelaw09.LayerReads", spec := "layerReads", inPlace := ["internal/bytealg.IndexByteString", "internal/bytealg.IndexString", "internal/abi.NoEscape", "internal/bytealg.MakeNoZero", "internal/bytealg.abigen_runtime_cmpstring", "internal/reflectlite.ValueOf", "(internal/reflectlite.Value).Type", "(internal/reflectlite.Value).IsNil", "internal/reflectlite.TypeOf", "(internal/reflectlite.Value).Elem", "(internal/reflectlite.Value).Set"], unfollowed := true, recurses := true, named := ["unicode/utf8.first", "unicode/utf8.acceptRanges", "internal/bytealg.MaxLen", "errors.errorType"], apart := false, laid := [("unicode/utf8.acceptRanges", laid_unicode_utf8_acceptRanges), ("errors.errorType", laid_errors_errorType), ("unicode/utf8.first", laid_unicode_utf8_first)] }
def LayerReadsSaid : Prop := layerReadsRow.holds Tryz.pinned (OpenSpec.ofChange layerReadsSpec)

/-- ITS FALSE NEIGHBOUR: 'it returns false'. Refute it at one input. -/
def layerReadsWrong : ChangeSpec := { name := "layerReads", fn := fun _ => fun
  | [d] => { results := [.lit (.bool false)], args := [d] }
  | _ => none }
def LayerReadsWrongFalsely : Prop := layerReadsRow.holds Tryz.pinned (OpenSpec.ofChange layerReadsWrong)

/-- 'shalelaw09.LayerGrows': WHATEVER THE INPUT: true; the input reads as it did. -/
def layerGrowsSpec : ChangeSpec := { name := "layerGrows", fn := fun _ => fun
  | [d] => { results := [.lit (.bool true)], args := [d] }
  | _ => none }
def layerGrowsRow : OpenClaim := { program := "ytdmnpofodechpaagreatdoor", sum := "b2fe318b27c29582a6e22fdcab594d0a84eb21cc5e1a6bae3c8330021697d869", func := "shale/shalelaw09.LayerGrows", spec := "layerGrows", inPlace := ["internal/bytealg.IndexByteString", "internal/bytealg.IndexString", "internal/abi.NoEscape", "internal/bytealg.MakeNoZero", "internal/bytealg.abigen_runtime_cmpstring", "internal/reflectlite.ValueOf", "(internal/reflectlite.Value).Type", "(internal/reflectlite.Value).IsNil", "internal/reflectlite.TypeOf", "(internal/reflectlite.Value).Elem", "(internal/reflectlite.Value).Set", "slices.overlaps[shale/api.Entry]"], unfollowed := true, recurses := true, named := ["unicode/utf8.first", "unicode/utf8.acceptRanges", "internal/bytealg.MaxLen", "errors.errorType"], apart := false, laid := [("unicode/utf8.acceptRanges", laid_unicode_utf8_acceptRanges), ("errors.errorType", laid_errors_errorType), ("unicode/utf8.first", laid_unicode_utf8_first)] }
def LayerGrowsSaid : Prop := layerGrowsRow.holds Tryz.pinned (OpenSpec.ofChange layerGrowsSpec)

/-- ITS FALSE NEIGHBOUR: 'it returns false'. Refute it at one input. -/
def layerGrowsWrong : ChangeSpec := { name := "layerGrows", fn := fun _ => fun
  | [d] => { results := [.lit (.bool false)], args := [d] }
  | _ => none }
def LayerGrowsWrongFalsely : Prop := layerGrowsRow.holds Tryz.pinned (OpenSpec.ofChange layerGrowsWrong)

/-- 'shalelaw15.MergePlays': WHATEVER THE INPUT: true; the input reads as it did. -/
def mergePlaysSpec : ChangeSpec := { name := "mergePlays", fn := fun _ => fun
  | [d1, d2, d3] => { results := [.lit (.bool true)], args := [d1, d2, d3] }
  | _ => none }
def mergePlaysRow : OpenClaim := { program := "ytdmnpofodechpaagreatdoor", sum := "b2fe318b27c29582a6e22fdcab594d0a84eb21cc5e1a6bae3c8330021697d869", func := "shale/shalelaw15.MergePlays", spec := "mergePlays", inPlace := ["internal/bytealg.IndexByteString", "internal/bytealg.IndexString", "internal/abi.NoEscape", "internal/bytealg.MakeNoZero", "internal/bytealg.abigen_runtime_cmpstring", "slices.overlaps[shale/api.Entry]", "internal/reflectlite.ValueOf", "(internal/reflectlite.Value).Type", "(internal/reflectlite.Value).IsNil", "internal/reflectlite.TypeOf", "(internal/reflectlite.Value).Elem", "(internal/reflectlite.Value).Set"], unfollowed := true, recurses := true, named := ["unicode/utf8.first", "unicode/utf8.acceptRanges", "internal/bytealg.MaxLen", "errors.errorType"], apart := false, laid := [("unicode/utf8.acceptRanges", laid_unicode_utf8_acceptRanges), ("errors.errorType", laid_errors_errorType), ("unicode/utf8.first", laid_unicode_utf8_first)] }
def MergePlaysSaid : Prop := mergePlaysRow.holds Tryz.pinned (OpenSpec.ofChange mergePlaysSpec)

/-- ITS FALSE NEIGHBOUR: 'it returns false'. Refute it at one input. -/
def mergePlaysWrong : ChangeSpec := { name := "mergePlays", fn := fun _ => fun
  | [d1, d2, d3] => { results := [.lit (.bool false)], args := [d1, d2, d3] }
  | _ => none }
def MergePlaysWrongFalsely : Prop := mergePlaysRow.holds Tryz.pinned (OpenSpec.ofChange mergePlaysWrong)

/-- 'shalelaw09.LayerPuts': WHATEVER THE INPUT: true; the input reads as it did. -/
def layerPutsSpec : ChangeSpec := { name := "layerPuts", fn := fun _ => fun
  | [d1, d2, d3] => { results := [.lit (.bool true)], args := [d1, d2, d3] }
  | _ => none }
def layerPutsRow : OpenClaim := { program := "ytdmnpofodechpaagreatdoor", sum := "b2fe318b27c29582a6e22fdcab594d0a84eb21cc5e1a6bae3c8330021697d869", func := "shale/shalelaw09.LayerPuts", spec := "layerPuts", inPlace := ["internal/bytealg.IndexByteString", "internal/bytealg.IndexString", "internal/abi.NoEscape", "internal/bytealg.MakeNoZero", "internal/bytealg.abigen_runtime_cmpstring", "internal/reflectlite.ValueOf", "(internal/reflectlite.Value).Type", "(internal/reflectlite.Value).IsNil", "internal/reflectlite.TypeOf", "(internal/reflectlite.Value).Elem", "(internal/reflectlite.Value).Set", "slices.overlaps[shale/api.Entry]"], unfollowed := true, recurses := true, named := ["unicode/utf8.first", "unicode/utf8.acceptRanges", "internal/bytealg.MaxLen", "errors.errorType"], apart := false, laid := [("unicode/utf8.acceptRanges", laid_unicode_utf8_acceptRanges), ("errors.errorType", laid_errors_errorType), ("unicode/utf8.first", laid_unicode_utf8_first)] }
def LayerPutsSaid : Prop := layerPutsRow.holds Tryz.pinned (OpenSpec.ofChange layerPutsSpec)

/-- ITS FALSE NEIGHBOUR: 'it returns false'. Refute it at one input. -/
def layerPutsWrong : ChangeSpec := { name := "layerPuts", fn := fun _ => fun
  | [d1, d2, d3] => { results := [.lit (.bool false)], args := [d1, d2, d3] }
  | _ => none }
def LayerPutsWrongFalsely : Prop := layerPutsRow.holds Tryz.pinned (OpenSpec.ofChange layerPutsWrong)

/-- 'shalelaw16.StepOnes': WHATEVER THE INPUT: true; the input reads as it did. -/
def stepOnesSpec : ChangeSpec := { name := "stepOnes", fn := fun _ => fun
  | [d1, d2, d3] => { results := [.lit (.bool true)], args := [d1, d2, d3] }
  | _ => none }
def stepOnesRow : OpenClaim := { program := "ytdmnpofodechpaagreatdoor", sum := "b2fe318b27c29582a6e22fdcab594d0a84eb21cc5e1a6bae3c8330021697d869", func := "shale/shalelaw16.StepOnes", spec := "stepOnes", inPlace := ["internal/bytealg.IndexByteString", "internal/bytealg.IndexString", "internal/abi.NoEscape", "internal/bytealg.MakeNoZero", "internal/bytealg.abigen_runtime_cmpstring", "slices.overlaps[shale/api.Entry]", "internal/reflectlite.ValueOf", "(internal/reflectlite.Value).Type", "(internal/reflectlite.Value).IsNil", "internal/reflectlite.TypeOf", "(internal/reflectlite.Value).Elem", "(internal/reflectlite.Value).Set"], unfollowed := true, recurses := true, named := ["unicode/utf8.first", "unicode/utf8.acceptRanges", "internal/bytealg.MaxLen", "errors.errorType"], apart := false, laid := [("unicode/utf8.acceptRanges", laid_unicode_utf8_acceptRanges), ("errors.errorType", laid_errors_errorType), ("unicode/utf8.first", laid_unicode_utf8_first)] }
def StepOnesSaid : Prop := stepOnesRow.holds Tryz.pinned (OpenSpec.ofChange stepOnesSpec)

/-- ITS FALSE NEIGHBOUR: 'it returns false'. Refute it at one input. -/
def stepOnesWrong : ChangeSpec := { name := "stepOnes", fn := fun _ => fun
  | [d1, d2, d3] => { results := [.lit (.bool false)], args := [d1, d2, d3] }
  | _ => none }
def StepOnesWrongFalsely : Prop := stepOnesRow.holds Tryz.pinned (OpenSpec.ofChange stepOnesWrong)

/-- 'shalelaw16.StepMany': WHATEVER THE INPUT: true; the input reads as it did. -/
def stepManySpec : ChangeSpec := { name := "stepMany", fn := fun _ => fun
  | [d1, d2, d3, d4] => { results := [.lit (.bool true)], args := [d1, d2, d3, d4] }
  | _ => none }
def stepManyRow : OpenClaim := { program := "ytdmnpofodechpaagreatdoor", sum := "b2fe318b27c29582a6e22fdcab594d0a84eb21cc5e1a6bae3c8330021697d869", func := "shale/shalelaw16.StepMany", spec := "stepMany", inPlace := ["internal/bytealg.IndexByteString", "internal/bytealg.IndexString", "internal/abi.NoEscape", "internal/bytealg.MakeNoZero", "internal/bytealg.abigen_runtime_cmpstring", "slices.overlaps[shale/api.Entry]", "internal/reflectlite.ValueOf", "(internal/reflectlite.Value).Type", "(internal/reflectlite.Value).IsNil", "internal/reflectlite.TypeOf", "(internal/reflectlite.Value).Elem", "(internal/reflectlite.Value).Set"], unfollowed := true, recurses := true, named := ["unicode/utf8.first", "unicode/utf8.acceptRanges", "internal/bytealg.MaxLen", "errors.errorType"], apart := false, laid := [("unicode/utf8.acceptRanges", laid_unicode_utf8_acceptRanges), ("errors.errorType", laid_errors_errorType), ("unicode/utf8.first", laid_unicode_utf8_first)] }
def StepManySaid : Prop := stepManyRow.holds Tryz.pinned (OpenSpec.ofChange stepManySpec)

/-- ITS FALSE NEIGHBOUR: 'it returns false'. Refute it at one input. -/
def stepManyWrong : ChangeSpec := { name := "stepMany", fn := fun _ => fun
  | [d1, d2, d3, d4] => { results := [.lit (.bool false)], args := [d1, d2, d3, d4] }
  | _ => none }
def StepManyWrongFalsely : Prop := stepManyRow.holds Tryz.pinned (OpenSpec.ofChange stepManyWrong)

/-- 'shalelaw09.LayerPlays': WHATEVER THE INPUT: true; the input reads as it did. -/
def layerPlaysSpec : ChangeSpec := { name := "layerPlays", fn := fun _ => fun
  | [d1, d2, d3] => { results := [.lit (.bool true)], args := [d1, d2, d3] }
  | _ => none }
def layerPlaysRow : OpenClaim := { program := "ytdmnpofodechpaagreatdoor", sum := "b2fe318b27c29582a6e22fdcab594d0a84eb21cc5e1a6bae3c8330021697d869", func := "shale/shalelaw09.LayerPlays", spec := "layerPlays", inPlace := ["internal/bytealg.IndexByteString", "internal/bytealg.IndexString", "internal/abi.NoEscape", "internal/bytealg.MakeNoZero", "internal/bytealg.abigen_runtime_cmpstring", "internal/reflectlite.ValueOf", "(internal/reflectlite.Value).Type", "(internal/reflectlite.Value).IsNil", "internal/reflectlite.TypeOf", "(internal/reflectlite.Value).Elem", "(internal/reflectlite.Value).Set", "slices.overlaps[shale/api.Entry]"], unfollowed := true, recurses := true, named := ["unicode/utf8.first", "unicode/utf8.acceptRanges", "internal/bytealg.MaxLen", "errors.errorType"], apart := false, laid := [("unicode/utf8.acceptRanges", laid_unicode_utf8_acceptRanges), ("errors.errorType", laid_errors_errorType), ("unicode/utf8.first", laid_unicode_utf8_first)] }
def LayerPlaysSaid : Prop := layerPlaysRow.holds Tryz.pinned (OpenSpec.ofChange layerPlaysSpec)

/-- ITS FALSE NEIGHBOUR: 'it returns false'. Refute it at one input. -/
def layerPlaysWrong : ChangeSpec := { name := "layerPlays", fn := fun _ => fun
  | [d1, d2, d3] => { results := [.lit (.bool false)], args := [d1, d2, d3] }
  | _ => none }
def LayerPlaysWrongFalsely : Prop := layerPlaysRow.holds Tryz.pinned (OpenSpec.ofChange layerPlaysWrong)

/-- 'shalelaw16.StepKeeps': WHATEVER THE INPUT: true; the input reads as it did. -/
def stepKeepsSpec : ChangeSpec := { name := "stepKeeps", fn := fun _ => fun
  | [d1, d2, d3] => { results := [.lit (.bool true)], args := [d1, d2, d3] }
  | _ => none }
def stepKeepsRow : OpenClaim := { program := "ytdmnpofodechpaagreatdoor", sum := "b2fe318b27c29582a6e22fdcab594d0a84eb21cc5e1a6bae3c8330021697d869", func := "shale/shalelaw16.StepKeeps", spec := "stepKeeps", inPlace := ["internal/bytealg.IndexByteString", "internal/bytealg.IndexString", "internal/abi.NoEscape", "internal/bytealg.MakeNoZero", "internal/bytealg.abigen_runtime_cmpstring", "slices.overlaps[shale/api.Entry]", "internal/reflectlite.ValueOf", "(internal/reflectlite.Value).Type", "(internal/reflectlite.Value).IsNil", "internal/reflectlite.TypeOf", "(internal/reflectlite.Value).Elem", "(internal/reflectlite.Value).Set"], unfollowed := true, recurses := true, named := ["unicode/utf8.first", "unicode/utf8.acceptRanges", "internal/bytealg.MaxLen", "errors.errorType"], apart := false, laid := [("unicode/utf8.acceptRanges", laid_unicode_utf8_acceptRanges), ("errors.errorType", laid_errors_errorType), ("unicode/utf8.first", laid_unicode_utf8_first)] }
def StepKeepsSaid : Prop := stepKeepsRow.holds Tryz.pinned (OpenSpec.ofChange stepKeepsSpec)

/-- ITS FALSE NEIGHBOUR: 'it returns false'. Refute it at one input. -/
def stepKeepsWrong : ChangeSpec := { name := "stepKeeps", fn := fun _ => fun
  | [d1, d2, d3] => { results := [.lit (.bool false)], args := [d1, d2, d3] }
  | _ => none }
def StepKeepsWrongFalsely : Prop := stepKeepsRow.holds Tryz.pinned (OpenSpec.ofChange stepKeepsWrong)

/-- 'shalelaw16.StepAlike': WHATEVER THE INPUT: true; the input reads as it did. -/
def stepAlikeSpec : ChangeSpec := { name := "stepAlike", fn := fun _ => fun
  | [d1, d2, d3, d4] => { results := [.lit (.bool true)], args := [d1, d2, d3, d4] }
  | _ => none }
def stepAlikeRow : OpenClaim := { program := "ytdmnpofodechpaagreatdoor", sum := "b2fe318b27c29582a6e22fdcab594d0a84eb21cc5e1a6bae3c8330021697d869", func := "shale/shalelaw16.StepAlike", spec := "stepAlike", inPlace := ["internal/bytealg.IndexByteString", "internal/bytealg.IndexString", "internal/abi.NoEscape", "internal/bytealg.MakeNoZero", "internal/bytealg.abigen_runtime_cmpstring", "slices.overlaps[shale/api.Entry]", "internal/reflectlite.ValueOf", "(internal/reflectlite.Value).Type", "(internal/reflectlite.Value).IsNil", "internal/reflectlite.TypeOf", "(internal/reflectlite.Value).Elem", "(internal/reflectlite.Value).Set"], unfollowed := true, recurses := true, named := ["unicode/utf8.first", "unicode/utf8.acceptRanges", "internal/bytealg.MaxLen", "errors.errorType"], apart := false, laid := [("unicode/utf8.acceptRanges", laid_unicode_utf8_acceptRanges), ("errors.errorType", laid_errors_errorType), ("unicode/utf8.first", laid_unicode_utf8_first)] }
def StepAlikeSaid : Prop := stepAlikeRow.holds Tryz.pinned (OpenSpec.ofChange stepAlikeSpec)

/-- ITS FALSE NEIGHBOUR: 'it returns false'. Refute it at one input. -/
def stepAlikeWrong : ChangeSpec := { name := "stepAlike", fn := fun _ => fun
  | [d1, d2, d3, d4] => { results := [.lit (.bool false)], args := [d1, d2, d3, d4] }
  | _ => none }
def StepAlikeWrongFalsely : Prop := stepAlikeRow.holds Tryz.pinned (OpenSpec.ofChange stepAlikeWrong)

/-- 'shalelaw15.MergeThree': WHATEVER THE INPUT: true; the input reads as it did. -/
def mergeThreeSpec : ChangeSpec := { name := "mergeThree", fn := fun _ => fun
  | [d1, d2, d3, d4] => { results := [.lit (.bool true)], args := [d1, d2, d3, d4] }
  | _ => none }
def mergeThreeRow : OpenClaim := { program := "ytdmnpofodechpaagreatdoor", sum := "b2fe318b27c29582a6e22fdcab594d0a84eb21cc5e1a6bae3c8330021697d869", func := "shale/shalelaw15.MergeThree", spec := "mergeThree", inPlace := ["internal/bytealg.IndexByteString", "internal/bytealg.IndexString", "internal/abi.NoEscape", "internal/bytealg.MakeNoZero", "internal/bytealg.abigen_runtime_cmpstring", "slices.overlaps[shale/api.Entry]", "internal/reflectlite.ValueOf", "(internal/reflectlite.Value).Type", "(internal/reflectlite.Value).IsNil", "internal/reflectlite.TypeOf", "(internal/reflectlite.Value).Elem", "(internal/reflectlite.Value).Set"], unfollowed := true, recurses := true, named := ["unicode/utf8.first", "unicode/utf8.acceptRanges", "internal/bytealg.MaxLen", "errors.errorType"], apart := false, laid := [("unicode/utf8.acceptRanges", laid_unicode_utf8_acceptRanges), ("errors.errorType", laid_errors_errorType), ("unicode/utf8.first", laid_unicode_utf8_first)] }
def MergeThreeSaid : Prop := mergeThreeRow.holds Tryz.pinned (OpenSpec.ofChange mergeThreeSpec)

/-- ITS FALSE NEIGHBOUR: 'it returns false'. Refute it at one input. -/
def mergeThreeWrong : ChangeSpec := { name := "mergeThree", fn := fun _ => fun
  | [d1, d2, d3, d4] => { results := [.lit (.bool false)], args := [d1, d2, d3, d4] }
  | _ => none }
def MergeThreeWrongFalsely : Prop := mergeThreeRow.holds Tryz.pinned (OpenSpec.ofChange mergeThreeWrong)

/-- 'shalelaw15.MergeSame': WHATEVER THE INPUT: true; the input reads as it did. -/
def mergeSameSpec : ChangeSpec := { name := "mergeSame", fn := fun _ => fun
  | [d1, d2] => { results := [.lit (.bool true)], args := [d1, d2] }
  | _ => none }
def mergeSameRow : OpenClaim := { program := "ytdmnpofodechpaagreatdoor", sum := "b2fe318b27c29582a6e22fdcab594d0a84eb21cc5e1a6bae3c8330021697d869", func := "shale/shalelaw15.MergeSame", spec := "mergeSame", inPlace := ["internal/bytealg.IndexByteString", "internal/bytealg.IndexString", "internal/abi.NoEscape", "internal/bytealg.MakeNoZero", "internal/bytealg.abigen_runtime_cmpstring", "slices.overlaps[shale/api.Entry]", "internal/reflectlite.ValueOf", "(internal/reflectlite.Value).Type", "(internal/reflectlite.Value).IsNil", "internal/reflectlite.TypeOf", "(internal/reflectlite.Value).Elem", "(internal/reflectlite.Value).Set"], unfollowed := true, recurses := true, named := ["unicode/utf8.first", "unicode/utf8.acceptRanges", "internal/bytealg.MaxLen", "errors.errorType"], apart := false, laid := [("unicode/utf8.acceptRanges", laid_unicode_utf8_acceptRanges), ("errors.errorType", laid_errors_errorType), ("unicode/utf8.first", laid_unicode_utf8_first)] }
def MergeSameSaid : Prop := mergeSameRow.holds Tryz.pinned (OpenSpec.ofChange mergeSameSpec)

/-- ITS FALSE NEIGHBOUR: 'it returns false'. Refute it at one input. -/
def mergeSameWrong : ChangeSpec := { name := "mergeSame", fn := fun _ => fun
  | [d1, d2] => { results := [.lit (.bool false)], args := [d1, d2] }
  | _ => none }
def MergeSameWrongFalsely : Prop := mergeSameRow.holds Tryz.pinned (OpenSpec.ofChange mergeSameWrong)

/-- 'shalelaw12.LookAll': WHATEVER THE INPUT: true; the input reads as it did. -/
def lookAllSpec : ChangeSpec := { name := "lookAll", fn := fun _ => fun
  | [d] => { results := [.lit (.bool true)], args := [d] }
  | _ => none }
def lookAllRow : OpenClaim := { program := "ytdmnpofodechpaagreatdoor", sum := "b2fe318b27c29582a6e22fdcab594d0a84eb21cc5e1a6bae3c8330021697d869", func := "shale/shalelaw12.LookAll", spec := "lookAll", inPlace := ["internal/bytealg.IndexByteString", "internal/bytealg.IndexString", "internal/abi.NoEscape", "internal/bytealg.MakeNoZero", "internal/bytealg.abigen_runtime_cmpstring", "internal/reflectlite.ValueOf", "(internal/reflectlite.Value).Type", "(internal/reflectlite.Value).IsNil", "internal/reflectlite.TypeOf", "(internal/reflectlite.Value).Elem", "(internal/reflectlite.Value).Set", "slices.overlaps[shale/api.Entry]"], unfollowed := true, recurses := true, named := ["unicode/utf8.first", "unicode/utf8.acceptRanges", "internal/bytealg.MaxLen", "errors.errorType"], apart := false, laid := [("unicode/utf8.acceptRanges", laid_unicode_utf8_acceptRanges), ("errors.errorType", laid_errors_errorType), ("unicode/utf8.first", laid_unicode_utf8_first)] }
def LookAllSaid : Prop := lookAllRow.holds Tryz.pinned (OpenSpec.ofChange lookAllSpec)

/-- ITS FALSE NEIGHBOUR: 'it returns false'. Refute it at one input. -/
def lookAllWrong : ChangeSpec := { name := "lookAll", fn := fun _ => fun
  | [d] => { results := [.lit (.bool false)], args := [d] }
  | _ => none }
def LookAllWrongFalsely : Prop := lookAllRow.holds Tryz.pinned (OpenSpec.ofChange lookAllWrong)

/-- 'shalelaw16.StepShows': WHATEVER THE INPUT: true; the input reads as it did. -/
def stepShowsSpec : ChangeSpec := { name := "stepShows", fn := fun _ => fun
  | [d1, d2, d3] => { results := [.lit (.bool true)], args := [d1, d2, d3] }
  | _ => none }
def stepShowsRow : OpenClaim := { program := "ytdmnpofodechpaagreatdoor", sum := "b2fe318b27c29582a6e22fdcab594d0a84eb21cc5e1a6bae3c8330021697d869", func := "shale/shalelaw16.StepShows", spec := "stepShows", inPlace := ["internal/bytealg.IndexByteString", "internal/bytealg.IndexString", "internal/abi.NoEscape", "internal/bytealg.MakeNoZero", "internal/bytealg.abigen_runtime_cmpstring", "slices.overlaps[shale/api.Entry]", "internal/reflectlite.ValueOf", "(internal/reflectlite.Value).Type", "(internal/reflectlite.Value).IsNil", "internal/reflectlite.TypeOf", "(internal/reflectlite.Value).Elem", "(internal/reflectlite.Value).Set"], unfollowed := true, recurses := true, named := ["unicode/utf8.first", "unicode/utf8.acceptRanges", "internal/bytealg.MaxLen", "errors.errorType"], apart := false, laid := [("unicode/utf8.acceptRanges", laid_unicode_utf8_acceptRanges), ("errors.errorType", laid_errors_errorType), ("unicode/utf8.first", laid_unicode_utf8_first)] }
def StepShowsSaid : Prop := stepShowsRow.holds Tryz.pinned (OpenSpec.ofChange stepShowsSpec)

/-- ITS FALSE NEIGHBOUR: 'it returns false'. Refute it at one input. -/
def stepShowsWrong : ChangeSpec := { name := "stepShows", fn := fun _ => fun
  | [d1, d2, d3] => { results := [.lit (.bool false)], args := [d1, d2, d3] }
  | _ => none }
def StepShowsWrongFalsely : Prop := stepShowsRow.holds Tryz.pinned (OpenSpec.ofChange stepShowsWrong)

/-- 'shalelaw15.MergeShows': WHATEVER THE INPUT: true; the input reads as it did. -/
def mergeShowsSpec : ChangeSpec := { name := "mergeShows", fn := fun _ => fun
  | [d1, d2, d3, d4, d5] => { results := [.lit (.bool true)], args := [d1, d2, d3, d4, d5] }
  | _ => none }
def mergeShowsRow : OpenClaim := { program := "ytdmnpofodechpaagreatdoor", sum := "b2fe318b27c29582a6e22fdcab594d0a84eb21cc5e1a6bae3c8330021697d869", func := "shale/shalelaw15.MergeShows", spec := "mergeShows", inPlace := ["internal/bytealg.IndexByteString", "internal/bytealg.IndexString", "internal/abi.NoEscape", "internal/bytealg.MakeNoZero", "internal/bytealg.abigen_runtime_cmpstring", "slices.overlaps[shale/api.Entry]", "internal/reflectlite.ValueOf", "(internal/reflectlite.Value).Type", "(internal/reflectlite.Value).IsNil", "internal/reflectlite.TypeOf", "(internal/reflectlite.Value).Elem", "(internal/reflectlite.Value).Set"], unfollowed := true, recurses := true, named := ["unicode/utf8.first", "unicode/utf8.acceptRanges", "internal/bytealg.MaxLen", "errors.errorType"], apart := false, laid := [("unicode/utf8.acceptRanges", laid_unicode_utf8_acceptRanges), ("errors.errorType", laid_errors_errorType), ("unicode/utf8.first", laid_unicode_utf8_first)] }
def MergeShowsSaid : Prop := mergeShowsRow.holds Tryz.pinned (OpenSpec.ofChange mergeShowsSpec)

/-- ITS FALSE NEIGHBOUR: 'it returns false'. Refute it at one input. -/
def mergeShowsWrong : ChangeSpec := { name := "mergeShows", fn := fun _ => fun
  | [d1, d2, d3, d4, d5] => { results := [.lit (.bool false)], args := [d1, d2, d3, d4, d5] }
  | _ => none }
def MergeShowsWrongFalsely : Prop := mergeShowsRow.holds Tryz.pinned (OpenSpec.ofChange mergeShowsWrong)

/- THE SECOND FORM. 'bulk': how many values and letters a reading holds, each counted each time it is reached (what is shared counts as often as it is met; a slice's spare places count too). A statement '..UptoSaid' is the law's where the arguments, and the package variables that the reading takes, are together of bulk at most 1048576: NARROWER than '..Said'. Prove '..Said' where nothing that the law and all that it calls make is longer than what came in: it says more and counts as full. Else prove '..UptoSaid'. A law counts once. -/
mutual
def uptoBulk {H : Type} : DataW H → Nat
  | .lit (.string bytes) => bytes.length + 1
  | .lit _ => 1
  | .nil => 1
  | .ptr d => uptoBulk d + 1
  | .slice elems spare => uptoBulkAll elems + uptoBulkAll spare + 1
  | .agg parts => uptoBulkAll parts + 1
  | .iface _ d => uptoBulk d + 1
  | .map entries => uptoBulkEntries entries + 1
  | .held _ => 1
def uptoBulkAll {H : Type} : List (DataW H) → Nat
  | [] => 0
  | d :: r => uptoBulk d + uptoBulkAll r
def uptoBulkEntries {H : Type} : List (Lit × DataW H) → Nat
  | [] => 0
  | x :: r => uptoBulkEntry x + uptoBulkEntries r
def uptoBulkEntry {H : Type} : Lit × DataW H → Nat
  | (.string bytes, d) => bytes.length + uptoBulk d + 1
  | (_, d) => uptoBulk d + 1
 end
def uptoSmall : (H : Type) → List (DataW H) → Bool := fun _ ds => decide (uptoBulkAll ds ≤ 1048576)
def OpenSpec.upto (s : _root_.Go.ChangeSpec) : _root_.Go.OpenSpec := { _root_.Go.OpenSpec.ofChange s with cond := some uptoSmall }

/-- 'shalelaw09.LayerBelows', WHERE WHAT IT READS IS OF BULK AT MOST 1048576: true; the input reads as it did. -/
def layerBelowsUptoRow : OpenClaim := { program := "ytdmnpofodechpaagreatdoor", sum := "b2fe318b27c29582a6e22fdcab594d0a84eb21cc5e1a6bae3c8330021697d869", func := "shale/shalelaw09.LayerBelows", spec := "layerBelows", inPlace := ["internal/bytealg.IndexByteString", "internal/bytealg.IndexString", "internal/abi.NoEscape", "internal/bytealg.MakeNoZero", "internal/bytealg.abigen_runtime_cmpstring", "internal/reflectlite.ValueOf", "(internal/reflectlite.Value).Type", "(internal/reflectlite.Value).IsNil", "internal/reflectlite.TypeOf", "(internal/reflectlite.Value).Elem", "(internal/reflectlite.Value).Set"], unfollowed := true, recurses := true, named := ["unicode/utf8.first", "unicode/utf8.acceptRanges", "internal/bytealg.MaxLen", "errors.errorType"], apart := false, laid := [("unicode/utf8.acceptRanges", laid_unicode_utf8_acceptRanges), ("errors.errorType", laid_errors_errorType), ("unicode/utf8.first", laid_unicode_utf8_first)], narrowed := true }
def LayerBelowsUptoSaid : Prop := layerBelowsUptoRow.holds Tryz.pinned (OpenSpec.upto layerBelowsSpec)

/-- 'shalelaw12.LookWhite', WHERE WHAT IT READS IS OF BULK AT MOST 1048576: true; the input reads as it did. -/
def lookWhiteUptoRow : OpenClaim := { program := "ytdmnpofodechpaagreatdoor", sum := "b2fe318b27c29582a6e22fdcab594d0a84eb21cc5e1a6bae3c8330021697d869", func := "shale/shalelaw12.LookWhite", spec := "lookWhite", inPlace := ["internal/bytealg.IndexByteString", "internal/bytealg.IndexString", "internal/abi.NoEscape", "internal/bytealg.MakeNoZero", "internal/bytealg.abigen_runtime_cmpstring", "internal/reflectlite.ValueOf", "(internal/reflectlite.Value).Type", "(internal/reflectlite.Value).IsNil", "internal/reflectlite.TypeOf", "(internal/reflectlite.Value).Elem", "(internal/reflectlite.Value).Set"], unfollowed := true, recurses := true, named := ["unicode/utf8.first", "unicode/utf8.acceptRanges", "internal/bytealg.MaxLen", "errors.errorType"], apart := false, laid := [("unicode/utf8.acceptRanges", laid_unicode_utf8_acceptRanges), ("errors.errorType", laid_errors_errorType), ("unicode/utf8.first", laid_unicode_utf8_first)], narrowed := true }
def LookWhiteUptoSaid : Prop := lookWhiteUptoRow.holds Tryz.pinned (OpenSpec.upto lookWhiteSpec)

/-- 'shalelaw12.LookFolds', WHERE WHAT IT READS IS OF BULK AT MOST 1048576: true; the input reads as it did. -/
def lookFoldsUptoRow : OpenClaim := { program := "ytdmnpofodechpaagreatdoor", sum := "b2fe318b27c29582a6e22fdcab594d0a84eb21cc5e1a6bae3c8330021697d869", func := "shale/shalelaw12.LookFolds", spec := "lookFolds", inPlace := ["internal/bytealg.IndexByteString", "internal/bytealg.IndexString", "internal/abi.NoEscape", "internal/bytealg.MakeNoZero", "internal/bytealg.abigen_runtime_cmpstring", "internal/reflectlite.ValueOf", "(internal/reflectlite.Value).Type", "(internal/reflectlite.Value).IsNil", "internal/reflectlite.TypeOf", "(internal/reflectlite.Value).Elem", "(internal/reflectlite.Value).Set"], unfollowed := true, recurses := true, named := ["unicode/utf8.first", "unicode/utf8.acceptRanges", "internal/bytealg.MaxLen", "errors.errorType"], apart := false, laid := [("unicode/utf8.acceptRanges", laid_unicode_utf8_acceptRanges), ("errors.errorType", laid_errors_errorType), ("unicode/utf8.first", laid_unicode_utf8_first)], narrowed := true }
def LookFoldsUptoSaid : Prop := lookFoldsUptoRow.holds Tryz.pinned (OpenSpec.upto lookFoldsSpec)

/-- 'shalelaw10.FoldPlays', WHERE WHAT IT READS IS OF BULK AT MOST 1048576: true; the input reads as it did. -/
def foldPlaysUptoRow : OpenClaim := { program := "ytdmnpofodechpaagreatdoor", sum := "b2fe318b27c29582a6e22fdcab594d0a84eb21cc5e1a6bae3c8330021697d869", func := "shale/shalelaw10.FoldPlays", spec := "foldPlays", inPlace := ["internal/bytealg.IndexByteString", "internal/bytealg.IndexString", "internal/abi.NoEscape", "internal/bytealg.MakeNoZero", "internal/bytealg.abigen_runtime_cmpstring", "slices.overlaps[shale/api.Entry]"], unfollowed := true, recurses := true, named := ["unicode/utf8.first", "unicode/utf8.acceptRanges", "internal/bytealg.MaxLen"], apart := false, laid := [("unicode/utf8.acceptRanges", laid_unicode_utf8_acceptRanges), ("unicode/utf8.first", laid_unicode_utf8_first)], narrowed := true }
def FoldPlaysUptoSaid : Prop := foldPlaysUptoRow.holds Tryz.pinned (OpenSpec.upto foldPlaysSpec)

/-- 'shalelaw12.LookFloors', WHERE WHAT IT READS IS OF BULK AT MOST 1048576: true; the input reads as it did. -/
def lookFloorsUptoRow : OpenClaim := { program := "ytdmnpofodechpaagreatdoor", sum := "b2fe318b27c29582a6e22fdcab594d0a84eb21cc5e1a6bae3c8330021697d869", func := "shale/shalelaw12.LookFloors", spec := "lookFloors", inPlace := ["internal/bytealg.IndexByteString", "internal/bytealg.IndexString", "internal/abi.NoEscape", "internal/bytealg.MakeNoZero", "internal/bytealg.abigen_runtime_cmpstring", "internal/reflectlite.ValueOf", "(internal/reflectlite.Value).Type", "(internal/reflectlite.Value).IsNil", "internal/reflectlite.TypeOf", "(internal/reflectlite.Value).Elem", "(internal/reflectlite.Value).Set"], unfollowed := true, recurses := true, named := ["unicode/utf8.first", "unicode/utf8.acceptRanges", "internal/bytealg.MaxLen", "errors.errorType"], apart := false, laid := [("unicode/utf8.acceptRanges", laid_unicode_utf8_acceptRanges), ("errors.errorType", laid_errors_errorType), ("unicode/utf8.first", laid_unicode_utf8_first)], narrowed := true }
def LookFloorsUptoSaid : Prop := lookFloorsUptoRow.holds Tryz.pinned (OpenSpec.upto lookFloorsSpec)

/-- 'shalelaw09.LayerBack', WHERE WHAT IT READS IS OF BULK AT MOST 1048576: true; the input reads as it did. -/
def layerBackUptoRow : OpenClaim := { program := "ytdmnpofodechpaagreatdoor", sum := "b2fe318b27c29582a6e22fdcab594d0a84eb21cc5e1a6bae3c8330021697d869", func := "shale/shalelaw09.LayerBack", spec := "layerBack", inPlace := ["internal/bytealg.IndexByteString", "internal/bytealg.IndexString", "internal/abi.NoEscape", "internal/bytealg.MakeNoZero", "internal/bytealg.abigen_runtime_cmpstring", "internal/reflectlite.ValueOf", "(internal/reflectlite.Value).Type", "(internal/reflectlite.Value).IsNil", "internal/reflectlite.TypeOf", "(internal/reflectlite.Value).Elem", "(internal/reflectlite.Value).Set"], unfollowed := true, recurses := true, named := ["unicode/utf8.first", "unicode/utf8.acceptRanges", "internal/bytealg.MaxLen", "errors.errorType"], apart := false, laid := [("unicode/utf8.acceptRanges", laid_unicode_utf8_acceptRanges), ("errors.errorType", laid_errors_errorType), ("unicode/utf8.first", laid_unicode_utf8_first)], narrowed := true }
def LayerBackUptoSaid : Prop := layerBackUptoRow.holds Tryz.pinned (OpenSpec.upto layerBackSpec)

/-- 'shalelaw09.LayerReads', WHERE WHAT IT READS IS OF BULK AT MOST 1048576: true; the input reads as it did. -/
def layerReadsUptoRow : OpenClaim := { program := "ytdmnpofodechpaagreatdoor", sum := "b2fe318b27c29582a6e22fdcab594d0a84eb21cc5e1a6bae3c8330021697d869", func := "shale/shalelaw09.LayerReads", spec := "layerReads", inPlace := ["internal/bytealg.IndexByteString", "internal/bytealg.IndexString", "internal/abi.NoEscape", "internal/bytealg.MakeNoZero", "internal/bytealg.abigen_runtime_cmpstring", "internal/reflectlite.ValueOf", "(internal/reflectlite.Value).Type", "(internal/reflectlite.Value).IsNil", "internal/reflectlite.TypeOf", "(internal/reflectlite.Value).Elem", "(internal/reflectlite.Value).Set"], unfollowed := true, recurses := true, named := ["unicode/utf8.first", "unicode/utf8.acceptRanges", "internal/bytealg.MaxLen", "errors.errorType"], apart := false, laid := [("unicode/utf8.acceptRanges", laid_unicode_utf8_acceptRanges), ("errors.errorType", laid_errors_errorType), ("unicode/utf8.first", laid_unicode_utf8_first)], narrowed := true }
def LayerReadsUptoSaid : Prop := layerReadsUptoRow.holds Tryz.pinned (OpenSpec.upto layerReadsSpec)

/-- 'shalelaw09.LayerGrows', WHERE WHAT IT READS IS OF BULK AT MOST 1048576: true; the input reads as it did. -/
def layerGrowsUptoRow : OpenClaim := { program := "ytdmnpofodechpaagreatdoor", sum := "b2fe318b27c29582a6e22fdcab594d0a84eb21cc5e1a6bae3c8330021697d869", func := "shale/shalelaw09.LayerGrows", spec := "layerGrows", inPlace := ["internal/bytealg.IndexByteString", "internal/bytealg.IndexString", "internal/abi.NoEscape", "internal/bytealg.MakeNoZero", "internal/bytealg.abigen_runtime_cmpstring", "internal/reflectlite.ValueOf", "(internal/reflectlite.Value).Type", "(internal/reflectlite.Value).IsNil", "internal/reflectlite.TypeOf", "(internal/reflectlite.Value).Elem", "(internal/reflectlite.Value).Set", "slices.overlaps[shale/api.Entry]"], unfollowed := true, recurses := true, named := ["unicode/utf8.first", "unicode/utf8.acceptRanges", "internal/bytealg.MaxLen", "errors.errorType"], apart := false, laid := [("unicode/utf8.acceptRanges", laid_unicode_utf8_acceptRanges), ("errors.errorType", laid_errors_errorType), ("unicode/utf8.first", laid_unicode_utf8_first)], narrowed := true }
def LayerGrowsUptoSaid : Prop := layerGrowsUptoRow.holds Tryz.pinned (OpenSpec.upto layerGrowsSpec)

/-- 'shalelaw15.MergePlays', WHERE WHAT IT READS IS OF BULK AT MOST 1048576: true; the input reads as it did. -/
def mergePlaysUptoRow : OpenClaim := { program := "ytdmnpofodechpaagreatdoor", sum := "b2fe318b27c29582a6e22fdcab594d0a84eb21cc5e1a6bae3c8330021697d869", func := "shale/shalelaw15.MergePlays", spec := "mergePlays", inPlace := ["internal/bytealg.IndexByteString", "internal/bytealg.IndexString", "internal/abi.NoEscape", "internal/bytealg.MakeNoZero", "internal/bytealg.abigen_runtime_cmpstring", "slices.overlaps[shale/api.Entry]", "internal/reflectlite.ValueOf", "(internal/reflectlite.Value).Type", "(internal/reflectlite.Value).IsNil", "internal/reflectlite.TypeOf", "(internal/reflectlite.Value).Elem", "(internal/reflectlite.Value).Set"], unfollowed := true, recurses := true, named := ["unicode/utf8.first", "unicode/utf8.acceptRanges", "internal/bytealg.MaxLen", "errors.errorType"], apart := false, laid := [("unicode/utf8.acceptRanges", laid_unicode_utf8_acceptRanges), ("errors.errorType", laid_errors_errorType), ("unicode/utf8.first", laid_unicode_utf8_first)], narrowed := true }
def MergePlaysUptoSaid : Prop := mergePlaysUptoRow.holds Tryz.pinned (OpenSpec.upto mergePlaysSpec)

/-- 'shalelaw09.LayerPuts', WHERE WHAT IT READS IS OF BULK AT MOST 1048576: true; the input reads as it did. -/
def layerPutsUptoRow : OpenClaim := { program := "ytdmnpofodechpaagreatdoor", sum := "b2fe318b27c29582a6e22fdcab594d0a84eb21cc5e1a6bae3c8330021697d869", func := "shale/shalelaw09.LayerPuts", spec := "layerPuts", inPlace := ["internal/bytealg.IndexByteString", "internal/bytealg.IndexString", "internal/abi.NoEscape", "internal/bytealg.MakeNoZero", "internal/bytealg.abigen_runtime_cmpstring", "internal/reflectlite.ValueOf", "(internal/reflectlite.Value).Type", "(internal/reflectlite.Value).IsNil", "internal/reflectlite.TypeOf", "(internal/reflectlite.Value).Elem", "(internal/reflectlite.Value).Set", "slices.overlaps[shale/api.Entry]"], unfollowed := true, recurses := true, named := ["unicode/utf8.first", "unicode/utf8.acceptRanges", "internal/bytealg.MaxLen", "errors.errorType"], apart := false, laid := [("unicode/utf8.acceptRanges", laid_unicode_utf8_acceptRanges), ("errors.errorType", laid_errors_errorType), ("unicode/utf8.first", laid_unicode_utf8_first)], narrowed := true }
def LayerPutsUptoSaid : Prop := layerPutsUptoRow.holds Tryz.pinned (OpenSpec.upto layerPutsSpec)

/-- 'shalelaw16.StepOnes', WHERE WHAT IT READS IS OF BULK AT MOST 1048576: true; the input reads as it did. -/
def stepOnesUptoRow : OpenClaim := { program := "ytdmnpofodechpaagreatdoor", sum := "b2fe318b27c29582a6e22fdcab594d0a84eb21cc5e1a6bae3c8330021697d869", func := "shale/shalelaw16.StepOnes", spec := "stepOnes", inPlace := ["internal/bytealg.IndexByteString", "internal/bytealg.IndexString", "internal/abi.NoEscape", "internal/bytealg.MakeNoZero", "internal/bytealg.abigen_runtime_cmpstring", "slices.overlaps[shale/api.Entry]", "internal/reflectlite.ValueOf", "(internal/reflectlite.Value).Type", "(internal/reflectlite.Value).IsNil", "internal/reflectlite.TypeOf", "(internal/reflectlite.Value).Elem", "(internal/reflectlite.Value).Set"], unfollowed := true, recurses := true, named := ["unicode/utf8.first", "unicode/utf8.acceptRanges", "internal/bytealg.MaxLen", "errors.errorType"], apart := false, laid := [("unicode/utf8.acceptRanges", laid_unicode_utf8_acceptRanges), ("errors.errorType", laid_errors_errorType), ("unicode/utf8.first", laid_unicode_utf8_first)], narrowed := true }
def StepOnesUptoSaid : Prop := stepOnesUptoRow.holds Tryz.pinned (OpenSpec.upto stepOnesSpec)

/-- 'shalelaw16.StepMany', WHERE WHAT IT READS IS OF BULK AT MOST 1048576: true; the input reads as it did. -/
def stepManyUptoRow : OpenClaim := { program := "ytdmnpofodechpaagreatdoor", sum := "b2fe318b27c29582a6e22fdcab594d0a84eb21cc5e1a6bae3c8330021697d869", func := "shale/shalelaw16.StepMany", spec := "stepMany", inPlace := ["internal/bytealg.IndexByteString", "internal/bytealg.IndexString", "internal/abi.NoEscape", "internal/bytealg.MakeNoZero", "internal/bytealg.abigen_runtime_cmpstring", "slices.overlaps[shale/api.Entry]", "internal/reflectlite.ValueOf", "(internal/reflectlite.Value).Type", "(internal/reflectlite.Value).IsNil", "internal/reflectlite.TypeOf", "(internal/reflectlite.Value).Elem", "(internal/reflectlite.Value).Set"], unfollowed := true, recurses := true, named := ["unicode/utf8.first", "unicode/utf8.acceptRanges", "internal/bytealg.MaxLen", "errors.errorType"], apart := false, laid := [("unicode/utf8.acceptRanges", laid_unicode_utf8_acceptRanges), ("errors.errorType", laid_errors_errorType), ("unicode/utf8.first", laid_unicode_utf8_first)], narrowed := true }
def StepManyUptoSaid : Prop := stepManyUptoRow.holds Tryz.pinned (OpenSpec.upto stepManySpec)

/-- 'shalelaw09.LayerPlays', WHERE WHAT IT READS IS OF BULK AT MOST 1048576: true; the input reads as it did. -/
def layerPlaysUptoRow : OpenClaim := { program := "ytdmnpofodechpaagreatdoor", sum := "b2fe318b27c29582a6e22fdcab594d0a84eb21cc5e1a6bae3c8330021697d869", func := "shale/shalelaw09.LayerPlays", spec := "layerPlays", inPlace := ["internal/bytealg.IndexByteString", "internal/bytealg.IndexString", "internal/abi.NoEscape", "internal/bytealg.MakeNoZero", "internal/bytealg.abigen_runtime_cmpstring", "internal/reflectlite.ValueOf", "(internal/reflectlite.Value).Type", "(internal/reflectlite.Value).IsNil", "internal/reflectlite.TypeOf", "(internal/reflectlite.Value).Elem", "(internal/reflectlite.Value).Set", "slices.overlaps[shale/api.Entry]"], unfollowed := true, recurses := true, named := ["unicode/utf8.first", "unicode/utf8.acceptRanges", "internal/bytealg.MaxLen", "errors.errorType"], apart := false, laid := [("unicode/utf8.acceptRanges", laid_unicode_utf8_acceptRanges), ("errors.errorType", laid_errors_errorType), ("unicode/utf8.first", laid_unicode_utf8_first)], narrowed := true }
def LayerPlaysUptoSaid : Prop := layerPlaysUptoRow.holds Tryz.pinned (OpenSpec.upto layerPlaysSpec)

/-- 'shalelaw16.StepKeeps', WHERE WHAT IT READS IS OF BULK AT MOST 1048576: true; the input reads as it did. -/
def stepKeepsUptoRow : OpenClaim := { program := "ytdmnpofodechpaagreatdoor", sum := "b2fe318b27c29582a6e22fdcab594d0a84eb21cc5e1a6bae3c8330021697d869", func := "shale/shalelaw16.StepKeeps", spec := "stepKeeps", inPlace := ["internal/bytealg.IndexByteString", "internal/bytealg.IndexString", "internal/abi.NoEscape", "internal/bytealg.MakeNoZero", "internal/bytealg.abigen_runtime_cmpstring", "slices.overlaps[shale/api.Entry]", "internal/reflectlite.ValueOf", "(internal/reflectlite.Value).Type", "(internal/reflectlite.Value).IsNil", "internal/reflectlite.TypeOf", "(internal/reflectlite.Value).Elem", "(internal/reflectlite.Value).Set"], unfollowed := true, recurses := true, named := ["unicode/utf8.first", "unicode/utf8.acceptRanges", "internal/bytealg.MaxLen", "errors.errorType"], apart := false, laid := [("unicode/utf8.acceptRanges", laid_unicode_utf8_acceptRanges), ("errors.errorType", laid_errors_errorType), ("unicode/utf8.first", laid_unicode_utf8_first)], narrowed := true }
def StepKeepsUptoSaid : Prop := stepKeepsUptoRow.holds Tryz.pinned (OpenSpec.upto stepKeepsSpec)

/-- 'shalelaw16.StepAlike', WHERE WHAT IT READS IS OF BULK AT MOST 1048576: true; the input reads as it did. -/
def stepAlikeUptoRow : OpenClaim := { program := "ytdmnpofodechpaagreatdoor", sum := "b2fe318b27c29582a6e22fdcab594d0a84eb21cc5e1a6bae3c8330021697d869", func := "shale/shalelaw16.StepAlike", spec := "stepAlike", inPlace := ["internal/bytealg.IndexByteString", "internal/bytealg.IndexString", "internal/abi.NoEscape", "internal/bytealg.MakeNoZero", "internal/bytealg.abigen_runtime_cmpstring", "slices.overlaps[shale/api.Entry]", "internal/reflectlite.ValueOf", "(internal/reflectlite.Value).Type", "(internal/reflectlite.Value).IsNil", "internal/reflectlite.TypeOf", "(internal/reflectlite.Value).Elem", "(internal/reflectlite.Value).Set"], unfollowed := true, recurses := true, named := ["unicode/utf8.first", "unicode/utf8.acceptRanges", "internal/bytealg.MaxLen", "errors.errorType"], apart := false, laid := [("unicode/utf8.acceptRanges", laid_unicode_utf8_acceptRanges), ("errors.errorType", laid_errors_errorType), ("unicode/utf8.first", laid_unicode_utf8_first)], narrowed := true }
def StepAlikeUptoSaid : Prop := stepAlikeUptoRow.holds Tryz.pinned (OpenSpec.upto stepAlikeSpec)

/-- 'shalelaw15.MergeThree', WHERE WHAT IT READS IS OF BULK AT MOST 1048576: true; the input reads as it did. -/
def mergeThreeUptoRow : OpenClaim := { program := "ytdmnpofodechpaagreatdoor", sum := "b2fe318b27c29582a6e22fdcab594d0a84eb21cc5e1a6bae3c8330021697d869", func := "shale/shalelaw15.MergeThree", spec := "mergeThree", inPlace := ["internal/bytealg.IndexByteString", "internal/bytealg.IndexString", "internal/abi.NoEscape", "internal/bytealg.MakeNoZero", "internal/bytealg.abigen_runtime_cmpstring", "slices.overlaps[shale/api.Entry]", "internal/reflectlite.ValueOf", "(internal/reflectlite.Value).Type", "(internal/reflectlite.Value).IsNil", "internal/reflectlite.TypeOf", "(internal/reflectlite.Value).Elem", "(internal/reflectlite.Value).Set"], unfollowed := true, recurses := true, named := ["unicode/utf8.first", "unicode/utf8.acceptRanges", "internal/bytealg.MaxLen", "errors.errorType"], apart := false, laid := [("unicode/utf8.acceptRanges", laid_unicode_utf8_acceptRanges), ("errors.errorType", laid_errors_errorType), ("unicode/utf8.first", laid_unicode_utf8_first)], narrowed := true }
def MergeThreeUptoSaid : Prop := mergeThreeUptoRow.holds Tryz.pinned (OpenSpec.upto mergeThreeSpec)

/-- 'shalelaw15.MergeSame', WHERE WHAT IT READS IS OF BULK AT MOST 1048576: true; the input reads as it did. -/
def mergeSameUptoRow : OpenClaim := { program := "ytdmnpofodechpaagreatdoor", sum := "b2fe318b27c29582a6e22fdcab594d0a84eb21cc5e1a6bae3c8330021697d869", func := "shale/shalelaw15.MergeSame", spec := "mergeSame", inPlace := ["internal/bytealg.IndexByteString", "internal/bytealg.IndexString", "internal/abi.NoEscape", "internal/bytealg.MakeNoZero", "internal/bytealg.abigen_runtime_cmpstring", "slices.overlaps[shale/api.Entry]", "internal/reflectlite.ValueOf", "(internal/reflectlite.Value).Type", "(internal/reflectlite.Value).IsNil", "internal/reflectlite.TypeOf", "(internal/reflectlite.Value).Elem", "(internal/reflectlite.Value).Set"], unfollowed := true, recurses := true, named := ["unicode/utf8.first", "unicode/utf8.acceptRanges", "internal/bytealg.MaxLen", "errors.errorType"], apart := false, laid := [("unicode/utf8.acceptRanges", laid_unicode_utf8_acceptRanges), ("errors.errorType", laid_errors_errorType), ("unicode/utf8.first", laid_unicode_utf8_first)], narrowed := true }
def MergeSameUptoSaid : Prop := mergeSameUptoRow.holds Tryz.pinned (OpenSpec.upto mergeSameSpec)

/-- 'shalelaw12.LookAll', WHERE WHAT IT READS IS OF BULK AT MOST 1048576: true; the input reads as it did. -/
def lookAllUptoRow : OpenClaim := { program := "ytdmnpofodechpaagreatdoor", sum := "b2fe318b27c29582a6e22fdcab594d0a84eb21cc5e1a6bae3c8330021697d869", func := "shale/shalelaw12.LookAll", spec := "lookAll", inPlace := ["internal/bytealg.IndexByteString", "internal/bytealg.IndexString", "internal/abi.NoEscape", "internal/bytealg.MakeNoZero", "internal/bytealg.abigen_runtime_cmpstring", "internal/reflectlite.ValueOf", "(internal/reflectlite.Value).Type", "(internal/reflectlite.Value).IsNil", "internal/reflectlite.TypeOf", "(internal/reflectlite.Value).Elem", "(internal/reflectlite.Value).Set", "slices.overlaps[shale/api.Entry]"], unfollowed := true, recurses := true, named := ["unicode/utf8.first", "unicode/utf8.acceptRanges", "internal/bytealg.MaxLen", "errors.errorType"], apart := false, laid := [("unicode/utf8.acceptRanges", laid_unicode_utf8_acceptRanges), ("errors.errorType", laid_errors_errorType), ("unicode/utf8.first", laid_unicode_utf8_first)], narrowed := true }
def LookAllUptoSaid : Prop := lookAllUptoRow.holds Tryz.pinned (OpenSpec.upto lookAllSpec)

/-- 'shalelaw16.StepShows', WHERE WHAT IT READS IS OF BULK AT MOST 1048576: true; the input reads as it did. -/
def stepShowsUptoRow : OpenClaim := { program := "ytdmnpofodechpaagreatdoor", sum := "b2fe318b27c29582a6e22fdcab594d0a84eb21cc5e1a6bae3c8330021697d869", func := "shale/shalelaw16.StepShows", spec := "stepShows", inPlace := ["internal/bytealg.IndexByteString", "internal/bytealg.IndexString", "internal/abi.NoEscape", "internal/bytealg.MakeNoZero", "internal/bytealg.abigen_runtime_cmpstring", "slices.overlaps[shale/api.Entry]", "internal/reflectlite.ValueOf", "(internal/reflectlite.Value).Type", "(internal/reflectlite.Value).IsNil", "internal/reflectlite.TypeOf", "(internal/reflectlite.Value).Elem", "(internal/reflectlite.Value).Set"], unfollowed := true, recurses := true, named := ["unicode/utf8.first", "unicode/utf8.acceptRanges", "internal/bytealg.MaxLen", "errors.errorType"], apart := false, laid := [("unicode/utf8.acceptRanges", laid_unicode_utf8_acceptRanges), ("errors.errorType", laid_errors_errorType), ("unicode/utf8.first", laid_unicode_utf8_first)], narrowed := true }
def StepShowsUptoSaid : Prop := stepShowsUptoRow.holds Tryz.pinned (OpenSpec.upto stepShowsSpec)

/-- 'shalelaw15.MergeShows', WHERE WHAT IT READS IS OF BULK AT MOST 1048576: true; the input reads as it did. -/
def mergeShowsUptoRow : OpenClaim := { program := "ytdmnpofodechpaagreatdoor", sum := "b2fe318b27c29582a6e22fdcab594d0a84eb21cc5e1a6bae3c8330021697d869", func := "shale/shalelaw15.MergeShows", spec := "mergeShows", inPlace := ["internal/bytealg.IndexByteString", "internal/bytealg.IndexString", "internal/abi.NoEscape", "internal/bytealg.MakeNoZero", "internal/bytealg.abigen_runtime_cmpstring", "slices.overlaps[shale/api.Entry]", "internal/reflectlite.ValueOf", "(internal/reflectlite.Value).Type", "(internal/reflectlite.Value).IsNil", "internal/reflectlite.TypeOf", "(internal/reflectlite.Value).Elem", "(internal/reflectlite.Value).Set"], unfollowed := true, recurses := true, named := ["unicode/utf8.first", "unicode/utf8.acceptRanges", "internal/bytealg.MaxLen", "errors.errorType"], apart := false, laid := [("unicode/utf8.acceptRanges", laid_unicode_utf8_acceptRanges), ("errors.errorType", laid_errors_errorType), ("unicode/utf8.first", laid_unicode_utf8_first)], narrowed := true }
def MergeShowsUptoSaid : Prop := mergeShowsUptoRow.holds Tryz.pinned (OpenSpec.upto mergeShowsSpec)

end Rows
end Go.Proofs.YtdmnpofodechpaaGreatDoor
