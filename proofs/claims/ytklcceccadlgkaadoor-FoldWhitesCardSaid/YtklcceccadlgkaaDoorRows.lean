/-
  NARROWER THAN 'FOR EVERY INPUT', by the rows' own cells (each row's printed sentence says how): EntryKinds: laid · EntryUnlike: laid · EntryOrder: laid · PathBack: laid · PathNames: laid · PathParents: laid · PathPlays: laid · PathOrder: laid · EntryBack: laid · EntryOnly: laid · EntryPlays: laid · LookTop: laid · FoldTrees: laid · FoldSteps: laid · FoldWhites: laid · FoldEmpty: laid · FoldAlone: laid · LookParents: laid.
  DERIVED. THE GIVEN ROWS OF THIS SEAT. 18 by the template 'for every input the law returns true; each argument reads behind the call as it read before'; 0 by the template 'total and deterministic' (their statements: YtklcceccadlgkaaDoorTotals.lean).
  GIVEN WITH THE SEED: the statements are not yours to turn. If you find one false, say at which input.
  Laid BY PROGRAM, IN A SANDBOX (cutbox-rows.mjs): the forced cells as the released guide's own fill.sh prints them over the translation 79d9bcd4c6f5c484… (all of the seat's roots in one cut). By AI agents, Wed Nov 11 2026. No macro, syntax, notation, axiom, sorry.
-/
import Derived.Test.YtklcceccadlgkaaDoorChecked
import GoSem.PinnedTables
import GoSem.Claim
import GoSem.ClaimJoined
import GoSem.ClaimMapViews
import Derived.JoinedTies
import Derived.KernelRfl
namespace Go.Proofs.YtklcceccadlgkaaDoor
/- THE CELL 'sum', in the pinned program and in every row, IS THE sha256 OF THE DUMP (.gsa) THAT YtklcceccadlgkaaDoorProg.lean LOADS. Nothing in Lean hashes anything: it is a label: what it is worth is what the hold of that sum in a sandbox is worth. -/
noncomputable def Tryd.pinned : Pinned := { name := "ytklcceccadlgkaadoor", sum := "79d9bcd4c6f5c484e3d2f79b90c5f655bfa2648925171e44b3f4ea545160a6e0", checked := Tryd.checked }
namespace Rows
def none {H : Type} : Left H := { results := [], args := [] }

/- WHAT THE LISTED PACKAGE-LEVEL VARIABLES READ AS WHEN THE CALL BEGINS. Each datum BY PROGRAM (the guide's laid-datum.mjs) off the statement by which the dump's own 'gosem.cut.vars' lays the variable. In a bare row this is a premise. The card (YtklcceccadlgkaaDoorCards.lean) ties it to the program's text. -/
def laid_unicode_utf8_acceptRanges {H : Type} : DataW H := .agg [.agg [.lit (.int .u8 128), .lit (.int .u8 191)], .agg [.lit (.int .u8 160), .lit (.int .u8 191)], .agg [.lit (.int .u8 128), .lit (.int .u8 159)], .agg [.lit (.int .u8 144), .lit (.int .u8 191)], .agg [.lit (.int .u8 128), .lit (.int .u8 143)], .agg [.lit (.int .u8 0), .lit (.int .u8 0)], .agg [.lit (.int .u8 0), .lit (.int .u8 0)], .agg [.lit (.int .u8 0), .lit (.int .u8 0)], .agg [.lit (.int .u8 0), .lit (.int .u8 0)], .agg [.lit (.int .u8 0), .lit (.int .u8 0)], .agg [.lit (.int .u8 0), .lit (.int .u8 0)], .agg [.lit (.int .u8 0), .lit (.int .u8 0)], .agg [.lit (.int .u8 0), .lit (.int .u8 0)], .agg [.lit (.int .u8 0), .lit (.int .u8 0)], .agg [.lit (.int .u8 0), .lit (.int .u8 0)], .agg [.lit (.int .u8 0), .lit (.int .u8 0)]]
def laid_errors_errorType {H : Type} : DataW H := .iface "internal/reflectlite.rtype" (.agg [.ptr (.lit (.string [101, 114, 114, 111, 114]))])
/-- One of Go's own tables, pinned by name: the form's constant. -/
def laid_unicode_utf8_first : DataW Unit := Go.Pinned.utf8First

/-- 'shalelaw08.EntryKinds': WHATEVER THE INPUT: true; the input reads as it did. -/
def entryKindsSpec : ChangeSpec := { name := "entryKinds", fn := fun _ => fun
  | [d1, d2] => { results := [.lit (.bool true)], args := [d1, d2] }
  | _ => none }
def entryKindsRow : OpenClaim := { program := "ytklcceccadlgkaadoor", sum := "79d9bcd4c6f5c484e3d2f79b90c5f655bfa2648925171e44b3f4ea545160a6e0", func := "shale/shalelaw08.EntryKinds", spec := "entryKinds", inPlace := ["internal/bytealg.IndexByteString", "internal/bytealg.IndexString", "internal/reflectlite.ValueOf", "(internal/reflectlite.Value).Type", "(internal/reflectlite.Value).IsNil", "internal/reflectlite.TypeOf", "(internal/reflectlite.Value).Elem", "(internal/reflectlite.Value).Set"], unfollowed := true, recurses := true, named := ["unicode/utf8.first", "unicode/utf8.acceptRanges", "internal/bytealg.MaxLen", "errors.errorType"], apart := false, laid := [("unicode/utf8.acceptRanges", laid_unicode_utf8_acceptRanges), ("errors.errorType", laid_errors_errorType), ("unicode/utf8.first", laid_unicode_utf8_first)] }
def EntryKindsSaid : Prop := entryKindsRow.holds Tryd.pinned (OpenSpec.ofChange entryKindsSpec)

/-- ITS FALSE NEIGHBOUR: 'it returns false'. Refute it at one input. -/
def entryKindsWrong : ChangeSpec := { name := "entryKinds", fn := fun _ => fun
  | [d1, d2] => { results := [.lit (.bool false)], args := [d1, d2] }
  | _ => none }
def EntryKindsWrongFalsely : Prop := entryKindsRow.holds Tryd.pinned (OpenSpec.ofChange entryKindsWrong)

/-- 'shalelaw08.EntryUnlike': WHATEVER THE INPUT: true; the input reads as it did. -/
def entryUnlikeSpec : ChangeSpec := { name := "entryUnlike", fn := fun _ => fun
  | [d1, d2] => { results := [.lit (.bool true)], args := [d1, d2] }
  | _ => none }
def entryUnlikeRow : OpenClaim := { program := "ytklcceccadlgkaadoor", sum := "79d9bcd4c6f5c484e3d2f79b90c5f655bfa2648925171e44b3f4ea545160a6e0", func := "shale/shalelaw08.EntryUnlike", spec := "entryUnlike", inPlace := ["internal/bytealg.IndexByteString", "internal/bytealg.IndexString", "internal/reflectlite.ValueOf", "(internal/reflectlite.Value).Type", "(internal/reflectlite.Value).IsNil", "internal/reflectlite.TypeOf", "(internal/reflectlite.Value).Elem", "(internal/reflectlite.Value).Set"], unfollowed := true, recurses := true, named := ["unicode/utf8.first", "unicode/utf8.acceptRanges", "internal/bytealg.MaxLen", "errors.errorType"], apart := false, laid := [("unicode/utf8.acceptRanges", laid_unicode_utf8_acceptRanges), ("errors.errorType", laid_errors_errorType), ("unicode/utf8.first", laid_unicode_utf8_first)] }
def EntryUnlikeSaid : Prop := entryUnlikeRow.holds Tryd.pinned (OpenSpec.ofChange entryUnlikeSpec)

/-- ITS FALSE NEIGHBOUR: 'it returns false'. Refute it at one input. -/
def entryUnlikeWrong : ChangeSpec := { name := "entryUnlike", fn := fun _ => fun
  | [d1, d2] => { results := [.lit (.bool false)], args := [d1, d2] }
  | _ => none }
def EntryUnlikeWrongFalsely : Prop := entryUnlikeRow.holds Tryd.pinned (OpenSpec.ofChange entryUnlikeWrong)

/-- 'shalelaw08.EntryOrder': WHATEVER THE INPUT: true; the input reads as it did. -/
def entryOrderSpec : ChangeSpec := { name := "entryOrder", fn := fun _ => fun
  | [d1, d2] => { results := [.lit (.bool true)], args := [d1, d2] }
  | _ => none }
def entryOrderRow : OpenClaim := { program := "ytklcceccadlgkaadoor", sum := "79d9bcd4c6f5c484e3d2f79b90c5f655bfa2648925171e44b3f4ea545160a6e0", func := "shale/shalelaw08.EntryOrder", spec := "entryOrder", inPlace := ["internal/bytealg.IndexByteString", "internal/bytealg.IndexString", "internal/reflectlite.ValueOf", "(internal/reflectlite.Value).Type", "(internal/reflectlite.Value).IsNil", "internal/reflectlite.TypeOf", "(internal/reflectlite.Value).Elem", "(internal/reflectlite.Value).Set"], unfollowed := true, recurses := true, named := ["unicode/utf8.first", "unicode/utf8.acceptRanges", "internal/bytealg.MaxLen", "errors.errorType"], apart := false, laid := [("unicode/utf8.acceptRanges", laid_unicode_utf8_acceptRanges), ("errors.errorType", laid_errors_errorType), ("unicode/utf8.first", laid_unicode_utf8_first)] }
def EntryOrderSaid : Prop := entryOrderRow.holds Tryd.pinned (OpenSpec.ofChange entryOrderSpec)

/-- ITS FALSE NEIGHBOUR: 'it returns false'. Refute it at one input. -/
def entryOrderWrong : ChangeSpec := { name := "entryOrder", fn := fun _ => fun
  | [d1, d2] => { results := [.lit (.bool false)], args := [d1, d2] }
  | _ => none }
def EntryOrderWrongFalsely : Prop := entryOrderRow.holds Tryd.pinned (OpenSpec.ofChange entryOrderWrong)

/-- 'shalelaw03.PathBack': WHATEVER THE INPUT: true; the input reads as it did. -/
def pathBackSpec : ChangeSpec := { name := "pathBack", fn := fun _ => fun
  | [d1, d2] => { results := [.lit (.bool true)], args := [d1, d2] }
  | _ => none }
def pathBackRow : OpenClaim := { program := "ytklcceccadlgkaadoor", sum := "79d9bcd4c6f5c484e3d2f79b90c5f655bfa2648925171e44b3f4ea545160a6e0", func := "shale/shalelaw03.PathBack", spec := "pathBack", inPlace := ["internal/bytealg.IndexByteString", "internal/bytealg.IndexString", "internal/abi.NoEscape", "internal/bytealg.MakeNoZero", "internal/reflectlite.ValueOf", "(internal/reflectlite.Value).Type", "(internal/reflectlite.Value).IsNil", "internal/reflectlite.TypeOf", "(internal/reflectlite.Value).Elem", "(internal/reflectlite.Value).Set"], unfollowed := true, recurses := true, named := ["unicode/utf8.first", "unicode/utf8.acceptRanges", "internal/bytealg.MaxLen", "errors.errorType"], apart := false, laid := [("unicode/utf8.acceptRanges", laid_unicode_utf8_acceptRanges), ("errors.errorType", laid_errors_errorType), ("unicode/utf8.first", laid_unicode_utf8_first)] }
def PathBackSaid : Prop := pathBackRow.holds Tryd.pinned (OpenSpec.ofChange pathBackSpec)

/-- ITS FALSE NEIGHBOUR: 'it returns false'. Refute it at one input. -/
def pathBackWrong : ChangeSpec := { name := "pathBack", fn := fun _ => fun
  | [d1, d2] => { results := [.lit (.bool false)], args := [d1, d2] }
  | _ => none }
def PathBackWrongFalsely : Prop := pathBackRow.holds Tryd.pinned (OpenSpec.ofChange pathBackWrong)

/-- 'shalelaw03.PathNames': WHATEVER THE INPUT: true; the input reads as it did. -/
def pathNamesSpec : ChangeSpec := { name := "pathNames", fn := fun _ => fun
  | [d] => { results := [.lit (.bool true)], args := [d] }
  | _ => none }
def pathNamesRow : OpenClaim := { program := "ytklcceccadlgkaadoor", sum := "79d9bcd4c6f5c484e3d2f79b90c5f655bfa2648925171e44b3f4ea545160a6e0", func := "shale/shalelaw03.PathNames", spec := "pathNames", inPlace := ["internal/bytealg.IndexByteString", "internal/bytealg.IndexString", "internal/abi.NoEscape", "internal/bytealg.MakeNoZero", "internal/reflectlite.ValueOf", "(internal/reflectlite.Value).Type", "(internal/reflectlite.Value).IsNil", "internal/reflectlite.TypeOf", "(internal/reflectlite.Value).Elem", "(internal/reflectlite.Value).Set"], unfollowed := true, recurses := true, named := ["unicode/utf8.first", "unicode/utf8.acceptRanges", "internal/bytealg.MaxLen", "errors.errorType"], apart := false, laid := [("unicode/utf8.acceptRanges", laid_unicode_utf8_acceptRanges), ("errors.errorType", laid_errors_errorType), ("unicode/utf8.first", laid_unicode_utf8_first)] }
def PathNamesSaid : Prop := pathNamesRow.holds Tryd.pinned (OpenSpec.ofChange pathNamesSpec)

/-- ITS FALSE NEIGHBOUR: 'it returns false'. Refute it at one input. -/
def pathNamesWrong : ChangeSpec := { name := "pathNames", fn := fun _ => fun
  | [d] => { results := [.lit (.bool false)], args := [d] }
  | _ => none }
def PathNamesWrongFalsely : Prop := pathNamesRow.holds Tryd.pinned (OpenSpec.ofChange pathNamesWrong)

/-- 'shalelaw03.PathParents': WHATEVER THE INPUT: true; the input reads as it did. -/
def pathParentsSpec : ChangeSpec := { name := "pathParents", fn := fun _ => fun
  | [d1, d2] => { results := [.lit (.bool true)], args := [d1, d2] }
  | _ => none }
def pathParentsRow : OpenClaim := { program := "ytklcceccadlgkaadoor", sum := "79d9bcd4c6f5c484e3d2f79b90c5f655bfa2648925171e44b3f4ea545160a6e0", func := "shale/shalelaw03.PathParents", spec := "pathParents", inPlace := ["internal/bytealg.IndexByteString", "internal/bytealg.IndexString", "internal/abi.NoEscape", "internal/bytealg.MakeNoZero", "internal/reflectlite.ValueOf", "(internal/reflectlite.Value).Type", "(internal/reflectlite.Value).IsNil", "internal/reflectlite.TypeOf", "(internal/reflectlite.Value).Elem", "(internal/reflectlite.Value).Set"], unfollowed := true, recurses := true, named := ["unicode/utf8.first", "unicode/utf8.acceptRanges", "internal/bytealg.MaxLen", "errors.errorType"], apart := false, laid := [("unicode/utf8.acceptRanges", laid_unicode_utf8_acceptRanges), ("errors.errorType", laid_errors_errorType), ("unicode/utf8.first", laid_unicode_utf8_first)] }
def PathParentsSaid : Prop := pathParentsRow.holds Tryd.pinned (OpenSpec.ofChange pathParentsSpec)

/-- ITS FALSE NEIGHBOUR: 'it returns false'. Refute it at one input. -/
def pathParentsWrong : ChangeSpec := { name := "pathParents", fn := fun _ => fun
  | [d1, d2] => { results := [.lit (.bool false)], args := [d1, d2] }
  | _ => none }
def PathParentsWrongFalsely : Prop := pathParentsRow.holds Tryd.pinned (OpenSpec.ofChange pathParentsWrong)

/-- 'shalelaw03.PathPlays': WHATEVER THE INPUT: true; the input reads as it did. -/
def pathPlaysSpec : ChangeSpec := { name := "pathPlays", fn := fun _ => fun
  | [d1, d2] => { results := [.lit (.bool true)], args := [d1, d2] }
  | _ => none }
def pathPlaysRow : OpenClaim := { program := "ytklcceccadlgkaadoor", sum := "79d9bcd4c6f5c484e3d2f79b90c5f655bfa2648925171e44b3f4ea545160a6e0", func := "shale/shalelaw03.PathPlays", spec := "pathPlays", inPlace := ["internal/bytealg.IndexByteString", "internal/bytealg.IndexString", "internal/abi.NoEscape", "internal/bytealg.MakeNoZero", "internal/reflectlite.ValueOf", "(internal/reflectlite.Value).Type", "(internal/reflectlite.Value).IsNil", "internal/reflectlite.TypeOf", "(internal/reflectlite.Value).Elem", "(internal/reflectlite.Value).Set"], unfollowed := true, recurses := true, named := ["unicode/utf8.first", "unicode/utf8.acceptRanges", "internal/bytealg.MaxLen", "errors.errorType"], apart := false, laid := [("unicode/utf8.acceptRanges", laid_unicode_utf8_acceptRanges), ("errors.errorType", laid_errors_errorType), ("unicode/utf8.first", laid_unicode_utf8_first)] }
def PathPlaysSaid : Prop := pathPlaysRow.holds Tryd.pinned (OpenSpec.ofChange pathPlaysSpec)

/-- ITS FALSE NEIGHBOUR: 'it returns false'. Refute it at one input. -/
def pathPlaysWrong : ChangeSpec := { name := "pathPlays", fn := fun _ => fun
  | [d1, d2] => { results := [.lit (.bool false)], args := [d1, d2] }
  | _ => none }
def PathPlaysWrongFalsely : Prop := pathPlaysRow.holds Tryd.pinned (OpenSpec.ofChange pathPlaysWrong)

/-- 'shalelaw03.PathOrder': WHATEVER THE INPUT: true; the input reads as it did. -/
def pathOrderSpec : ChangeSpec := { name := "pathOrder", fn := fun _ => fun
  | [d1, d2, d3] => { results := [.lit (.bool true)], args := [d1, d2, d3] }
  | _ => none }
def pathOrderRow : OpenClaim := { program := "ytklcceccadlgkaadoor", sum := "79d9bcd4c6f5c484e3d2f79b90c5f655bfa2648925171e44b3f4ea545160a6e0", func := "shale/shalelaw03.PathOrder", spec := "pathOrder", inPlace := ["internal/bytealg.IndexByteString", "internal/bytealg.IndexString", "internal/abi.NoEscape", "internal/bytealg.MakeNoZero", "internal/reflectlite.ValueOf", "(internal/reflectlite.Value).Type", "(internal/reflectlite.Value).IsNil", "internal/reflectlite.TypeOf", "(internal/reflectlite.Value).Elem", "(internal/reflectlite.Value).Set"], unfollowed := true, recurses := true, named := ["unicode/utf8.first", "unicode/utf8.acceptRanges", "internal/bytealg.MaxLen", "errors.errorType"], apart := false, laid := [("unicode/utf8.acceptRanges", laid_unicode_utf8_acceptRanges), ("errors.errorType", laid_errors_errorType), ("unicode/utf8.first", laid_unicode_utf8_first)] }
def PathOrderSaid : Prop := pathOrderRow.holds Tryd.pinned (OpenSpec.ofChange pathOrderSpec)

/-- ITS FALSE NEIGHBOUR: 'it returns false'. Refute it at one input. -/
def pathOrderWrong : ChangeSpec := { name := "pathOrder", fn := fun _ => fun
  | [d1, d2, d3] => { results := [.lit (.bool false)], args := [d1, d2, d3] }
  | _ => none }
def PathOrderWrongFalsely : Prop := pathOrderRow.holds Tryd.pinned (OpenSpec.ofChange pathOrderWrong)

/-- 'shalelaw08.EntryBack': WHATEVER THE INPUT: true; the input reads as it did. -/
def entryBackSpec : ChangeSpec := { name := "entryBack", fn := fun _ => fun
  | [d1, d2] => { results := [.lit (.bool true)], args := [d1, d2] }
  | _ => none }
def entryBackRow : OpenClaim := { program := "ytklcceccadlgkaadoor", sum := "79d9bcd4c6f5c484e3d2f79b90c5f655bfa2648925171e44b3f4ea545160a6e0", func := "shale/shalelaw08.EntryBack", spec := "entryBack", inPlace := ["internal/bytealg.IndexByteString", "internal/bytealg.IndexString", "internal/reflectlite.ValueOf", "(internal/reflectlite.Value).Type", "(internal/reflectlite.Value).IsNil", "internal/reflectlite.TypeOf", "(internal/reflectlite.Value).Elem", "(internal/reflectlite.Value).Set"], unfollowed := true, recurses := true, named := ["unicode/utf8.first", "unicode/utf8.acceptRanges", "internal/bytealg.MaxLen", "errors.errorType"], apart := false, laid := [("unicode/utf8.acceptRanges", laid_unicode_utf8_acceptRanges), ("errors.errorType", laid_errors_errorType), ("unicode/utf8.first", laid_unicode_utf8_first)] }
def EntryBackSaid : Prop := entryBackRow.holds Tryd.pinned (OpenSpec.ofChange entryBackSpec)

/-- ITS FALSE NEIGHBOUR: 'it returns false'. Refute it at one input. -/
def entryBackWrong : ChangeSpec := { name := "entryBack", fn := fun _ => fun
  | [d1, d2] => { results := [.lit (.bool false)], args := [d1, d2] }
  | _ => none }
def EntryBackWrongFalsely : Prop := entryBackRow.holds Tryd.pinned (OpenSpec.ofChange entryBackWrong)

/-- 'shalelaw08.EntryOnly': WHATEVER THE INPUT: true; the input reads as it did. -/
def entryOnlySpec : ChangeSpec := { name := "entryOnly", fn := fun _ => fun
  | [d] => { results := [.lit (.bool true)], args := [d] }
  | _ => none }
def entryOnlyRow : OpenClaim := { program := "ytklcceccadlgkaadoor", sum := "79d9bcd4c6f5c484e3d2f79b90c5f655bfa2648925171e44b3f4ea545160a6e0", func := "shale/shalelaw08.EntryOnly", spec := "entryOnly", inPlace := ["internal/bytealg.IndexByteString", "internal/bytealg.IndexString", "internal/reflectlite.ValueOf", "(internal/reflectlite.Value).Type", "(internal/reflectlite.Value).IsNil", "internal/reflectlite.TypeOf", "(internal/reflectlite.Value).Elem", "(internal/reflectlite.Value).Set"], unfollowed := true, recurses := true, named := ["unicode/utf8.first", "unicode/utf8.acceptRanges", "internal/bytealg.MaxLen", "errors.errorType"], apart := false, laid := [("unicode/utf8.acceptRanges", laid_unicode_utf8_acceptRanges), ("errors.errorType", laid_errors_errorType), ("unicode/utf8.first", laid_unicode_utf8_first)] }
def EntryOnlySaid : Prop := entryOnlyRow.holds Tryd.pinned (OpenSpec.ofChange entryOnlySpec)

/-- ITS FALSE NEIGHBOUR: 'it returns false'. Refute it at one input. -/
def entryOnlyWrong : ChangeSpec := { name := "entryOnly", fn := fun _ => fun
  | [d] => { results := [.lit (.bool false)], args := [d] }
  | _ => none }
def EntryOnlyWrongFalsely : Prop := entryOnlyRow.holds Tryd.pinned (OpenSpec.ofChange entryOnlyWrong)

/-- 'shalelaw08.EntryPlays': WHATEVER THE INPUT: true; the input reads as it did. -/
def entryPlaysSpec : ChangeSpec := { name := "entryPlays", fn := fun _ => fun
  | [d] => { results := [.lit (.bool true)], args := [d] }
  | _ => none }
def entryPlaysRow : OpenClaim := { program := "ytklcceccadlgkaadoor", sum := "79d9bcd4c6f5c484e3d2f79b90c5f655bfa2648925171e44b3f4ea545160a6e0", func := "shale/shalelaw08.EntryPlays", spec := "entryPlays", inPlace := ["internal/bytealg.IndexByteString", "internal/bytealg.IndexString", "internal/reflectlite.ValueOf", "(internal/reflectlite.Value).Type", "(internal/reflectlite.Value).IsNil", "internal/reflectlite.TypeOf", "(internal/reflectlite.Value).Elem", "(internal/reflectlite.Value).Set"], unfollowed := true, recurses := true, named := ["unicode/utf8.first", "unicode/utf8.acceptRanges", "internal/bytealg.MaxLen", "errors.errorType"], apart := false, laid := [("unicode/utf8.acceptRanges", laid_unicode_utf8_acceptRanges), ("errors.errorType", laid_errors_errorType), ("unicode/utf8.first", laid_unicode_utf8_first)] }
def EntryPlaysSaid : Prop := entryPlaysRow.holds Tryd.pinned (OpenSpec.ofChange entryPlaysSpec)

/-- ITS FALSE NEIGHBOUR: 'it returns false'. Refute it at one input. -/
def entryPlaysWrong : ChangeSpec := { name := "entryPlays", fn := fun _ => fun
  | [d] => { results := [.lit (.bool false)], args := [d] }
  | _ => none }
def EntryPlaysWrongFalsely : Prop := entryPlaysRow.holds Tryd.pinned (OpenSpec.ofChange entryPlaysWrong)

/-- 'shalelaw12.LookTop': WHATEVER THE INPUT: true; the input reads as it did. -/
def lookTopSpec : ChangeSpec := { name := "lookTop", fn := fun _ => fun
  | [d1, d2] => { results := [.lit (.bool true)], args := [d1, d2] }
  | _ => none }
def lookTopRow : OpenClaim := { program := "ytklcceccadlgkaadoor", sum := "79d9bcd4c6f5c484e3d2f79b90c5f655bfa2648925171e44b3f4ea545160a6e0", func := "shale/shalelaw12.LookTop", spec := "lookTop", inPlace := ["internal/bytealg.IndexByteString", "internal/bytealg.IndexString", "internal/abi.NoEscape", "internal/bytealg.MakeNoZero", "internal/bytealg.abigen_runtime_cmpstring", "internal/reflectlite.ValueOf", "(internal/reflectlite.Value).Type", "(internal/reflectlite.Value).IsNil", "internal/reflectlite.TypeOf", "(internal/reflectlite.Value).Elem", "(internal/reflectlite.Value).Set"], unfollowed := true, recurses := true, named := ["unicode/utf8.first", "unicode/utf8.acceptRanges", "internal/bytealg.MaxLen", "errors.errorType"], apart := false, laid := [("unicode/utf8.acceptRanges", laid_unicode_utf8_acceptRanges), ("errors.errorType", laid_errors_errorType), ("unicode/utf8.first", laid_unicode_utf8_first)] }
def LookTopSaid : Prop := lookTopRow.holds Tryd.pinned (OpenSpec.ofChange lookTopSpec)

/-- ITS FALSE NEIGHBOUR: 'it returns false'. Refute it at one input. -/
def lookTopWrong : ChangeSpec := { name := "lookTop", fn := fun _ => fun
  | [d1, d2] => { results := [.lit (.bool false)], args := [d1, d2] }
  | _ => none }
def LookTopWrongFalsely : Prop := lookTopRow.holds Tryd.pinned (OpenSpec.ofChange lookTopWrong)

/-- 'shalelaw10.FoldTrees': WHATEVER THE INPUT: true; the input reads as it did. -/
def foldTreesSpec : ChangeSpec := { name := "foldTrees", fn := fun _ => fun
  | [d1, d2] => { results := [.lit (.bool true)], args := [d1, d2] }
  | _ => none }
def foldTreesRow : OpenClaim := { program := "ytklcceccadlgkaadoor", sum := "79d9bcd4c6f5c484e3d2f79b90c5f655bfa2648925171e44b3f4ea545160a6e0", func := "shale/shalelaw10.FoldTrees", spec := "foldTrees", inPlace := ["internal/bytealg.IndexByteString", "internal/bytealg.IndexString", "internal/abi.NoEscape", "internal/bytealg.MakeNoZero", "internal/bytealg.abigen_runtime_cmpstring", "slices.overlaps[shale/api.Entry]"], unfollowed := true, recurses := true, named := ["unicode/utf8.first", "unicode/utf8.acceptRanges", "internal/bytealg.MaxLen"], apart := false, laid := [("unicode/utf8.acceptRanges", laid_unicode_utf8_acceptRanges), ("unicode/utf8.first", laid_unicode_utf8_first)] }
def FoldTreesSaid : Prop := foldTreesRow.holds Tryd.pinned (OpenSpec.ofChange foldTreesSpec)

/-- ITS FALSE NEIGHBOUR: 'it returns false'. Refute it at one input. -/
def foldTreesWrong : ChangeSpec := { name := "foldTrees", fn := fun _ => fun
  | [d1, d2] => { results := [.lit (.bool false)], args := [d1, d2] }
  | _ => none }
def FoldTreesWrongFalsely : Prop := foldTreesRow.holds Tryd.pinned (OpenSpec.ofChange foldTreesWrong)

/-- 'shalelaw10.FoldSteps': WHATEVER THE INPUT: true; the input reads as it did. -/
def foldStepsSpec : ChangeSpec := { name := "foldSteps", fn := fun _ => fun
  | [d] => { results := [.lit (.bool true)], args := [d] }
  | _ => none }
def foldStepsRow : OpenClaim := { program := "ytklcceccadlgkaadoor", sum := "79d9bcd4c6f5c484e3d2f79b90c5f655bfa2648925171e44b3f4ea545160a6e0", func := "shale/shalelaw10.FoldSteps", spec := "foldSteps", inPlace := ["internal/bytealg.IndexByteString", "internal/bytealg.IndexString", "internal/abi.NoEscape", "internal/bytealg.MakeNoZero", "internal/bytealg.abigen_runtime_cmpstring", "slices.overlaps[shale/api.Entry]"], unfollowed := true, recurses := true, named := ["unicode/utf8.first", "unicode/utf8.acceptRanges", "internal/bytealg.MaxLen"], apart := false, laid := [("unicode/utf8.acceptRanges", laid_unicode_utf8_acceptRanges), ("unicode/utf8.first", laid_unicode_utf8_first)] }
def FoldStepsSaid : Prop := foldStepsRow.holds Tryd.pinned (OpenSpec.ofChange foldStepsSpec)

/-- ITS FALSE NEIGHBOUR: 'it returns false'. Refute it at one input. -/
def foldStepsWrong : ChangeSpec := { name := "foldSteps", fn := fun _ => fun
  | [d] => { results := [.lit (.bool false)], args := [d] }
  | _ => none }
def FoldStepsWrongFalsely : Prop := foldStepsRow.holds Tryd.pinned (OpenSpec.ofChange foldStepsWrong)

/-- 'shalelaw10.FoldWhites': WHATEVER THE INPUT: true; the input reads as it did. -/
def foldWhitesSpec : ChangeSpec := { name := "foldWhites", fn := fun _ => fun
  | [d1, d2] => { results := [.lit (.bool true)], args := [d1, d2] }
  | _ => none }
def foldWhitesRow : OpenClaim := { program := "ytklcceccadlgkaadoor", sum := "79d9bcd4c6f5c484e3d2f79b90c5f655bfa2648925171e44b3f4ea545160a6e0", func := "shale/shalelaw10.FoldWhites", spec := "foldWhites", inPlace := ["internal/bytealg.IndexByteString", "internal/bytealg.IndexString", "internal/abi.NoEscape", "internal/bytealg.MakeNoZero", "internal/bytealg.abigen_runtime_cmpstring", "slices.overlaps[shale/api.Entry]"], unfollowed := true, recurses := true, named := ["unicode/utf8.first", "unicode/utf8.acceptRanges", "internal/bytealg.MaxLen"], apart := false, laid := [("unicode/utf8.acceptRanges", laid_unicode_utf8_acceptRanges), ("unicode/utf8.first", laid_unicode_utf8_first)] }
def FoldWhitesSaid : Prop := foldWhitesRow.holds Tryd.pinned (OpenSpec.ofChange foldWhitesSpec)

/-- ITS FALSE NEIGHBOUR: 'it returns false'. Refute it at one input. -/
def foldWhitesWrong : ChangeSpec := { name := "foldWhites", fn := fun _ => fun
  | [d1, d2] => { results := [.lit (.bool false)], args := [d1, d2] }
  | _ => none }
def FoldWhitesWrongFalsely : Prop := foldWhitesRow.holds Tryd.pinned (OpenSpec.ofChange foldWhitesWrong)

/-- 'shalelaw10.FoldEmpty': WHATEVER THE INPUT: true; the input reads as it did. -/
def foldEmptySpec : ChangeSpec := { name := "foldEmpty", fn := fun _ => fun
  | [d1, d2] => { results := [.lit (.bool true)], args := [d1, d2] }
  | _ => none }
def foldEmptyRow : OpenClaim := { program := "ytklcceccadlgkaadoor", sum := "79d9bcd4c6f5c484e3d2f79b90c5f655bfa2648925171e44b3f4ea545160a6e0", func := "shale/shalelaw10.FoldEmpty", spec := "foldEmpty", inPlace := ["internal/bytealg.IndexByteString", "internal/bytealg.IndexString", "internal/abi.NoEscape", "internal/bytealg.MakeNoZero", "internal/bytealg.abigen_runtime_cmpstring", "slices.overlaps[shale/api.Entry]"], unfollowed := true, recurses := true, named := ["unicode/utf8.first", "unicode/utf8.acceptRanges", "internal/bytealg.MaxLen"], apart := false, laid := [("unicode/utf8.acceptRanges", laid_unicode_utf8_acceptRanges), ("unicode/utf8.first", laid_unicode_utf8_first)] }
def FoldEmptySaid : Prop := foldEmptyRow.holds Tryd.pinned (OpenSpec.ofChange foldEmptySpec)

/-- ITS FALSE NEIGHBOUR: 'it returns false'. Refute it at one input. -/
def foldEmptyWrong : ChangeSpec := { name := "foldEmpty", fn := fun _ => fun
  | [d1, d2] => { results := [.lit (.bool false)], args := [d1, d2] }
  | _ => none }
def FoldEmptyWrongFalsely : Prop := foldEmptyRow.holds Tryd.pinned (OpenSpec.ofChange foldEmptyWrong)

/-- 'shalelaw10.FoldAlone': WHATEVER THE INPUT: true; the input reads as it did. -/
def foldAloneSpec : ChangeSpec := { name := "foldAlone", fn := fun _ => fun
  | [d1, d2, d3] => { results := [.lit (.bool true)], args := [d1, d2, d3] }
  | _ => none }
def foldAloneRow : OpenClaim := { program := "ytklcceccadlgkaadoor", sum := "79d9bcd4c6f5c484e3d2f79b90c5f655bfa2648925171e44b3f4ea545160a6e0", func := "shale/shalelaw10.FoldAlone", spec := "foldAlone", inPlace := ["internal/bytealg.IndexByteString", "internal/bytealg.IndexString", "internal/abi.NoEscape", "internal/bytealg.MakeNoZero", "internal/bytealg.abigen_runtime_cmpstring", "slices.overlaps[shale/api.Entry]"], unfollowed := true, recurses := true, named := ["unicode/utf8.first", "unicode/utf8.acceptRanges", "internal/bytealg.MaxLen"], apart := false, laid := [("unicode/utf8.acceptRanges", laid_unicode_utf8_acceptRanges), ("unicode/utf8.first", laid_unicode_utf8_first)] }
def FoldAloneSaid : Prop := foldAloneRow.holds Tryd.pinned (OpenSpec.ofChange foldAloneSpec)

/-- ITS FALSE NEIGHBOUR: 'it returns false'. Refute it at one input. -/
def foldAloneWrong : ChangeSpec := { name := "foldAlone", fn := fun _ => fun
  | [d1, d2, d3] => { results := [.lit (.bool false)], args := [d1, d2, d3] }
  | _ => none }
def FoldAloneWrongFalsely : Prop := foldAloneRow.holds Tryd.pinned (OpenSpec.ofChange foldAloneWrong)

/-- 'shalelaw12.LookParents': WHATEVER THE INPUT: true; the input reads as it did. -/
def lookParentsSpec : ChangeSpec := { name := "lookParents", fn := fun _ => fun
  | [d1, d2] => { results := [.lit (.bool true)], args := [d1, d2] }
  | _ => none }
def lookParentsRow : OpenClaim := { program := "ytklcceccadlgkaadoor", sum := "79d9bcd4c6f5c484e3d2f79b90c5f655bfa2648925171e44b3f4ea545160a6e0", func := "shale/shalelaw12.LookParents", spec := "lookParents", inPlace := ["internal/bytealg.IndexByteString", "internal/bytealg.IndexString", "internal/abi.NoEscape", "internal/bytealg.MakeNoZero", "internal/bytealg.abigen_runtime_cmpstring", "internal/reflectlite.ValueOf", "(internal/reflectlite.Value).Type", "(internal/reflectlite.Value).IsNil", "internal/reflectlite.TypeOf", "(internal/reflectlite.Value).Elem", "(internal/reflectlite.Value).Set"], unfollowed := true, recurses := true, named := ["unicode/utf8.first", "unicode/utf8.acceptRanges", "internal/bytealg.MaxLen", "errors.errorType"], apart := false, laid := [("unicode/utf8.acceptRanges", laid_unicode_utf8_acceptRanges), ("errors.errorType", laid_errors_errorType), ("unicode/utf8.first", laid_unicode_utf8_first)] }
def LookParentsSaid : Prop := lookParentsRow.holds Tryd.pinned (OpenSpec.ofChange lookParentsSpec)

/-- ITS FALSE NEIGHBOUR: 'it returns false'. Refute it at one input. -/
def lookParentsWrong : ChangeSpec := { name := "lookParents", fn := fun _ => fun
  | [d1, d2] => { results := [.lit (.bool false)], args := [d1, d2] }
  | _ => none }
def LookParentsWrongFalsely : Prop := lookParentsRow.holds Tryd.pinned (OpenSpec.ofChange lookParentsWrong)

/- THE SECOND FORM. 'bulk': how many values and letters a reading holds, each counted each time it is reached (what is shared counts as often as it is met; a slice's spare places count too). A statement '..UptoSaid' is the law's where the arguments, and the package variables that the reading takes, are together of bulk at most 1048576: NARROWER than '..Said'. Prove '..Said' where nothing that the law and all that it calls make is longer than what came in: it says more and counts as full. Else prove '..UptoSaid'. A law counts once. -/
mutual
def uptoBulk {H : Type} : DataW H → Nat
  | .lit (.string bytes) => bytes.length + 1
  | .lit _ => 1
  | .nil => 1
  | .ptr d => uptoBulk d + 1
  | .slice elems spare => uptoBulkAll elems + uptoBulkAll spare + 1
  | .agg parts => uptoBulkAll parts + 1
  | .iface _ d => uptoBulk d + 1
  | .map entries => uptoBulkEntries entries + 1
  | .held _ => 1
def uptoBulkAll {H : Type} : List (DataW H) → Nat
  | [] => 0
  | d :: r => uptoBulk d + uptoBulkAll r
def uptoBulkEntries {H : Type} : List (Lit × DataW H) → Nat
  | [] => 0
  | x :: r => uptoBulkEntry x + uptoBulkEntries r
def uptoBulkEntry {H : Type} : Lit × DataW H → Nat
  | (.string bytes, d) => bytes.length + uptoBulk d + 1
  | (_, d) => uptoBulk d + 1
 end
def uptoSmall : (H : Type) → List (DataW H) → Bool := fun _ ds => decide (uptoBulkAll ds ≤ 1048576)
def OpenSpec.upto (s : _root_.Go.ChangeSpec) : _root_.Go.OpenSpec := { _root_.Go.OpenSpec.ofChange s with cond := some uptoSmall }

/-- 'shalelaw08.EntryKinds', WHERE WHAT IT READS IS OF BULK AT MOST 1048576: true; the input reads as it did. -/
def entryKindsUptoRow : OpenClaim := { program := "ytklcceccadlgkaadoor", sum := "79d9bcd4c6f5c484e3d2f79b90c5f655bfa2648925171e44b3f4ea545160a6e0", func := "shale/shalelaw08.EntryKinds", spec := "entryKinds", inPlace := ["internal/bytealg.IndexByteString", "internal/bytealg.IndexString", "internal/reflectlite.ValueOf", "(internal/reflectlite.Value).Type", "(internal/reflectlite.Value).IsNil", "internal/reflectlite.TypeOf", "(internal/reflectlite.Value).Elem", "(internal/reflectlite.Value).Set"], unfollowed := true, recurses := true, named := ["unicode/utf8.first", "unicode/utf8.acceptRanges", "internal/bytealg.MaxLen", "errors.errorType"], apart := false, laid := [("unicode/utf8.acceptRanges", laid_unicode_utf8_acceptRanges), ("errors.errorType", laid_errors_errorType), ("unicode/utf8.first", laid_unicode_utf8_first)], narrowed := true }
def EntryKindsUptoSaid : Prop := entryKindsUptoRow.holds Tryd.pinned (OpenSpec.upto entryKindsSpec)

/-- 'shalelaw08.EntryUnlike', WHERE WHAT IT READS IS OF BULK AT MOST 1048576: true; the input reads as it did. -/
def entryUnlikeUptoRow : OpenClaim := { program := "ytklcceccadlgkaadoor", sum := "79d9bcd4c6f5c484e3d2f79b90c5f655bfa2648925171e44b3f4ea545160a6e0", func := "shale/shalelaw08.EntryUnlike", spec := "entryUnlike", inPlace := ["internal/bytealg.IndexByteString", "internal/bytealg.IndexString", "internal/reflectlite.ValueOf", "(internal/reflectlite.Value).Type", "(internal/reflectlite.Value).IsNil", "internal/reflectlite.TypeOf", "(internal/reflectlite.Value).Elem", "(internal/reflectlite.Value).Set"], unfollowed := true, recurses := true, named := ["unicode/utf8.first", "unicode/utf8.acceptRanges", "internal/bytealg.MaxLen", "errors.errorType"], apart := false, laid := [("unicode/utf8.acceptRanges", laid_unicode_utf8_acceptRanges), ("errors.errorType", laid_errors_errorType), ("unicode/utf8.first", laid_unicode_utf8_first)], narrowed := true }
def EntryUnlikeUptoSaid : Prop := entryUnlikeUptoRow.holds Tryd.pinned (OpenSpec.upto entryUnlikeSpec)

/-- 'shalelaw08.EntryOrder', WHERE WHAT IT READS IS OF BULK AT MOST 1048576: true; the input reads as it did. -/
def entryOrderUptoRow : OpenClaim := { program := "ytklcceccadlgkaadoor", sum := "79d9bcd4c6f5c484e3d2f79b90c5f655bfa2648925171e44b3f4ea545160a6e0", func := "shale/shalelaw08.EntryOrder", spec := "entryOrder", inPlace := ["internal/bytealg.IndexByteString", "internal/bytealg.IndexString", "internal/reflectlite.ValueOf", "(internal/reflectlite.Value).Type", "(internal/reflectlite.Value).IsNil", "internal/reflectlite.TypeOf", "(internal/reflectlite.Value).Elem", "(internal/reflectlite.Value).Set"], unfollowed := true, recurses := true, named := ["unicode/utf8.first", "unicode/utf8.acceptRanges", "internal/bytealg.MaxLen", "errors.errorType"], apart := false, laid := [("unicode/utf8.acceptRanges", laid_unicode_utf8_acceptRanges), ("errors.errorType", laid_errors_errorType), ("unicode/utf8.first", laid_unicode_utf8_first)], narrowed := true }
def EntryOrderUptoSaid : Prop := entryOrderUptoRow.holds Tryd.pinned (OpenSpec.upto entryOrderSpec)

/-- 'shalelaw03.PathBack', WHERE WHAT IT READS IS OF BULK AT MOST 1048576: true; the input reads as it did. -/
def pathBackUptoRow : OpenClaim := { program := "ytklcceccadlgkaadoor", sum := "79d9bcd4c6f5c484e3d2f79b90c5f655bfa2648925171e44b3f4ea545160a6e0", func := "shale/shalelaw03.PathBack", spec := "pathBack", inPlace := ["internal/bytealg.IndexByteString", "internal/bytealg.IndexString", "internal/abi.NoEscape", "internal/bytealg.MakeNoZero", "internal/reflectlite.ValueOf", "(internal/reflectlite.Value).Type", "(internal/reflectlite.Value).IsNil", "internal/reflectlite.TypeOf", "(internal/reflectlite.Value).Elem", "(internal/reflectlite.Value).Set"], unfollowed := true, recurses := true, named := ["unicode/utf8.first", "unicode/utf8.acceptRanges", "internal/bytealg.MaxLen", "errors.errorType"], apart := false, laid := [("unicode/utf8.acceptRanges", laid_unicode_utf8_acceptRanges), ("errors.errorType", laid_errors_errorType), ("unicode/utf8.first", laid_unicode_utf8_first)], narrowed := true }
def PathBackUptoSaid : Prop := pathBackUptoRow.holds Tryd.pinned (OpenSpec.upto pathBackSpec)

/-- 'shalelaw03.PathNames', WHERE WHAT IT READS IS OF BULK AT MOST 1048576: true; the input reads as it did. -/
def pathNamesUptoRow : OpenClaim := { program := "ytklcceccadlgkaadoor", sum := "79d9bcd4c6f5c484e3d2f79b90c5f655bfa2648925171e44b3f4ea545160a6e0", func := "shale/shalelaw03.PathNames", spec := "pathNames", inPlace := ["internal/bytealg.IndexByteString", "internal/bytealg.IndexString", "internal/abi.NoEscape", "internal/bytealg.MakeNoZero", "internal/reflectlite.ValueOf", "(internal/reflectlite.Value).Type", "(internal/reflectlite.Value).IsNil", "internal/reflectlite.TypeOf", "(internal/reflectlite.Value).Elem", "(internal/reflectlite.Value).Set"], unfollowed := true, recurses := true, named := ["unicode/utf8.first", "unicode/utf8.acceptRanges", "internal/bytealg.MaxLen", "errors.errorType"], apart := false, laid := [("unicode/utf8.acceptRanges", laid_unicode_utf8_acceptRanges), ("errors.errorType", laid_errors_errorType), ("unicode/utf8.first", laid_unicode_utf8_first)], narrowed := true }
def PathNamesUptoSaid : Prop := pathNamesUptoRow.holds Tryd.pinned (OpenSpec.upto pathNamesSpec)

/-- 'shalelaw03.PathParents', WHERE WHAT IT READS IS OF BULK AT MOST 1048576: true; the input reads as it did. -/
def pathParentsUptoRow : OpenClaim := { program := "ytklcceccadlgkaadoor", sum := "79d9bcd4c6f5c484e3d2f79b90c5f655bfa2648925171e44b3f4ea545160a6e0", func := "shale/shalelaw03.PathParents", spec := "pathParents", inPlace := ["internal/bytealg.IndexByteString", "internal/bytealg.IndexString", "internal/abi.NoEscape", "internal/bytealg.MakeNoZero", "internal/reflectlite.ValueOf", "(internal/reflectlite.Value).Type", "(internal/reflectlite.Value).IsNil", "internal/reflectlite.TypeOf", "(internal/reflectlite.Value).Elem", "(internal/reflectlite.Value).Set"], unfollowed := true, recurses := true, named := ["unicode/utf8.first", "unicode/utf8.acceptRanges", "internal/bytealg.MaxLen", "errors.errorType"], apart := false, laid := [("unicode/utf8.acceptRanges", laid_unicode_utf8_acceptRanges), ("errors.errorType", laid_errors_errorType), ("unicode/utf8.first", laid_unicode_utf8_first)], narrowed := true }
def PathParentsUptoSaid : Prop := pathParentsUptoRow.holds Tryd.pinned (OpenSpec.upto pathParentsSpec)

/-- 'shalelaw03.PathPlays', WHERE WHAT IT READS IS OF BULK AT MOST 1048576: true; the input reads as it did. -/
def pathPlaysUptoRow : OpenClaim := { program := "ytklcceccadlgkaadoor", sum := "79d9bcd4c6f5c484e3d2f79b90c5f655bfa2648925171e44b3f4ea545160a6e0", func := "shale/shalelaw03.PathPlays", spec := "pathPlays", inPlace := ["internal/bytealg.IndexByteString", "internal/bytealg.IndexString", "internal/abi.NoEscape", "internal/bytealg.MakeNoZero", "internal/reflectlite.ValueOf", "(internal/reflectlite.Value).Type", "(internal/reflectlite.Value).IsNil", "internal/reflectlite.TypeOf", "(internal/reflectlite.Value).Elem", "(internal/reflectlite.Value).Set"], unfollowed := true, recurses := true, named := ["unicode/utf8.first", "unicode/utf8.acceptRanges", "internal/bytealg.MaxLen", "errors.errorType"], apart := false, laid := [("unicode/utf8.acceptRanges", laid_unicode_utf8_acceptRanges), ("errors.errorType", laid_errors_errorType), ("unicode/utf8.first", laid_unicode_utf8_first)], narrowed := true }
def PathPlaysUptoSaid : Prop := pathPlaysUptoRow.holds Tryd.pinned (OpenSpec.upto pathPlaysSpec)

/-- 'shalelaw03.PathOrder', WHERE WHAT IT READS IS OF BULK AT MOST 1048576: true; the input reads as it did. -/
def pathOrderUptoRow : OpenClaim := { program := "ytklcceccadlgkaadoor", sum := "79d9bcd4c6f5c484e3d2f79b90c5f655bfa2648925171e44b3f4ea545160a6e0", func := "shale/shalelaw03.PathOrder", spec := "pathOrder", inPlace := ["internal/bytealg.IndexByteString", "internal/bytealg.IndexString", "internal/abi.NoEscape", "internal/bytealg.MakeNoZero", "internal/reflectlite.ValueOf", "(internal/reflectlite.Value).Type", "(internal/reflectlite.Value).IsNil", "internal/reflectlite.TypeOf", "(internal/reflectlite.Value).Elem", "(internal/reflectlite.Value).Set"], unfollowed := true, recurses := true, named := ["unicode/utf8.first", "unicode/utf8.acceptRanges", "internal/bytealg.MaxLen", "errors.errorType"], apart := false, laid := [("unicode/utf8.acceptRanges", laid_unicode_utf8_acceptRanges), ("errors.errorType", laid_errors_errorType), ("unicode/utf8.first", laid_unicode_utf8_first)], narrowed := true }
def PathOrderUptoSaid : Prop := pathOrderUptoRow.holds Tryd.pinned (OpenSpec.upto pathOrderSpec)

/-- 'shalelaw08.EntryBack', WHERE WHAT IT READS IS OF BULK AT MOST 1048576: true; the input reads as it did. -/
def entryBackUptoRow : OpenClaim := { program := "ytklcceccadlgkaadoor", sum := "79d9bcd4c6f5c484e3d2f79b90c5f655bfa2648925171e44b3f4ea545160a6e0", func := "shale/shalelaw08.EntryBack", spec := "entryBack", inPlace := ["internal/bytealg.IndexByteString", "internal/bytealg.IndexString", "internal/reflectlite.ValueOf", "(internal/reflectlite.Value).Type", "(internal/reflectlite.Value).IsNil", "internal/reflectlite.TypeOf", "(internal/reflectlite.Value).Elem", "(internal/reflectlite.Value).Set"], unfollowed := true, recurses := true, named := ["unicode/utf8.first", "unicode/utf8.acceptRanges", "internal/bytealg.MaxLen", "errors.errorType"], apart := false, laid := [("unicode/utf8.acceptRanges", laid_unicode_utf8_acceptRanges), ("errors.errorType", laid_errors_errorType), ("unicode/utf8.first", laid_unicode_utf8_first)], narrowed := true }
def EntryBackUptoSaid : Prop := entryBackUptoRow.holds Tryd.pinned (OpenSpec.upto entryBackSpec)

/-- 'shalelaw08.EntryOnly', WHERE WHAT IT READS IS OF BULK AT MOST 1048576: true; the input reads as it did. -/
def entryOnlyUptoRow : OpenClaim := { program := "ytklcceccadlgkaadoor", sum := "79d9bcd4c6f5c484e3d2f79b90c5f655bfa2648925171e44b3f4ea545160a6e0", func := "shale/shalelaw08.EntryOnly", spec := "entryOnly", inPlace := ["internal/bytealg.IndexByteString", "internal/bytealg.IndexString", "internal/reflectlite.ValueOf", "(internal/reflectlite.Value).Type", "(internal/reflectlite.Value).IsNil", "internal/reflectlite.TypeOf", "(internal/reflectlite.Value).Elem", "(internal/reflectlite.Value).Set"], unfollowed := true, recurses := true, named := ["unicode/utf8.first", "unicode/utf8.acceptRanges", "internal/bytealg.MaxLen", "errors.errorType"], apart := false, laid := [("unicode/utf8.acceptRanges", laid_unicode_utf8_acceptRanges), ("errors.errorType", laid_errors_errorType), ("unicode/utf8.first", laid_unicode_utf8_first)], narrowed := true }
def EntryOnlyUptoSaid : Prop := entryOnlyUptoRow.holds Tryd.pinned (OpenSpec.upto entryOnlySpec)

/-- 'shalelaw08.EntryPlays', WHERE WHAT IT READS IS OF BULK AT MOST 1048576: true; the input reads as it did. -/
def entryPlaysUptoRow : OpenClaim := { program := "ytklcceccadlgkaadoor", sum := "79d9bcd4c6f5c484e3d2f79b90c5f655bfa2648925171e44b3f4ea545160a6e0", func := "shale/shalelaw08.EntryPlays", spec := "entryPlays", inPlace := ["internal/bytealg.IndexByteString", "internal/bytealg.IndexString", "internal/reflectlite.ValueOf", "(internal/reflectlite.Value).Type", "(internal/reflectlite.Value).IsNil", "internal/reflectlite.TypeOf", "(internal/reflectlite.Value).Elem", "(internal/reflectlite.Value).Set"], unfollowed := true, recurses := true, named := ["unicode/utf8.first", "unicode/utf8.acceptRanges", "internal/bytealg.MaxLen", "errors.errorType"], apart := false, laid := [("unicode/utf8.acceptRanges", laid_unicode_utf8_acceptRanges), ("errors.errorType", laid_errors_errorType), ("unicode/utf8.first", laid_unicode_utf8_first)], narrowed := true }
def EntryPlaysUptoSaid : Prop := entryPlaysUptoRow.holds Tryd.pinned (OpenSpec.upto entryPlaysSpec)

/-- 'shalelaw12.LookTop', WHERE WHAT IT READS IS OF BULK AT MOST 1048576: true; the input reads as it did. -/
def lookTopUptoRow : OpenClaim := { program := "ytklcceccadlgkaadoor", sum := "79d9bcd4c6f5c484e3d2f79b90c5f655bfa2648925171e44b3f4ea545160a6e0", func := "shale/shalelaw12.LookTop", spec := "lookTop", inPlace := ["internal/bytealg.IndexByteString", "internal/bytealg.IndexString", "internal/abi.NoEscape", "internal/bytealg.MakeNoZero", "internal/bytealg.abigen_runtime_cmpstring", "internal/reflectlite.ValueOf", "(internal/reflectlite.Value).Type", "(internal/reflectlite.Value).IsNil", "internal/reflectlite.TypeOf", "(internal/reflectlite.Value).Elem", "(internal/reflectlite.Value).Set"], unfollowed := true, recurses := true, named := ["unicode/utf8.first", "unicode/utf8.acceptRanges", "internal/bytealg.MaxLen", "errors.errorType"], apart := false, laid := [("unicode/utf8.acceptRanges", laid_unicode_utf8_acceptRanges), ("errors.errorType", laid_errors_errorType), ("unicode/utf8.first", laid_unicode_utf8_first)], narrowed := true }
def LookTopUptoSaid : Prop := lookTopUptoRow.holds Tryd.pinned (OpenSpec.upto lookTopSpec)

/-- 'shalelaw10.FoldTrees', WHERE WHAT IT READS IS OF BULK AT MOST 1048576: true; the input reads as it did. -/
def foldTreesUptoRow : OpenClaim := { program := "ytklcceccadlgkaadoor", sum := "79d9bcd4c6f5c484e3d2f79b90c5f655bfa2648925171e44b3f4ea545160a6e0", func := "shale/shalelaw10.FoldTrees", spec := "foldTrees", inPlace := ["internal/bytealg.IndexByteString", "internal/bytealg.IndexString", "internal/abi.NoEscape", "internal/bytealg.MakeNoZero", "internal/bytealg.abigen_runtime_cmpstring", "slices.overlaps[shale/api.Entry]"], unfollowed := true, recurses := true, named := ["unicode/utf8.first", "unicode/utf8.acceptRanges", "internal/bytealg.MaxLen"], apart := false, laid := [("unicode/utf8.acceptRanges", laid_unicode_utf8_acceptRanges), ("unicode/utf8.first", laid_unicode_utf8_first)], narrowed := true }
def FoldTreesUptoSaid : Prop := foldTreesUptoRow.holds Tryd.pinned (OpenSpec.upto foldTreesSpec)

/-- 'shalelaw10.FoldSteps', WHERE WHAT IT READS IS OF BULK AT MOST 1048576: true; the input reads as it did. -/
def foldStepsUptoRow : OpenClaim := { program := "ytklcceccadlgkaadoor", sum := "79d9bcd4c6f5c484e3d2f79b90c5f655bfa2648925171e44b3f4ea545160a6e0", func := "shale/shalelaw10.FoldSteps", spec := "foldSteps", inPlace := ["internal/bytealg.IndexByteString", "internal/bytealg.IndexString", "internal/abi.NoEscape", "internal/bytealg.MakeNoZero", "internal/bytealg.abigen_runtime_cmpstring", "slices.overlaps[shale/api.Entry]"], unfollowed := true, recurses := true, named := ["unicode/utf8.first", "unicode/utf8.acceptRanges", "internal/bytealg.MaxLen"], apart := false, laid := [("unicode/utf8.acceptRanges", laid_unicode_utf8_acceptRanges), ("unicode/utf8.first", laid_unicode_utf8_first)], narrowed := true }
def FoldStepsUptoSaid : Prop := foldStepsUptoRow.holds Tryd.pinned (OpenSpec.upto foldStepsSpec)

/-- 'shalelaw10.FoldWhites', WHERE WHAT IT READS IS OF BULK AT MOST 1048576: true; the input reads as it did. -/
def foldWhitesUptoRow : OpenClaim := { program := "ytklcceccadlgkaadoor", sum := "79d9bcd4c6f5c484e3d2f79b90c5f655bfa2648925171e44b3f4ea545160a6e0", func := "shale/shalelaw10.FoldWhites", spec := "foldWhites", inPlace := ["internal/bytealg.IndexByteString", "internal/bytealg.IndexString", "internal/abi.NoEscape", "internal/bytealg.MakeNoZero", "internal/bytealg.abigen_runtime_cmpstring", "slices.overlaps[shale/api.Entry]"], unfollowed := true, recurses := true, named := ["unicode/utf8.first", "unicode/utf8.acceptRanges", "internal/bytealg.MaxLen"], apart := false, laid := [("unicode/utf8.acceptRanges", laid_unicode_utf8_acceptRanges), ("unicode/utf8.first", laid_unicode_utf8_first)], narrowed := true }
def FoldWhitesUptoSaid : Prop := foldWhitesUptoRow.holds Tryd.pinned (OpenSpec.upto foldWhitesSpec)

/-- 'shalelaw10.FoldEmpty', WHERE WHAT IT READS IS OF BULK AT MOST 1048576: true; the input reads as it did. -/
def foldEmptyUptoRow : OpenClaim := { program := "ytklcceccadlgkaadoor", sum := "79d9bcd4c6f5c484e3d2f79b90c5f655bfa2648925171e44b3f4ea545160a6e0", func := "shale/shalelaw10.FoldEmpty", spec := "foldEmpty", inPlace := ["internal/bytealg.IndexByteString", "internal/bytealg.IndexString", "internal/abi.NoEscape", "internal/bytealg.MakeNoZero", "internal/bytealg.abigen_runtime_cmpstring", "slices.overlaps[shale/api.Entry]"], unfollowed := true, recurses := true, named := ["unicode/utf8.first", "unicode/utf8.acceptRanges", "internal/bytealg.MaxLen"], apart := false, laid := [("unicode/utf8.acceptRanges", laid_unicode_utf8_acceptRanges), ("unicode/utf8.first", laid_unicode_utf8_first)], narrowed := true }
def FoldEmptyUptoSaid : Prop := foldEmptyUptoRow.holds Tryd.pinned (OpenSpec.upto foldEmptySpec)

/-- 'shalelaw10.FoldAlone', WHERE WHAT IT READS IS OF BULK AT MOST 1048576: true; the input reads as it did. -/
def foldAloneUptoRow : OpenClaim := { program := "ytklcceccadlgkaadoor", sum := "79d9bcd4c6f5c484e3d2f79b90c5f655bfa2648925171e44b3f4ea545160a6e0", func := "shale/shalelaw10.FoldAlone", spec := "foldAlone", inPlace := ["internal/bytealg.IndexByteString", "internal/bytealg.IndexString", "internal/abi.NoEscape", "internal/bytealg.MakeNoZero", "internal/bytealg.abigen_runtime_cmpstring", "slices.overlaps[shale/api.Entry]"], unfollowed := true, recurses := true, named := ["unicode/utf8.first", "unicode/utf8.acceptRanges", "internal/bytealg.MaxLen"], apart := false, laid := [("unicode/utf8.acceptRanges", laid_unicode_utf8_acceptRanges), ("unicode/utf8.first", laid_unicode_utf8_first)], narrowed := true }
def FoldAloneUptoSaid : Prop := foldAloneUptoRow.holds Tryd.pinned (OpenSpec.upto foldAloneSpec)

/-- 'shalelaw12.LookParents', WHERE WHAT IT READS IS OF BULK AT MOST 1048576: true; the input reads as it did. -/
def lookParentsUptoRow : OpenClaim := { program := "ytklcceccadlgkaadoor", sum := "79d9bcd4c6f5c484e3d2f79b90c5f655bfa2648925171e44b3f4ea545160a6e0", func := "shale/shalelaw12.LookParents", spec := "lookParents", inPlace := ["internal/bytealg.IndexByteString", "internal/bytealg.IndexString", "internal/abi.NoEscape", "internal/bytealg.MakeNoZero", "internal/bytealg.abigen_runtime_cmpstring", "internal/reflectlite.ValueOf", "(internal/reflectlite.Value).Type", "(internal/reflectlite.Value).IsNil", "internal/reflectlite.TypeOf", "(internal/reflectlite.Value).Elem", "(internal/reflectlite.Value).Set"], unfollowed := true, recurses := true, named := ["unicode/utf8.first", "unicode/utf8.acceptRanges", "internal/bytealg.MaxLen", "errors.errorType"], apart := false, laid := [("unicode/utf8.acceptRanges", laid_unicode_utf8_acceptRanges), ("errors.errorType", laid_errors_errorType), ("unicode/utf8.first", laid_unicode_utf8_first)], narrowed := true }
def LookParentsUptoSaid : Prop := lookParentsUptoRow.holds Tryd.pinned (OpenSpec.upto lookParentsSpec)

end Rows
end Go.Proofs.YtklcceccadlgkaaDoor
