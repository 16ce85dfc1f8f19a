/-
  No cell of these rows narrows 'for every input' (looked for: loops, veiled, ifaces, maps, wideKeys, modest, calm, conditions, laid).
  DERIVED. THE GIVEN ROWS OF THIS SEAT. 6 by the template 'for every input the law returns true; each argument reads behind the call as it read before'; 0 by the template 'total and deterministic' (their statements: YtnjhncplodpafaaTotals.lean).
  GIVEN WITH THE SEED: the statements are not yours to turn. If you find one false, say at which input.
  Laid BY PROGRAM, IN A SANDBOX (cutbox-rows.mjs): the forced cells as the released guide's own fill.sh prints them over the translation 4862e7d26c2ab3b6… (all of the seat's roots in one cut). By AI agents, Wed Nov 11 2026. No macro, syntax, notation, axiom, sorry.
-/
import Derived.Test.YtnjhncplodpafaaChecked
import GoSem.Claim
import GoSem.ClaimJoined
import GoSem.ClaimMapViews
import Derived.JoinedTies
import Derived.KernelRfl
namespace Go.Proofs.Ytnjhncplodpafaa
/- THE CELL 'sum', in the pinned program and in every row, IS THE sha256 OF THE DUMP (.gsa) THAT YtnjhncplodpafaaProg.lean LOADS. Nothing in Lean hashes anything: it is a label: what it is worth is what the hold of that sum in a sandbox is worth. -/
noncomputable def Try.pinned : Pinned := { name := "ytnjhncplodpafaa", sum := "4862e7d26c2ab3b67dac39f1f4d61bfe7b4c7e8cadd648db7a2f53ced5467b02", checked := Try.checked }
namespace Rows
def none {H : Type} : Left H := { results := [], args := [] }

/-- 'shalelaw17.PickPlays': WHATEVER THE INPUT: true; the input reads as it did. -/
def pickPlaysSpec : ChangeSpec := { name := "pickPlays", fn := fun _ => fun
  | [d1, d2] => { results := [.lit (.bool true)], args := [d1, d2] }
  | _ => none }
def pickPlaysRow : OpenClaim := { program := "ytnjhncplodpafaa", sum := "4862e7d26c2ab3b67dac39f1f4d61bfe7b4c7e8cadd648db7a2f53ced5467b02", func := "shale/shalelaw17.PickPlays", spec := "pickPlays", apart := false }
def PickPlaysSaid : Prop := pickPlaysRow.holds Try.pinned (OpenSpec.ofChange pickPlaysSpec)

/-- ITS FALSE NEIGHBOUR: 'it returns false'. Refute it at one input. -/
def pickPlaysWrong : ChangeSpec := { name := "pickPlays", fn := fun _ => fun
  | [d1, d2] => { results := [.lit (.bool false)], args := [d1, d2] }
  | _ => none }
def PickPlaysWrongFalsely : Prop := pickPlaysRow.holds Try.pinned (OpenSpec.ofChange pickPlaysWrong)

/-- 'shalelaw17.PickLess': WHATEVER THE INPUT: true; the input reads as it did. -/
def pickLessSpec : ChangeSpec := { name := "pickLess", fn := fun _ => fun
  | [d1, d2] => { results := [.lit (.bool true)], args := [d1, d2] }
  | _ => none }
def pickLessRow : OpenClaim := { program := "ytnjhncplodpafaa", sum := "4862e7d26c2ab3b67dac39f1f4d61bfe7b4c7e8cadd648db7a2f53ced5467b02", func := "shale/shalelaw17.PickLess", spec := "pickLess", apart := false }
def PickLessSaid : Prop := pickLessRow.holds Try.pinned (OpenSpec.ofChange pickLessSpec)

/-- ITS FALSE NEIGHBOUR: 'it returns false'. Refute it at one input. -/
def pickLessWrong : ChangeSpec := { name := "pickLess", fn := fun _ => fun
  | [d1, d2] => { results := [.lit (.bool false)], args := [d1, d2] }
  | _ => none }
def PickLessWrongFalsely : Prop := pickLessRow.holds Try.pinned (OpenSpec.ofChange pickLessWrong)

/-- 'shalelaw17.PickEnds': WHATEVER THE INPUT: true; the input reads as it did. -/
def pickEndsSpec : ChangeSpec := { name := "pickEnds", fn := fun _ => fun
  | [d1, d2] => { results := [.lit (.bool true)], args := [d1, d2] }
  | _ => none }
def pickEndsRow : OpenClaim := { program := "ytnjhncplodpafaa", sum := "4862e7d26c2ab3b67dac39f1f4d61bfe7b4c7e8cadd648db7a2f53ced5467b02", func := "shale/shalelaw17.PickEnds", spec := "pickEnds", inPlace := ["slices.overlaps[int]"], apart := false }
def PickEndsSaid : Prop := pickEndsRow.holds Try.pinned (OpenSpec.ofChange pickEndsSpec)

/-- ITS FALSE NEIGHBOUR: 'it returns false'. Refute it at one input. -/
def pickEndsWrong : ChangeSpec := { name := "pickEnds", fn := fun _ => fun
  | [d1, d2] => { results := [.lit (.bool false)], args := [d1, d2] }
  | _ => none }
def PickEndsWrongFalsely : Prop := pickEndsRow.holds Try.pinned (OpenSpec.ofChange pickEndsWrong)

/-- 'shalelaw17.PickFits': WHATEVER THE INPUT: true; the input reads as it did. -/
def pickFitsSpec : ChangeSpec := { name := "pickFits", fn := fun _ => fun
  | [d1, d2] => { results := [.lit (.bool true)], args := [d1, d2] }
  | _ => none }
def pickFitsRow : OpenClaim := { program := "ytnjhncplodpafaa", sum := "4862e7d26c2ab3b67dac39f1f4d61bfe7b4c7e8cadd648db7a2f53ced5467b02", func := "shale/shalelaw17.PickFits", spec := "pickFits", inPlace := ["slices.overlaps[int]"], apart := false }
def PickFitsSaid : Prop := pickFitsRow.holds Try.pinned (OpenSpec.ofChange pickFitsSpec)

/-- ITS FALSE NEIGHBOUR: 'it returns false'. Refute it at one input. -/
def pickFitsWrong : ChangeSpec := { name := "pickFits", fn := fun _ => fun
  | [d1, d2] => { results := [.lit (.bool false)], args := [d1, d2] }
  | _ => none }
def PickFitsWrongFalsely : Prop := pickFitsRow.holds Try.pinned (OpenSpec.ofChange pickFitsWrong)

/-- 'shalelaw17.PickCounts': WHATEVER THE INPUT: true; the input reads as it did. -/
def pickCountsSpec : ChangeSpec := { name := "pickCounts", fn := fun _ => fun
  | [d1, d2] => { results := [.lit (.bool true)], args := [d1, d2] }
  | _ => none }
def pickCountsRow : OpenClaim := { program := "ytnjhncplodpafaa", sum := "4862e7d26c2ab3b67dac39f1f4d61bfe7b4c7e8cadd648db7a2f53ced5467b02", func := "shale/shalelaw17.PickCounts", spec := "pickCounts", inPlace := ["slices.overlaps[int]"], apart := false }
def PickCountsSaid : Prop := pickCountsRow.holds Try.pinned (OpenSpec.ofChange pickCountsSpec)

/-- ITS FALSE NEIGHBOUR: 'it returns false'. Refute it at one input. -/
def pickCountsWrong : ChangeSpec := { name := "pickCounts", fn := fun _ => fun
  | [d1, d2] => { results := [.lit (.bool false)], args := [d1, d2] }
  | _ => none }
def PickCountsWrongFalsely : Prop := pickCountsRow.holds Try.pinned (OpenSpec.ofChange pickCountsWrong)

/-- 'shalelaw17.PickSame': WHATEVER THE INPUT: true; the input reads as it did. -/
def pickSameSpec : ChangeSpec := { name := "pickSame", fn := fun _ => fun
  | [d1, d2] => { results := [.lit (.bool true)], args := [d1, d2] }
  | _ => none }
def pickSameRow : OpenClaim := { program := "ytnjhncplodpafaa", sum := "4862e7d26c2ab3b67dac39f1f4d61bfe7b4c7e8cadd648db7a2f53ced5467b02", func := "shale/shalelaw17.PickSame", spec := "pickSame", inPlace := ["slices.overlaps[int]"], apart := false }
def PickSameSaid : Prop := pickSameRow.holds Try.pinned (OpenSpec.ofChange pickSameSpec)

/-- ITS FALSE NEIGHBOUR: 'it returns false'. Refute it at one input. -/
def pickSameWrong : ChangeSpec := { name := "pickSame", fn := fun _ => fun
  | [d1, d2] => { results := [.lit (.bool false)], args := [d1, d2] }
  | _ => none }
def PickSameWrongFalsely : Prop := pickSameRow.holds Try.pinned (OpenSpec.ofChange pickSameWrong)

/- THE SECOND FORM. 'bulk': how many values and letters a reading holds, each counted each time it is reached (what is shared counts as often as it is met; a slice's spare places count too). A statement '..UptoSaid' is the law's where the arguments, and the package variables that the reading takes, are together of bulk at most 1048576: NARROWER than '..Said'. Prove '..Said' where nothing that the law and all that it calls make is longer than what came in: it says more and counts as full. Else prove '..UptoSaid'. A law counts once. -/
mutual
def uptoBulk {H : Type} : DataW H → Nat
  | .lit (.string bytes) => bytes.length + 1
  | .lit _ => 1
  | .nil => 1
  | .ptr d => uptoBulk d + 1
  | .slice elems spare => uptoBulkAll elems + uptoBulkAll spare + 1
  | .agg parts => uptoBulkAll parts + 1
  | .iface _ d => uptoBulk d + 1
  | .map entries => uptoBulkEntries entries + 1
  | .held _ => 1
def uptoBulkAll {H : Type} : List (DataW H) → Nat
  | [] => 0
  | d :: r => uptoBulk d + uptoBulkAll r
def uptoBulkEntries {H : Type} : List (Lit × DataW H) → Nat
  | [] => 0
  | x :: r => uptoBulkEntry x + uptoBulkEntries r
def uptoBulkEntry {H : Type} : Lit × DataW H → Nat
  | (.string bytes, d) => bytes.length + uptoBulk d + 1
  | (_, d) => uptoBulk d + 1
 end
def uptoSmall : (H : Type) → List (DataW H) → Bool := fun _ ds => decide (uptoBulkAll ds ≤ 1048576)
def OpenSpec.upto (s : _root_.Go.ChangeSpec) : _root_.Go.OpenSpec := { _root_.Go.OpenSpec.ofChange s with cond := some uptoSmall }

/-- 'shalelaw17.PickPlays', WHERE WHAT IT READS IS OF BULK AT MOST 1048576: true; the input reads as it did. -/
def pickPlaysUptoRow : OpenClaim := { program := "ytnjhncplodpafaa", sum := "4862e7d26c2ab3b67dac39f1f4d61bfe7b4c7e8cadd648db7a2f53ced5467b02", func := "shale/shalelaw17.PickPlays", spec := "pickPlays", apart := false, narrowed := true }
def PickPlaysUptoSaid : Prop := pickPlaysUptoRow.holds Try.pinned (OpenSpec.upto pickPlaysSpec)

/-- 'shalelaw17.PickLess', WHERE WHAT IT READS IS OF BULK AT MOST 1048576: true; the input reads as it did. -/
def pickLessUptoRow : OpenClaim := { program := "ytnjhncplodpafaa", sum := "4862e7d26c2ab3b67dac39f1f4d61bfe7b4c7e8cadd648db7a2f53ced5467b02", func := "shale/shalelaw17.PickLess", spec := "pickLess", apart := false, narrowed := true }
def PickLessUptoSaid : Prop := pickLessUptoRow.holds Try.pinned (OpenSpec.upto pickLessSpec)

/-- 'shalelaw17.PickEnds', WHERE WHAT IT READS IS OF BULK AT MOST 1048576: true; the input reads as it did. -/
def pickEndsUptoRow : OpenClaim := { program := "ytnjhncplodpafaa", sum := "4862e7d26c2ab3b67dac39f1f4d61bfe7b4c7e8cadd648db7a2f53ced5467b02", func := "shale/shalelaw17.PickEnds", spec := "pickEnds", inPlace := ["slices.overlaps[int]"], apart := false, narrowed := true }
def PickEndsUptoSaid : Prop := pickEndsUptoRow.holds Try.pinned (OpenSpec.upto pickEndsSpec)

/-- 'shalelaw17.PickFits', WHERE WHAT IT READS IS OF BULK AT MOST 1048576: true; the input reads as it did. -/
def pickFitsUptoRow : OpenClaim := { program := "ytnjhncplodpafaa", sum := "4862e7d26c2ab3b67dac39f1f4d61bfe7b4c7e8cadd648db7a2f53ced5467b02", func := "shale/shalelaw17.PickFits", spec := "pickFits", inPlace := ["slices.overlaps[int]"], apart := false, narrowed := true }
def PickFitsUptoSaid : Prop := pickFitsUptoRow.holds Try.pinned (OpenSpec.upto pickFitsSpec)

/-- 'shalelaw17.PickCounts', WHERE WHAT IT READS IS OF BULK AT MOST 1048576: true; the input reads as it did. -/
def pickCountsUptoRow : OpenClaim := { program := "ytnjhncplodpafaa", sum := "4862e7d26c2ab3b67dac39f1f4d61bfe7b4c7e8cadd648db7a2f53ced5467b02", func := "shale/shalelaw17.PickCounts", spec := "pickCounts", inPlace := ["slices.overlaps[int]"], apart := false, narrowed := true }
def PickCountsUptoSaid : Prop := pickCountsUptoRow.holds Try.pinned (OpenSpec.upto pickCountsSpec)

/-- 'shalelaw17.PickSame', WHERE WHAT IT READS IS OF BULK AT MOST 1048576: true; the input reads as it did. -/
def pickSameUptoRow : OpenClaim := { program := "ytnjhncplodpafaa", sum := "4862e7d26c2ab3b67dac39f1f4d61bfe7b4c7e8cadd648db7a2f53ced5467b02", func := "shale/shalelaw17.PickSame", spec := "pickSame", inPlace := ["slices.overlaps[int]"], apart := false, narrowed := true }
def PickSameUptoSaid : Prop := pickSameUptoRow.holds Try.pinned (OpenSpec.upto pickSameSpec)

end Rows
end Go.Proofs.Ytnjhncplodpafaa
