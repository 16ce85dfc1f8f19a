import Derived.Test.YtljndnmmnkpmnaaGreatDoorPrint0
import Derived.Test.YtljndnmmnkpmnaaGreatDoorPrint1
import Derived.Test.YtljndnmmnkpmnaaGreatDoorExt
namespace Go.Proofs.YtljndnmmnkpmnaaGreatDoor.Print
open Go.RowKit Go.Proofs.YtljndnmmnkpmnaaGreatDoorW.PrintWords Go.Proofs.YtljndnmmnkpmnaaGreatDoorW.PrintLast Go.Proofs.YtljndnmmnkpmnaaGreatDoorW.PrintMore
attribute [local go_sem] max2_int min2_int max_two min_two max_three min_three max_four min_four   -- for this text's walks alone
set_option linter.unusedVariables false
set_option linter.unusedSimpArgs false
def z40.f (l0 : List S35) : Option (List S35) := if l0.length * 40 ≤ 140737488355328 then some l0 else none
theorem z40.calls (A0 : Option Addr) (c0 : Nat) (l0 : List S35) (r : List S35) (w : World) (hr0 : Kd.C k35 w A0 l0.length l0) (hc0 : l0.length ≤ c0) (h : z40.f l0 = some r) :
  Calls Tryz.prog 15 #[.slice A0 l0.length c0] w fun e w' => ∃ v0_ : Value, e = .returned (v0_) ∧ Kd.R k35 35 w' w.heap.size (fun _ => True) v0_ r ∧ Below w.heap.size w w' := by
 unfold z40.f at h
 split at h
 ·rename_i hc
  injection h with h
  subst h
  exact clone3 (fun x : S35 => x.f0) (fun x => x.f1) (fun x => x.f2) A0 c0 l0 w hr0 hc0 hc
 ·cases h

end Go.Proofs.YtljndnmmnkpmnaaGreatDoor.Print
