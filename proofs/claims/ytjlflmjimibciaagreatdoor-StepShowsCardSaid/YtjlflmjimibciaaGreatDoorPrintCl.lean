import Derived.Test.YtjlflmjimibciaaGreatDoorPrint0
import Derived.Test.YtjlflmjimibciaaGreatDoorPrint1
import Derived.Test.YtjlflmjimibciaaGreatDoorExt
namespace Go.Proofs.YtjlflmjimibciaaGreatDoor.Print
open Go.RowKit Go.Proofs.YtjlflmjimibciaaGreatDoorW.PrintWords Go.Proofs.YtjlflmjimibciaaGreatDoorW.PrintLast Go.Proofs.YtjlflmjimibciaaGreatDoorW.PrintMore
attribute [local go_sem] max2_int min2_int max_two min_two max_three min_three max_four min_four   -- for this text's walks alone
set_option linter.unusedVariables false
set_option linter.unusedSimpArgs false
def api_Entry.f (l0 : List S41) : Option (List S41) := if l0.length * 40 ≤ 140737488355328 then some l0 else none
theorem api_Entry.calls (A0 : Option Addr) (c0 : Nat) (l0 : List S41) (r : List S41) (w : World) (hr0 : Kd.C k41 w A0 l0.length l0) (hc0 : l0.length ≤ c0) (h : api_Entry.f l0 = some r) :
  Calls Tryz.prog 28 #[.slice A0 l0.length c0] w fun e w' => ∃ v0_ : Value, e = .returned (v0_) ∧ Kd.R k41 41 w' w.heap.size (fun _ => True) v0_ r ∧ Below w.heap.size w w' := by
 unfold api_Entry.f at h
 split at h
 ·rename_i hc
  injection h with h
  subst h
  exact clone3 (fun x : S41 => x.f0) (fun x => x.f1) (fun x => x.f2) A0 c0 l0 w hr0 hc0 hc
 ·cases h

end Go.Proofs.YtjlflmjimibciaaGreatDoor.Print
