import Derived.Test.YtljndnmmnkpmnaaGreatDoorPrint0
import Derived.Test.YtljndnmmnkpmnaaGreatDoorPrint1
import Derived.Test.YtljndnmmnkpmnaaGreatDoorPrintUn
import Derived.Test.YtljndnmmnkpmnaaGreatDoorExt
namespace Go.Proofs.YtljndnmmnkpmnaaGreatDoor.Print
open Go.RowKit Go.Proofs.YtljndnmmnkpmnaaGreatDoorW.PrintWords Go.Proofs.YtljndnmmnkpmnaaGreatDoorW.PrintLast Go.Proofs.YtljndnmmnkpmnaaGreatDoorW.PrintMore
attribute [local go_sem] max2_int min2_int max_two min_two max_three min_three max_four min_four   -- for this text's walks alone
set_option linter.unusedVariables false
set_option linter.unusedSimpArgs false
def z42.f (l0 : List S35) (a1_0 : ByteArray) (a1_1 : Int) (a1_2 : ByteArray) : Option (List S35) := if (l0.length + 1) * 40 ≤ 140737488355328 ∧ (l0.all fun x => (z34.f x.f0 a1_0).isSome) = true then some (moneG (fun x : S35 => x.f0) (fun x => x.f1) z34.f S35.mk l0 a1_0 a1_1 a1_2) else none
theorem z42.calls (A0 : Option Addr) (c0 : Nat) (l0 : List S35) (a1_0 : ByteArray) (a1_1 : Int) (a1_2 : ByteArray) (r : List S35) (w : World) (hr0 : Kd.C k35 w A0 l0.length l0) (hc0 : l0.length ≤ c0) (h : z42.f l0 a1_0 a1_1 a1_2 = some r) :
  Calls Tryz.prog 13 #[.slice A0 l0.length c0, .agg #[.string a1_0, .int .i64 a1_1, .string a1_2]] w fun e w' => ∃ v0_ : Value, e = .returned (v0_) ∧ Kd.R k35 35 w' w.heap.size (fun _ => True) v0_ r ∧ Below w.heap.size w w' := by
 unfold z42.f at h
 split at h
 ·rename_i hc
  injection h with h
  subst h
  exact mergeOne3 (fun x : S35 => x.f0) (fun x => x.f1) (fun x => x.f2) z34.f S35.mk (fun a b r w h => z34.calls a b r w h) (fun _ _ _ => rfl) (fun _ _ _ => rfl) (fun _ _ _ => rfl) A0 c0 l0 a1_0 a1_2 a1_1 w hr0 hc0 hc.1 (fun _ x hx _ => List.all_eq_true.1 hc.2 x hx)
 ·cases h

def z26.f (l0 : List S35) : Option (List S35) := if l0.length * 40 ≤ 140737488355328 then some (botG (fun x : S35 => x.f0) (fun x => x.f1) (fun x => x.f2) S35.mk l0) else none
theorem z26.calls (A0 : Option Addr) (c0 : Nat) (l0 : List S35) (r : List S35) (w : World) (hr0 : Kd.C k35 w A0 l0.length l0) (hc0 : l0.length ≤ c0) (h : z26.f l0 = some r) :
  Calls Tryz.prog 14 #[.slice A0 l0.length c0] w fun e w' => ∃ v0_ : Value, e = .returned (v0_) ∧ Kd.R k35 35 w' w.heap.size (fun _ => True) v0_ r ∧ Below w.heap.size w w' := by
 unfold z26.f at h
 split at h
 ·rename_i hc
  injection h with h
  subst h
  exact mergeBottom3 (fun x : S35 => x.f0) (fun x => x.f1) (fun x => x.f2) S35.mk (fun _ _ _ => rfl) (fun _ _ _ => rfl) (fun _ _ _ => rfl) A0 c0 l0 w hr0 hc0 hc
 ·cases h

end Go.Proofs.YtljndnmmnkpmnaaGreatDoor.Print
