import Derived.Test.YtjlflmjimibciaaGreatDoorPrint0
import Derived.Test.YtjlflmjimibciaaGreatDoorPrint1
import Derived.Test.YtjlflmjimibciaaGreatDoorPrintUn
import Derived.Test.YtjlflmjimibciaaGreatDoorExt
namespace Go.Proofs.YtjlflmjimibciaaGreatDoor.Print
open Go.RowKit Go.Proofs.YtjlflmjimibciaaGreatDoorW.PrintWords Go.Proofs.YtjlflmjimibciaaGreatDoorW.PrintLast Go.Proofs.YtjlflmjimibciaaGreatDoorW.PrintMore
attribute [local go_sem] max2_int min2_int max_two min_two max_three min_three max_four min_four   -- for this text's walks alone
set_option linter.unusedVariables false
set_option linter.unusedSimpArgs false
def merge_Bottom.f (l0 : List S41) : Option (List S41) := if l0.length * 40 ≤ 140737488355328 then some (botG (fun x : S41 => x.f0) (fun x => x.f1) (fun x => x.f2) S41.mk l0) else none
theorem merge_Bottom.calls (A0 : Option Addr) (c0 : Nat) (l0 : List S41) (r : List S41) (w : World) (hr0 : Kd.C k41 w A0 l0.length l0) (hc0 : l0.length ≤ c0) (h : merge_Bottom.f l0 = some r) :
  Calls Tryz.prog 31 #[.slice A0 l0.length c0] w fun e w' => ∃ v0_ : Value, e = .returned (v0_) ∧ Kd.R k41 41 w' w.heap.size (fun _ => True) v0_ r ∧ Below w.heap.size w w' := by
 unfold merge_Bottom.f at h
 split at h
 ·rename_i hc
  injection h with h
  subst h
  exact mergeBottom3 (fun x : S41 => x.f0) (fun x => x.f1) (fun x => x.f2) S41.mk (fun _ _ _ => rfl) (fun _ _ _ => rfl) (fun _ _ _ => rfl) A0 c0 l0 w hr0 hc0 hc
 ·cases h

def merge_One.f (l0 : List S41) (a1_0 : ByteArray) (a1_1 : Int) (a1_2 : ByteArray) : Option (List S41) := if (l0.length + 1) * 40 ≤ 140737488355328 ∧ (l0.all fun x => (path_Under.f x.f0 a1_0).isSome) = true then some (moneG (fun x : S41 => x.f0) (fun x => x.f1) path_Under.f S41.mk l0 a1_0 a1_1 a1_2) else none
theorem merge_One.calls (A0 : Option Addr) (c0 : Nat) (l0 : List S41) (a1_0 : ByteArray) (a1_1 : Int) (a1_2 : ByteArray) (r : List S41) (w : World) (hr0 : Kd.C k41 w A0 l0.length l0) (hc0 : l0.length ≤ c0) (h : merge_One.f l0 a1_0 a1_1 a1_2 = some r) :
  Calls Tryz.prog 32 #[.slice A0 l0.length c0, .agg #[.string a1_0, .int .i64 a1_1, .string a1_2]] w fun e w' => ∃ v0_ : Value, e = .returned (v0_) ∧ Kd.R k41 41 w' w.heap.size (fun _ => True) v0_ r ∧ Below w.heap.size w w' := by
 unfold merge_One.f at h
 split at h
 ·rename_i hc
  injection h with h
  subst h
  exact mergeOne3 (fun x : S41 => x.f0) (fun x => x.f1) (fun x => x.f2) path_Under.f S41.mk (fun a b r w h => path_Under.calls a b r w h) (fun _ _ _ => rfl) (fun _ _ _ => rfl) (fun _ _ _ => rfl) A0 c0 l0 a1_0 a1_2 a1_1 w hr0 hc0 hc.1 (fun _ x hx _ => List.all_eq_true.1 hc.2 x hx)
 ·cases h

end Go.Proofs.YtjlflmjimibciaaGreatDoor.Print
