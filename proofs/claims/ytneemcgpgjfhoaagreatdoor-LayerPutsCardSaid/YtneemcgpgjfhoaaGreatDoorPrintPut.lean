import Derived.Test.YtneemcgpgjfhoaaGreatDoorPrint0
import Derived.Test.YtneemcgpgjfhoaaGreatDoorPrint1
import Derived.Test.YtneemcgpgjfhoaaGreatDoorPrint2
import Derived.Test.YtneemcgpgjfhoaaGreatDoorPrint3
import Derived.Test.YtneemcgpgjfhoaaGreatDoorExt
namespace Go.Proofs.YtneemcgpgjfhoaaGreatDoor.Print
open Go.RowKit Go.Proofs.YtneemcgpgjfhoaaGreatDoorW.PrintWords Go.Proofs.YtneemcgpgjfhoaaGreatDoorW.PrintLast Go.Proofs.YtneemcgpgjfhoaaGreatDoorW.PrintMore
attribute [local go_sem] max2_int min2_int max_two min_two max_three min_three max_four min_four   -- for this text's walks alone
set_option linter.unusedVariables false
set_option linter.unusedSimpArgs false
attribute [local go_sem high] eqA31
def layer_Put.f (l0 : List S31) (a1_0 : ByteArray) (a1_1 : Int) (a1_2 : ByteArray) : Option (List S31 × List Int) := putF (layer_Right.f 300) entry_Right.f layer_at.f S31.mk l0 a1_0 a1_1 a1_2
theorem layer_Put.calls (A0 : Option Addr) (c0 : Nat) (l0 : List S31) (a1_0 : ByteArray) (a1_1 : Int) (a1_2 : ByteArray) (r1 : List S31) (r2 : List Int) (w : World) (hr0 : Kd.C k31 w A0 l0.length l0) (hc0 : l0.length ≤ c0) (h : layer_Put.f l0 a1_0 a1_1 a1_2 = some (r1, r2)) :
  Calls Tryz.prog 8 #[.slice A0 l0.length c0, .agg #[.string a1_0, .int .i64 a1_1, .string a1_2]] w fun e w' => ∃ v0_ v1_ : Value, e = .returned (.tuple #[v0_, errV v1_]) ∧ Kd.R k31 31 w' w.heap.size (fun _ => True) v0_ r1 ∧ Kd.R kdF 68 w' w.heap.size (fun _ => True) v1_ r2 ∧ Below w.heap.size w w' :=
 layerPut3 (fun x : S31 => x.f0) (fun x => x.f1) (fun x => x.f2) errV kdF (layer_Right.f 300) entry_Right.f layer_at.f S31.mk (fun A c xs r w h hC hc => layer_Right.calls 300 A c xs r w hC hc h) (fun a k d r w h => entry_Right.calls a k d r w h) (fun A c xs p r1 r2 w h hC hc => layer_at.calls A c xs p r1 r2 w hC hc h) (fun a0 a1 a2 w => fail_At.calls a0 a1 a2 [a2] w rfl) rfl (fun _ _ _ => rfl) (fun _ _ _ => rfl) (fun _ _ _ => rfl) A0 c0 l0 a1_0 a1_2 a1_1 (r1, r2) w hr0 hc0 h

end Go.Proofs.YtneemcgpgjfhoaaGreatDoor.Print
