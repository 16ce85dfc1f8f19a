/- LayerBack: the law's function answers true. -/
import Derived.Test.YtjlflmjimibciabGreatDoorPrintLayerBack
namespace Go.Proofs.YtjlflmjimibciabGreatDoor.Th
open Go Go.Proofs.YtjlflmjimibciabGreatDoor.Print
theorem LayerBack (l0 : List S39) (a1 a2 : Int) (y1 : (Lit.int .u16 a1).wf = true) (y2 : (Lit.int .u8 a2).wf = true) : ∃ k, shalelaw09_LayerBack.f k l0 a1 a2 = some true := by
  refine ⟨0, ?_⟩
  unfold shalelaw09_LayerBack.f
  rw [if_pos]
  have h1 : IntKind.u16.min ≤ a1 ∧ a1 ≤ IntKind.u16.max := by simpa [Lit.wf] using y1
  have h2 : IntKind.u8.min ≤ a2 ∧ a2 ≤ IntKind.u8.max := by simpa [Lit.wf] using y2
  have e0 : IntKind.u8.min = 0 := by decide
  have e1 : IntKind.u8.max = 255 := by decide
  have e2 : IntKind.u16.min = 0 := by decide
  have e3 : IntKind.u16.max = 65535 := by decide
  omega
end Go.Proofs.YtjlflmjimibciabGreatDoor.Th
