import Derived.Test.YtjlflmjimibciabGreatDoorPrint0
namespace Go.Proofs.YtjlflmjimibciabGreatDoor.Print
open Go.RowKit Go.Proofs.YtjlflmjimibciabGreatDoorW.PrintWords Go.Proofs.YtjlflmjimibciabGreatDoorW.PrintLast Go.Proofs.YtjlflmjimibciabGreatDoorW.PrintMore
attribute [local go_sem] max2_int min2_int max_two min_two max_three min_three max_four min_four   -- for this text's walks alone
set_option linter.unusedVariables false
set_option linter.unusedSimpArgs false
def fail_Code.f (l0 : List Int) : Option (Int) := some (l0.headD 0)
set_option maxHeartbeats 8000000 in
theorem fail_Code.calls (A0 : Option Addr) (c0 : Nat) (l0 : List Int) (r : Int) (w : World) (hr0 : kdF.C w A0 l0.length l0) (hc0 : l0.length ≤ c0) (hG : Gl w) (h : fail_Code.f l0 = some r) :
  Calls Tryz.prog 9 #[errV (.slice A0 l0.length c0)] w fun e w' => e = .returned (.int .i64 r) ∧ Below w.heap.size w w' := by
 obtain rfl := Option.some.inj h
 cases l0 with
 | nil =>
  have hv : errV (.slice A0 ([] : List Int).length c0) = .nilIface := by cases A0 <;> rfl
  rw [hv]
  exact Code_nil w
 | cons c l =>
  obtain ⟨ad, rfl, hc⟩ := hr0.2.2 (by simp)
  obtain ⟨cs, _, hK, hcs⟩ := hc 0 c rfl
  obtain ⟨op, p, rfl⟩ := hK
  obtain ⟨g, o, s⟩ := ad
  have h0 : w.cell? ⟨g, o, s⟩ = some (.string op) := hcs 0 (.string op) rfl
  have h1 : w.cell? ⟨g, o + 1, none⟩ = some (.string p) := hcs 1 (.string p) rfl
  have h2 : w.cell? ⟨g, o + 2, none⟩ = some (.iface 52 (.int .i64 c)) := hcs 2 (.iface 52 (.int .i64 c)) rfl
  obtain rfl : s = none := by
   cases s with
   | none => rfl
   | some s =>
    exfalso
    unfold World.cell? at h0
    split at h0 <;> simp at h0
  have hv : errV (.slice (some ⟨g, o, none⟩) (c :: l).length c0) = .iface 80 (.pointer (some ⟨g, o, none⟩)) := rfl
  rw [hv]
  exact Code_fault c op p g o w hG h0 h1 h2

end Go.Proofs.YtjlflmjimibciabGreatDoor.Print
