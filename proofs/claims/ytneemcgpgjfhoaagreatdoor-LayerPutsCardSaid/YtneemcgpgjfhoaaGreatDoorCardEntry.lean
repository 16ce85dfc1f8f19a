/- An entry (a struct of a text, a number, a text) as an argument: open and shut. -/
import Derived.Test.YtneemcgpgjfhoaaGreatDoorCardBase
import Derived.Lib.SmallJoins
namespace Go.Proofs.YtneemcgpgjfhoaaGreatDoor.Card
set_option linter.unusedSimpArgs false
set_option linter.unusedVariables false
open Go Go.ChangeShapes Go.WideShapes Go.RowKit Go.Joins
open Go.ChangeMaps (open_string shut_string)
section
variable {H : Type} {enc : TypeId × Value → H} {w : World} {base : Nat} {spare : Nat → Bool} {held : Bool}
theorem cells_entry : Tryz.prog.cellsOf 31 = 3 := by kernel_rfl
set_option maxRecDepth 100000 in
theorem open_entry {r : Reach} {b0 : Nat} {v : Value} {d : DataW H} {p : List MemPlace} (hv : Value.okWide Tryz.prog w r b0 31 v) (h : DataW.Trod enc Tryz.prog w base spare held 31 v d p) :
    ∃ (a b : ByteArray) (k : Int), v = .agg #[.string a, .int .i64 k, .string b] ∧ d = .agg [.lit (.string a.data.toList), .lit (.int .i64 k), .lit (.string b.data.toList)] ∧ p = [] ∧ a.size ≤ maxLen ∧ b.size ≤ maxLen ∧ (Lit.int .i64 k).wf = true := by
  obtain ⟨c0, c1, c2, y0, y1, y2, m, rfl, rfl, rfl, hy0, hy1, hy2⟩ := open_agg3 Tryz.underlying31 (by kernel_rfl) cells_entry hv h
  obtain ⟨a, e0, rfl, wa⟩ := DataW.trod_string Tryz.underlying9 hy0
  obtain ⟨k, e1, rfl, wk⟩ := DataW.trod_int Tryz.underlying3 hy1
  obtain ⟨b, e2, rfl, wb⟩ := DataW.trod_string Tryz.underlying9 hy2
  simp at e0 e1 e2
  subst e0 e1 e2
  exact ⟨a, b, k, rfl, rfl, rfl, wa, wb, wk⟩
set_option maxRecDepth 100000 in
theorem shut_entry (a b : ByteArray) (k : Int) (wa : a.size ≤ maxLen) (wb : b.size ≤ maxLen) (wk : (Lit.int .i64 k).wf = true) :
    DataW.Trod enc Tryz.prog w base spare held 31 (.agg #[.string a, .int .i64 k, .string b]) (.agg [.lit (.string a.data.toList), .lit (.int .i64 k), .lit (.string b.data.toList)]) [] := by
  simpa using shut_agg3 (enc := enc) (w := w) (base := base) (spare := spare) (held := held) (y0 := (.lit (.string a.data.toList), [])) (y1 := (.lit (.int .i64 k), [])) (y2 := (.lit (.string b.data.toList), [])) Tryz.underlying31 (by kernel_rfl) cells_entry ⟨1, by simp [DataW.trod, Value.cells, Tryz.underlying9, wa]⟩ ⟨1, by simp [DataW.trod, Tryz.underlying3, wk]⟩ ⟨1, by simp [DataW.trod, Value.cells, Tryz.underlying9, wb]⟩
end
end Go.Proofs.YtneemcgpgjfhoaaGreatDoor.Card
