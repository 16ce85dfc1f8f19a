/- Rows of entries, rows of such rows, as arguments: what they hold, as the print's words read it. -/
import Derived.Test.YtjlflmjimibciabGreatDoorCardSl
import Derived.Lib.SmallJoins
namespace Go.Proofs.YtjlflmjimibciabGreatDoor.Card
set_option linter.unusedSimpArgs false
set_option linter.unusedVariables false
open Go Go.Deep Go.ChangeShapes Go.WideShapes Go.RowKit Go.Joins Go.Proofs.YtjlflmjimibciabGreatDoor.Print Go.Proofs.YtjlflmjimibciabGreatDoorW.PrintWords
section
variable {H : Type} {enc : TypeId × Value → H} {w : World} {spare : Nat → Bool} {held : Bool}
/-- What an entry of a row is told as. -/
def tellEn (y : S39) : DataW H := .agg [.lit (.string y.f0.data.toList), .lit (.int .i64 y.f1), .lit (.string y.f2.data.toList)]
theorem cells_st : Tryz.prog.cellsOf 9 = 1 := by kernel_rfl
theorem cells_in : Tryz.prog.cellsOf 3 = 1 := by kernel_rfl
set_option maxRecDepth 100000 in
theorem hK_en (fuel : Nat) (cs : List Value) (x : DataW H × List MemPlace) (hcs : cs.length = 3) (hx : DataW.trod enc Tryz.prog w 0 spare held fuel 39 cs = some x) :
    ∃ y : S39, k39.K w y cs ∧ x.1 = tellEn y := by
  obtain ⟨c0, c1, c2, rfl⟩ : ∃ a b c, cs = [a, b, c] := by
    match cs, hcs with
    | [a, b, c], _ => exact ⟨a, b, c, rfl⟩
  obtain ⟨y0, y1, y2, n, hx1, _, h0, h1, h2⟩ := trod_struct3 Tryz.underlying39 hx
  have g0 : DataW.trod enc Tryz.prog w 0 spare held n 9 [c0] = some y0 := by simpa [cells_st] using h0
  have g1 : DataW.trod enc Tryz.prog w 0 spare held n 3 [c1] = some y1 := by simpa [cells_in] using h1
  have g2 : DataW.trod enc Tryz.prog w 0 spare held n 9 [c2] = some y2 := by simpa [cells_st] using h2
  obtain ⟨a, e0, rfl, wa⟩ := DataW.trod_string Tryz.underlying9 g0
  obtain ⟨k, e1, rfl, wk⟩ := DataW.trod_int Tryz.underlying3 g1
  obtain ⟨b, e2, rfl, wb⟩ := DataW.trod_string Tryz.underlying9 g2
  simp at e0 e1 e2
  subst e0 e1 e2
  exact ⟨⟨a, k, b⟩, k39_mk w _, by rw [hx1]; rfl⟩
def tellRow (l : List S39) (d : DataW H) : Prop := (d = .nil ∧ l = []) ∨ ∃ (D sp : List (DataW H)), d = .slice D sp ∧ D.length = l.length ∧ ∀ (i : Nat) (y : S39) (z : DataW H), l[i]? = some y → D[i]? = some z → z = tellEn y
set_option maxRecDepth 100000 in
/-- A []Entry. -/
theorem open_ents {b0 : Nat} {v : Value} {d : DataW H} {p : List MemPlace} (hv : Value.okWide Tryz.prog w .any b0 22 v) (h : DataW.Trod enc Tryz.prog w 0 spare held 22 v d p) :
    ∃ (A : Option Addr) (n c : Nat) (l : List S39), v = .slice A n c ∧ l.length = n ∧ n ≤ c ∧ c ≤ maxLen ∧ Kd.C k39 w A n l ∧ tellRow l d := by
  obtain ⟨a0, n0, c0, rfl⟩ := okWide_slice Tryz.underlying22 hv
  obtain ⟨fuel, hf⟩ := h
  obtain ⟨A, n, c, l, hcs, h2, h3, h4, h5, h6⟩ := open_row (α := S39) k39 Tryz.underlying22 (by kernel_rfl) (fun y z => z = tellEn y) hK_en hf
  have hcs' : ([Value.slice a0 n0 c0] : List Value) = [.slice A n c] := by simpa [Value.cells] using hcs
  injection hcs' with hcs' _
  injection hcs' with e1 e2 e3
  subst e1; subst e2; subst e3
  exact ⟨_, _, _, l, rfl, h2, h3, h4, h5, h6⟩
end
end Go.Proofs.YtjlflmjimibciabGreatDoor.Card
