/- A []int as an argument. -/
import Derived.Test.YtjlflmjimibciaaGreatDoorCardSl
namespace Go.Proofs.YtjlflmjimibciaaGreatDoor.Card
set_option linter.unusedSimpArgs false
set_option linter.unusedVariables false
open Go Go.Deep Go.ChangeShapes Go.WideShapes Go.RowKit Go.Proofs.YtjlflmjimibciaaGreatDoor.Print Go.Proofs.YtjlflmjimibciaaGreatDoorW.PrintWords
section
variable {H : Type} {enc : TypeId × Value → H} {w : World} {spare : Nat → Bool} {held : Bool}
set_option maxRecDepth 100000 in
/-- A []int. -/
theorem open_nums {b0 : Nat} {v : Value} {d : DataW H} {p : List MemPlace} (hv : Value.okWide Tryz.prog w .any b0 43 v) (h : DataW.Trod enc Tryz.prog w 0 spare held 43 v d p) :
    ∃ (A : Option Addr) (n c : Nat) (l : List Int), v = .slice A n c ∧ l.length = n ∧ n ≤ c ∧ c ≤ maxLen ∧ Kd.C (Kd.int .i64) w A n l ∧ True := by
  obtain ⟨a0, n0, c0, rfl⟩ := okWide_slice Tryz.underlying43 hv
  obtain ⟨fuel, hf⟩ := h
  obtain ⟨A, n, c, l, hcs, h2, h3, h4, h5, h6⟩ := open_row (α := Int) (Kd.int .i64) Tryz.underlying43 (by kernel_rfl) (fun _ _ => True) (fun fuel cs x hcs hx => by
    obtain ⟨a, e0, _⟩ := DataW.trod_int Tryz.underlying3 hx
    exact ⟨a, e0, trivial⟩) hf
  have hcs' : ([Value.slice a0 n0 c0] : List Value) = [.slice A n c] := by simpa [Value.cells] using hcs
  injection hcs' with hcs' _
  injection hcs' with e1 e2 e3
  subst e1; subst e2; subst e3
  exact ⟨_, _, _, l, rfl, h2, h3, h4, h5, trivial⟩
end
end Go.Proofs.YtjlflmjimibciaaGreatDoor.Card
