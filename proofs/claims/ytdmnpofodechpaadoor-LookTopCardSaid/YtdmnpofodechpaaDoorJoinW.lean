/- strings.Join by the shelf's contract, at this program. -/
import Derived.Test.YtdmnpofodechpaaDoorShelf2
import Derived.Test.YtdmnpofodechpaaDoorRaw
namespace Go.Proofs.YtdmnpofodechpaaDoor.Print
open Go Go.Proofs Go.RowKit Go.Shelf Go.Proofs.YtdmnpofodechpaaDoorW.PrintWords Go.Proofs.YtdmnpofodechpaaDoorW.PrintLast Go.Proofs.YtdmnpofodechpaaDoorW.PrintMore
set_option linter.unusedVariables false
set_option linter.unusedSimpArgs false
theorem join_extra : Builder.Extra Tryd.prog Tryd.lays156_ren where
  sizeBuilder := by kernel_rfl
  liesBuilder := by kernel_rfl
  t5 := by kernel_rfl
  a5 := fun w => by kernel_rfl
  z5 := fun w => by kernel_rfl
  v5 := fun w => by kernel_rfl
  infoByte := by kernel_rfl
  cellsByte := by kernel_rfl
  sizeByte := by kernel_rfl
  neB5 := by decide
theorem Join_any (A0 : Option Addr) (c0 : Nat) (l0 : List ByteArray) (a1 : ByteArray) (w : World) (hr0 : Kd.string.C w A0 l0.length l0) (hc0 : l0.length ≤ c0) (hn : l0.length ≤ 140737488355328) (hl : (Lib.join (l0.map (·.data.toList)) a1.data.toList).length ≤ 140737488355328) :
    Calls Tryd.prog 23 #[.slice A0 l0.length c0, .string a1] w fun e w' => e = .returned (.string ⟨(Lib.join (l0.map (·.data.toList)) a1.data.toList).toArray⟩) ∧ Below w.heap.size w w' := by
  by_cases h0 : 0 < l0.length
  · obtain ⟨⟨g, o, s⟩, rfl, hc⟩ := C_cells (Flat.scalar Value.string (fun _ => rfl)) hr0 h0
    have hcell : ∀ j x, l0[j]? = some x → w.cell? ((⟨g, o, s⟩ : Addr).add j) = some (.string x) := fun j x hj => by
      refine hc j (.string x) ?_
      have : encL (fun x => [Value.string x]) l0 = l0.map Value.string := by
        clear hc hr0 hc0 hn hl h0 hj
        induction l0 with
        | nil => rfl
        | cons a l ih => unfold encL at ih ⊢; rw [List.flatMap_cons, ih]; rfl
      rw [this, List.getElem?_map, hj]; rfl
    obtain rfl : s = none := by
      cases s with
      | none => rfl
      | some s =>
        exfalso
        have := hcell 0 (l0[0]'h0) (List.getElem?_eq_getElem h0)
        unfold World.cell? at this
        have e : ((⟨g, o, some s⟩ : Addr).add 0) = ⟨g, o, some s⟩ := by unfold Addr.add; simp
        rw [e] at this
        split at this <;> simp at this
    have hcell' : ∀ j x, l0[j]? = some x → w.cell? ⟨g, o + j, none⟩ = some (.string x) := fun j x hj => by
      have := hcell j x hj
      rwa [addr_add] at this
    have hg : g < w.heap.size := by
      rcases Nat.lt_or_ge g w.heap.size with h | h
      · exact h
      · have := hcell' 0 (l0[0]'h0) (List.getElem?_eq_getElem h0)
        simp [World.cell?, Array.getElem?_eq_none h] at this
    exact Any.strings_Join Tryd.lays156 join_extra g o c0 l0 a1 w hcell' hg hn hc0 hl
  · obtain rfl : l0 = [] := List.eq_nil_of_length_eq_zero (by omega)
    exact (Any.strings_Join_none Tryd.lays156 join_extra A0 c0 a1 w).mono fun e w' ⟨he, hw⟩ => ⟨he, hw ▸ Below.refl _ _⟩
end Go.Proofs.YtdmnpofodechpaaDoor.Print
