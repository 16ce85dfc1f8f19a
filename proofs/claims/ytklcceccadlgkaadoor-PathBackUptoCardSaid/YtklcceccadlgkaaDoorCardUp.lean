/- The second form's bound, for slices of texts: joined they are short. -/
import Derived.Test.YtklcceccadlgkaaDoorCardSl
namespace Go.Proofs.YtklcceccadlgkaaDoor.Card
set_option linter.unusedSimpArgs false
set_option linter.unusedVariables false
open Go
theorem bulk_part {H : Type} {d : DataW H} {l : List (DataW H)} (h : d ∈ l) : Rows.uptoBulk d ≤ Rows.uptoBulkAll l := by
  induction l with
  | nil => cases h
  | cons x r ih =>
    simp only [Rows.uptoBulkAll]
    rcases List.mem_cons.1 h with e | e
    · subst e; omega
    · have := ih e; omega
theorem bulk_strs {H : Type} : ∀ (l : List ByteArray) (D : List (DataW H)), D.length = l.length → (∀ (i : Nat) (y : ByteArray) (z : DataW H), l[i]? = some y → D[i]? = some z → z = .lit (.string y.data.toList)) →
    ((l.map fun b => b.data.toList).flatMap fun n => (47 : UInt8) :: n).length ≤ Rows.uptoBulkAll D
  | [], D, _, _ => by simp
  | y :: l, [], h, _ => by simp at h
  | y :: l, z :: D, h, hq => by
    have h1 := bulk_strs l D (by simpa using h) (fun i a b ha hb => hq (i + 1) a b (by simpa using ha) (by simpa using hb))
    have h2 := hq 0 y z rfl rfl
    subst h2
    rw [List.map_cons, List.flatMap_cons, List.length_append]
    simp only [Rows.uptoBulkAll, Rows.uptoBulk, List.length_cons]
    omega
theorem bulk_slice {H : Type} {d : DataW H} {l : List ByteArray} (h : (d = .nil ∧ l = []) ∨ ∃ (D sp : List (DataW H)), d = .slice D sp ∧ D.length = l.length ∧ ∀ (i : Nat) (y : ByteArray) (z : DataW H), l[i]? = some y → D[i]? = some z → z = .lit (.string y.data.toList))
    {ds gs : List (DataW H)} (hd : d ∈ ds) (hk : Rows.uptoSmall H (ds ++ gs) = true) : ((l.map fun b => b.data.toList).flatMap fun n => (47 : UInt8) :: n).length ≤ 1048576 := by
  have hb : Rows.uptoBulkAll (ds ++ gs) ≤ 1048576 := of_decide_eq_true hk
  have hp := bulk_part (show d ∈ ds ++ gs from List.mem_append_left _ hd)
  rcases h with ⟨rfl, rfl⟩ | ⟨D, sp, rfl, hl, hq⟩
  · simp
  · have h1 := bulk_strs l D hl hq
    have h2 : Rows.uptoBulk (DataW.slice D sp) = Rows.uptoBulkAll D + Rows.uptoBulkAll sp + 1 := by simp only [Rows.uptoBulk]
    omega
end Go.Proofs.YtklcceccadlgkaaDoor.Card
