/- look.At: one name more, one name less; what it answers is what the stack shows. -/
import Derived.Test.YthfbcclbappbcaaGreatDoorLookA
namespace Go.Proofs.YthfbcclbappbcaaGreatDoor.Th
open Go Go.RowKit Go.Proofs.YthfbcclbappbcaaGreatDoor.Print Go.Proofs.YthfbcclbappbcaaGreatDoorW.PrintWords
set_option linter.unusedVariables false
set_option linter.unusedSimpArgs false
open Classical
/-- One name's step. -/
def atS (s : List (List En)) (L : List By) (i : Nat) (b : Int) (f : Nat) : ByteArray × Int × ByteArray × Int × List Int :=
  if b = 1 then (noB, 0, noB, 0, [6]) else
    match askG (joinB (L.take (i + 1))) f s.reverse 0 false with
    | .on g true => (pathB (L.take (i + 1)), 2, noB, (g : Int), [])
    | .on _ false => (noB, 0, noB, 0, [3])
    | .dir g => (pathB (L.take (i + 1)), 2, noB, (g : Int), [])
    | .none_ => (noB, 0, noB, 0, [3])
    | .file e j => (e.f0, e.f1, e.f2, (j : Int), [])
theorem atG_zero (s : List (List En)) (L : List By) (i : Nat) (a : ByteArray) (b : Int) (d : ByteArray) (f : Nat) : atG s L 0 i a b d f = (a, b, d, (f : Int), []) := rfl
theorem atG_snoc (s : List (List En)) (L : List By) : ∀ (n i : Nat) (a : ByteArray) (b : Int) (d : ByteArray) (f : Nat),
    (∃ a' b' d', ∃ f' : Nat, atG s L n i a b d f = (a', b', d', (f' : Int), []) ∧ atG s L (n + 1) i a b d f = atS s L (i + n) b' f') ∨
    (∃ c : Int, (c = 3 ∨ c = 6) ∧ atG s L n i a b d f = (noB, 0, noB, 0, [c]) ∧ atG s L (n + 1) i a b d f = (noB, 0, noB, 0, [c]))
  | 0, i, a, b, d, f => by
    refine .inl ⟨a, b, d, f, rfl, ?_⟩
    rw [atG, atS, Nat.add_zero]
    split
    · rfl
    · cases askG (joinB (L.take (i + 1))) f s.reverse 0 false with
      | on g m => cases m <;> rfl
      | dir g => rfl
      | none_ => rfl
      | file e j => rfl
  | n + 1, i, a, b, d, f => by
    have e1 : i + (n + 1) = (i + 1) + n := by omega
    rw [e1, atG, atG]
    by_cases hb : b = 1
    · rw [if_pos hb, if_pos hb]; exact .inr ⟨6, .inr rfl, rfl, rfl⟩
    · rw [if_neg hb, if_neg hb]
      cases askG (joinB (L.take (i + 1))) f s.reverse 0 false with
      | on g m =>
        cases m with
        | true => exact atG_snoc s L n (i + 1) _ _ _ g
        | false => exact .inr ⟨3, .inl rfl, rfl, rfl⟩
      | dir g => exact atG_snoc s L n (i + 1) _ _ _ g
      | none_ => exact .inr ⟨3, .inl rfl, rfl, rfl⟩
      | file e j => exact atG_snoc s L n (i + 1) _ _ _ j
/-- What the answer says. -/
structure At (s : List (List En)) (L : List By) (x : ByteArray × Int × ByteArray × Int × List Int) : Prop where
  bad : x.2.2.2.2 ≠ [] → (x = (noB, 0, noB, 0, [3]) ∨ x = (noB, 0, noB, 0, [6])) ∧ L ≠ [] ∧ shows s (joinB L) = none
  good : x.2.2.2.2 = [] → ∃ f : Nat, x.2.2.2.1 = (f : Int) ∧ (L = [] ∧ x = (B [47], 2, noB, 0, []) ∨ L ≠ [] ∧ f < s.length ∧ shows s (joinB L) = some ⟨x.1, x.2.1, x.2.2.1⟩) ∧
    (x.2.1 = 2 ∧ Inv s (joinB L) f ∨ x.2.1 = 1 ∧ ∃ l, s[f]? = some l ∧ fnd l (joinB L) = some ⟨x.1, x.2.1, x.2.2.1⟩)
end Go.Proofs.YthfbcclbappbcaaGreatDoor.Th
