/- shaleref08.Less is the order of byte lists. -/
import Derived.Test.YtklcceccadlgkaaDoorPureA
import Derived.Test.YtklcceccadlgkaaDoorPrint4
namespace Go.Proofs.YtklcceccadlgkaaDoor.Pure
open Go.RowKit Go.Proofs.YtklcceccadlgkaaDoor.Print Go.Proofs.YtklcceccadlgkaaDoorW.PrintWords
set_option linter.unusedVariables false
theorem less_l0 (a b : ByteArray) (ha : a.size ≤ 600) : ∀ (n i k : Nat), i ≤ a.size → i ≤ b.size → a.size - i ≤ n → 2 * n + 2 ≤ k →
    shaleref08_Less.l0 k a b (i : Int) = some (Op.bytesLess (a.data.toList.drop i) (b.data.toList.drop i)) := by
  intro n
  induction n with
  | zero =>
    intro i k h1 h2 hn hk
    obtain ⟨k, rfl⟩ : ∃ j, k = j + 1 + 1 := ⟨k - 2, by omega⟩
    have hi : i = a.size := by omega
    have hla : a.data.toList.drop i = [] := List.drop_eq_nil_of_le (by rw [hi]; exact Nat.le_refl _)
    rw [shaleref08_Less.l0, if_neg (by omega), shaleref08_Less.j1, if_neg (by decide), hla]
    by_cases hb : a.size < b.size
    · rw [decide_eq_true (show (a.size : Int) < b.size by omega), List.drop_eq_getElem_cons (show i < b.data.toList.length from hi ▸ hb)]; rfl
    · rw [decide_eq_false (show ¬ (a.size : Int) < b.size by omega), List.drop_eq_nil_of_le (show b.data.toList.length ≤ i by show b.size ≤ i; omega)]; rfl
  | succ n ih =>
    intro i k h1 h2 hn hk
    obtain ⟨k, rfl⟩ : ∃ j, k = j + 1 + 1 := ⟨k - 2, by omega⟩
    by_cases hi : i < a.size
    · rw [shaleref08_Less.l0, if_pos (show (i : Int) < a.size by omega), shaleref08_Less.j1]
      by_cases hb : i < b.size
      · have hih := ih (i + 1) k (by omega) (by omega) (by omega) (by omega)
        rw [if_pos (decide_eq_true (show (i : Int) < b.size by omega)), if_pos (by omega), if_pos (by omega), if_pos (by omega)]
        rw [List.drop_eq_getElem_cons (show i < a.data.toList.length from hi), List.drop_eq_getElem_cons (show i < b.data.toList.length from hb)]
        have ea : bt a (i : Int) = ((a.data.toList[i]'hi).toNat : Int) := by
          rw [← bt_at a (i : Int) hi, Array.getElem_toList]; rfl
        have eb : bt b (i : Int) = ((b.data.toList[i]'hb).toNat : Int) := by
          rw [← bt_at b (i : Int) hb, Array.getElem_toList]; rfl
        rw [ea, eb]
        generalize a.data.toList[i]'hi = x
        generalize b.data.toList[i]'hb = y
        by_cases hxy : x = y
        · subst hxy
          have hw : wrap64 ((i : Int) + 1) = ((i + 1 : Nat) : Int) := by unfold wrap64; omega
          refine (if_pos (show (x.toNat : Int) = (x.toNat : Int) from Eq.refl _)).trans ?_
          rw [hw]
          refine hih.trans ?_
          simp [Op.bytesLess]
        · have hne : ¬ ((x.toNat : Int) = (y.toNat : Int)) := fun h => hxy (UInt8.toNat_inj.1 (by omega))
          rw [if_neg hne]
          simp only [Op.bytesLess]
          rw [show (x == y) = false from beq_eq_false_iff_ne.2 hxy, Bool.false_and, Bool.or_false]
          congr 1
          exact decide_eq_decide.2 (by rw [UInt8.lt_iff_toNat_lt]; omega)
      · rw [if_neg (by rw [decide_eq_false (show ¬ (i : Int) < b.size by omega)]; decide), decide_eq_false (show ¬ (a.size : Int) < b.size by omega), List.drop_eq_nil_of_le (show b.data.toList.length ≤ i by show b.size ≤ i; omega)]
        cases a.data.toList.drop i <;> rfl
    · exact ih i (k + 1 + 1) h1 h2 (by omega) (by omega)
end Go.Proofs.YtklcceccadlgkaaDoor.Pure
