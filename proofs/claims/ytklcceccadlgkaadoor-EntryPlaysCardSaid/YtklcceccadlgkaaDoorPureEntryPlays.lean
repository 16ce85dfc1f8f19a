/- EntryPlays in plain words: rightness, an entry's bytes, and what is a directory are the document's. -/
import Derived.Test.YtklcceccadlgkaaDoorPureEnc
import Derived.Test.YtklcceccadlgkaaDoorPureRefPath
import Derived.Test.YtklcceccadlgkaaDoorPrint3
import Derived.Test.YtklcceccadlgkaaDoorPrint4
import Derived.Test.YtklcceccadlgkaaDoorPrint5
namespace Go.Proofs.YtklcceccadlgkaaDoor.Pure
open Go.RowKit Go.Proofs.YtklcceccadlgkaaDoor.Print Go.Proofs.YtklcceccadlgkaaDoorW.PrintWords
set_option linter.unusedVariables false
set_option linter.unusedSimpArgs false
theorem rnum_all : ((List.range 601).all fun n => (shaleref04_Num.f 3 (n : Int)).map (fun b => b.data.toList) == some (numB n)) = true := by kernel_rfl
theorem rnum_eq (n : Nat) (h : n ≤ 600) : shaleref04_Num.f 3 (n : Int) = some ⟨(numB n).toArray⟩ := by
  have h1 := eq_of_beq (List.all_eq_true.1 rnum_all n (List.mem_range.2 (by omega)))
  cases hc : shaleref04_Num.f 3 (n : Int) with
  | none => rw [hc] at h1; cases h1
  | some b =>
    rw [hc] at h1
    have h2 : b.data.toList = numB n := Option.some.inj h1
    rw [← h2]
theorem rnum_up (m n : Nat) (h : n ≤ 600) : shaleref04_Num.f (3 + m) (n : Int) = some ⟨(numB n).toArray⟩ := by
  induction m with
  | zero => exact rnum_eq n h
  | succ m ih => exact shaleref04_Num.mono _ (3 + m) _ ih
theorem rright_eq (k : Nat) (a : ByteArray) (n : Int) (d : ByteArray) (ha : a.size ≤ 600) (hk : 3200 < k) : shaleref08_Right.f k a n d = some (rightOf a n d) := by
  obtain ⟨k, rfl⟩ : ∃ j, k = j + 1 := ⟨k - 1, by omega⟩
  unfold shaleref08_Right.f rightOf deepOf
  rw [ThR.rsplit_eq a (by omega) _ hk, Option.bind_some]
  unfold ThR.nm
  cases hs : splitF a.data.toList with
  | none => rfl
  | some l =>
    dsimp only
    rw [if_pos rfl, shaleref08_Right.j0, List.length_map]
    by_cases hl : ((l.length : Int) == 0) = true
    · rw [if_pos hl, decide_eq_false (by have := eq_of_beq hl; omega)]; rfl
    · have hpos : 1 ≤ (l.length : Int) := by
        have : ¬ ((l.length : Int) = 0) := fun h => hl (by rw [h]; rfl)
        omega
      rw [if_neg hl, decide_eq_true hpos, Bool.true_and]
      by_cases k1 : n = 1
      · rw [if_pos k1, if_pos k1]
      · rw [if_neg k1, if_neg k1]
        by_cases k2 : n ≥ 2
        · rw [if_pos k2]
          by_cases k4 : n ≤ 4
          · rw [if_pos k4, if_pos (by omega)]
          · rw [if_neg k4, if_neg (by omega)]
        · rw [if_neg k2, if_neg (by omega)]
theorem rlay_eq (m : Nat) (a : ByteArray) (n : Int) (d : ByteArray) (ha : a.size ≤ 600) (hd : d.size ≤ 600) (h : rightOf a n d = true) : ∃ t, shaleref08_Lay.f (3 + m) a n d = some t ∧ t.data.toList = enc a n d := by
  have hk := kind_le a n d h
  have h1 := num_len a.size
  have h2 := num_len d.size
  have hs : strOfNums [n % 256] = ⟨(numB n.toNat).toArray⟩ := by
    rcases hk with rfl | rfl | rfl | rfl <;> rfl
  have z0 : (⟨(numB n.toNat).toArray⟩ : ByteArray).size = (numB n.toNat).length := rfl
  have z1 : (⟨(numB a.size).toArray⟩ : ByteArray).size = (numB a.size).length := rfl
  have z2 : (⟨(numB d.size).toArray⟩ : ByteArray).size = (numB d.size).length := rfl
  have h0 := num_len n.toNat
  refine ⟨((((⟨(numB n.toNat).toArray⟩ : ByteArray) ++ ⟨(numB a.size).toArray⟩) ++ a) ++ ⟨(numB d.size).toArray⟩) ++ d, ?_, ?_⟩
  · unfold shaleref08_Lay.f
    rw [Option.bind_some, rnum_up m a.size ha, Option.bind_some, hs, rnum_up m d.size hd]
    rw [if_pos (by omega), if_pos (by simp only [ByteArray.size_append]; omega), Option.bind_some, if_pos (by simp only [ByteArray.size_append]; omega), if_pos (by simp only [ByteArray.size_append]; omega)]
  · simp [enc]
theorem EntryPlays (a0_0 : ByteArray) (a0_1 : Int) (a0_2 : ByteArray) : ∃ k, shalelaw08_EntryPlays.f k a0_0 a0_1 a0_2 = some true := by
  refine ⟨6 + 3300 + 1, ?_⟩
  have w0 : shalelaw08_awake.f (6 + 3300 + 1) = some true := awakeN 3302
  have w1 : shalelaw08_awake.f (6 + 3300) = some true := awakeN 3301
  have jt : shalelaw08_EntryPlays.j0 (6 + 3300 + 1) true a0_0 a0_1 a0_2 = some true := by
    rw [shalelaw08_EntryPlays.j0, if_pos rfl, w1]; rfl
  unfold shalelaw08_EntryPlays.f
  rw [w0, Option.bind_some, if_pos rfl, few_eq, Option.bind_some]
  by_cases hf : a0_0.size ≤ 600 ∧ a0_2.size ≤ 600
  · rw [decide_eq_true hf, Bool.not_true, shalelaw08_EntryPlays.j0, if_neg (by decide)]
    have hR := rright_eq (6 + 3300) a0_0 a0_1 a0_2 hf.1 (by omega)
    have hE := right_eq a0_0 a0_1 a0_2 (by omega)
    have cN : fail_CodeNum.f 1 = some 1 := rfl
    have hH : entry_Holds.f a0_0 a0_1 a0_2 = some (decide (a0_1 = 2) || (a0_1 == 4)) := by
      unfold entry_Holds.f
      by_cases h2 : a0_1 = 2
      · rw [if_pos h2, decide_eq_true h2]; rfl
      · rw [if_neg h2, decide_eq_false h2]; rfl
    have tail : ∀ t : Bool, t = (decide (a0_1 = 2) || (a0_1 == 4)) → (if a0_1 = 2 then (if (t == true) = true then ((fail_CodeNum.f 1).bind fun t194 => (some (t194 == 1))) else (some false)) else (if (t == (a0_1 == 4)) = true then ((fail_CodeNum.f 1).bind fun t195 => (some (t195 == 1))) else (some false))) = some true := by
      intro t ht
      by_cases h2 : a0_1 = 2
      · rw [if_pos h2, ht, decide_eq_true h2, Bool.true_or, if_pos (by decide), cN]; rfl
      · rw [if_neg h2, ht, decide_eq_false h2, Bool.false_or, if_pos (beq_self_eq_true _), cN]; rfl
    cases hr : rightOf a0_0 a0_1 a0_2 with
    | false =>
      rw [hr] at hR hE
      rw [lay_wrong _ _ _ _ hf.1 hr, Option.bind_some, hR, Option.bind_some]
      unfold entry_ReadNil.f
      rw [Option.bind_some]
      dsimp only
      rw [hE, Option.bind_some, if_pos (by decide)]
      have c1 : fail_Code.f [1] = some 1 := rfl
      rw [c1, Option.bind_some, if_pos (by decide), if_neg (by decide), hH, Option.bind_some]
      exact tail _ rfl
    | true =>
      rw [hr] at hR hE
      obtain ⟨t, ht, hd⟩ := rlay_eq 3303 a0_0 a0_1 a0_2 hf.1 hf.2 hr
      rw [show 3 + 3303 = 6 + 3300 from rfl] at ht
      rw [layN 3300 _ _ _ _ (lay_right _ _ _ hf.1 hf.2 hr), Option.bind_some, hR, Option.bind_some]
      unfold entry_ReadNil.f
      rw [Option.bind_some]
      dsimp only
      rw [hE, Option.bind_some, if_pos (by decide)]
      have c0 : fail_Code.f [] = some 0 := rfl
      rw [c0, Option.bind_some, if_pos (by decide), if_pos rfl, ht, Option.bind_some, if_pos (by rw [Lib.toList_data, Lib.toList_data, hd]), hH, Option.bind_some]
      exact tail _ rfl
  · rw [decide_eq_false hf]
    exact jt
end Go.Proofs.YtklcceccadlgkaaDoor.Pure
