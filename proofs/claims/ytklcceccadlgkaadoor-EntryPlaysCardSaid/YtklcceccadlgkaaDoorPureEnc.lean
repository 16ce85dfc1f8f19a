/- An entry's bytes: what entry.Lay answers, and that no right entry's bytes begin another one's. -/
import Derived.Test.YtklcceccadlgkaaDoorPureA
namespace Go.Proofs.YtklcceccadlgkaaDoor.Pure
open Go.RowKit Go.Proofs.YtklcceccadlgkaaDoor.Print Go.Proofs.YtklcceccadlgkaaDoorW.PrintWords
set_option linter.unusedVariables false
/-- A number's bytes (up to 600). -/
def numB (n : Nat) : List UInt8 := if n < 128 then [UInt8.ofNat n] else [UInt8.ofNat (n % 128 + 128), UInt8.ofNat (n / 128)]
theorem num_all : ((List.range 601).all fun n => (code_Num.f 6 (n : Int)).map (fun b => b.data.toList) == some (numB n)) = true := by kernel_rfl
theorem num_eq (n : Nat) (h : n ≤ 600) : code_Num.f 6 (n : Int) = some ⟨(numB n).toArray⟩ := by
  have h1 := eq_of_beq (List.all_eq_true.1 num_all n (List.mem_range.2 (by omega)))
  cases hc : code_Num.f 6 (n : Int) with
  | none => rw [hc] at h1; cases h1
  | some b =>
    rw [hc] at h1
    have h2 : b.data.toList = numB n := Option.some.inj h1
    rw [← h2]
theorem num_len (n : Nat) : (numB n).length ≤ 2 := by unfold numB; split <;> simp
theorem num_pre (n m : Nat) (x y : List UInt8) (hn : n ≤ 600) (hm : m ≤ 600) (h : numB n ++ x = numB m ++ y) : n = m ∧ x = y := by
  have key : ∀ a b : Nat, a < 256 → b < 256 → UInt8.ofNat a = UInt8.ofNat b → a = b := fun a b ha hb e => by
    have := congrArg UInt8.toNat e
    simp at this; omega
  unfold numB at h
  by_cases h1 : n < 128
  · by_cases h2 : m < 128
    · rw [if_pos h1, if_pos h2] at h
      obtain ⟨e1, e2⟩ := List.cons.inj h
      exact ⟨key _ _ (by omega) (by omega) e1, e2⟩
    · rw [if_pos h1, if_neg h2] at h
      obtain ⟨e1, e2⟩ := List.cons.inj h
      have := key _ _ (by omega) (by omega) e1
      omega
  · by_cases h2 : m < 128
    · rw [if_neg h1, if_pos h2] at h
      obtain ⟨e1, e2⟩ := List.cons.inj h
      have := key _ _ (by omega) (by omega) e1
      omega
    · rw [if_neg h1, if_neg h2] at h
      obtain ⟨e1, e2⟩ := List.cons.inj h
      obtain ⟨e3, e4⟩ := List.cons.inj e2
      have := key _ _ (by omega) (by omega) e1
      have := key _ _ (by omega) (by omega) e3
      exact ⟨by omega, e4⟩
/-- An entry's bytes. -/
def enc (a : ByteArray) (k : Int) (d : ByteArray) : List UInt8 := numB k.toNat ++ (numB a.size ++ (a.data.toList ++ (numB d.size ++ d.data.toList)))
theorem str_eq (s : ByteArray) (h : s.size ≤ 600) : code_Str.f 6 s = some ⟨(numB s.size ++ s.data.toList).toArray⟩ := by
  unfold code_Str.f
  have hl := num_len s.size
  have hs : (⟨(numB s.size).toArray⟩ : ByteArray).size = (numB s.size).length := rfl
  rw [num_eq s.size h, Option.bind_some, if_pos (by omega)]
  congr 1
theorem kind_le (a : ByteArray) (k : Int) (d : ByteArray) (h : rightOf a k d = true) : k = 1 ∨ k = 2 ∨ k = 3 ∨ k = 4 := by
  unfold rightOf at h
  rw [Bool.and_eq_true] at h
  by_cases h1 : k = 1
  · exact Or.inl h1
  · have h2 := h.2
    rw [if_neg h1] at h2
    split at h2
    · exact Or.inr (by assumption)
    · cases h2
theorem lay_right (a : ByteArray) (k : Int) (d : ByteArray) (ha : a.size ≤ 600) (hd : d.size ≤ 600) (h : rightOf a k d = true) : entry_Lay.f 6 a k d = some (⟨(enc a k d).toArray⟩, []) := by
  have hk := kind_le a k d h
  have hkn : ((k.toNat : Nat) : Int) = k := by omega
  have hl1 := num_len k.toNat
  have hl2 := num_len a.size
  have hl3 := num_len d.size
  have s1 : (⟨(numB k.toNat).toArray⟩ : ByteArray).size = (numB k.toNat).length := rfl
  have s2 : (⟨(numB a.size ++ a.data.toList).toArray⟩ : ByteArray).size = (numB a.size ++ a.data.toList).length := rfl
  have s3 : (⟨(numB d.size ++ d.data.toList).toArray⟩ : ByteArray).size = (numB d.size ++ d.data.toList).length := rfl
  have la : a.data.toList.length = a.size := rfl
  have ld : d.data.toList.length = d.size := rfl
  rw [List.length_append, la] at s2
  rw [List.length_append, ld] at s3
  unfold entry_Lay.f
  rw [right_eq a k d (by omega), Option.bind_some, h, if_pos rfl]
  have hn := num_eq k.toNat (by omega)
  rw [hkn] at hn
  rw [hn, Option.bind_some, str_eq a ha, Option.bind_some, if_pos (by omega), str_eq d hd, Option.bind_some, if_pos (by rw [ByteArray.size_append]; omega)]
  congr 2
  apply ByteArray.ext
  apply Array.ext'
  simp [enc]
theorem lay_wrong (k0 : Nat) (a : ByteArray) (k : Int) (d : ByteArray) (ha : a.size ≤ 600) (h : rightOf a k d = false) : entry_Lay.f k0 a k d = some (⟨#[]⟩, [1]) := by
  unfold entry_Lay.f fail_At.f
  rw [right_eq a k d (by omega), Option.bind_some, h, if_neg (by decide)]
  rfl
theorem enc_pre (a a' d d' : ByteArray) (k k' : Int) (z : List UInt8) (ha : a.size ≤ 600) (hd : d.size ≤ 600) (ha' : a'.size ≤ 600) (hd' : d'.size ≤ 600) (h : rightOf a k d = true) (h' : rightOf a' k' d' = true) (he : enc a k d ++ z = enc a' k' d') : a.data.toList = a'.data.toList ∧ k = k' ∧ d.data.toList = d'.data.toList := by
  have hk := kind_le a k d h
  have hk' := kind_le a' k' d' h'
  unfold enc at he
  simp only [List.append_assoc] at he
  obtain ⟨e1, he⟩ := num_pre _ _ _ _ (by omega) (by omega) he
  obtain ⟨e2, he⟩ := num_pre _ _ _ _ ha ha' he
  obtain ⟨e3, he⟩ := List.append_inj he e2
  obtain ⟨e4, he⟩ := num_pre _ _ _ _ hd hd' he
  have : (d.data.toList ++ z) = d'.data.toList ++ [] := by rw [List.append_nil]; exact he
  obtain ⟨e5, _⟩ := List.append_inj this e4
  exact ⟨e3, by omega, e5⟩
theorem awakeN (m : Nat) : shalelaw08_awake.f (5 + m) = some true := by
  induction m with
  | zero => exact awake5
  | succ m ih => exact shalelaw08_awake.mono (5 + m) _ ih
theorem layN (m : Nat) (a : ByteArray) (k : Int) (d : ByteArray) (r : ByteArray × List Int) (h : entry_Lay.f 6 a k d = some r) : entry_Lay.f (6 + m) a k d = some r := by
  induction m with
  | zero => exact h
  | succ m ih => exact entry_Lay.mono a k d (6 + m) _ ih
end Go.Proofs.YtklcceccadlgkaaDoor.Pure
