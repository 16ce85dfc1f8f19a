/- EntryOrder in plain words: the printed function of the law returns true. -/
import Derived.Test.YtklcceccadlgkaaDoorPureLess
import Derived.Test.YtklcceccadlgkaaDoorPrint5
namespace Go.Proofs.YtklcceccadlgkaaDoor.Pure
open Go.RowKit Go.Proofs.YtklcceccadlgkaaDoor.Print Go.Proofs.YtklcceccadlgkaaDoorW.PrintWords
set_option linter.unusedVariables false
theorem bl_irrefl : ∀ l : List UInt8, Op.bytesLess l l = false
  | [] => rfl
  | a :: l => by simp [Op.bytesLess, bl_irrefl l]
theorem bl_asymm : ∀ a b : List UInt8, Op.bytesLess a b = true → Op.bytesLess b a = false
  | _, [], h => by simp [Op.bytesLess] at h
  | [], _ :: _, _ => rfl
  | x :: a, y :: b, h => by
    simp only [Op.bytesLess, Bool.or_eq_true, Bool.and_eq_true, decide_eq_true_eq, beq_iff_eq] at h
    simp only [Op.bytesLess, Bool.or_eq_false_iff, Bool.and_eq_false_iff, decide_eq_false_iff_not, beq_eq_false_iff_ne]
    rcases h with h | ⟨rfl, h⟩
    · exact ⟨fun h2 => absurd (UInt8.lt_trans h h2) (UInt8.lt_irrefl _), Or.inl (fun e => by subst e; exact absurd h (UInt8.lt_irrefl _))⟩
    · exact ⟨UInt8.lt_irrefl _, Or.inr (bl_asymm a b h)⟩
theorem bl_total : ∀ a b : List UInt8, a ≠ b → (Op.bytesLess a b || Op.bytesLess b a) = true
  | [], [], h => absurd rfl h
  | _ :: _, [], _ => by simp [Op.bytesLess]
  | [], _ :: _, _ => by simp [Op.bytesLess]
  | x :: a, y :: b, h => by
    by_cases hxy : x = y
    · subst hxy
      have := bl_total a b (fun e => h (by rw [e]))
      simpa [Op.bytesLess] using this
    · have : x < y ∨ y < x := by
        rcases Nat.lt_or_gt_of_ne (fun e => hxy (UInt8.toNat_inj.1 e)) with h1 | h1
        · exact Or.inl (UInt8.lt_iff_toNat_lt.2 h1)
        · exact Or.inr (UInt8.lt_iff_toNat_lt.2 h1)
      rcases this with h1 | h1
      · simp [Op.bytesLess, h1]
      · simp [Op.bytesLess, h1]
theorem bl_prefix : ∀ (a : List UInt8) (b : UInt8) (c : List UInt8), Op.bytesLess a (a ++ b :: c) = true
  | [], _, _ => rfl
  | x :: a, b, c => by simp [Op.bytesLess, bl_prefix a b c]
theorem deep_pos (p : ByteArray) (h : 1 ≤ deepOf p) : ∃ b c, p.data.toList = 47 :: b :: c := by
  unfold deepOf at h
  cases hs : splitF p.data.toList with
  | none => rw [hs] at h; exact absurd h (by decide)
  | some l =>
    rw [hs] at h
    unfold splitF at hs
    by_cases h1 : p.data.toList = [47]
    · rw [if_pos h1] at hs
      obtain rfl := Option.some.inj hs
      exact absurd h (by decide)
    · rw [if_neg h1] at hs
      split at hs
      · rename_i rest hr
        cases rest with
        | nil => exact absurd hr h1
        | cons b c => exact ⟨b, c, hr⟩
      · cases hs
theorem hasPrefix_eq (p q : ByteArray) (t : Bool) (h : strings_HasPrefix.f p q = some t) (ht : t = true) : ∃ c, p.data.toList = q.data.toList ++ c := by
  subst ht
  unfold strings_HasPrefix.f stringslite_HasPrefix.f at h
  by_cases h1 : (p.size : Int) ≥ (q.size : Int)
  · rw [if_pos h1, if_pos (by omega), if_pos (by omega), Option.bind_some] at h
    have h2 := eq_of_beq (Option.some.inj h)
    rw [Lib.toList_data, Lib.toList_data] at h2
    have h3 : (p.extract 0 ((q.size : Int)).toNat).data.toList = p.data.toList.take q.size := by simp
    rw [h3] at h2
    exact ⟨p.data.toList.drop q.size, by rw [← h2, List.take_append_drop]⟩
  · rw [if_neg h1] at h
    cases h
/-- A path under a directory is greater. -/
theorem under_less (p d : ByteArray) (hp : p.size ≤ 9223372036854775807) (hd : d.size ≤ 9223372036854775807) (h : path_Under.f p d = some true) : Op.bytesLess d.data.toList p.data.toList = true := by
  unfold path_Under.f at h
  rw [deep_eq p hp, deep_eq d hd, Option.bind_some, Option.bind_some] at h
  by_cases h1 : deepOf d ≥ 0
  · rw [if_pos h1] at h
    by_cases h2 : deepOf p > deepOf d
    · rw [if_pos h2] at h
      by_cases h3 : d.toList = ([47] : List UInt8)
      · obtain ⟨b, c, hc⟩ := deep_pos p (by omega)
        rw [← Lib.toList_data d, h3, hc]
        exact bl_prefix [47] b c
      · rw [if_neg h3] at h
        by_cases h4 : d.size + 1 ≤ 9223372036854775807
        · rw [if_pos h4] at h
          cases hh : strings_HasPrefix.f p (d ++ (⟨#[47]⟩ : ByteArray)) with
          | none => rw [hh] at h; cases h
          | some t =>
            rw [hh] at h
            have ht : t = true := by simpa using h
            obtain ⟨c, hc⟩ := hasPrefix_eq p _ t hh ht
            rw [hc]
            have : (d ++ (⟨#[47]⟩ : ByteArray)).data.toList ++ c = d.data.toList ++ 47 :: c := by simp
            rw [this]
            exact bl_prefix _ _ _
        · rw [if_neg h4] at h; cases h
    · rw [if_neg h2] at h; cases h
  · rw [if_neg h1] at h; cases h
theorem under_total (p d : ByteArray) (hp : p.size ≤ 600) (hd : d.size ≤ 600) : ∃ t, path_Under.f p d = some t := by
  unfold path_Under.f
  rw [deep_eq p (by omega), deep_eq d (by omega), Option.bind_some, Option.bind_some]
  split
  · split
    · split
      · exact ⟨_, rfl⟩
      · rw [if_pos (by omega)]
        unfold strings_HasPrefix.f stringslite_HasPrefix.f
        split
        · rename_i h
          first | exact ⟨_, rfl⟩ | (rw [if_pos (by omega), if_pos (by omega)]; exact ⟨_, rfl⟩)
        · exact ⟨_, rfl⟩
    · exact ⟨_, rfl⟩
  · exact ⟨_, rfl⟩
theorem awake_ge (n : Nat) : shalelaw08_awake.f (5 + n) = some true := by
  induction n with
  | zero => exact awake5
  | succ n ih => exact shalelaw08_awake.mono (5 + n) _ ih
theorem less_eq (a b : ByteArray) (ha : a.size ≤ 600) : shaleref08_Less.f 1300 a b = some (Op.bytesLess a.data.toList b.data.toList) :=
  less_l0 a b ha 600 0 1300 (by omega) (by omega) (by omega) (by omega)
theorem EntryOrder (a0_0 : ByteArray) (a0_1 : Int) (a0_2 : ByteArray) (a1_0 : ByteArray) (a1_1 : Int) (a1_2 : ByteArray) : ∃ k, shalelaw08_EntryOrder.f k a0_0 a0_1 a0_2 a1_0 a1_1 a1_2 = some true := by
  refine ⟨1300 + 1, ?_⟩
  have w0 : shalelaw08_awake.f (1300 + 1) = some true := awake_ge 1296
  have w1 : shalelaw08_awake.f 1300 = some true := awake_ge 1295
  have j6 : shalelaw08_EntryOrder.j0 (1300 + 1) true a0_0 a0_1 a0_2 a1_0 a1_1 a1_2 = some true := by
    rw [shalelaw08_EntryOrder.j0, if_pos rfl, w1]; rfl
  unfold shalelaw08_EntryOrder.f
  rw [w0, Option.bind_some, if_pos rfl, few_eq, Option.bind_some]
  by_cases hf : a0_0.size ≤ 600 ∧ a0_2.size ≤ 600
  · rw [if_pos (decide_eq_true hf), few_eq, Option.bind_some]
    by_cases hg : a1_0.size ≤ 600 ∧ a1_2.size ≤ 600
    · rw [decide_eq_true hg, shalelaw08_EntryOrder.j0, if_neg (by decide)]
      unfold entry_Less.f
      rw [Option.bind_some, Option.bind_some, less_eq a0_0 a1_0 hf.1, Option.bind_some, Lib.toList_data, Lib.toList_data, if_pos (beq_self_eq_true _), less_eq a1_0 a0_0 hg.1, Option.bind_some, if_pos (beq_self_eq_true _)]
      obtain ⟨u, hu⟩ := under_total a1_0 a0_0 hg.1 hf.1
      rw [hu]
      have hul : u = true → Op.bytesLess a0_0.data.toList a1_0.data.toList = true := fun e => under_less a1_0 a0_0 (by omega) (by omega) (by rw [hu, e])
      have has := bl_asymm a0_0.data.toList a1_0.data.toList
      have hto := bl_total a0_0.data.toList a1_0.data.toList
      have hir := bl_irrefl a0_0.data.toList
      generalize a0_0.data.toList = A at *
      generalize a1_0.data.toList = B at *
      cases hx : Op.bytesLess A B
      · rw [if_neg (by decide)]
        have hu0 : u = false := by
          cases u with
          | false => rfl
          | true => rw [hx] at hul; exact absurd (hul rfl) (by decide)
        have hy : (Op.bytesLess B A == (A != B)) = true := by
          by_cases hab : A = B
          · subst hab; rw [hir]; simp
          · have := hto hab
            rw [hx, Bool.false_or] at this
            rw [this]; simp [hab]
        rw [if_pos hy, Option.bind_some, hu0]; rfl
      · have hab : A ≠ B := fun e => by subst e; rw [hir] at hx; cases hx
        rw [if_pos rfl, has hx, if_neg (by decide), if_pos (by simp [hab]), Option.bind_some]
        split <;> rfl
    · rw [decide_eq_false hg]
      exact j6
  · rw [if_neg (by rw [decide_eq_false hf]; decide)]
    exact j6
end Go.Proofs.YtklcceccadlgkaaDoor.Pure
