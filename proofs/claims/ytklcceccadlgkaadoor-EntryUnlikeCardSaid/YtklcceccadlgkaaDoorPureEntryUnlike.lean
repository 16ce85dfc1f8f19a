/- EntryUnlike in plain words: the printed function of the law returns true. -/
import Derived.Test.YtklcceccadlgkaaDoorPureEnc
import Derived.Test.YtklcceccadlgkaaDoorPrint4
namespace Go.Proofs.YtklcceccadlgkaaDoor.Pure
open Go.RowKit Go.Proofs.YtklcceccadlgkaaDoor.Print Go.Proofs.YtklcceccadlgkaaDoorW.PrintWords
set_option linter.unusedVariables false
theorem num_mono (m : Nat) (a : Int) (r : ByteArray) (h : code_Num.f 6 a = some r) : code_Num.f (6 + m) a = some r := by
  induction m with
  | zero => exact h
  | succ m ih => exact code_Num.mono a (6 + m) _ ih
theorem lay_mono (m : Nat) (a : ByteArray) (k : Int) (d : ByteArray) (r : ByteArray × List Int) (h : entry_Lay.f 6 a k d = some r) : entry_Lay.f (6 + m) a k d = some r := by
  induction m with
  | zero => exact h
  | succ m ih => exact entry_Lay.mono a k d (6 + m) _ ih
theorem awake6 (m : Nat) : shalelaw08_awake.f (5 + m) = some true := by
  induction m with
  | zero => exact awake5
  | succ m ih => exact shalelaw08_awake.mono (5 + m) _ ih
theorem by_eq {a b : ByteArray} (h : a.data.toList = b.data.toList) : a = b := by
  cases a; cases b; congr 1; exact Array.ext' h
theorem lay_any (a : ByteArray) (k : Int) (d : ByteArray) (ha : a.size ≤ 600) (hd : d.size ≤ 600) :
    entry_Lay.f 6 a k d = some (if rightOf a k d = true then (⟨(enc a k d).toArray⟩, []) else (⟨#[]⟩, [1])) := by
  cases h : rightOf a k d with
  | true => rw [if_pos rfl]; exact lay_right a k d ha hd h
  | false => rw [if_neg (by decide)]; exact lay_wrong 6 a k d ha h
theorem EntryUnlike (a0_0 : ByteArray) (a0_1 : Int) (a0_2 : ByteArray) (a1_0 : ByteArray) (a1_1 : Int) (a1_2 : ByteArray) : ∃ k, shalelaw08_EntryUnlike.f k a0_0 a0_1 a0_2 a1_0 a1_1 a1_2 = some true := by
  refine ⟨6 + 1, ?_⟩
  have w0 : shalelaw08_awake.f (6 + 1) = some true := awake6 2
  have w1 : shalelaw08_awake.f 6 = some true := awake6 1
  have j6 : shalelaw08_EntryUnlike.j0 (6 + 1) true a0_0 a0_1 a0_2 a1_0 a1_1 a1_2 = some true := by
    rw [shalelaw08_EntryUnlike.j0, if_pos rfl, w1]; rfl
  unfold shalelaw08_EntryUnlike.f
  rw [w0, Option.bind_some, if_pos rfl, few_eq, Option.bind_some]
  by_cases hf : a0_0.size ≤ 600 ∧ a0_2.size ≤ 600
  · rw [if_pos (decide_eq_true hf), few_eq, Option.bind_some]
    by_cases hg : a1_0.size ≤ 600 ∧ a1_2.size ≤ 600
    · rw [decide_eq_true hg, shalelaw08_EntryUnlike.j0, if_neg (by decide)]
      rw [lay_any _ _ _ hf.1 hf.2, Option.bind_some, lay_any _ _ _ hg.1 hg.2, Option.bind_some]
      cases ha : rightOf a0_0 a0_1 a0_2 with
      | false => rw [if_neg (by decide)]; rfl
      | true =>
        rw [if_pos rfl]
        cases hb : rightOf a1_0 a1_1 a1_2 with
        | false => rw [if_neg (by decide)]; rfl
        | true =>
          rw [if_pos rfl]
          unfold fail_Code.f
          dsimp only [List.headD_nil]
          rw [Option.bind_some, if_pos rfl, Option.bind_some, if_pos rfl]
          have hpre : ∀ z, enc a0_0 a0_1 a0_2 ++ z = enc a1_0 a1_1 a1_2 → a0_0.toList = a1_0.toList ∧ a0_1 = a1_1 ∧ a0_2.toList = a1_2.toList := fun z hz => by
            obtain ⟨h1, h2, h3⟩ := enc_pre _ _ _ _ _ _ z hf.1 hf.2 hg.1 hg.2 ha hb hz
            rw [Lib.toList_data, Lib.toList_data, Lib.toList_data, Lib.toList_data]
            exact ⟨h1, h2, h3⟩
          have hl : ∀ l : List UInt8, (⟨l.toArray⟩ : ByteArray).toList = l := fun l => by rw [Lib.toList_data]
          have hs : ∀ l : List UInt8, (⟨l.toArray⟩ : ByteArray).size = l.length := fun l => rfl
          by_cases he : a0_0.toList = a1_0.toList ∧ a0_1 = a1_1 ∧ a0_2.toList = a1_2.toList
          · obtain ⟨h1, h2, h3⟩ := he
            have e0 : a0_0 = a1_0 := by_eq (by rw [← Lib.toList_data, ← Lib.toList_data, h1])
            have e2 : a0_2 = a1_2 := by_eq (by rw [← Lib.toList_data, ← Lib.toList_data, h3])
            subst e0; subst h2; subst e2
            simp only [beq_self_eq_true, Bool.and_self, if_true]
          · have hne : (a0_0.toList == a1_0.toList && (a0_1 == a1_1 && (a0_2.toList == a1_2.toList))) = false := by
              rw [Bool.eq_false_iff]; intro h
              simp only [Bool.and_eq_true, beq_iff_eq] at h
              exact he h
            have hne2 : ((⟨(enc a0_0 a0_1 a0_2).toArray⟩ : ByteArray).toList == (⟨(enc a1_0 a1_1 a1_2).toArray⟩ : ByteArray).toList) = false := by
              rw [beq_eq_false_iff_ne, hl, hl]
              intro h
              exact he (hpre [] (by rw [List.append_nil]; exact h))
            rw [hne, hne2, if_pos (by decide), if_neg (by decide), hs, hs]
            by_cases hlt : ((enc a0_0 a0_1 a0_2).length : Int) > ((enc a1_0 a1_1 a1_2).length : Int)
            · rw [if_pos hlt]
            · rw [if_neg hlt, if_pos (by omega), if_pos (by omega)]
              have hx : ((⟨(enc a1_0 a1_1 a1_2).toArray⟩ : ByteArray).extract 0 (((enc a0_0 a0_1 a0_2).length : Int)).toNat).toList = (enc a1_0 a1_1 a1_2).take (enc a0_0 a0_1 a0_2).length := by
                rw [Lib.toList_data]; simp
              rw [hx, hl]
              have hn : ((enc a1_0 a1_1 a1_2).take (enc a0_0 a0_1 a0_2).length != enc a0_0 a0_1 a0_2) = true := by
                rw [bne_iff_ne]; intro h
                refine he (hpre ((enc a1_0 a1_1 a1_2).drop (enc a0_0 a0_1 a0_2).length) ?_)
                conv => lhs; lhs; rw [← h]
                exact List.take_append_drop _ _
              exact congrArg some hn
    · rw [decide_eq_false hg]
      exact j6
  · rw [if_neg (by rw [decide_eq_false hf]; decide)]
    exact j6
end Go.Proofs.YtklcceccadlgkaaDoor.Pure
