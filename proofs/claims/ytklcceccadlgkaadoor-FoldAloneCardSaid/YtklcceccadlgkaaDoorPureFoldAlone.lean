/- FoldAlone: the law's function answers true. -/
import Derived.Test.YtklcceccadlgkaaDoorFoldC
import Derived.Test.YtklcceccadlgkaaDoorPrint9
namespace Go.Proofs.YtklcceccadlgkaaDoor.Th
open Go Go.RowKit Go.Proofs.YtklcceccadlgkaaDoor.Print Go.Proofs.YtklcceccadlgkaaDoorW.PrintWords
open Classical
theorem u16_rangeA {a : Int} (h : (Lit.int .u8 a).wf = true) : 0 ≤ a ∧ a ≤ 65535 := by
  have hmin : IntKind.min .u8 = 0 := by decide
  have hmax : IntKind.max .u8 = 255 := by decide
  simp [Lit.wf] at h
  omega
theorem app_data (a b : ByteArray) : (a ++ b).data.toList = a.data.toList ++ b.data.toList := by
  simp [ByteArray.data_append]
theorem ref_under (x y : ByteArray) (_hx : x.size ≤ 1000) (hy : y.size ≤ 1000) : shaleref10_Under.f x y = some (decide (Und x.data.toList y.data.toList)) := by
  unfold shaleref10_Under.f
  have sx : x.size = x.data.toList.length := rfl
  have sy : y.size = y.data.toList.length := rfl
  by_cases h : y.size < x.size
  · have hw : wrap64 ((y.size : Int) + 1) = ((y.size + 1 : Nat) : Int) := wrap_up _ (by omega)
    rw [if_pos (by omega), hw, if_pos (by omega), if_pos (by omega), if_pos (by omega), Int.toNat_natCast]
    refine congrArg some (Bool.eq_iff_iff.2 ?_)
    rw [decide_eq_true_iff, und_iff, List.isPrefixOf_iff_prefix, List.prefix_iff_eq_take, lst_data, lst_data, app_data, beq_iff_eq]
    have he : (x.extract 0 (y.size + 1)).data.toList = x.data.toList.take (y.size + 1) := by simp [ByteArray.data_extract]
    rw [he, List.length_append, ← sy]
    exact eq_comm
  · rw [if_neg (by omega)]
    exact congrArg some (decide_eq_false (fun k => by have := k.len; omega)).symm
theorem alone_l1 (l : List En) (hl : l.length ≤ 2000) (e : En) : ∀ (n i k : Nat), i + n = l.length → n < k → e ∈ l.drop i → shalelaw10_FoldAlone.l1 k l (i : Int) e.f0 e.f1 e.f2 = some true := by
  intro n
  induction n with
  | zero =>
    intro i k hn hk he
    rw [List.drop_of_length_le (by omega)] at he
    cases he
  | succ n ih =>
    intro i k hn hk he
    obtain ⟨k, rfl⟩ := Nat.exists_eq_add_of_le' (show 1 ≤ k by omega)
    have hi : i < l.length := by omega
    rw [shalelaw10_FoldAlone.l1, if_pos (by omega), if_pos (by omega), rd_get l i hi, wrap_up i (by omega), lst_eq, lst_eq]
    by_cases h : l[i] = e
    · rw [h, if_pos (by simp)]
    · rw [List.drop_eq_getElem_cons hi] at he
      rcases List.mem_cons.1 he with he | he
      · exact absurd he.symm h
      · split
        · rfl
        · exact ih (i + 1) k (by omega) (by omega) he
theorem alone_l0 (l T : List En) (hT : Tre T) (hTn : T.length ≤ 576) (hL : LR l) (e : En) (he : e ∈ T) : ∀ (n i k : Nat), i + n = l.length → n + 3000 < k → (∀ x ∈ l.take i, ky x ≠ ky e ∧ ¬ Und (ky e) (ky x)) → shalelaw10_FoldAlone.l0 k l T (i : Int) e.f0 e.f1 e.f2 = some true := by
  have hl64 := hL.2
  intro n
  induction n with
  | zero =>
    intro i k hn hk hq
    obtain ⟨k, rfl⟩ := Nat.exists_eq_add_of_le' (show 1 ≤ k by omega)
    rw [List.take_of_length_le (by omega)] at hq
    rw [shalelaw10_FoldAlone.l0, if_neg (by omega), over_eq _ _ _ (by omega) hT.lyr.b hL.1.b, Option.bind_some, ovX_ok hT (by omega) hL]
    have hlen := overL_len T l
    refine alone_l1 _ (by omega) e (overL T l).length 0 k (by omega) (by omega) ?_
    rw [List.drop_zero]
    have h1 : fnd (overL T l) (ky e) = some e := by
      rw [fnd_overL hT.lyr.srt l hL.1.srt]
      unfold ovr
      rw [fnd_none.2 fun x hx => (hq x hx).1]
      have : ¬ Hid l (ky e) := by rintro ⟨x, hx, _, hu⟩; exact (hq x hx).2 hu
      rw [if_neg this, hT.lyr.srt.at_ he]
    exact (fnd_mem h1).1
  | succ n ih =>
    intro i k hn hk hq
    obtain ⟨k, rfl⟩ := Nat.exists_eq_add_of_le' (show 1 ≤ k by omega)
    have hi : i < l.length := by omega
    have hx := hL.1.rt _ (List.getElem_mem hi)
    have hee := hT.lyr.rt e he
    rw [shalelaw10_FoldAlone.l0, if_pos (by omega), if_pos (by omega), rd_get l i hi, wrap_up i (by omega)]
    by_cases h1 : (l[i]).f0.toList = e.f0.toList
    · rw [if_pos h1]
    · rw [if_neg h1, ref_under _ _ (by have := pth_size hee.1; omega) (by have := pth_size hx.1; omega), Option.bind_some]
      by_cases h2 : Und e.f0.data.toList (l[i]).f0.data.toList
      · rw [decide_eq_true h2, if_pos rfl]
      · rw [decide_eq_false h2, if_neg (by decide)]
        refine ih (i + 1) k (by omega) (by omega) fun x hx => ?_
        rw [List.take_succ_eq_append_getElem hi] at hx
        rcases List.mem_append.1 hx with hx | hx
        · exact hq x hx
        · rw [List.mem_singleton.1 hx]
          exact ⟨fun h => h1 (by rw [lst_data, lst_data]; exact h), h2⟩
theorem FoldAlone (l0 : List (List En)) (l1 : List En) (a2 : Int) (h2 : (Lit.int .u8 a2).wf = true) : ∃ k, shalelaw10_FoldAlone.f k l0 l1 a2 = some true := by
  refine ⟨4000, ?_⟩
  obtain ⟨h10, h11⟩ := u16_rangeA h2
  have ja : ∀ k, 100 ≤ k → shalelaw10_FoldAlone.j0 (k + 1) l0 l1 a2 true = some true := fun k hk => by
    rw [shalelaw10_FoldAlone.j0, if_pos rfl, awake10 k (by omega), Option.bind_some]
  unfold shalelaw10_FoldAlone.f
  rw [awake10 _ (by omega), Option.bind_some, if_pos rfl, few_eq l0 _ (by omega), Option.bind_some]
  by_cases hf : FitS l0
  · rw [if_pos hf, if_neg (by decide), size_eq l1 _ (by omega), Option.bind_some]
    by_cases h1 : Fit l1
    · rw [if_pos h1, if_neg (by decide), lr_eq _ h1.b _ (by omega), Option.bind_some]
      by_cases hL : LR l1
      · obtain ⟨hT, hTn⟩ := stX_tre l0
        rw [decide_eq_true hL, Bool.not_true, shalelaw10_FoldAlone.j0, if_neg (by decide), stack_eq l0 (fun l hl => (hf.2 l hl).b) _ (by omega), Option.bind_some]
        by_cases h0 : (stX l0).length = 0
        · rw [if_pos (by omega)]
        · have hw1 : wrap64 a2 = a2 := by unfold wrap64; omega
          obtain ⟨n, rfl⟩ := Int.eq_ofNat_of_zero_le h10
          have ht : Int.tmod (n : Int) ((stX l0).length : Int) = ((n % (stX l0).length : Nat) : Int) := (Int.ofNat_tmod _ _).symm
          have hm : n % (stX l0).length < (stX l0).length := Nat.mod_lt _ (by omega)
          rw [if_neg (by omega), hw1, ht, if_pos (by omega), if_pos (by omega), rd_get _ _ hm]
          have hl64 := hL.2
          exact alone_l0 l1 (stX l0) hT hTn hL _ (List.getElem_mem hm) l1.length 0 3999 (by omega) (by omega) (by rw [List.take_zero]; intro x hx; cases hx)
      · rw [decide_eq_false hL, Bool.not_false]
        exact ja _ (by omega)
    · rw [if_neg h1, if_pos rfl]
      exact ja _ (by omega)
  · rw [if_neg hf, if_pos rfl]
    exact ja _ (by omega)
end Go.Proofs.YtklcceccadlgkaaDoor.Th
