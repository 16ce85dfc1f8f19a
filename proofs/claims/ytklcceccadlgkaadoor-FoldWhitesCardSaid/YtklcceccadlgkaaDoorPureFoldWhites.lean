/- FoldWhites: the law's function answers true. -/
import Derived.Test.YtklcceccadlgkaaDoorFoldC
import Derived.Test.YtklcceccadlgkaaDoorPrint7
namespace Go.Proofs.YtklcceccadlgkaaDoor.Th
open Go Go.RowKit Go.Proofs.YtklcceccadlgkaaDoor.Print Go.Proofs.YtklcceccadlgkaaDoorW.PrintWords
open Classical
theorem app_dataW (a b : ByteArray) : (a ++ b).data.toList = a.data.toList ++ b.data.toList := by simp [ByteArray.data_append]
abbrev rootB : ByteArray := ⟨#[47]⟩
theorem root_data (a : ByteArray) : (rootB ++ a).data.toList = 47 :: a.data.toList := by rw [app_dataW]; rfl
theorem root_size (a : ByteArray) : (rootB ++ a).size = a.size + 1 := by
  show (rootB ++ a).data.toList.length = a.data.toList.length + 1
  rw [root_data]; rfl
theorem cut_und (x a : ByteArray) (_h : a.size + 1 < x.size) : ((x.extract 0 (a.size + 2)).toList == ((rootB ++ a) ++ rootB).toList) = decide (Und x.data.toList (47 :: a.data.toList)) := by
  refine Bool.eq_iff_iff.2 ?_
  have sy : a.size = a.data.toList.length := rfl
  rw [decide_eq_true_iff, und_iff, List.isPrefixOf_iff_prefix, List.prefix_iff_eq_take, lst_data, lst_data, app_dataW, root_data, beq_iff_eq]
  have he : (x.extract 0 (a.size + 2)).data.toList = x.data.toList.take (a.size + 2) := by simp [ByteArray.data_extract]
  have hl : (47 :: a.data.toList ++ [47]).length = a.size + 2 := by rw [sy]; simp
  rw [he, hl]
  exact eq_comm
/-- What a white entry hides. -/
def hidW (a : ByteArray) (e : En) : Prop := ky e = 47 :: a.data.toList ∨ Und (ky e) (47 :: a.data.toList)
theorem whites_l0 (a : ByteArray) (ha : a.size ≤ 50) (T : List En) (hT : T.length ≤ 2000) (hb : ∀ e ∈ T, e.f0.size ≤ 1000) (X : List En) (hX : X.length ≤ 2000) : ∀ (n i j k : Nat), i + n = T.length → j ≤ X.length → 2 * n + 1 < k → X.drop j = (T.drop i).filter (fun e => !decide (hidW a e)) → shalelaw10_FoldWhites.l0 k a T X (j : Int) (i : Int) = some true := by
  intro n
  induction n with
  | zero =>
    intro i j k hn hj hk hd
    obtain ⟨k, rfl⟩ := Nat.exists_eq_add_of_le' (show 1 ≤ k by omega)
    rw [List.drop_of_length_le (show T.length ≤ i by omega), List.filter_nil] at hd
    have : X.length ≤ j := List.drop_eq_nil_iff.1 hd
    rw [shalelaw10_FoldWhites.l0, if_neg (by omega)]
    have : j = X.length := by omega
    subst this; simp
  | succ n ih =>
    intro i j k hn hj hk hd
    obtain ⟨k, rfl⟩ := Nat.exists_eq_add_of_le' (show 2 ≤ k by omega)
    have hi : i < T.length := by omega
    have hbi := hb _ (List.getElem_mem hi)
    rw [List.drop_eq_getElem_cons hi, List.filter_cons] at hd
    have hh : hidW a T[i] → shalelaw10_FoldWhites.j2 (k + 1) a T X (j : Int) (i : Int) true = some true := fun h => by
      rw [decide_eq_true h, if_neg (by decide)] at hd
      rw [shalelaw10_FoldWhites.j2, if_pos rfl, wrap_up i (by omega)]
      exact ih (i + 1) j k (by omega) hj (by omega) hd
    have hs : ¬ hidW a T[i] → shalelaw10_FoldWhites.j2 (k + 1) a T X (j : Int) (i : Int) false = some true := fun h => by
      rw [decide_eq_false h, if_pos (by decide)] at hd
      have hjl : j < X.length := by
        by_cases h1 : j < X.length
        · exact h1
        · rw [List.drop_of_length_le (by omega)] at hd; cases hd
      rw [List.drop_eq_getElem_cons hjl] at hd
      obtain ⟨e1, e2⟩ := List.cons.inj hd
      rw [shalelaw10_FoldWhites.j2, if_neg (by decide), if_neg (by omega), if_pos (by omega), if_pos (by omega), if_pos (by omega), if_pos (by omega), rd_get X j hjl, rd_get T i hi, if_neg (fun h => (differ _ _).1 h e1), wrap_up i (by omega), wrap_up j (by omega)]
      exact ih (i + 1) (j + 1) k (by omega) (by omega) (by omega) e2
    have hw1 : wrap64 ((a.size : Int) + 1) = ((a.size + 1 : Nat) : Int) := wrap_up _ (by omega)
    have hw2 : wrap64 ((a.size : Int) + 2) = ((a.size + 2 : Nat) : Int) := by unfold wrap64; omega
    have hrd := root_data a
    have hrs := root_size a
    unfold rootB at hrd hrs
    rw [shalelaw10_FoldWhites.l0, if_pos (by omega), if_pos (by omega), if_pos (by omega), rd_get T i hi, hw1, hw2, lst_data, lst_data, hrd, hrs]
    by_cases h1 : (T[i]).f0.data.toList = 47 :: a.data.toList
    · rw [if_pos h1]
      exact hh (.inl h1)
    · rw [if_neg h1]
      by_cases h2 : a.size + 1 < (T[i]).f0.size
      · have := cut_und (T[i]).f0 a h2
        unfold rootB at this
        rw [if_pos (by omega), if_pos (by omega), if_pos (by omega), if_pos (by omega), Int.toNat_natCast, this]
        by_cases h3 : Und (T[i]).f0.data.toList (47 :: a.data.toList)
        · rw [decide_eq_true h3]; exact hh (.inr h3)
        · rw [decide_eq_false h3]; exact hs (fun h => h.elim h1 h3)
      · rw [if_neg (by omega)]
        refine hs (fun h => h.elim h1 fun h3 => ?_)
        have := h3.len
        have e1 : (T[i]).f0.size = (ky T[i]).length := rfl
        have e2 : a.size = a.data.toList.length := rfl
        rw [List.length_cons] at this
        omega
theorem FoldWhites (l0 : List (List En)) (a1 : ByteArray) : ∃ k, shalelaw10_FoldWhites.f k l0 a1 = some true := by
  refine ⟨6000, ?_⟩
  have ja : ∀ k, 100 ≤ k → shalelaw10_FoldWhites.j0 (k + 1) l0 a1 true = some true := fun k hk => by
    rw [shalelaw10_FoldWhites.j0, if_pos rfl, awake10 k (by omega), Option.bind_some]
  unfold shalelaw10_FoldWhites.f
  rw [awake10 _ (by omega), Option.bind_some, if_pos rfl, few_eq l0 _ (by omega), Option.bind_some]
  by_cases hf : FitS l0
  · rw [if_pos hf, if_neg (by decide)]
    by_cases h50 : a1.size ≤ 50
    · obtain ⟨hT, hTn⟩ := stX_tre l0
      have hrs := root_size a1
      obtain ⟨wl, hwl⟩ : ∃ wl : List En, wl = [⟨rootB ++ a1, 3, ⟨#[]⟩⟩] := ⟨_, rfl⟩
      have hwb : ∀ e ∈ wl, e.f0.size ≤ 9223372036854775807 := fun e he => by
        rw [hwl] at he; rw [List.mem_singleton.1 he]
        show (rootB ++ a1).size ≤ _
        omega
      rw [decide_eq_false (by omega), shalelaw10_FoldWhites.j0, if_neg (by decide), if_pos (by omega)]
      unfold rootB at hwl
      rw [← hwl, Option.bind_some, stack_eq l0 (fun l hl => (hf.2 l hl).b) _ (by omega), Option.bind_some, lr_eq _ hwb _ (by omega), Option.bind_some]
      by_cases hL : LR wl
      · rw [decide_eq_true hL, if_pos rfl, over_eq _ _ _ (by omega) hT.lyr.b hwb, Option.bind_some, ovX_ok hT (by omega) hL]
        have hX : overL (stX l0) wl = (stX l0).filter (fun e => !decide (hidW a1 e)) := by
          rw [hwl]
          unfold overL oneL
          simp only [List.foldl_cons, List.foldl_nil]
          rw [if_neg (by decide), if_pos trivial]
          refine List.filter_congr fun x hx => ?_
          have hk : ky (⟨rootB ++ a1, 3, ⟨#[]⟩⟩ : En) = 47 :: a1.data.toList := root_data a1
          unfold rootB at hk
          rw [hk]
          congr 1
          exact decide_eq_decide.2 Iff.rfl
        have hlen := List.length_filter_le (fun e => !decide (hidW a1 e)) (stX l0)
        rw [hX]
        exact whites_l0 a1 h50 _ (by omega) (fun e he => by have := pth_size (hT.lyr.rt e he).1; omega) _ (by omega) (stX l0).length 0 0 5999 (by omega) (by omega) (by omega) (by rw [List.drop_zero, List.drop_zero])
      · rw [decide_eq_false hL, if_neg (by decide), over_eq _ _ _ (by omega) hT.lyr.b hwb, Option.bind_some, ovX_not hL]
        rfl
    · rw [decide_eq_true (by omega)]
      exact ja _ (by omega)
  · rw [if_neg hf, if_pos rfl]
    exact ja _ (by omega)
end Go.Proofs.YtklcceccadlgkaaDoor.Th
