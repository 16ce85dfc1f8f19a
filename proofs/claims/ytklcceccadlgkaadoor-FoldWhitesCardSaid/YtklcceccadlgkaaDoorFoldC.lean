/- Over, Stack, Same, Size, Few, awake: what the printed functions answer. -/
import Derived.Test.YtklcceccadlgkaaDoorFoldB
import Derived.Test.YtklcceccadlgkaaDoorPrint4
import Derived.Test.YtklcceccadlgkaaDoorPrint4
import Derived.Test.YtklcceccadlgkaaDoorPrint2
import Derived.Test.YtklcceccadlgkaaDoorPrint4
namespace Go.Proofs.YtklcceccadlgkaaDoor.Th
open Go Go.RowKit Go.Proofs.YtklcceccadlgkaaDoor.Print Go.Proofs.YtklcceccadlgkaaDoorW.PrintWords
set_option linter.unusedVariables false
set_option linter.unusedSimpArgs false

theorem mono_le {α : Type} {F : Nat → Option α} (h : ∀ k, LeO (F k) (F (k + 1))) {a b : Nat} {r : α} (hab : a ≤ b) (ha : F a = some r) : F b = some r := by
  induction hab with
  | refl => exact ha
  | step _ ih => exact h _ _ ih
theorem ifc {α : Sort _} {p q : Prop} [Decidable p] [Decidable q] {a b : α} (h : p ↔ q) : (if p then a else b) = if q then a else b := by
  by_cases hp : p
  · rw [if_pos hp, if_pos (h.1 hp)]
  · rw [if_neg hp, if_neg (fun k => hp (h.2 k))]
/-! ### Size, Few, Same -/
def Fit (l : List En) : Prop := l.length ≤ 70 ∧ ∀ e ∈ l, e.f0.size ≤ 100 ∧ e.f2.size ≤ 600
theorem Fit.b {l : List En} (h : Fit l) : ∀ e ∈ l, e.f0.size ≤ 9223372036854775807 := fun e he => by have := (h.2 e he).1; omega
open Classical in
theorem size_l0 (l : List En) (hl : l.length ≤ 70) : ∀ (n i k : Nat), i + n = l.length → n < k → shalelaw09_Size.l0 k l (i : Int) = some (if ∀ e ∈ l.drop i, e.f0.size ≤ 100 ∧ e.f2.size ≤ 600 then 1 else 0) := by
  intro n
  induction n with
  | zero =>
    intro i k hn hk
    obtain ⟨k, rfl⟩ := Nat.exists_eq_add_of_le' (show 1 ≤ k by omega)
    rw [shalelaw09_Size.l0, if_neg (by omega), List.drop_of_length_le (by omega), if_pos (by simp)]
  | succ n ih =>
    intro i k hn hk
    obtain ⟨k, rfl⟩ := Nat.exists_eq_add_of_le' (show 1 ≤ k by omega)
    have hi : i < l.length := by omega
    rw [shalelaw09_Size.l0, if_pos (by omega), if_pos (by omega), rd_get l i hi, wrap_up i (by omega), ih (i + 1) k (by omega) (by omega), List.drop_eq_getElem_cons hi]
    by_cases h1 : l[i].f0.size ≤ 100
    · rw [if_neg (by omega)]
      by_cases h2 : l[i].f2.size ≤ 600
      · rw [if_neg (by omega)]
        congr 1
        exact ifc ⟨fun h e he => by
          rcases List.mem_cons.1 he with rfl | he
          · exact ⟨h1, h2⟩
          · exact h e he, fun h e he => h e (.tail _ he)⟩
      · rw [if_pos (by omega), if_neg (fun h => h2 (h _ (List.Mem.head _)).2)]
    · rw [if_pos (by omega), if_neg (fun h => h1 (h _ (List.Mem.head _)).1)]
open Classical in
theorem size_eq (l : List En) (k : Nat) (hk : 80 ≤ k) : shalelaw09_Size.f k l = some (if Fit l then 1 else 0) := by
  unfold shalelaw09_Size.f
  by_cases hl : l.length ≤ 70
  · rw [if_neg (by omega)]
    have h := size_l0 l hl l.length 0 k (by omega) (by omega)
    rw [List.drop_zero] at h
    refine h.trans (congrArg some (ifc ?_))
    exact ⟨fun h => ⟨hl, h⟩, fun h => h.2⟩
  · rw [if_pos (by omega), if_neg (fun h => hl h.1)]
def FitS (s : List (List En)) : Prop := s.length ≤ 12 ∧ ∀ l ∈ s, Fit l
open Classical in
theorem few_l0 (s : List (List En)) (hl : s.length ≤ 12) : ∀ (n i k : Nat), i + n = s.length → n + 90 < k → shalelaw10_Few.l0 k s (i : Int) = some (if ∀ l ∈ s.drop i, Fit l then 1 else 0) := by
  intro n
  induction n with
  | zero =>
    intro i k hn hk
    obtain ⟨k, rfl⟩ := Nat.exists_eq_add_of_le' (show 1 ≤ k by omega)
    rw [shalelaw10_Few.l0, if_neg (by omega), List.drop_of_length_le (by omega), if_pos (by simp)]
  | succ n ih =>
    intro i k hn hk
    obtain ⟨k, rfl⟩ := Nat.exists_eq_add_of_le' (show 1 ≤ k by omega)
    have hi : i < s.length := by omega
    rw [shalelaw10_Few.l0, if_pos (by omega), if_pos (by omega), rdL_get s i hi, size_eq _ k (by omega), Option.bind_some, wrap_up i (by omega), ih (i + 1) k (by omega) (by omega), List.drop_eq_getElem_cons hi]
    by_cases h1 : Fit s[i]
    · rw [if_pos h1, if_neg (by decide)]
      congr 1
      exact ifc ⟨fun h e he => by
        rcases List.mem_cons.1 he with rfl | he
        · exact h1
        · exact h e he, fun h e he => h e (.tail _ he)⟩
    · rw [if_neg h1, if_pos rfl, if_neg (fun h => h1 (h _ (List.Mem.head _)))]
open Classical in
theorem few_eq (s : List (List En)) (k : Nat) (hk : 120 ≤ k) : shalelaw10_Few.f k s = some (if FitS s then 1 else 0) := by
  unfold shalelaw10_Few.f
  by_cases hl : s.length ≤ 12
  · rw [if_neg (by omega)]
    have h := few_l0 s hl s.length 0 k (by omega) (by omega)
    rw [List.drop_zero] at h
    refine h.trans (congrArg some (ifc ?_))
    exact ⟨fun h => ⟨hl, h⟩, fun h => h.2⟩
  · rw [if_pos (by omega), if_neg (fun h => hl h.1)]
theorem differ (a b : En) : (!((a.f0.toList) == (b.f0.toList)) || (!((a.f1) == (b.f1)) || (!((a.f2.toList) == (b.f2.toList))))) = true ↔ a ≠ b := by
  rw [lst_eq, lst_eq]
  constructor
  · rintro h rfl; simp at h
  · intro h
    by_cases h0 : ky a = ky b
    · by_cases h1 : a.f1 = b.f1
      · by_cases h2 : da a = da b
        · exact absurd (en_ext h0 h1 h2) h
        · unfold da at h2; simp [h2]
      · simp [h1]
    · unfold ky at h0; simp [h0]
open Classical in
theorem same_l0 (a b : List En) (hab : a.length = b.length) (hl : a.length ≤ 3000) : ∀ (n i k : Nat), i + n = a.length → n < k → shalelaw09_Same.l0 k a b (i : Int) = some (if a.drop i = b.drop i then 1 else 0) := by
  intro n
  induction n with
  | zero =>
    intro i k hn hk
    obtain ⟨k, rfl⟩ := Nat.exists_eq_add_of_le' (show 1 ≤ k by omega)
    rw [shalelaw09_Same.l0, if_neg (by omega), List.drop_of_length_le (by omega), List.drop_of_length_le (by omega), if_pos rfl]
  | succ n ih =>
    intro i k hn hk
    obtain ⟨k, rfl⟩ := Nat.exists_eq_add_of_le' (show 1 ≤ k by omega)
    have hi : i < a.length := by omega
    have hj : i < b.length := by omega
    rw [shalelaw09_Same.l0, if_pos (by omega), if_pos (by omega), if_pos (by omega), rd_get a i hi, rd_get b i hj, wrap_up i (by omega), ih (i + 1) k (by omega) (by omega), List.drop_eq_getElem_cons hi, List.drop_eq_getElem_cons hj]
    by_cases h1 : a[i] = b[i]
    · rw [if_neg (fun h => (differ _ _).1 h h1)]
      congr 1
      exact ifc (by rw [h1]; exact ⟨fun h => by rw [h], fun h => (List.cons.inj h).2⟩)
    · rw [if_pos ((differ _ _).2 h1), if_neg (fun h => h1 (List.cons.inj h).1)]
open Classical in
theorem same_eq (a b : List En) (k : Nat) (hl : a.length ≤ 2000) (hk : 2100 ≤ k) : shalelaw09_Same.f k a b = some (if a = b then 1 else 0) := by
  unfold shalelaw09_Same.f
  by_cases hab : a.length = b.length
  · rw [if_pos (by omega)]
    have h := same_l0 a b hab (by omega) a.length 0 k (by omega) (by omega)
    rwa [List.drop_zero, List.drop_zero] at h
  · rw [if_neg (by omega), if_neg (fun h => hab (by rw [h]))]
/-! ### Over -/
open Classical
def LR (l : List En) : Prop := Lyr l ∧ l.length ≤ 64
def TR (l : List En) : Prop := Tre l ∧ l.length ≤ 1024
theorem lr_eq (l : List En) (hb : ∀ e ∈ l, e.f0.size ≤ 9223372036854775807) (k : Nat) (hk : 200 ≤ k) : layer_Right.f k l = some (decide (LR l)) :=
  (layer_right l hb k hk).trans (congrArg some (decide_eq_decide.2 Iff.rfl))
theorem tr_eq (l : List En) (hb : ∀ e ∈ l, e.f0.size ≤ 9223372036854775807) : fold_Tree.f l = some (decide (TR l)) :=
  (tree_eq l hb).trans (congrArg some (decide_eq_decide.2 Iff.rfl))
noncomputable def ovX (t l : List En) : List En := if TR t ∧ LR l ∧ (overL t l).length ≤ 1024 then overL t l else []
theorem Lyr.b {l : List En} (h : Lyr l) : ∀ e ∈ l, e.f0.size ≤ 9223372036854775807 := fun e he => by have := pth_size (h.rt e he).1; omega
theorem over_l0 (t l : List En) (ht : TR t) (hl : LR l) : ∀ (n i k : Nat), i + n = l.length → n < k → fold_Over.l0 k (overL t (l.take i)) l (l.length : Int) (i : Int) = some (ovX t l) := by
  obtain ⟨ht1, ht2⟩ := ht
  obtain ⟨hl1, hl2⟩ := hl
  intro n
  induction n with
  | zero =>
    intro i k hn hk
    obtain ⟨k, rfl⟩ := Nat.exists_eq_add_of_le' (show 1 ≤ k by omega)
    have hT := overL_tre ht1 hl1
    rw [fold_Over.l0, if_neg (by omega), List.take_of_length_le (by omega), tr_eq _ hT.lyr.b, Option.bind_some]
    unfold ovX
    by_cases hn : (overL t l).length ≤ 1024
    · rw [decide_eq_true (show TR (overL t l) from ⟨hT, hn⟩), if_pos rfl, if_pos ⟨⟨ht1, ht2⟩, ⟨hl1, hl2⟩, hn⟩]
    · rw [decide_eq_false (show ¬ TR (overL t l) from fun h => hn h.2), if_neg (by decide), if_neg (fun h => hn h.2.2)]
  | succ n ih =>
    intro i k hn hk
    obtain ⟨k, rfl⟩ := Nat.exists_eq_add_of_le' (show 1 ≤ k by omega)
    have hi : i < l.length := by omega
    have hli : Lyr (l.take i) := Lyr.pre (r := l.drop i) (by rwa [List.take_append_drop])
    have hT := overL_tre ht1 hli
    have hlen := overL_len t (l.take i)
    rw [List.length_take] at hlen
    rw [fold_Over.l0, if_pos (by omega), if_pos (by omega), if_pos (by omega), rd_get l i hi, one_eq hT.lyr.srt (fun x hx => (hT.lyr.rt x hx).1) l[i] (hl1.rt _ (List.getElem_mem hi)).1 (by omega), Option.bind_some, wrap_up i (by omega), ← overL_snoc, ← List.take_succ_eq_append_getElem hi]
    exact ih (i + 1) k (by omega) (by omega)
theorem over_eq (t l : List En) (k : Nat) (hk : 300 ≤ k) (ht : ∀ e ∈ t, e.f0.size ≤ 9223372036854775807) (hl : ∀ e ∈ l, e.f0.size ≤ 9223372036854775807) : fold_Over.f k t l = some (ovX t l) := by
  obtain ⟨k, rfl⟩ := Nat.exists_eq_add_of_le' (show 1 ≤ k by omega)
  unfold fold_Over.f
  rw [tr_eq t ht, Option.bind_some]
  by_cases hT : TR t
  · rw [decide_eq_true hT, if_pos rfl, lr_eq l hl (k + 1) (by omega), Option.bind_some]
    by_cases hL : LR l
    · rw [decide_eq_true hL, Bool.not_true, fold_Over.j0, if_neg (by decide)]
      unfold api_Entry.f
      have := hT.2
      rw [if_pos (by omega), Option.bind_some]
      have := over_l0 t l hT hL l.length 0 k (by omega) (by have := hL.2; omega)
      rwa [List.take_zero, overL_nil] at this
    · rw [decide_eq_false hL, Bool.not_false, fold_Over.j0, if_pos rfl]
      unfold ovX
      rw [if_neg (fun h => hL h.2.1)]
  · rw [decide_eq_false hT, if_neg (by decide), fold_Over.j0, if_pos rfl]
    unfold ovX
    rw [if_neg (fun h => hT h.1)]
/-! ### Stack -/
def SR (s : List (List En)) : Prop := s.length ≤ 9 ∧ ∀ l ∈ s, LR l
noncomputable def stX (s : List (List En)) : List En := if SR s then stkL s else []
theorem SR.len {s : List (List En)} (h : ∀ l ∈ s, LR l) : (stkL s).length ≤ s.length * 64 := stkL_len s 64 fun l hl => (h l hl).2
theorem stack_l0 (s : List (List En)) (hs : s.length ≤ 9) (hb : ∀ l ∈ s, ∀ e ∈ l, e.f0.size ≤ 9223372036854775807) : ∀ (n i k : Nat), i + n = s.length → n + 400 < k → (∀ l ∈ s.take i, LR l) → fold_Stack.l0 k (stkL (s.take i)) s (s.length : Int) (i : Int) = some (stX s) := by
  intro n
  induction n with
  | zero =>
    intro i k hn hk hq
    obtain ⟨k, rfl⟩ := Nat.exists_eq_add_of_le' (show 1 ≤ k by omega)
    rw [List.take_of_length_le (by omega)] at hq ⊢
    rw [fold_Stack.l0, if_neg (by omega)]
    unfold stX
    rw [if_pos ⟨hs, hq⟩]
  | succ n ih =>
    intro i k hn hk hq
    obtain ⟨k, rfl⟩ := Nat.exists_eq_add_of_le' (show 1 ≤ k by omega)
    have hi : i < s.length := by omega
    have hm := List.getElem_mem hi
    rw [fold_Stack.l0, if_pos (by omega), if_pos (by omega), if_pos (by omega), rdL_get s i hi, lr_eq _ (hb _ hm) k (by omega), Option.bind_some]
    by_cases hL : LR s[i]
    · have hT := stkL_tre (s := s.take i) fun l hl => (hq l hl).1
      have hlen := SR.len hq
      rw [List.length_take] at hlen
      have hlen2 := overL_len (stkL (s.take i)) s[i]
      have hq2 : ∀ l ∈ s.take (i + 1), LR l := fun l hl => by
        rw [List.take_succ_eq_append_getElem hi] at hl
        rcases List.mem_append.1 hl with hl | hl
        · exact hq l hl
        · rw [List.mem_singleton.1 hl]; exact hL
      rw [decide_eq_true hL, if_pos rfl, over_eq _ _ k (by omega) hT.lyr.b (hb _ hm), Option.bind_some, wrap_up i (by omega)]
      have : ovX (stkL (s.take i)) s[i] = stkL (s.take (i + 1)) := by
        unfold ovX
        have := hL.2
        rw [if_pos ⟨⟨hT, by omega⟩, hL, by omega⟩, List.take_succ_eq_append_getElem hi, stkL_snoc]
      rw [this]
      exact ih (i + 1) k (by omega) (by omega) hq2
    · rw [decide_eq_false hL, if_neg (by decide)]
      unfold stX
      rw [if_neg (fun h => hL (h.2 _ hm))]
theorem stack_eq (s : List (List En)) (hb : ∀ l ∈ s, ∀ e ∈ l, e.f0.size ≤ 9223372036854775807) (k : Nat) (hk : 500 ≤ k) : fold_Stack.f k s = some (stX s) := by
  unfold fold_Stack.f
  by_cases hl : s.length ≤ 9
  · rw [if_neg (by omega)]
    have := stack_l0 s hl hb s.length 0 k (by omega) (by omega) (by rw [List.take_zero]; intro l hl; cases hl)
    rwa [List.take_zero] at this
  · rw [if_pos (by omega)]
    unfold stX
    rw [if_neg (fun h => hl h.1)]
theorem stX_tre (s : List (List En)) : Tre (stX s) ∧ (stX s).length ≤ 576 := by
  unfold stX
  split
  · rename_i h
    have := SR.len h.2
    have h2 := h.1
    exact ⟨stkL_tre fun l hl => (h.2 l hl).1, by omega⟩
  · exact ⟨Tre.nil, by simp⟩
theorem ovX_ok {t l : List En} (ht : Tre t) (hn : t.length ≤ 960) (hl : LR l) : ovX t l = overL t l := by
  unfold ovX
  have := overL_len t l
  have h2 := hl.2
  rw [if_pos ⟨⟨ht, by omega⟩, hl, by omega⟩]
theorem ovX_not {t l : List En} (hl : ¬ LR l) : ovX t l = [] := by
  unfold ovX; rw [if_neg (fun h => hl h.2.1)]
theorem ovX_tre (t l : List En) : Tre (ovX t l) ∧ (ovX t l).length ≤ 1024 := by
  unfold ovX
  split
  · rename_i h; exact ⟨overL_tre h.1.1 h.2.1.1, h.2.2⟩
  · exact ⟨Tre.nil, by simp⟩
theorem overL_twice {t l : List En} (ht : Srt t) (hl : Srt l) : overL (overL t l) l = overL t l := by
  refine Srt.ext (overL_srt (overL_srt ht l) l) (overL_srt ht l) fun p => ?_
  rw [fnd_overL (overL_srt ht l) l hl, fnd_overL ht l hl]
  unfold ovr
  cases fnd l p with
  | some e => rfl
  | none =>
    simp only
    split <;> rfl
theorem overL_tree {t : List En} (h : Tre t) : overL [] t = t := stkL_tree h
theorem awake10_0 : shalelaw10_awake.f 40 = some true := by kernel_rfl
theorem awake10 (k : Nat) (hk : 40 ≤ k) : shalelaw10_awake.f k = some true := mono_le (fun k => shalelaw10_awake.mono k) hk awake10_0
end Go.Proofs.YtklcceccadlgkaaDoor.Th
