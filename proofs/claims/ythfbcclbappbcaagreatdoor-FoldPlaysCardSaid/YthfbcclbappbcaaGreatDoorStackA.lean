/- Over, Stack: what the printed functions answer. -/
import Derived.Test.YthfbcclbappbcaaGreatDoorFoldB
import Derived.Test.YthfbcclbappbcaaGreatDoorLayC
import Derived.Test.YthfbcclbappbcaaGreatDoorPrintFo
namespace Go.Proofs.YthfbcclbappbcaaGreatDoor.Th
open Go Go.RowKit Go.Proofs.YthfbcclbappbcaaGreatDoor.Print Go.Proofs.YthfbcclbappbcaaGreatDoorW.PrintWords
set_option linter.unusedVariables false
set_option linter.unusedSimpArgs false
open Classical
def TR (l : List En) : Prop := Tre l ∧ l.length ≤ 1024
theorem tr_eq (l : List En) (hb : ∀ e ∈ l, e.f0.size ≤ 9223372036854775807) : z45.f l = some (decide (TR l)) :=
 (tree_eq l hb).trans (congrArg some (decide_eq_decide.2 Iff.rfl))
noncomputable def ovX (t l : List En) : List En := if TR t ∧ LR l ∧ (overL t l).length ≤ 1024 then overL t l else []
theorem over_l0 (t l : List En) (ht : TR t) (hl : LR l) : ∀ (n i k : Nat), i + n = l.length → n < k → z43.l0 k (overL t (l.take i)) l (l.length : Int) (i : Int) = some (ovX t l) := by
 obtain ⟨ht1, ht2⟩ := ht
 obtain ⟨hl1, hl2⟩ := hl
 intro n
 induction n with
 | zero =>
  intro i k hn hk
  obtain ⟨k, rfl⟩ := Nat.exists_eq_add_of_le' (show 1 ≤ k by omega)
  have hT := overL_tre ht1 hl1
  rw [z43.l0, if_neg (by omega), List.take_of_length_le (by omega), tr_eq _ hT.lyr.b, Option.bind_some]
  unfold ovX
  by_cases hn : (overL t l).length ≤ 1024
  ·rw [decide_eq_true (show TR (overL t l) from ⟨hT, hn⟩), if_pos rfl, if_pos ⟨⟨ht1, ht2⟩, ⟨hl1, hl2⟩, hn⟩]
  ·rw [decide_eq_false (show ¬ TR (overL t l) from fun h => hn h.2), if_neg (by decide), if_neg (fun h => hn h.2.2)]
 | succ n ih =>
  intro i k hn hk
  obtain ⟨k, rfl⟩ := Nat.exists_eq_add_of_le' (show 1 ≤ k by omega)
  have hi : i < l.length := by omega
  have hli : Lyr (l.take i) := Lyr.pre (r := l.drop i) (by rwa [List.take_append_drop])
  have hT := overL_tre ht1 hli
  have hlen := overL_len t (l.take i)
  rw [List.length_take] at hlen
  rw [z43.l0, if_pos (by omega), if_pos (by omega), if_pos (by omega), rd_get l i hi, one_eq hT.lyr.srt (fun x hx => (hT.lyr.rt x hx).1) l[i] (hl1.rt _ (List.getElem_mem hi)).1 (by omega), Option.bind_some, wrap_up i (by omega), ← overL_snoc, ← List.take_succ_eq_append_getElem hi]
  exact ih (i + 1) k (by omega) (by omega)
theorem over_eq (t l : List En) (k : Nat) (hk : 300 ≤ k) (ht : ∀ e ∈ t, e.f0.size ≤ 9223372036854775807) (hl : ∀ e ∈ l, e.f0.size ≤ 9223372036854775807) : z43.f k t l = some (ovX t l) := by
 obtain ⟨k, rfl⟩ := Nat.exists_eq_add_of_le' (show 1 ≤ k by omega)
 unfold z43.f
 rw [tr_eq t ht, Option.bind_some]
 by_cases hT : TR t
 ·rw [decide_eq_true hT, if_pos rfl, lr_eq l hl (k + 1) (by omega), Option.bind_some]
  by_cases hL : LR l
  ·rw [decide_eq_true hL, Bool.not_true, z43.j0, if_neg (by decide)]
   unfold z40.f
   have := hT.2
   rw [if_pos (by omega), Option.bind_some]
   have := over_l0 t l hT hL l.length 0 k (by omega) (by have := hL.2; omega)
   rwa [List.take_zero, overL_nil] at this
  ·rw [decide_eq_false hL, Bool.not_false, z43.j0, if_pos rfl]
   unfold ovX
   rw [if_neg (fun h => hL h.2.1)]
 ·rw [decide_eq_false hT, if_neg (by decide), z43.j0, if_pos rfl]
  unfold ovX
  rw [if_neg (fun h => hT h.1)]
def SR (s : List (List En)) : Prop := s.length ≤ 9 ∧ ∀ l ∈ s, LR l
noncomputable def stX (s : List (List En)) : List En := if SR s then stkL s else []
theorem SR.len {s : List (List En)} (h : ∀ l ∈ s, LR l) : (stkL s).length ≤ s.length * 64 := stkL_len s 64 fun l hl => (h l hl).2
theorem stack_l0 (s : List (List En)) (hs : s.length ≤ 9) (hb : ∀ l ∈ s, ∀ e ∈ l, e.f0.size ≤ 9223372036854775807) : ∀ (n i k : Nat), i + n = s.length → n + 400 < k → (∀ l ∈ s.take i, LR l) → z38.l0 k (stkL (s.take i)) s (s.length : Int) (i : Int) = some (stX s) := by
 intro n
 induction n with
 | zero =>
  intro i k hn hk hq
  obtain ⟨k, rfl⟩ := Nat.exists_eq_add_of_le' (show 1 ≤ k by omega)
  rw [List.take_of_length_le (by omega)] at hq ⊢
  rw [z38.l0, if_neg (by omega)]
  unfold stX
  rw [if_pos ⟨hs, hq⟩]
 | succ n ih =>
  intro i k hn hk hq
  obtain ⟨k, rfl⟩ := Nat.exists_eq_add_of_le' (show 1 ≤ k by omega)
  have hi : i < s.length := by omega
  have hm := List.getElem_mem hi
  rw [z38.l0, if_pos (by omega), if_pos (by omega), if_pos (by omega), rdL_get s i hi, lr_eq _ (hb _ hm) k (by omega), Option.bind_some]
  by_cases hL : LR s[i]
  ·have hT := stkL_tre (s := s.take i) fun l hl => (hq l hl).1
   have hlen := SR.len hq
   rw [List.length_take] at hlen
   have hlen2 := overL_len (stkL (s.take i)) s[i]
   have hq2 : ∀ l ∈ s.take (i + 1), LR l := fun l hl => by
    rw [List.take_succ_eq_append_getElem hi] at hl
    rcases List.mem_append.1 hl with hl | hl
    ·exact hq l hl
    ·rw [List.mem_singleton.1 hl]; exact hL
   rw [decide_eq_true hL, if_pos rfl, over_eq _ _ k (by omega) hT.lyr.b (hb _ hm), Option.bind_some, wrap_up i (by omega)]
   have : ovX (stkL (s.take i)) s[i] = stkL (s.take (i + 1)) := by
    unfold ovX
    have := hL.2
    rw [if_pos ⟨⟨hT, by omega⟩, hL, by omega⟩, List.take_succ_eq_append_getElem hi, stkL_snoc]
   rw [this]
   exact ih (i + 1) k (by omega) (by omega) hq2
  ·rw [decide_eq_false hL, if_neg (by decide)]
   unfold stX
   rw [if_neg (fun h => hL (h.2 _ hm))]
theorem stack_eq (s : List (List En)) (hb : ∀ l ∈ s, ∀ e ∈ l, e.f0.size ≤ 9223372036854775807) (k : Nat) (hk : 500 ≤ k) : z38.f k s = some (stX s) := by
 unfold z38.f
 by_cases hl : s.length ≤ 9
 ·rw [if_neg (by omega)]
  have := stack_l0 s hl hb s.length 0 k (by omega) (by omega) (by rw [List.take_zero]; intro l hl; cases hl)
  rwa [List.take_zero] at this
 ·rw [if_pos (by omega)]
  unfold stX
  rw [if_neg (fun h => hl h.1)]
theorem ovX_ok {t l : List En} (ht : Tre t) (hn : t.length ≤ 960) (hl : LR l) : ovX t l = overL t l := by
 unfold ovX
 have := overL_len t l
 have h2 := hl.2
 rw [if_pos ⟨⟨ht, by omega⟩, hl, by omega⟩]
theorem ovX_not {t l : List En} (hl : ¬ LR l) : ovX t l = [] := by
 unfold ovX; rw [if_neg (fun h => hl h.2.1)]
end Go.Proofs.YthfbcclbappbcaaGreatDoor.Th
