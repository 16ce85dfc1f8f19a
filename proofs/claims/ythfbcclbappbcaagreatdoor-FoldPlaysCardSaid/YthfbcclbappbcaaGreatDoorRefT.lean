/- The reference of trees in plain words: shaleref10.Tree. -/
import Derived.Test.YthfbcclbappbcaaGreatDoorRefA
import Derived.Test.YthfbcclbappbcaaGreatDoorStackA
import Derived.Test.YthfbcclbappbcaaGreatDoorPrintTr
namespace Go.Proofs.YthfbcclbappbcaaGreatDoor.Th
open Go Go.RowKit Go.Proofs.YthfbcclbappbcaaGreatDoor.Print Go.Proofs.YthfbcclbappbcaaGreatDoorW.PrintWords
set_option linter.unusedVariables false
set_option linter.unusedSimpArgs false
open Classical
theorem rt_l1 (l : List En) (hl : l.length ≤ 70) (i : Nat) (hi : i < l.length) (d : ByteArray) :
  ∀ (n j k : Nat) (b : Bool), j + n = i → n < k → z22.l1 k l (i : Int) d b (j : Int) = if b = true ∨ ∃ y ∈ (l.take i).drop j, ky y = d.data.toList ∧ y.f1 = 2 then z22.l0 (k - n - 1) l (wrap64 ((i : Int) + 1)) else some false := by
 intro n
 induction n with
 | zero =>
  intro j k b hn hk
  obtain ⟨k, rfl⟩ := Nat.exists_eq_add_of_le' (show 1 ≤ k by omega)
  rw [z22.l1, if_neg (by omega), List.drop_of_length_le (by rw [List.length_take]; omega)]
  cases b with
  | true => rw [if_pos rfl, if_pos (.inl rfl)]; rfl
  | false => rw [if_neg (by decide), if_neg (by simp)]
 | succ n ih =>
  intro j k b hn hk
  obtain ⟨k, rfl⟩ := Nat.exists_eq_add_of_le' (show 1 ≤ k by omega)
  have hj : j < (l.take i).length := by rw [List.length_take]; omega
  have hjl : j < l.length := by omega
  have hdr : (l.take i).drop j = l[j] :: (l.take i).drop (j + 1) := by rw [List.drop_eq_getElem_cons hj, List.getElem_take]
  have he : k + 1 - (n + 1) - 1 = k - n - 1 := by omega
  rw [z22.l1, if_pos (by omega), wrap_up j (by omega), he]
  cases b with
  | true =>
   rw [if_pos rfl, ih (j + 1) k true (by omega) (by omega), if_pos (.inl rfl), if_pos (.inl rfl)]
  | false =>
   rw [if_neg (by decide), if_pos (by omega), if_pos (by omega), rd_get l j hjl, lst_data, lst_data, hdr]
   by_cases hk1 : ky l[j] = d.data.toList
   ·rw [if_pos (show l[j].f0.data.toList = d.data.toList from hk1)]
    by_cases h2 : l[j].f1 = 2
    ·rw [show (l[j].f1 == 2) = true from beq_iff_eq.2 h2, ih (j + 1) k true (by omega) (by omega), if_pos (.inl rfl), if_pos (.inr ⟨_, List.mem_cons_self .., hk1, h2⟩)]
    ·rw [show (l[j].f1 == 2) = false from beq_eq_false_iff_ne.2 h2, ih (j + 1) k false (by omega) (by omega)]
     refine ifc ⟨?_, ?_⟩
     ·rintro (h | ⟨y, hy, h⟩)
      ·cases h
      ·exact .inr ⟨y, List.mem_cons_of_mem _ hy, h⟩
     ·rintro (h | ⟨y, hy, h, hh⟩)
      ·cases h
      ·rcases List.mem_cons.1 hy with e | hy
       ·rw [e] at hh; exact absurd hh h2
       ·exact .inr ⟨y, hy, h, hh⟩
   ·rw [if_neg (show ¬ l[j].f0.data.toList = d.data.toList from hk1), ih (j + 1) k false (by omega) (by omega)]
    refine ifc ⟨?_, ?_⟩
    ·rintro (h | ⟨y, hy, h⟩)
     ·cases h
     ·exact .inr ⟨y, List.mem_cons_of_mem _ hy, h⟩
    ·rintro (h | ⟨y, hy, h, hh⟩)
     ·cases h
     ·rcases List.mem_cons.1 hy with e | hy
      ·rw [e] at h; exact absurd h hk1
      ·exact .inr ⟨y, hy, h, hh⟩
theorem tre_nxt (l : List En) (i : Nat) (h : i < l.length) (hq : Tre (l.take i)) : Tre (l.take (i + 1)) ↔ Nxt (l.take i) l[i] ∧ l[i].f1 ≤ 2 := by
 have key := nxt_iff l i h hq.lyr
 constructor
 ·intro k
  have hm : l[i] ∈ l.take i ++ [l[i]] := List.mem_append.2 (.inr (List.mem_singleton.2 rfl))
  rw [← List.take_succ_eq_append_getElem h] at hm
  exact ⟨key.1 k.lyr, k.kd _ hm⟩
 ·rintro ⟨k1, k2⟩
  refine ⟨key.2 k1, fun e he => ?_⟩
  rw [List.take_succ_eq_append_getElem h] at he
  rcases List.mem_append.1 he with he | he
  ·exact hq.kd e he
  ·rw [List.mem_singleton.1 he]; exact k2
theorem rt_l0 (l : List En) (hb : ∀ e ∈ l, e.f0.size ≤ 100) (hl : l.length ≤ 70) : ∀ (n i k : Nat), i + n = l.length → 80 * n + 3500 ≤ k → Tre (l.take i) → z22.l0 k l (i : Int) = some (decide (TR l)) := by
 intro n
 induction n with
 | zero =>
  intro i k hn hk hq
  obtain ⟨k, rfl⟩ := Nat.exists_eq_add_of_le' (show 1 ≤ k by omega)
  rw [z22.l0, if_neg (by omega)]
  rw [List.take_of_length_le (by omega)] at hq
  exact congrArg some (decide_eq_decide.2 ⟨fun h => ⟨hq, by omega⟩, fun h => by have := h.2; omega⟩)
 | succ n ih =>
  intro i k hn hk hq
  obtain ⟨k, rfl⟩ := Nat.exists_eq_add_of_le' (show 2 ≤ k by omega)
  have hi : i < l.length := by omega
  have hsz := hb _ (List.getElem_mem hi)
  have key := tre_nxt l i hi hq
  have no : ¬ (Nxt (l.take i) l[i] ∧ l[i].f1 ≤ 2) → some false = some (decide (TR l)) := fun hnx => by
   rw [decide_eq_false]
   rintro ⟨h, _⟩
   refine hnx (key.1 ⟨?_, fun e he => h.kd e (List.mem_of_mem_take he)⟩)
   exact Lyr.pre (r := l.drop (i + 1)) (by rw [List.take_append_drop]; exact h.lyr)
  have jt : z22.j1 (k + 1) l (i : Int) true = some false := by rw [z22.j1, if_pos rfl]
  have jf : Rt l[i] → l[i].f1 ≤ 2 → (∀ y, (l.take i).getLast? = some y → bl (ky y) (ky l[i])) → z22.j1 (k + 1) l (i : Int) false = some (decide (TR l)) := by
   intro hrt h2 hlt
   obtain ⟨d, hd, hdd⟩ := rparent_en hrt k (by omega)
   rw [z22.j1, if_neg (by decide), if_pos (by omega), if_pos (by omega), rd_get l i hi, hd, Option.bind_some, lst_data d]
   rw [show ((0 : Int)) = ((0 : Nat) : Int) from rfl, rt_l1 l hl i hi d i 0 k _ (by omega) (by omega), List.drop_zero]
   have cond : ((d.data.toList == ([47] : List UInt8)) = true ∨ ∃ y ∈ l.take i, ky y = d.data.toList ∧ y.f1 = 2) ↔ (Nxt (l.take i) l[i] ∧ l[i].f1 ≤ 2) := by
    constructor
    ·intro h
     refine ⟨⟨hrt, hlt, ?_⟩, h2⟩
     rcases hdd with ⟨h0, h1⟩ | ⟨h0, h0', h1⟩
     ·exact .inl h0
     ·rcases h with h | ⟨y, hy, hk, hh⟩
      ·exact absurd ((h1.symm).trans (beq_iff_eq.1 h)) h0'
      ·exact .inr ⟨y, hy, hk.trans h1, .inl hh⟩
    ·rintro ⟨h, _⟩
     rcases hdd with ⟨h0, h1⟩ | ⟨h0, h0', h1⟩
     ·exact .inl (beq_iff_eq.2 h1)
     ·rcases h.par with h2 | ⟨y, hy, hk, hh⟩
      ·exact absurd h2 h0
      ·refine .inr ⟨y, hy, hk.trans h1.symm, ?_⟩
       have := hq.kd y hy
       rcases hh with hh | hh <;> omega
   by_cases hnx : Nxt (l.take i) l[i] ∧ l[i].f1 ≤ 2
   ·rw [if_pos (cond.2 hnx), wrap_up i (by omega)]
    exact ih (i + 1) _ (by omega) (by omega) (key.2 hnx)
   ·rw [if_neg (fun h => hnx (cond.1 h))]
    exact no hnx
  rw [z22.l0, if_pos (by omega), if_pos (by omega), rd_get l i hi, rright _ (by omega) (k + 1) (by omega), Option.bind_some]
  by_cases hrt : Rt l[i]
  ·rw [decide_eq_true hrt, if_pos rfl]
   by_cases h2 : l[i].f1 ≤ 2
   ·rw [if_neg (by omega)]
    by_cases hi0 : 0 < i
    ·rw [if_pos (by omega)]
     have hw : wrap64 ((i : Int) - 1) = ((i - 1 : Nat) : Int) := by unfold wrap64; omega
     have hsz2 := hb _ (List.getElem_mem (show i - 1 < l.length by omega))
     rw [hw, if_pos (by omega), if_pos (by omega), rd_get l (i - 1) (by omega), rless _ _ (by omega) (by omega) _ (by omega), Option.bind_some]
     by_cases hlt : bl (ky l[i - 1]) (ky l[i])
     ·rw [decide_eq_true (show bl l[i - 1].f0.data.toList l[i].f0.data.toList from hlt)]
      refine jf hrt h2 fun y hy => ?_
      rw [take_last l i hi hi0] at hy
      exact Option.some.inj hy ▸ hlt
     ·rw [decide_eq_false (show ¬ bl l[i - 1].f0.data.toList l[i].f0.data.toList from hlt), Bool.not_false, jt]
      exact no fun k => hlt (k.1.lt _ (take_last l i hi hi0))
    ·rw [if_neg (by omega)]
     refine jf hrt h2 fun y hy => ?_
     rw [show i = 0 by omega] at hy
     simp at hy
   ·rw [if_pos (by omega), jt]
    exact no fun k => h2 k.2
  ·rw [decide_eq_false hrt, if_neg (by decide), jt]
   exact no fun k => hrt k.1.rt
theorem rt_eq (l : List En) (h : Fit l) (k : Nat) (hk : 10000 ≤ k) : z22.f k l = some (decide (TR l)) := by
 unfold z22.f
 have := h.1
 exact rt_l0 l (fun e he => (h.2 e he).1) h.1 l.length 0 k (by omega) (by omega) (by rw [List.take_zero]; exact Tre.nil)
end Go.Proofs.YthfbcclbappbcaaGreatDoor.Th
