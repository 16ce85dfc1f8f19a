/- The reference of layers over trees in plain words: shaleref10.Under, shaleref09.With, shaleref10.Over, Stack. -/
import Derived.Test.YthfbcclbappbcaaGreatDoorRefA
import Derived.Test.YthfbcclbappbcaaGreatDoorRefC
import Derived.Test.YthfbcclbappbcaaGreatDoorPrintWi
import Derived.Test.YthfbcclbappbcaaGreatDoorPrintOv
namespace Go.Proofs.YthfbcclbappbcaaGreatDoor.Th
open Go Go.RowKit Go.Proofs.YthfbcclbappbcaaGreatDoor.Print Go.Proofs.YthfbcclbappbcaaGreatDoorW.PrintWords
set_option linter.unusedVariables false
set_option linter.unusedSimpArgs false
open Classical
theorem ref_underD (x y : ByteArray) (_hx : x.size ≤ 1000) (hy : y.size ≤ 1000) : z13.f x y = some (decide (Und x.data.toList y.data.toList)) := by
 unfold z13.f
 have sx : x.size = x.data.toList.length := rfl
 have sy : y.size = y.data.toList.length := rfl
 by_cases h : y.size < x.size
 ·have hw : wrap64 ((y.size : Int) + 1) = ((y.size + 1 : Nat) : Int) := wrap_up _ (by omega)
  rw [if_pos (by omega), hw, if_pos (by omega), if_pos (by omega), if_pos (by omega), Int.toNat_natCast]
  refine congrArg some (Bool.eq_iff_iff.2 ?_)
  rw [decide_eq_true_iff, und_iff, List.isPrefixOf_iff_prefix, List.prefix_iff_eq_take, lst_data, lst_data, app_dataR, beq_iff_eq]
  have he : (x.extract 0 (y.size + 1)).data.toList = x.data.toList.take (y.size + 1) := by simp [ByteArray.data_extract]
  rw [he, List.length_append, ← sy]
  exact eq_comm
 ·rw [if_neg (by omega)]
  exact congrArg some (decide_eq_false (fun k => by have := k.len; omega)).symm
/-- The reference's steps: entries with one. -/
def wL (e : En) : List En → Bool → List En
 | [], true => []
 | [], false => [e]
 | x :: r, true => (if ky x = ky e then [] else [x]) ++ wL e r true
 | x :: r, false => if bl (ky x) (ky e) then (if ky x = ky e then [] else [x]) ++ wL e r false else e :: ((if ky x = ky e then [] else [x]) ++ wL e r true)
theorem wL_true (e : En) : ∀ r : List En, (∀ y ∈ r, ky y ≠ ky e) → wL e r true = r
 | [], _ => rfl
 | x :: r, h => by rw [wL, if_neg (h x (by simp)), wL_true e r (fun y hy => h y (by simp [hy])), List.singleton_append]
theorem wL_put (e : En) : ∀ r : List En, Srt r → wL e r false = putL r e
 | [], _ => rfl
 | x :: r, h => by
  have hh := h.head
  rw [wL, putL]
  by_cases hk : ky x = ky e
  ·rw [if_neg (fun hb => bl_ne hb hk), if_pos hk, if_pos hk, List.nil_append, wL_true e r (fun y hy hy2 => bl_ne (hh y hy) (hk.trans hy2.symm))]
  ·by_cases hb : bl (ky e) (ky x)
   ·rw [if_neg (bl_asymm hb), if_neg hk, if_neg hk, if_pos hb, wL_true e r (fun y hy hy2 => bl_ne (bl_trans hb (hh y hy)) hy2.symm)]; rfl
   ·have hb2 : bl (ky x) (ky e) := by
     rcases bl_tri (ky x) (ky e) with h1 | h1 | h1
     ·exact h1
     ·exact absurd h1 hk
     ·exact absurd h1 hb
    rw [if_pos hb2, if_neg hk, if_neg hk, if_neg hb, wL_put e r h.tail]; rfl
theorem with_l0 (l : List En) (e : En) (hb : ∀ x ∈ l, x.f0.size ≤ 1000) (he : e.f0.size ≤ 1000) (hl : l.length ≤ 2000) : ∀ (n i k : Nat) (acc : List En) (d : Bool), i + n = l.length → 2 * n + 2200 < k → acc.length + 2 * n ≤ 100000 →
  z17.l0 k l acc d (i : Int) e.f0 e.f1 e.f2 = some (acc ++ wL e (l.drop i) d) := by
 intro n
 induction n with
 | zero =>
  intro i k acc d hn hk ha
  obtain ⟨k, rfl⟩ := Nat.exists_eq_add_of_le' (show 1 ≤ k by omega)
  rw [z17.l0, if_neg (by omega), List.drop_of_length_le (by omega)]
  cases d with
  | true => rw [if_pos rfl, wL, List.append_nil]
  | false => rw [if_neg (by decide), if_pos (by omega), wL]
 | succ n ih =>
  intro i k acc d hn hk ha
  obtain ⟨k, rfl⟩ := Nat.exists_eq_add_of_le' (show 2 ≤ k by omega)
  have hi : i < l.length := by omega
  have hsz := hb _ (List.getElem_mem hi)
  have hlast : ∀ (acc : List En) (d : Bool), acc.length + 2 * n + 1 ≤ 100000 → (if ((rd_T26 l (i : Int)).f0).toList = e.f0.toList then (z17.l0 k l acc d (wrap64 ((i : Int) + 1)) e.f0 e.f1 e.f2) else (if acc.length < 3518437208883 then (z17.l0 k l (acc ++ [(⟨(rd_T26 l (i : Int)).f0, (rd_T26 l (i : Int)).f1, (rd_T26 l (i : Int)).f2⟩ : En)]) d (wrap64 ((i : Int) + 1)) e.f0 e.f1 e.f2) else (none))) = some (acc ++ ((if ky l[i] = ky e then [] else [l[i]]) ++ wL e (l.drop (i + 1)) d)) := by
   intro acc d hacc
   rw [rd_get l i hi, wrap_up i (by omega), lst_data, lst_data]
   by_cases hk1 : ky l[i] = ky e
   ·rw [if_pos (show l[i].f0.data.toList = e.f0.data.toList from hk1), if_pos hk1, List.nil_append]
    exact ih (i + 1) k acc d (by omega) (by omega) (by omega)
   ·rw [if_neg (show ¬ l[i].f0.data.toList = e.f0.data.toList from hk1), if_neg hk1, if_pos (by omega), ← List.append_assoc]
    exact ih (i + 1) k (acc ++ [l[i]]) d (by omega) (by omega) (by rw [List.length_append, List.length_singleton]; omega)
  have jf : ∀ (acc : List En) (d : Bool), acc.length + 2 * n + 1 ≤ 100000 → z17.j1 (k + 1) l acc d (i : Int) false e.f0 e.f1 e.f2 = some (acc ++ ((if ky l[i] = ky e then [] else [l[i]]) ++ wL e (l.drop (i + 1)) d)) := fun acc d hacc => by
   rw [z17.j1, if_neg (by decide), if_pos (by omega), if_pos (by omega)]
   exact hlast acc d hacc
  rw [z17.l0, if_pos (by omega), List.drop_eq_getElem_cons hi]
  cases d with
  | true => rw [if_pos rfl, jf acc true (by omega), wL]
  | false =>
   rw [if_neg (by decide), if_pos (by omega), rd_get l i hi, rless _ _ hsz he _ (by omega), Option.bind_some, wL]
   by_cases hbl : bl (ky l[i]) (ky e)
   ·rw [decide_eq_true (show bl l[i].f0.data.toList e.f0.data.toList from hbl), Bool.not_true, jf acc false (by omega), if_pos hbl]
   ·rw [decide_eq_false (show ¬ bl l[i].f0.data.toList e.f0.data.toList from hbl), Bool.not_false, if_neg hbl, z17.j1, if_pos rfl, if_pos (by omega), Option.bind_some, if_pos (by omega), if_pos (by omega)]
    rw [hlast _ true (by rw [List.length_append, List.length_singleton]; omega), List.append_assoc]; rfl
theorem with_eq (l : List En) (e : En) (hQ : Qt l) (he : Rt e) (hl : l.length ≤ 2000) : z17.f 10000 l e.f0 e.f1 e.f2 = some (putL l e) := by
 have hb : ∀ x ∈ l, x.f0.size ≤ 1000 := fun x hx => by have := pth_size (hQ.rt x hx).1.1; omega
 have h := with_l0 l e hb (by have := pth_size he.1; omega) hl l.length 0 10000 [] false (by omega) (by omega) (by rw [List.length_nil]; omega)
 rw [List.drop_zero, List.nil_append, wL_put e l hQ.srt] at h
 exact h
theorem rover_eq (t l : List En) (hQ : Qt t) (hl : ∀ e ∈ l, Rt e) (hn : t.length + l.length ≤ 2000) : z16.f t l = some (overL t l) := by
 unfold z16.f
 rw [if_pos (by omega)]
 exact roneL_eq _ _ (fun x e hx he => ref_underD _ _ (by have := pth_size hx.1; omega) (by have := pth_size he.1; omega)) (fun l x h1 h2 h3 => with_eq l x h1 h2 h3) l t hQ hl hn
theorem rstack_l0 (s : List (List En)) (hs : s.length ≤ 12) (hL : ∀ l ∈ s, LR l) : ∀ (n i k : Nat), i + n = s.length → n < k → z12.l0 k s (stkL (s.take i)) (i : Int) = some (stkL s) := by
 intro n
 induction n with
 | zero =>
  intro i k hn hk
  obtain ⟨k, rfl⟩ := Nat.exists_eq_add_of_le' (show 1 ≤ k by omega)
  rw [z12.l0, if_neg (by omega), List.take_of_length_le (by omega)]
 | succ n ih =>
  intro i k hn hk
  obtain ⟨k, rfl⟩ := Nat.exists_eq_add_of_le' (show 1 ≤ k by omega)
  have hi : i < s.length := by omega
  have hm := hL _ (List.getElem_mem hi)
  have hq : ∀ l ∈ s.take i, LR l := fun l hl => hL l (List.mem_of_mem_take hl)
  have hT := stkL_tre (s := s.take i) fun l hl => (hq l hl).1
  have hlen := stkL_len (s.take i) 64 fun l hl => (hq l hl).2
  rw [List.length_take] at hlen
  have h64 := hm.2
  rw [z12.l0, if_pos (by omega), if_pos (by omega), rdL_get s i hi, rover_eq _ _ hT.qt hm.1.rt (by omega), Option.bind_some, wrap_up i (by omega), ← stkL_snoc, ← List.take_succ_eq_append_getElem hi]
  exact ih (i + 1) k (by omega) (by omega)
theorem rstack_eq (s : List (List En)) (hs : s.length ≤ 12) (hL : ∀ l ∈ s, LR l) (k : Nat) (hk : 20 ≤ k) : z12.f k s = some (stkL s) := by
 unfold z12.f
 exact rstack_l0 s hs hL s.length 0 k (by omega) (by omega)
end Go.Proofs.YthfbcclbappbcaaGreatDoor.Th
