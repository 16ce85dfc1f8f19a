/- The references of entries and layers in plain words: shaleref08.Right, Less; shaleref09.Parent, Right; shaleref12.Right. -/
import Derived.Test.YthfbcclbappbcaaGreatDoorLayC
import Derived.Test.YthfbcclbappbcaaGreatDoorPureRefPath
import Derived.Test.YthfbcclbappbcaaGreatDoorPrint8
import Derived.Test.YthfbcclbappbcaaGreatDoorPrint9
import Derived.Test.YthfbcclbappbcaaGreatDoorPrint10
namespace Go.Proofs.YthfbcclbappbcaaGreatDoor.Th
open Go Go.RowKit Go.Proofs.YthfbcclbappbcaaGreatDoor.Print Go.Proofs.YthfbcclbappbcaaGreatDoorW.PrintWords
set_option linter.unusedVariables false
set_option linter.unusedSimpArgs false
open Classical
theorem rsplit (p : ByteArray) (hp : p.size ≤ 1000) (k : Nat) (hk : 3200 < k) : z11.f k p = some (match nm p with | some l => (l.map B, true) | none => ([], false)) := ThR.rsplit_eq p hp k hk
theorem rright (e : En) (h : e.f0.size ≤ 1000) (k : Nat) (hk : 3300 ≤ k) : z15.f k e.f0 e.f1 e.f2 = some (decide (Rt e)) := by
 obtain ⟨k, rfl⟩ := Nat.exists_eq_add_of_le' (show 1 ≤ k by omega)
 have jt : z15.j0 (k + 1) true e.f0 e.f1 e.f2 = some false := by rw [z15.j0, if_pos rfl]
 unfold z15.f
 rw [rsplit _ h _ (by omega), Option.bind_some]
 cases hn : nm e.f0 with
 | none =>
  dsimp only
  rw [if_neg (by decide), jt, decide_eq_false]
  rintro ⟨⟨L, h1, _⟩, _⟩
  have : nm e.f0 = some L := h1
  rw [hn] at this; cases this
 | some L =>
  dsimp only
  rw [if_pos rfl, List.length_map]
  by_cases hL : L = []
  ·subst hL
   rw [show (((([] : List By).length : Nat) : Int) == 0) = true from rfl, jt, decide_eq_false]
   rintro ⟨⟨L, h1, h2⟩, _⟩
   have : nm e.f0 = some L := h1
   rw [hn] at this; exact h2 (Option.some.inj this).symm
  ·have hP : Pth (ky e) := ⟨L, hn, hL⟩
   have hl : ((L.length : Int) == 0) = false := beq_eq_false_iff_ne.2 (by have := List.length_pos_iff.2 hL; omega)
   rw [hl, z15.j0, if_neg (by decide)]
   have hda : (da e).length = e.f2.size := rfl
   have hnil : e.f2.toList = da e := Lib.toList_data _
   by_cases h1 : e.f1 = 1
   ·rw [if_pos h1]
    refine congrArg some (decide_eq_decide.2 ⟨fun k => ⟨hP, .inl ⟨h1, by omega⟩⟩, fun k => ?_⟩)
    rcases k.2 with ⟨_, k⟩ | ⟨k, _⟩ <;> omega
   ·rw [if_neg h1]
    have key : e.f1 ≥ 2 ∧ e.f1 ≤ 4 → (some (e.f2.toList == ([] : List UInt8)) = some (decide (Rt e))) := fun h24 => by
     refine congrArg some (Bool.eq_iff_iff.2 ?_)
     rw [decide_eq_true_iff, beq_iff_eq, hnil]
     constructor
     ·intro k; exact ⟨hP, .inr ⟨by omega, k⟩⟩
     ·rintro ⟨_, k | k⟩
      ·exact absurd k.1 h1
      ·exact k.2
    by_cases h2 : e.f1 ≥ 2
    ·rw [if_pos h2]
     by_cases h4 : e.f1 ≤ 4
     ·rw [if_pos h4]; exact key ⟨h2, h4⟩
     ·rw [if_neg h4, decide_eq_false]
      rintro ⟨_, k | k⟩ <;> omega
    ·rw [if_neg h2, decide_eq_false]
     rintro ⟨_, k | k⟩ <;> omega
theorem rless_l0 (a b : ByteArray) (ha : a.size ≤ 1000) (hb : b.size ≤ 1000) : ∀ (n i k : Nat), i + n = a.size → i ≤ b.size → 2 * n + 2 ≤ k → z27.l0 k a b (i : Int) = some (decide (bl (a.data.toList.drop i) (b.data.toList.drop i))) := by
 have hla : a.data.toList.length = a.size := rfl
 have hlb : b.data.toList.length = b.size := rfl
 intro n
 induction n with
 | zero =>
  intro i k hn hib hk
  obtain ⟨k, rfl⟩ := Nat.exists_eq_add_of_le' (show 2 ≤ k by omega)
  rw [z27.l0, if_neg (by omega), z27.j1, if_neg (by decide), List.drop_of_length_le (l := a.data.toList) (by omega)]
  refine congrArg some (decide_eq_decide.2 ?_)
  cases hd : b.data.toList.drop i with
  | nil =>
   have := congrArg List.length hd
   rw [List.length_drop, List.length_nil] at this
   exact ⟨fun k => by omega, fun k => absurd k (bl_nil _)⟩
  | cons y r =>
   have := congrArg List.length hd
   rw [List.length_drop, List.length_cons] at this
   exact ⟨fun _ => nil_bl y r, fun _ => by omega⟩
 | succ n ih =>
  intro i k hn hib hk
  obtain ⟨k, rfl⟩ := Nat.exists_eq_add_of_le' (show 2 ≤ k by omega)
  have hia : i < a.data.toList.length := by omega
  rw [z27.l0, if_pos (by omega), z27.j1]
  by_cases hb2 : i < b.size
  ·have hib2 : i < b.data.toList.length := by omega
   rw [decide_eq_true (by omega), if_pos rfl, if_pos (by omega), if_pos (by omega), if_pos (by omega), ThR.bt_get a i (by omega), ThR.bt_get b i hb2, wrap_up i (by omega), ih (i + 1) k (by omega) (by omega) (by omega), List.drop_eq_getElem_cons hia, List.drop_eq_getElem_cons hib2]
   by_cases he : a.data.toList[i] = b.data.toList[i]
   ·rw [if_pos (by rw [he])]
    refine congrArg some (decide_eq_decide.2 ?_)
    rw [bl_cons, he]
    exact ⟨fun k => .inr ⟨rfl, k⟩, fun k => k.elim (fun k => absurd k (by simp)) (fun k => k.2)⟩
   ·rw [if_neg (fun k => he (UInt8.toNat_inj.1 (by omega)))]
    refine congrArg some (decide_eq_decide.2 ?_)
    rw [bl_cons]
    constructor
    ·intro k; exact .inl (UInt8.lt_iff_toNat_lt.2 (by omega))
    ·rintro (k | k)
     ·have := UInt8.lt_iff_toNat_lt.1 k; omega
     ·exact absurd k.1 he
  ·rw [decide_eq_false (by omega), if_neg (by decide), decide_eq_false (by omega), decide_eq_false]
   rw [List.drop_of_length_le (l := b.data.toList) (by omega)]
   exact bl_nil _
theorem rless (a b : ByteArray) (ha : a.size ≤ 1000) (hb : b.size ≤ 1000) (k : Nat) (hk : 2100 ≤ k) : z27.f k a b = some (decide (bl a.data.toList b.data.toList)) := by
 unfold z27.f
 exact rless_l0 a b ha hb a.size 0 k (by omega) (by omega) (by omega)
theorem app_dataR (a b : ByteArray) : (a ++ b).data.toList = a.data.toList ++ b.data.toList := by simp [ByteArray.data_append]
theorem rjoin_l0 (M : List By) (hM : Okn M) : ∀ (n i k : Nat), i + n = M.length → n < k → z25.l0 k (M.map B) (B (joinB (M.take i))) (i : Int) = some (pathB M) := by
 have hlen := hM.1
 intro n
 induction n with
 | zero =>
  intro i k hn hk
  obtain ⟨k, rfl⟩ := Nat.exists_eq_add_of_le' (show 1 ≤ k by omega)
  rw [z25.l0, if_neg (by rw [List.length_map]; omega), List.take_of_length_le (by omega), B_list]
  unfold pathB
  cases M with
  | nil => rw [if_pos joinB_nil, if_pos rfl]; rfl
  | cons x y => rw [if_neg (by rw [joinB_cons]; simp), if_neg (by simp)]
 | succ n ih =>
  intro i k hn hk
  obtain ⟨k, rfl⟩ := Nat.exists_eq_add_of_le' (show 1 ≤ k by omega)
  have hi : i < M.length := by omega
  have hj := joinB_len (okn_take hM i)
  have hnl := (nameL_len (hM.2 M[i] (List.getElem_mem hi))).2
  have hsz : (B (joinB (M.take i))).size = (joinB (M.take i)).length := rfl
  have hrd : rdOf ByteArray.empty (M.map B) (i : Int) = B M[i] := by rw [rdOf_get _ i (by rw [List.length_map]; exact hi), List.getElem_map]
  have hsz2 : (B M[i]).size = M[i].length := rfl
  have hap : (B (joinB (M.take i)) ++ (⟨#[47]⟩ : ByteArray)).size = (joinB (M.take i)).length + 1 := by rw [ByteArray.size_append]; rfl
  rw [z25.l0, if_pos (by rw [List.length_map]; omega), if_pos (by omega), if_pos (by omega), hrd, if_pos (by omega), wrap_up i (by omega)]
  have : (B (joinB (M.take i)) ++ (⟨#[47]⟩ : ByteArray)) ++ B M[i] = B (joinB (M.take (i + 1))) := by_ext (by
   rw [app_dataR, app_dataR, B_data, B_data, B_data, List.take_succ_eq_append_getElem hi, joinB_snoc, List.append_assoc]; rfl)
  rw [this]
  exact ih (i + 1) k (by omega) (by omega)
theorem rjoin {M : List By} (hM : Okn M) (k : Nat) (hk : 10 ≤ k) : z25.f k (M.map B) = some (pathB M) := by
 unfold z25.f
 have := rjoin_l0 M hM M.length 0 k (by omega) (by have := hM.1; omega)
 rwa [List.take_zero] at this
theorem rparent {p : ByteArray} {L : List By} (hn : nm p = some L) (hL : L ≠ []) (k : Nat) (hk : 3300 ≤ k) : z7.f k p = some (pathB L.dropLast) := by
 have hlen := (nm_len hn).2
 have hpos := List.length_pos_iff.2 hL
 have hok := nm_ok hn
 have hw : wrap64 ((L.length : Int) - 1) = ((L.length - 1 : Nat) : Int) := by unfold wrap64; omega
 unfold z7.f
 rw [rsplit p (by have := (nm_len hn).1; omega) k (by omega), hn, Option.bind_some]
 dsimp only
 rw [List.length_map, hw, if_pos (by omega), if_pos (by omega), Int.toNat_natCast, ← List.map_take, ← List.dropLast_eq_take, rjoin (by rw [List.dropLast_eq_take]; exact okn_take hok _) k (by omega)]
 rfl
/-- The reference's parent of a right entry. -/
theorem rparent_en {e : En} (h : Rt e) (k : Nat) (hk : 3300 ≤ k) : ∃ d, z7.f k e.f0 = some d ∧ (parB (ky e) = [] ∧ d.data.toList = [47] ∨ parB (ky e) ≠ [] ∧ parB (ky e) ≠ [47] ∧ d.data.toList = parB (ky e)) := by
 obtain ⟨L, hn, hL, hk1, hp, hok⟩ := pth_nil (p := e.f0) h.1
 obtain ⟨d, c, hd, hh⟩ := dir_of h
 have hpe : z32.f e.f0 = some (pathB L.dropLast, B (L.getLast hL), []) := by
  rw [parent_eq _ (by have := pth_size h.1; omega), parR_some hn hL]
 rw [hpe] at hd
 injection hd with hd; injection hd with hd _
 exact ⟨_, rparent hn hL k hk, by rw [hd]; exact hh⟩
theorem r09_l1 (l : List En) (hl : l.length ≤ 70) (i : Nat) (hi : i < l.length) (d : By) (K : Nat) (hK : 3300 ≤ K) (hd : ∀ k, 3300 ≤ k → ∃ t, z7.f k l[i].f0 = some t ∧ t.data.toList = d) :
  ∀ (n j k : Nat) (b : Bool), j + n = i → n + K < k → z10.l1 k l (i : Int) b (j : Int) = if b = true ∨ ∃ y ∈ (l.take i).drop j, ky y = d ∧ Hld y then z10.l0 (k - n - 1) l (wrap64 ((i : Int) + 1)) else some false := by
 intro n
 induction n with
 | zero =>
  intro j k b hn hk
  obtain ⟨k, rfl⟩ := Nat.exists_eq_add_of_le' (show 1 ≤ k by omega)
  rw [z10.l1, if_neg (by omega), List.drop_of_length_le (by rw [List.length_take]; omega)]
  cases b with
  | true => rw [if_pos rfl, if_pos (.inl rfl)]; rfl
  | false => rw [if_neg (by decide), if_neg (by simp)]
 | succ n ih =>
  intro j k b hn hk
  obtain ⟨k, rfl⟩ := Nat.exists_eq_add_of_le' (show 1 ≤ k by omega)
  have hj : j < (l.take i).length := by rw [List.length_take]; omega
  have hjl : j < l.length := by omega
  have hdr : (l.take i).drop j = l[j] :: (l.take i).drop (j + 1) := by rw [List.drop_eq_getElem_cons hj, List.getElem_take]
  have he : k + 1 - (n + 1) - 1 = k - n - 1 := by omega
  rw [z10.l1, if_pos (by omega), wrap_up j (by omega), he]
  cases b with
  | true =>
   rw [if_pos rfl, ih (j + 1) k true (by omega) (by omega), if_pos (.inl rfl), if_pos (.inl rfl)]
  | false =>
   obtain ⟨t, ht, htd⟩ := hd k (by omega)
   rw [if_neg (by decide), if_pos (by omega), if_pos (by omega), if_pos (by omega), if_pos (by omega), rd_get l i hi, rd_get l j hjl, ht, Option.bind_some, lst_data, lst_data, htd, hdr]
   by_cases hk1 : ky l[j] = d
   ·rw [if_pos (show l[j].f0.data.toList = d from hk1)]
    by_cases h2 : l[j].f1 = 2
    ·rw [if_pos h2, ih (j + 1) k true (by omega) (by omega), if_pos (.inl rfl), if_pos (.inr ⟨_, List.mem_cons_self .., hk1, .inl h2⟩)]
    ·rw [if_neg h2]
     by_cases h4 : l[j].f1 = 4
     ·rw [show (l[j].f1 == 4) = true from beq_iff_eq.2 h4, ih (j + 1) k true (by omega) (by omega), if_pos (.inl rfl), if_pos (.inr ⟨_, List.mem_cons_self .., hk1, .inr h4⟩)]
     ·rw [show (l[j].f1 == 4) = false from beq_eq_false_iff_ne.2 h4, ih (j + 1) k false (by omega) (by omega)]
      refine ifc ⟨?_, ?_⟩
      ·rintro (h | ⟨y, hy, h⟩)
       ·cases h
       ·exact .inr ⟨y, List.mem_cons_of_mem _ hy, h⟩
      ·rintro (h | ⟨y, hy, h, hh⟩)
       ·cases h
       ·rcases List.mem_cons.1 hy with e | hy
        ·rw [e] at hh; rcases hh with hh | hh
         ·exact absurd hh h2
         ·exact absurd hh h4
        ·exact .inr ⟨y, hy, h, hh⟩
   ·rw [if_neg (show ¬ l[j].f0.data.toList = d from hk1), ih (j + 1) k false (by omega) (by omega)]
    refine ifc ⟨?_, ?_⟩
    ·rintro (h | ⟨y, hy, h⟩)
     ·cases h
     ·exact .inr ⟨y, List.mem_cons_of_mem _ hy, h⟩
    ·rintro (h | ⟨y, hy, h, hh⟩)
     ·cases h
     ·rcases List.mem_cons.1 hy with e | hy
      ·rw [e] at h; exact absurd h hk1
      ·exact .inr ⟨y, hy, h, hh⟩
theorem r09_l0 (l : List En) (hb : ∀ e ∈ l, e.f0.size ≤ 100) (hl : l.length ≤ 70) : ∀ (n i k : Nat), i + n = l.length → 80 * n + 3500 ≤ k → Lyr (l.take i) → z10.l0 k l (i : Int) = some (decide (LR l)) := by
 intro n
 induction n with
 | zero =>
  intro i k hn hk hq
  obtain ⟨k, rfl⟩ := Nat.exists_eq_add_of_le' (show 1 ≤ k by omega)
  rw [z10.l0, if_neg (by omega)]
  rw [List.take_of_length_le (by omega)] at hq
  exact congrArg some (decide_eq_decide.2 ⟨fun h => ⟨hq, by omega⟩, fun h => by have := h.2; omega⟩)
 | succ n ih =>
  intro i k hn hk hq
  obtain ⟨k, rfl⟩ := Nat.exists_eq_add_of_le' (show 2 ≤ k by omega)
  have hi : i < l.length := by omega
  have hsz := hb _ (List.getElem_mem hi)
  rw [z10.l0, if_pos (by omega), if_pos (by omega), rd_get l i hi, rright _ (by omega) (k + 1) (by omega), Option.bind_some]
  have key := nxt_iff l i hi hq
  have no : ¬ Nxt (l.take i) l[i] → some false = some (decide (LR l)) := fun hnx => by
   rw [decide_eq_false (fun h => lyr_not (fun h2 => hnx (key.1 h2)) h.1)]
  have jt : z10.j1 (k + 1) l (i : Int) true = some false := by rw [z10.j1, if_pos rfl]
  have jf : Rt l[i] → (∀ y, (l.take i).getLast? = some y → bl (ky y) (ky l[i])) → z10.j1 (k + 1) l (i : Int) false = some (decide (LR l)) := by
   intro hrt hlt
   obtain ⟨d, hd, hdd⟩ := rparent_en hrt k (by omega)
   rw [z10.j1, if_neg (by decide), if_pos (by omega), if_pos (by omega), rd_get l i hi, hd, Option.bind_some, lst_data d]
   have hall : ∀ k, 3300 ≤ k → ∃ t, z7.f k l[i].f0 = some t ∧ t.data.toList = d.data.toList := fun k' hk' => by
    obtain ⟨L, hn, hL, _⟩ := pth_nil (p := l[i].f0) hrt.1
    have h1 := rparent hn hL k (by omega)
    rw [hd] at h1
    exact ⟨_, rparent hn hL k' hk', by rw [Option.some.inj h1]⟩
   rw [show ((0 : Int)) = ((0 : Nat) : Int) from rfl, r09_l1 l hl i hi d.data.toList 3300 (Nat.le_refl _) hall i 0 k _ (by omega) (by omega), List.drop_zero]
   have cond : ((d.data.toList == ([47] : List UInt8)) = true ∨ ∃ y ∈ l.take i, ky y = d.data.toList ∧ Hld y) ↔ Nxt (l.take i) l[i] := by
    constructor
    ·intro h
     refine ⟨hrt, hlt, ?_⟩
     rcases hdd with ⟨h0, h1⟩ | ⟨h0, h0', h1⟩
     ·exact .inl h0
     ·rcases h with h | ⟨y, hy, hk, hh⟩
      ·exact absurd ((h1.symm).trans (beq_iff_eq.1 h)) h0'
      ·exact .inr ⟨y, hy, hk.trans h1, hh⟩
    ·intro h
     rcases hdd with ⟨h0, h1⟩ | ⟨h0, h0', h1⟩
     ·exact .inl (beq_iff_eq.2 h1)
     ·rcases h.par with h2 | ⟨y, hy, hk, hh⟩
      ·exact absurd h2 h0
      ·exact .inr ⟨y, hy, hk.trans h1.symm, hh⟩
   by_cases hnx : Nxt (l.take i) l[i]
   ·rw [if_pos (cond.2 hnx), wrap_up i (by omega)]
    exact ih (i + 1) _ (by omega) (by omega) (key.2 hnx)
   ·rw [if_neg (fun h => hnx (cond.1 h))]
    exact no hnx
  by_cases hrt : Rt l[i]
  ·rw [decide_eq_true hrt, if_pos rfl]
   by_cases hi0 : 0 < i
   ·rw [if_pos (by omega)]
    have hw : wrap64 ((i : Int) - 1) = ((i - 1 : Nat) : Int) := by unfold wrap64; omega
    have hsz2 := hb _ (List.getElem_mem (show i - 1 < l.length by omega))
    rw [hw, if_pos (by omega), if_pos (by omega), rd_get l (i - 1) (by omega), rless _ _ (by omega) (by omega) _ (by omega), Option.bind_some]
    by_cases hlt : bl (ky l[i - 1]) (ky l[i])
    ·rw [decide_eq_true (show bl l[i - 1].f0.data.toList l[i].f0.data.toList from hlt)]
     refine jf hrt fun y hy => ?_
     rw [take_last l i hi hi0] at hy
     exact Option.some.inj hy ▸ hlt
    ·rw [decide_eq_false (show ¬ bl l[i - 1].f0.data.toList l[i].f0.data.toList from hlt), Bool.not_false, jt]
     exact no fun k => hlt (k.lt _ (take_last l i hi hi0))
   ·rw [if_neg (by omega)]
    refine jf hrt fun y hy => ?_
    rw [show i = 0 by omega] at hy
    simp at hy
  ·rw [decide_eq_false hrt, if_neg (by decide), jt]
   exact no fun k => hrt k.rt
theorem r09_eq (l : List En) (h : Fit l) (k : Nat) (hk : 10000 ≤ k) : z10.f k l = some (decide (LR l)) := by
 unfold z10.f
 have := h.1
 exact r09_l0 l (fun e he => (h.2 e he).1) h.1 l.length 0 k (by omega) (by omega) (by rw [List.take_zero]; exact Lyr.nil)
end Go.Proofs.YthfbcclbappbcaaGreatDoor.Th
