/- LayerBelows: the law's function answers true. -/
import Derived.Test.YtdmnpofodechpaaGreatDoorLayC
import Derived.Test.YtdmnpofodechpaaGreatDoorPrintBe
import Derived.Test.YtdmnpofodechpaaGreatDoorPrintLay
import Derived.Test.YtdmnpofodechpaaGreatDoorPrintLayerBelows
namespace Go.Proofs.YtdmnpofodechpaaGreatDoor.Th
open Go Go.RowKit Go.Proofs.YtdmnpofodechpaaGreatDoor.Print Go.Proofs.YtdmnpofodechpaaGreatDoorW.PrintWords
set_option linter.unusedVariables false
set_option linter.unusedSimpArgs false
open Classical
theorem awake09_0 : shalelaw09_awake.f 60 = some true := by kernel_rfl
theorem awake09 (k : Nat) (hk : 60 ≤ k) : shalelaw09_awake.f k = some true := mono_le (fun k => shalelaw09_awake.mono k) hk awake09_0
theorem alike (a b : En) : (a.f0.toList == b.f0.toList && (a.f1 == b.f1 && (a.f2.toList == b.f2.toList))) = decide (a = b) := by
  rw [lst_eq, lst_eq]
  refine Bool.eq_iff_iff.2 ?_
  rw [decide_eq_true_iff, Bool.and_eq_true, Bool.and_eq_true, decide_eq_true_iff, decide_eq_true_iff, beq_iff_eq]
  constructor
  · rintro ⟨h0, h1, h2⟩; exact en_ext h0 h1 h2
  · rintro rfl; exact ⟨rfl, rfl, rfl⟩
/-- It lies under the path. -/
def UP (p : ByteArray) (e : En) : Prop := UndN e.f0 p
theorem filter_snoc' (q : En → Prop) [DecidablePred q] (l : List En) (i : Nat) (h : i < l.length) : (l.take (i + 1)).filter (fun e => decide (q e)) = (l.take i).filter (fun e => decide (q e)) ++ (if q l[i] then [l[i]] else []) := by
  rw [List.take_succ_eq_append_getElem h, List.filter_append]
  congr 1
  by_cases hq : q l[i]
  · rw [if_pos hq, List.filter_cons_of_pos (by simpa using hq)]; rfl
  · rw [if_neg hq, List.filter_cons_of_neg (by simpa using hq)]; rfl
theorem below_l0 (l : List En) (hl : l.length ≤ 64) (p : ByteArray) (hp : p.size ≤ 9223372036854775806) (hb : ∀ e ∈ l, e.f0.size ≤ 9223372036854775807) : ∀ (n i k : Nat), i + n = l.length → n < k →
    layer_Below.l0 k p ((l.take i).filter fun e => decide (UP p e)) l (l.length : Int) (i : Int) = some (l.filter fun e => decide (UP p e)) := by
  intro n
  induction n with
  | zero =>
    intro i k hn hk
    obtain ⟨k, rfl⟩ := Nat.exists_eq_add_of_le' (show 1 ≤ k by omega)
    rw [layer_Below.l0, if_neg (by omega), List.take_of_length_le (by omega)]
  | succ n ih =>
    intro i k hn hk
    obtain ⟨k, rfl⟩ := Nat.exists_eq_add_of_le' (show 1 ≤ k by omega)
    have hi : i < l.length := by omega
    obtain ⟨t, ht, hu⟩ := under_eq l[i].f0 p (hb _ (List.getElem_mem hi)) hp
    have hlen : ((l.take i).filter fun e => decide (UP p e)).length ≤ i := Nat.le_trans (List.length_filter_le _ _) (by rw [List.length_take]; omega)
    rw [layer_Below.l0, if_pos (by omega), if_pos (by omega), if_pos (by omega), rd_get l i hi, ht, Option.bind_some, wrap_up i (by omega)]
    have nx := ih (i + 1) k (by omega) (by omega)
    rw [filter_snoc' (UP p) l i hi] at nx
    by_cases hU : UP p l[i]
    · rw [if_pos (hu.2 hU), if_pos (Nat.lt_of_le_of_lt hlen (by omega))]
      rw [if_pos hU] at nx
      exact nx
    · rw [if_neg (fun k => hU (hu.1 k))]
      rw [if_neg hU, List.append_nil] at nx
      exact nx
theorem below_eq (l : List En) (hL : LR l) (p : ByteArray) (hp : p.size ≤ 100) (k : Nat) (hk : 200 ≤ k) : layer_Below.f k l p = some (l.filter fun e => decide (UP p e)) := by
  have h64 := hL.2
  unfold layer_Below.f
  rw [lr_eq l hL.1.b k hk, Option.bind_some, decide_eq_true hL, if_pos rfl]
  have := below_l0 l h64 p (by omega) hL.1.b l.length 0 k (by omega) (by omega)
  rwa [List.take_zero, List.filter_nil] at this
/-- What is left. -/
def RP (p : ByteArray) (e : En) : Prop := ¬ UP p e ∧ e.f0 ≠ p
theorem rest_lyr {l : List En} (h : Lyr l) (p : ByteArray) : Lyr (l.filter fun e => decide (RP p e)) := by
  refine ⟨fun e he => h.rt e (List.mem_filter.1 he).1, h.srt.filter _, fun e he => ?_⟩
  obtain ⟨hm, hr⟩ := List.mem_filter.1 he
  have hr : RP p e := by simpa using hr
  rcases h.par e hm with h0 | ⟨x, hx, hk, hh⟩
  · exact .inl h0
  · refine .inr ⟨x, List.mem_filter.2 ⟨hx, ?_⟩, hk, hh⟩
    obtain ⟨L, hn, hL, hke, hpe, hok⟩ := pth_nil (p := e.f0) (h.rt e hm).1
    obtain ⟨M, hnx, hM, hkx, _, hokx⟩ := pth_nil (p := x.f0) (h.rt x hx).1
    have hokd : Okn L.dropLast := by rw [List.dropLast_eq_take]; exact okn_take hok _
    have hML : M = L.dropLast := joinB_inj hokx hokd (by rw [← hkx, ← hpe]; exact hk)
    have hlt : L.dropLast.length < L.length := by rw [List.length_dropLast]; have := List.length_pos_iff.2 hL; omega
    have hpre : L.dropLast <+: L := List.dropLast_prefix L
    rw [decide_eq_true_iff]
    refine ⟨?_, ?_⟩
    · rintro ⟨a, b, ha, hb, h1, h2⟩
      obtain rfl := Option.some.inj (hnx.symm.trans ha)
      subst hML
      exact hr.1 ⟨L, b, hn, hb, h1.trans hpre, by omega⟩
    · intro hxp
      rw [hxp] at hnx
      subst hML
      exact hr.1 ⟨L, L.dropLast, hn, hnx, hpre, hlt⟩
theorem belows_l0 (l : List En) (hL : LR l) (p : ByteArray) : ∀ (n i k : Nat), i + n = l.length → 2 * n + 300 < k →
    shalelaw09_LayerBelows.l0 k l p (l.filter fun e => decide (UP p e)) ((l.take i).filter fun e => decide (RP p e)) ((((l.take i).filter fun e => decide (UP p e)).length : Nat) : Int) (i : Int) = some true := by
  have h64 := hL.2
  intro n
  induction n with
  | zero =>
    intro i k hn hk
    obtain ⟨k, rfl⟩ := Nat.exists_eq_add_of_le' (show 1 ≤ k by omega)
    have hR := rest_lyr hL.1 p
    have hlen : (l.filter fun e => decide (RP p e)).length ≤ l.length := List.length_filter_le _ _
    rw [shalelaw09_LayerBelows.l0, if_neg (by omega), List.take_of_length_le (by omega), if_pos rfl, lr_eq _ hR.b k (by omega), Option.bind_some, decide_eq_true (show LR _ from ⟨hR, by omega⟩)]
  | succ n ih =>
    intro i k hn hk
    obtain ⟨k, rfl⟩ := Nat.exists_eq_add_of_le' (show 2 ≤ k by omega)
    have hi : i < l.length := by omega
    have nx := ih (i + 1) k (by omega) (by omega)
    rw [filter_snoc' (UP p) l i hi, filter_snoc' (RP p) l i hi] at nx
    have hlenU : ((l.take i).filter fun e => decide (UP p e)).length ≤ i := Nat.le_trans (List.length_filter_le _ _) (by rw [List.length_take]; omega)
    have hlenR : ((l.take i).filter fun e => decide (RP p e)).length ≤ i := Nat.le_trans (List.length_filter_le _ _) (by rw [List.length_take]; omega)
    have hsplit : (l.filter fun e => decide (UP p e)) = ((l.take i).filter fun e => decide (UP p e)) ++ ((l.drop i).filter fun e => decide (UP p e)) := by
      rw [← List.filter_append, List.take_append_drop]
    rw [shalelaw09_LayerBelows.l0, if_pos (by omega)]
    by_cases hU : UP p l[i]
    · have hR : ¬ RP p l[i] := fun h => h.1 hU
      rw [if_pos hU, if_neg hR, List.append_nil, List.length_append, List.length_singleton] at nx
      have hdrop : ((l.drop i).filter fun e => decide (UP p e)) = l[i] :: ((l.drop (i + 1)).filter fun e => decide (UP p e)) := by
        rw [List.drop_eq_getElem_cons hi, List.filter_cons_of_pos (by simpa using hU)]
      have hlt : ((l.take i).filter fun e => decide (UP p e)).length < (l.filter fun e => decide (UP p e)).length := by rw [hsplit, List.length_append, hdrop, List.length_cons]; omega
      have hget : (l.filter fun e => decide (UP p e))[((l.take i).filter fun e => decide (UP p e)).length]'hlt = l[i] := by
        have : (l.filter fun e => decide (UP p e))[((l.take i).filter fun e => decide (UP p e)).length]? = some l[i] := by
          rw [hsplit, List.getElem?_append_right (Nat.le_refl _), Nat.sub_self, hdrop]; rfl
        rw [List.getElem?_eq_getElem hlt] at this
        exact Option.some.inj this
      rw [if_pos (Int.ofNat_lt.2 hlt), if_pos (Int.natCast_nonneg _), if_pos (by omega), rd_get _ _ hlt, hget, rd_get l i hi, alike, decide_eq_true rfl, shalelaw09_LayerBelows.j2, if_pos rfl, wrap_up _ (Nat.lt_of_le_of_lt hlenU (by omega)), wrap_up i (by omega)]
      exact nx
    · rw [if_neg hU, List.append_nil] at nx
      have j2f : shalelaw09_LayerBelows.j2 (k + 1) l p (l.filter fun e => decide (UP p e)) ((l.take i).filter fun e => decide (RP p e)) ((((l.take i).filter fun e => decide (UP p e)).length : Nat) : Int) (i : Int) false = some true := by
        rw [shalelaw09_LayerBelows.j2, if_neg (by decide), if_pos (by omega), if_pos (by omega), rd_get l i hi, wrap_up i (by omega)]
        by_cases hp : l[i].f0 = p
        · have hR : ¬ RP p l[i] := fun h => h.2 hp
          rw [if_neg hR, List.append_nil] at nx
          rw [if_pos (by rw [hp])]
          exact nx
        · have hR : RP p l[i] := ⟨hU, hp⟩
          rw [if_pos hR] at nx
          rw [if_neg (fun h => hp (by_ext (by rw [← lst_data, ← lst_data]; exact h))), if_pos (Nat.lt_of_le_of_lt hlenR (by omega))]
          exact nx
      by_cases hlt : ((l.take i).filter fun e => decide (UP p e)).length < (l.filter fun e => decide (UP p e)).length
      · rw [if_pos (Int.ofNat_lt.2 hlt), if_pos (Int.natCast_nonneg _), if_pos (by omega), rd_get _ _ hlt, rd_get l i hi, alike, decide_eq_false (fun h => ?_)]
        · exact j2f
        · have hm := (List.mem_filter.1 (List.getElem_mem hlt)).2
          rw [h] at hm
          exact hU (by simpa using hm)
      · rw [if_neg (fun h => hlt (Int.ofNat_lt.1 h))]
        exact j2f
theorem LayerBelows (l0 : List En) (p : ByteArray) : ∃ k, shalelaw09_LayerBelows.f k l0 p = some true := by
  refine ⟨1000, ?_⟩
  have ja : ∀ k, 100 ≤ k → shalelaw09_LayerBelows.j0 (k + 1) l0 p true = some true := fun k hk => by
    rw [shalelaw09_LayerBelows.j0, if_pos rfl, awake09 k (by omega), Option.bind_some]
  unfold shalelaw09_LayerBelows.f
  rw [awake09 _ (by omega), Option.bind_some, if_pos rfl, size_eq l0 _ (by omega), Option.bind_some]
  by_cases hf : Fit l0
  · rw [if_pos hf, if_neg (by decide), lr_eq l0 hf.b _ (by omega), Option.bind_some]
    by_cases hL : LR l0
    · have h64 := hL.2
      rw [decide_eq_true hL, if_pos rfl]
      by_cases h100 : p.size ≤ 100
      · rw [decide_eq_false (by omega), shalelaw09_LayerBelows.j0, if_neg (by decide), below_eq l0 hL p h100 _ (by omega), Option.bind_some]
        have := belows_l0 l0 hL p l0.length 0 999 (by omega) (by omega)
        rwa [List.take_zero, List.filter_nil, List.filter_nil] at this
      · rw [decide_eq_true (by omega)]; exact ja _ (by omega)
    · rw [decide_eq_false hL, if_neg (by decide)]; exact ja _ (by omega)
  · rw [if_neg hf, if_pos rfl]; exact ja _ (by omega)
end Go.Proofs.YtdmnpofodechpaaGreatDoor.Th
