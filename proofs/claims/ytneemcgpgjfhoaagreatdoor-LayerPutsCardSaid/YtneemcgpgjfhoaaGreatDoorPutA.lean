/- layer.Put and layer.Drop in plain words. -/
import Derived.Test.YtneemcgpgjfhoaaGreatDoorLayC
import Derived.Test.YtneemcgpgjfhoaaGreatDoorThC
import Derived.Test.YtneemcgpgjfhoaaGreatDoorPrintPut
import Derived.Test.YtneemcgpgjfhoaaGreatDoorPrintFi
namespace Go.Proofs.YtneemcgpgjfhoaaGreatDoor.Th
open Go Go.RowKit Go.Proofs.YtneemcgpgjfhoaaGreatDoor.Print Go.Proofs.YtneemcgpgjfhoaaGreatDoorW.PrintWords
set_option linter.unusedVariables false
set_option linter.unusedSimpArgs false
open Classical
/-- A sorted list without what stands at its i-th place. -/
theorem fnd_cut {l : List En} (hs : Srt l) (i : Nat) (hi : i < l.length) (p : By) : fnd (l.take i ++ l.drop (i + 1)) p = if p = ky l[i] then none else fnd l p := by
  have hl : l = l.take i ++ l[i] :: l.drop (i + 1) := by rw [← List.drop_eq_getElem_cons hi, List.take_append_drop]
  have hp := (hl ▸ hs : Srt (l.take i ++ l[i] :: l.drop (i + 1))).parts
  by_cases h : p = ky l[i]
  · rw [if_pos h, fnd_none]
    intro e he hk
    rcases List.mem_append.1 he with he | he
    · exact bl_ne (hp.2.2 e he l[i] (List.mem_cons_self ..)) (hk.trans h)
    · exact bl_ne (hp.2.1.head e he) (h.symm.trans hk.symm)
  · rw [if_neg h, fnd_append]
    conv => rhs; rw [hl, fnd_append, fnd_cons, if_neg (fun k => h k.symm)]
noncomputable def putX (l : List En) (e : En) : List En × List Int :=
  if LR l ∧ Rt e then (if fnd l (ky e) = none ∧ l.length = 64 then ([], [9]) else if LR (putL l e) then (putL l e, []) else ([], [16])) else ([], [1])
noncomputable def cutL (l : List En) (p : By) : List En := l.filter fun x => !decide (ky x = p)
noncomputable def dropX (l : List En) (p : By) : List En × List Int :=
  if LR l then (if fnd l p = none then ([], [3]) else if LR (cutL l p) then (cutL l p, []) else ([], [16])) else ([], [1])
theorem cut_eq {l : List En} (hs : Srt l) (i : Nat) (hi : i < l.length) : l.take i ++ l.drop (i + 1) = cutL l (ky l[i]) := by
  have hs2 : Srt (l.take i ++ l.drop (i + 1)) := by
    refine hs.sub ?_
    conv => rhs; rw [← List.take_append_drop i l]
    exact (List.Sublist.refl _).append (by rw [List.drop_eq_getElem_cons hi]; exact List.sublist_cons_self ..)
  refine Srt.ext hs2 (hs.filter _) fun p => ?_
  rw [fnd_cut hs i hi]
  unfold cutL
  rw [fnd_filter hs]
  by_cases h : p = ky l[i]
  · rw [if_pos h]
    cases hf : fnd l p with
    | none => rfl
    | some x => rw [Option.filter_some, if_neg]; simp; exact (fnd_mem hf).2.trans h
  · rw [if_neg h]
    cases hf : fnd l p with
    | none => rfl
    | some x => rw [Option.filter_some, if_pos]; simp; exact fun k => h ((fnd_mem hf).2.symm.trans k)
theorem at_put {l : List En} (hs : Srt l) (e : En) (hl : l.length ≤ 100000) : ∃ m : Nat, m ≤ l.length ∧ layer_at.f l e.f0 = some ((m : Int), (fnd l (ky e)).isSome) ∧ ((fnd l (ky e)).isSome = true → m < l.length ∧ l.set m e = putL l e) ∧ ((fnd l (ky e)).isSome = false → l.take m ++ e :: l.drop m = putL l e) := by
  obtain ⟨m, hm, hle, hi⟩ := srch hs (fun i => (rd_T31 l (i : Int)).f0) (fun i h => by rw [rd_get l i h]) e.f0
  have hft : l.filter (fun y => decide (bl (ky y) (ky e))) = l.take m := filter_take _ l m hle fun i h => by rw [decide_eq_true_iff]; exact hi i h
  rcases srch_hit hs hi with ⟨_, h1, h2⟩ | ⟨h1, h2⟩
  · have hf : fnd l (ky e) = some l[m] := by rw [show ky e = ky l[m] from h2.symm]; exact hs.at_ (List.getElem_mem h1)
    refine ⟨m, hle, ?_, fun _ => ⟨h1, ?_⟩, (fun k => by rw [hf] at k; cases k)⟩
    · unfold layer_at.f
      rw [if_pos (by omega), hm, rd_get l m h1, decide_eq_true h1, decide_eq_true (show Lib.compareBytes l[m].f0.data.toList e.f0.data.toList = 0 from (cb_zero _ _).2 h2), hf]
      rfl
    · rw [putL_eq l hs e, hft, List.set_eq_take_append_cons_drop, if_pos h1]
      congr 2
      refine (filter_drop _ l (m + 1) h1 fun i h => ?_).symm
      rw [decide_eq_true_iff]
      have hk : ky e = ky l[m] := h2.symm
      constructor
      · intro hmi; rw [hk]; exact hs.get h1 h (by omega)
      · intro hb
        rw [hk] at hb
        by_cases hlt : m < i
        · exact hlt
        · by_cases e : i = m
          · subst e; exact absurd hb (bl_irrefl _)
          · exact absurd hb (bl_asymm (hs.get h h1 (by omega)))
  · have hf : fnd l (ky e) = none := h2
    refine ⟨m, hle, ?_, (fun k => by rw [hf] at k; cases k), fun _ => ?_⟩
    · unfold layer_at.f
      rw [if_pos (by omega), hm, hf]
      by_cases h3 : m < l.length
      · rw [rd_get l m h3, decide_eq_true h3, decide_eq_false (show ¬ Lib.compareBytes l[m].f0.data.toList e.f0.data.toList = 0 from fun k => h1 ⟨h3, (cb_zero _ _).1 k⟩)]; rfl
      · rw [decide_eq_false h3]; rfl
    · have hd : l.filter (fun y => decide (bl (ky e) (ky y))) = l.drop m := filter_drop _ l m hle fun i h => by
        rw [decide_eq_true_iff]
        constructor
        · intro hmi
          rcases bl_tri (ky e) (ky l[i]) with h3 | h3 | h3
          · exact h3
          · exact absurd h3.symm (fnd_none.1 h2 _ (List.getElem_mem h))
          · exact absurd ((hi i h).2 h3) (by omega)
        · intro hb
          by_cases hlt : i < m
          · exact absurd hb (bl_asymm ((hi i h).1 hlt))
          · omega
      rw [putL_eq l hs e, hft, hd]
theorem put_fin (l : List En) (hb : ∀ e ∈ l, e.f0.size ≤ 9223372036854775807) : putFin (layer_Right.f 300) l = some (if LR l then (l, []) else ([], [16])) := by
  unfold putFin
  rw [lr_eq l hb 300 (by omega), Option.bind_some]
  by_cases h : LR l
  · rw [decide_eq_true h, if_pos rfl, if_pos h]
  · rw [decide_eq_false h, if_neg (by decide), if_neg h]
theorem put_eq (l : List En) (hb : ∀ e ∈ l, e.f0.size ≤ 9223372036854775807) (e : En) (he : e.f0.size ≤ 9223372036854775807) : layer_Put.f l e.f0 e.f1 e.f2 = some (putX l e) := by
  unfold layer_Put.f putF putX
  rw [lr_eq l hb 300 (by omega), Option.bind_some]
  by_cases hL : LR l
  · rw [decide_eq_true hL, if_pos rfl, right_en e he, Option.bind_some]
    by_cases hR : Rt e
    · obtain ⟨m, hm, ha, h1, h2⟩ := at_put hL.1.srt e (by have := hL.2; omega)
      have h64 := hL.2
      have hbp : ∀ x ∈ putL l e, x.f0.size ≤ 9223372036854775807 := fun x hx => by
        rcases putL_mem hx with rfl | hx
        · exact he
        · exact hb x hx
      rw [decide_eq_true hR, if_pos rfl, ha, Option.bind_some, if_pos ⟨hL, hR⟩]
      dsimp only
      unfold putIn
      rw [if_pos ⟨by omega, by omega, by omega⟩, Int.toNat_natCast]
      cases hs : (fnd l (ky e)).isSome with
      | true =>
        obtain ⟨h3, h4⟩ := h1 hs
        rw [if_pos rfl, if_pos (by omega), h4, put_fin _ hbp]
        exact congrArg some (if_neg (fun k => by rw [k.1] at hs; cases hs)).symm
      | false =>
        have hn : fnd l (ky e) = none := by cases hq : fnd l (ky e) with
          | none => rfl
          | some x => rw [hq] at hs; cases hs
        rw [if_neg (by decide)]
        by_cases hl : l.length = 64
        · rw [if_pos hl, if_pos ⟨hn, hl⟩]
        · rw [if_neg hl, h2 hs, put_fin _ hbp]
          exact congrArg some (if_neg (fun k => hl k.2)).symm
    · rw [decide_eq_false hR, if_neg (by decide), if_neg (fun k => hR k.2)]
  · rw [decide_eq_false hL, if_neg (by decide), if_neg (fun k => hL k.1)]
def fnR : Option En → ByteArray × Int × ByteArray × Bool
  | none => (noB, 0, noB, false)
  | some e => (e.f0, e.f1, e.f2, true)
theorem find_any (l : List En) (hb : ∀ e ∈ l, e.f0.size ≤ 9223372036854775807) (p : ByteArray) (k : Nat) (hk : 200 ≤ k) : layer_Find.f k l p = some (if LR l then fnR (fnd l p.data.toList) else fnR none) := by
  unfold layer_Find.f
  rw [lr_eq l hb k hk, Option.bind_some]
  by_cases hL : LR l
  · have hl := hL.2
    obtain ⟨m, hm, hx⟩ := at_eq hL.1.srt p (by omega)
    rw [decide_eq_true hL, if_pos rfl, hm, Option.bind_some, if_pos hL]
    dsimp only
    cases hf : fnd l p.data.toList with
    | none => rw [if_neg (by simp)]; rfl
    | some e =>
      obtain ⟨hml, hme⟩ := hx e hf
      rw [if_pos (by rfl), if_pos (by omega), if_pos (by omega), rd_get l m hml, hme]
      rfl
  · rw [decide_eq_false hL, if_neg (by decide), if_neg hL]; rfl
end Go.Proofs.YtneemcgpgjfhoaaGreatDoor.Th
