/- LayerPuts: the law's function answers true. -/
import Derived.Test.YtneemcgpgjfhoaaGreatDoorPutA
import Derived.Test.YtneemcgpgjfhoaaGreatDoorPrintLay
import Derived.Test.YtneemcgpgjfhoaaGreatDoorPrintDr
import Derived.Test.YtneemcgpgjfhoaaGreatDoorPrintLayerPuts
namespace Go.Proofs.YtneemcgpgjfhoaaGreatDoor.Th
open Go Go.RowKit Go.Proofs.YtneemcgpgjfhoaaGreatDoor.Print Go.Proofs.YtneemcgpgjfhoaaGreatDoorW.PrintWords
set_option linter.unusedVariables false
set_option linter.unusedSimpArgs false
open Classical
theorem awake09_0 : shalelaw09_awake.f 60 = some true := by kernel_rfl
theorem awake09 (k : Nat) (hk : 60 ≤ k) : shalelaw09_awake.f k = some true := mono_le (fun k => shalelaw09_awake.mono k) hk awake09_0
theorem code_nil9 : fail_Code.f [] = some 0 := rfl
theorem code_one9 (c : Int) : fail_Code.f [c] = some c := rfl
theorem cutL_b {l : List En} (hb : ∀ e ∈ l, e.f0.size ≤ 9223372036854775807) (p : By) : ∀ e ∈ cutL l p, e.f0.size ≤ 9223372036854775807 := fun e he => hb e (List.mem_filter.1 he).1
theorem drop_eq (l : List En) (hb : ∀ e ∈ l, e.f0.size ≤ 9223372036854775807) (hl : l.length ≤ 1000) (p : ByteArray) (k : Nat) (hk : 200 ≤ k) : layer_Drop.f k l p = some (dropX l p.data.toList) := by
  unfold layer_Drop.f dropX
  rw [lr_eq l hb k hk, Option.bind_some]
  by_cases hL : LR l
  · obtain ⟨m, hm, hx⟩ := at_eq hL.1.srt p (by omega)
    rw [decide_eq_true hL, if_pos rfl, hm, Option.bind_some, if_pos hL]
    dsimp only
    cases hf : fnd l p.data.toList with
    | none => rw [if_neg (by simp), if_pos rfl]; rfl
    | some e =>
      obtain ⟨hml, hme⟩ := hx e hf
      have hk1 : ky l[m] = p.data.toList := by rw [hme]; exact (fnd_mem hf).2
      have hcut := cut_eq hL.1.srt m hml
      rw [hk1] at hcut
      rw [if_pos (by rfl), if_neg (by simp)]
      unfold api_Entry_20.f
      rw [if_pos (by omega), Option.bind_some]
      unfold api_Entry_23.f
      rw [wrap_up m (by omega), if_pos ⟨by omega, by omega, by omega⟩, Option.bind_some, Int.toNat_natCast, Int.toNat_natCast, hcut, lr_eq _ (cutL_b hb _) k hk, Option.bind_some]
      by_cases hC : LR (cutL l p.data.toList)
      · rw [decide_eq_true hC, if_pos rfl, if_pos hC]
      · rw [decide_eq_false hC, if_neg (by decide), if_neg hC]; rfl
  · rw [decide_eq_false hL, if_neg (by decide), if_neg hL]; rfl
theorem cut_len {l : List En} (hs : Srt l) {p : By} {e : En} (hf : fnd l p = some e) : (cutL l p).length + 1 = l.length := by
  obtain ⟨he, hk⟩ := fnd_mem hf
  obtain ⟨m, hm, rfl⟩ := List.getElem_of_mem he
  rw [← hk, ← cut_eq hs m hm, List.length_append, List.length_take, List.length_drop]
  omega
theorem puts_j1 (l : List En) (hf : Fit l) (p : ByteArray) (k : Nat) (hk : 300 ≤ k) : shalelaw09_LayerPuts.j1 (k + 1) l p = some true := by
  have h70 := hf.1
  have hD : ∀ e ∈ (dropX l p.data.toList).1, e.f0.size ≤ 9223372036854775807 := by
    unfold dropX
    split
    · split
      · intro e he; cases he
      · split
        · exact cutL_b hf.b _
        · intro e he; cases he
    · intro e he; cases he
  rw [shalelaw09_LayerPuts.j1, drop_eq l hf.b (by omega) p k (by omega), Option.bind_some, find_any l hf.b p k (by omega), Option.bind_some, find_any _ hD p k (by omega), Option.bind_some]
  by_cases hL : LR l
  · cases hq : fnd l p.data.toList with
    | none =>
      have hd : dropX l p.data.toList = ([], [3]) := by unfold dropX; rw [if_pos hL, if_pos hq]
      rw [hd]; dsimp only
      rw [code_one9, Option.bind_some, if_neg (by decide), if_pos (by rfl)]
    | some e =>
      by_cases hC : LR (cutL l p.data.toList)
      · have hd : dropX l p.data.toList = (cutL l p.data.toList, []) := by unfold dropX; rw [if_pos hL, if_neg (by rw [hq]; simp), if_pos hC]
        have hlen := cut_len hL.1.srt hq
        have hno : fnd (cutL l p.data.toList) p.data.toList = none := by
          rw [fnd_none]; intro x hx
          have := (List.mem_filter.1 hx).2
          simpa using this
        have hw : wrap64 ((l.length : Int) - 1) = ((cutL l p.data.toList).length : Int) := by unfold wrap64; omega
        rw [hd]; dsimp only
        rw [code_nil9, Option.bind_some, if_pos rfl, if_pos hL, if_pos hC, hno, show fnR (some e) = (e.f0, e.f1, e.f2, true) from rfl, show fnR none = (noB, 0, noB, false) from rfl]
        dsimp only
        rw [if_pos rfl, if_neg (by decide), lr_eq _ (cutL_b hf.b _) k (by omega), Option.bind_some, decide_eq_true hC, if_pos rfl, hw]
        simp
      · have hd : dropX l p.data.toList = ([], [16]) := by unfold dropX; rw [if_pos hL, if_neg (by rw [hq]; simp), if_neg hC]
        rw [hd]; dsimp only
        rw [code_one9, Option.bind_some, if_neg (by decide), if_pos (by rfl)]
  · have hd : dropX l p.data.toList = ([], [1]) := by unfold dropX; rw [if_neg hL]
    rw [hd]; dsimp only
    rw [code_one9, Option.bind_some, if_neg (by decide), if_pos (by rfl)]
theorem differ9 (a b : En) : (!((a.f0.toList) == (b.f0.toList)) || (!((a.f1) == (b.f1)) || (!((a.f2.toList) == (b.f2.toList))))) = false ↔ a = b := by
  rw [lst_eq, lst_eq]
  constructor
  · intro h
    simp only [Bool.or_eq_false_iff, Bool.not_eq_false', decide_eq_true_eq, beq_iff_eq] at h
    exact en_ext h.1 h.2.1 h.2.2
  · rintro rfl; simp
theorem LayerPuts (l0 : List En) (a1_0 : ByteArray) (a1_1 : Int) (a1_2 : ByteArray) (a2 : ByteArray) : ∃ k, shalelaw09_LayerPuts.f k l0 a1_0 a1_1 a1_2 a2 = some true := by
  obtain ⟨K, hK⟩ : ∃ K, 5000 ≤ K := ⟨5000, Nat.le_refl _⟩
  refine ⟨K + 1 + 1, ?_⟩
  have ja : shalelaw09_LayerPuts.j0 (K + 1 + 1) l0 a2 true a1_0 a1_1 a1_2 = some true := by
    rw [shalelaw09_LayerPuts.j0, if_pos rfl, awake09 _ (by omega), Option.bind_some]
  unfold shalelaw09_LayerPuts.f
  rw [awake09 _ (by omega), Option.bind_some, if_pos rfl, size_eq l0 _ (by omega), Option.bind_some]
  by_cases hf : Fit l0
  · rw [if_pos hf, if_neg (by decide)]
    by_cases h100 : a1_0.size ≤ 100
    · rw [if_neg (by omega)]
      by_cases h600 : a1_2.size ≤ 600
      · rw [if_neg (by omega)]
        by_cases hp : a2.size ≤ 100
        · have j1 := puts_j1 l0 hf a2 K (by omega)
          rw [decide_eq_false (by omega), shalelaw09_LayerPuts.j0, if_neg (by decide)]
          obtain ⟨e, he⟩ : ∃ e : En, e = ⟨a1_0, a1_1, a1_2⟩ := ⟨_, rfl⟩
          have e0 : a1_0 = e.f0 := by rw [he]
          have e1 : a1_1 = e.f1 := by rw [he]
          have e2 : a1_2 = e.f2 := by rw [he]
          rw [e0] at h100
          rw [e0, e1, e2, put_eq l0 hf.b e (by omega), Option.bind_some]
          have bad : ∀ c : Int, c ≠ 0 → putX l0 e = ([], [c]) → ((fail_Code.f (putX l0 e).2).bind fun t268 => (if t268 = 0 then ((layer_Find.f (K + 1) (putX l0 e).1 e.f0).bind fun bt269 => ((layer_Find.f (K + 1) (putX l0 e).1 a2).bind fun bt274 => ((layer_Find.f (K + 1) l0 a2).bind fun bt279 => (if bt269.2.2.2 = true then (if (!(bt269.1.toList == e.f0.toList) || (!(bt269.2.1 == e.f1) || (!(bt269.2.2.1.toList == e.f2.toList)))) = true then (some false) else ((layer_Right.f (K + 1) (putX l0 e).1).bind fun t284 => (if t284 = true then (if a2.toList = e.f0.toList then (shalelaw09_LayerPuts.j1 (K + 1) l0 a2) else (if (bt274.2.2.2 != bt279.2.2.2) = true then (some false) else (if (!(bt274.1.toList == bt279.1.toList) || (!(bt274.2.1 == bt279.2.1) || (!(bt274.2.2.1.toList == bt279.2.2.1.toList)))) = true then (some false) else (shalelaw09_LayerPuts.j1 (K + 1) l0 a2)))) else (some false)))) else (some false))))) else (if ((putX l0 e).1.length : Int) = 0 then (shalelaw09_LayerPuts.j1 (K + 1) l0 a2) else (some false)))) = some true := fun c hc hx => by
            rw [hx]; dsimp only
            rw [code_one9, Option.bind_some, if_neg hc, if_pos (by rfl)]
            exact j1
          by_cases hLR : LR l0 ∧ Rt e
          · by_cases h64 : fnd l0 (ky e) = none ∧ l0.length = 64
            · exact bad 9 (by decide) (by unfold putX; rw [if_pos hLR, if_pos h64])
            · by_cases hP : LR (putL l0 e)
              · have hx : putX l0 e = (putL l0 e, []) := by unfold putX; rw [if_pos hLR, if_neg h64, if_pos hP]
                have hs := hLR.1.1.srt
                have f1 : fnd (putL l0 e) e.f0.data.toList = some e := by rw [fnd_putL l0 hs]; exact if_pos rfl
                rw [hx]; dsimp only
                rw [code_nil9, Option.bind_some, if_pos rfl, find_any _ hP.1.b e.f0 _ (by omega), if_pos hP, f1, Option.bind_some, find_any _ hP.1.b a2 _ (by omega), if_pos hP, Option.bind_some, find_any l0 hf.b a2 _ (by omega), if_pos hLR.1, Option.bind_some, show fnR (some e) = (e.f0, e.f1, e.f2, true) from rfl]
                dsimp only
                rw [if_pos rfl, (differ9 e e).2 rfl, if_neg (by decide), lr_eq _ hP.1.b _ (by omega), Option.bind_some, decide_eq_true hP, if_pos rfl]
                by_cases hpe : a2.toList = e.f0.toList
                · rw [if_pos hpe]; exact j1
                · have f2 : fnd (putL l0 e) a2.data.toList = fnd l0 a2.data.toList := by
                    rw [fnd_putL l0 hs]
                    exact if_neg fun h => hpe (by rw [lst_data, lst_data]; exact h)
                  rw [if_neg hpe, f2, if_neg (by simp), if_neg (by simp)]; exact j1
              · exact bad 16 (by decide) (by unfold putX; rw [if_pos hLR, if_neg h64, if_neg hP])
          · exact bad 1 (by decide) (by unfold putX; rw [if_neg hLR])
        · rw [decide_eq_true (by omega)]; exact ja
      · rw [if_pos (by omega)]; exact ja
    · rw [if_pos (by omega)]; exact ja
  · rw [if_neg hf, if_pos rfl]; exact ja
end Go.Proofs.YtneemcgpgjfhoaaGreatDoor.Th
