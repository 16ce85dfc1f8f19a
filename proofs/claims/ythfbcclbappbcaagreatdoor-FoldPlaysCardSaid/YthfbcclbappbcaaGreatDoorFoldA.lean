/- Under, put, one: what the printed functions answer, in plain words. -/
import Derived.Test.YthfbcclbappbcaaGreatDoorLayC
import Derived.Test.YthfbcclbappbcaaGreatDoorPrintFo
namespace Go.Proofs.YthfbcclbappbcaaGreatDoor.Th
open Go Go.RowKit Go.Proofs.YthfbcclbappbcaaGreatDoor.Print Go.Proofs.YthfbcclbappbcaaGreatDoorW.PrintWords
set_option linter.unusedVariables false
set_option linter.unusedSimpArgs false
theorem under_en {x y : ByteArray} (hx : Pth x.data.toList) (hy : Pth y.data.toList) : z35.f x y = some (decide (Und x.data.toList y.data.toList)) := by
 obtain ⟨t, ht, hi⟩ := under_eq x y (by have := pth_size hx; omega) (by have := pth_size hy; omega)
 rw [ht]
 refine congrArg some (Bool.eq_iff_iff.2 (hi.trans ?_))
 rw [decide_eq_true_iff]
 obtain ⟨a, ha, _, hja, _, oka⟩ := pth_nil hx
 obtain ⟨b, hb, _, hjb, _, okb⟩ := pth_nil hy
 rw [hja, hjb, prefix_join oka.clean okb.clean]
 constructor
 ·rintro ⟨a', b', ha', hb', h1, h2⟩
  obtain rfl := Option.some.inj (ha.symm.trans ha')
  obtain rfl := Option.some.inj (hb.symm.trans hb')
  exact ⟨h1, h2⟩
 ·rintro ⟨h1, h2⟩; exact ⟨a, b, ha, hb, h1, h2⟩

theorem putG_eq {l : List En} (hs : Srt l) (x : En) : putG (fun e : En => e.f0) l x = putL l x := by
 obtain ⟨m, hm, hle, hi⟩ := srch hs (pathAt (fun e : En => e.f0) l) (fun i h => by unfold pathAt; rw [List.getElem?_eq_getElem h]; rfl) x.f0
 unfold putG
 rw [hm, putL_eq l hs x]
 have hft : l.filter (fun y => decide (bl (ky y) (ky x))) = l.take m := filter_take _ l m hle fun i h => by rw [decide_eq_true_iff]; exact hi i h
 rw [hft]
 rcases srch_hit hs hi with ⟨_, h1, h2⟩ | ⟨h1, h2⟩
 ·have hp : pathAt (fun e : En => e.f0) l m = l[m].f0 := by unfold pathAt; rw [List.getElem?_eq_getElem h1]; rfl
  rw [hp, decide_eq_true h1, decide_eq_true (show Lib.compareBytes l[m].f0.data.toList x.f0.data.toList = 0 from (cb_zero _ _).2 h2), if_pos (by rfl), List.set_eq_take_append_cons_drop, if_pos h1]
  congr 2
  refine (filter_drop _ l (m + 1) h1 fun i h => ?_).symm
  rw [decide_eq_true_iff]
  have hk : ky x = ky l[m] := h2.symm
  constructor
  ·intro hmi; rw [hk]; exact hs.get h1 h (by omega)
  ·intro hb
   rw [hk] at hb
   by_cases hlt : m < i
   ·exact hlt
   ·by_cases e : i = m
    ·subst e; exact absurd hb (bl_irrefl _)
    ·exact absurd hb (bl_asymm (hs.get h h1 (by omega)))
 ·have hd : l.filter (fun y => decide (bl (ky x) (ky y))) = l.drop m := filter_drop _ l m hle fun i h => by
   rw [decide_eq_true_iff]
   constructor
   ·intro hmi
    rcases bl_tri (ky x) (ky l[i]) with h3 | h3 | h3
    ·exact h3
    ·exact absurd h3.symm (fnd_none.1 h2 _ (List.getElem_mem h))
    ·exact absurd ((hi i h).2 h3) (by omega)
   ·intro hb
    by_cases hlt : i < m
    ·exact absurd hb (bl_asymm ((hi i h).1 hlt))
    ·omega
  rw [hd]
  by_cases h3 : m < l.length
  ·have hp : pathAt (fun e : En => e.f0) l m = l[m].f0 := by unfold pathAt; rw [List.getElem?_eq_getElem h3]; rfl
   rw [hp, decide_eq_true h3, decide_eq_false (show ¬ Lib.compareBytes l[m].f0.data.toList x.f0.data.toList = 0 from fun k => h1 ⟨h3, (cb_zero _ _).1 k⟩)]
   rw [if_neg (by decide)]
  ·rw [decide_eq_false h3, if_neg (by simp)]
theorem goes_eq {x : En} {a : ByteArray} (hx : Pth (ky x)) (ha : Pth a.data.toList) : goesQ (fun e : En => e.f0) z35.f a x = decide (ky x = a.data.toList ∨ Und (ky x) a.data.toList) := by
 unfold goesQ
 rw [lst_eq, under_en hx ha, Option.getD_some, ← Bool.decide_or]
 rfl
theorem filter_goes {t : List En} (ht : ∀ x ∈ t, Pth (ky x)) {a : ByteArray} (ha : Pth a.data.toList) : (t.filter fun x => !goesQ (fun e : En => e.f0) z35.f a x) = t.filter fun x => !decide (ky x = a.data.toList ∨ Und (ky x) a.data.toList) :=
 List.filter_congr fun x hx => by rw [goes_eq (ht x hx) ha]
theorem one_eq {t : List En} (ht : Srt t) (hp : ∀ x ∈ t, Pth (ky x)) (e : En) (he : Pth (ky e)) (hl : t.length ≤ 100000) : z48.f t e.f0 e.f1 e.f2 = some (oneL t e) := by
 unfold z48.f
 rw [if_pos ⟨by omega, List.all_eq_true.2 fun x hx => by rw [under_en (hp x hx) he]; rfl⟩]
 congr 1
 unfold oneG oneL
 have h1 : (t.filter fun x => !hereQ (fun e : En => e.f0) (fun e => e.f1) e.f0 x) = t.filter fun x => !decide (ky x = ky e ∧ x.f1 = 1) := List.filter_congr fun x hx => by
  unfold hereQ; rw [lst_eq]
  congr 1
  exact Bool.eq_iff_iff.2 (by simp [ky])
 by_cases k2 : e.f1 = 2
 ·rw [if_pos k2, if_pos k2, h1, putG_eq (ht.filter _)]
  congr 1
  cases e; simp only at k2; rw [k2]
 ·rw [if_neg k2, if_neg k2, filter_goes hp he]
  simp only
  by_cases k3 : e.f1 = 3
  ·rw [if_pos k3, if_pos k3]; rfl
  ·rw [if_neg k3, if_neg k3, putG_eq (ht.filter _)]
   congr 1
   by_cases k4 : e.f1 = 4
   ·rw [if_pos k4, if_pos k4]
   ·rw [if_neg k4, if_neg k4]
end Go.Proofs.YthfbcclbappbcaaGreatDoor.Th
