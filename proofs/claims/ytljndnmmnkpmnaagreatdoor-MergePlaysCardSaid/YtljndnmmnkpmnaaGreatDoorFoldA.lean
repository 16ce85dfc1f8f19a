/- Under and what goes beneath (FoldA's parts that name no fold). -/
import Derived.Test.YtljndnmmnkpmnaaGreatDoorLayC
import Derived.Test.YtljndnmmnkpmnaaGreatDoorPrintMe
namespace Go.Proofs.YtljndnmmnkpmnaaGreatDoor.Th
open Go Go.RowKit Go.Proofs.YtljndnmmnkpmnaaGreatDoor.Print Go.Proofs.YtljndnmmnkpmnaaGreatDoorW.PrintWords
set_option linter.unusedVariables false
set_option linter.unusedSimpArgs false
theorem under_en {x y : ByteArray} (hx : Pth x.data.toList) (hy : Pth y.data.toList) : z34.f x y = some (decide (Und x.data.toList y.data.toList)) := by
 obtain ⟨t, ht, hi⟩ := under_eq x y (by have := pth_size hx; omega) (by have := pth_size hy; omega)
 rw [ht]
 refine congrArg some (Bool.eq_iff_iff.2 (hi.trans ?_))
 rw [decide_eq_true_iff]
 obtain ⟨a, ha, _, hja, _, oka⟩ := pth_nil hx
 obtain ⟨b, hb, _, hjb, _, okb⟩ := pth_nil hy
 rw [hja, hjb, prefix_join oka.clean okb.clean]
 constructor
 ·rintro ⟨a', b', ha', hb', h1, h2⟩
  obtain rfl := Option.some.inj (ha.symm.trans ha')
  obtain rfl := Option.some.inj (hb.symm.trans hb')
  exact ⟨h1, h2⟩
 ·rintro ⟨h1, h2⟩; exact ⟨a, b, ha, hb, h1, h2⟩

theorem goes_eq {x : En} {a : ByteArray} (hx : Pth (ky x)) (ha : Pth a.data.toList) : goesQ (fun e : En => e.f0) z34.f a x = decide (ky x = a.data.toList ∨ Und (ky x) a.data.toList) := by
 unfold goesQ
 rw [lst_eq, under_en hx ha, Option.getD_some, ← Bool.decide_or]
 rfl
theorem filter_goes {t : List En} (ht : ∀ x ∈ t, Pth (ky x)) {a : ByteArray} (ha : Pth a.data.toList) : (t.filter fun x => !goesQ (fun e : En => e.f0) z34.f a x) = t.filter fun x => !decide (ky x = a.data.toList ∨ Und (ky x) a.data.toList) :=
 List.filter_congr fun x hx => by rw [goes_eq (ht x hx) ha]
end Go.Proofs.YtljndnmmnkpmnaaGreatDoor.Th
