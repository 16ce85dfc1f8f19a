/- The reference's layer over a tree, in plain words: one entry laid over. -/
import Derived.Test.YthfbcclbappbcaaGreatDoorLayC
import Derived.Test.YthfbcclbappbcaaGreatDoorExt
namespace Go.Proofs.YthfbcclbappbcaaGreatDoor.Th
open Go Go.RowKit Go.Proofs.YthfbcclbappbcaaGreatDoor.Print Go.Proofs.YthfbcclbappbcaaGreatDoorW.PrintWords
set_option linter.unusedVariables false
set_option linter.unusedSimpArgs false
open Classical
/-- In order, right, of a tree's kinds. -/
structure Qt (t : List En) : Prop where
 srt : Srt t
 rt : ∀ x ∈ t, Rt x ∧ x.f1 ≤ 2
theorem Qt.one {t : List En} (h : Qt t) {e : En} (he : Rt e) : Qt (oneL t e) := by
 refine ⟨oneL_srt h.srt e, ?_⟩
 unfold oneL
 split
 ·intro x hx
  rcases putL_mem hx with rfl | hx
  ·exact ⟨he, by omega⟩
  ·exact h.rt x (List.mem_filter.1 hx).1
 ·simp only
  split
  ·intro x hx; exact h.rt x (List.mem_filter.1 hx).1
  ·intro x hx
   rcases putL_mem hx with rfl | hx
   ·split
    ·exact ⟨he.turn (by omega) (.inl rfl), by simp⟩
    ·exact ⟨he, by have := he.kind; omega⟩
   ·exact h.rt x (List.mem_filter.1 hx).1
theorem Tre.qt {t : List En} (h : Tre t) : Qt t := ⟨h.lyr.srt, fun x hx => ⟨h.lyr.rt x hx, h.kd x hx⟩⟩
theorem rhere_eq (x : En) (a : ByteArray) : rhere (fun e : En => e.f0) a x = decide (ky x = a.data.toList) := by
 unfold rhere ky
 rw [Lib.toList_data, Lib.toList_data]
 exact Bool.eq_iff_iff.2 (by rw [beq_iff_eq, decide_eq_true_iff])
theorem en_same {x e : En} (hx : Rt x) (he : Rt e) (hk : ky x = ky e) (h1 : x.f1 = 2) (h2 : e.f1 = 2) : x = e := by
 refine en_ext hk (h1.trans h2.symm) ?_
 unfold da
 rw [hx.noda (by omega), he.noda (by omega)]
theorem rone_eq (UF : ByteArray → ByteArray → Option Bool) (WF : List En → ByteArray → Int → ByteArray → Option (List En)) {t : List En} (hQ : Qt t) (hlen : t.length ≤ 2000) {e : En} (he : Rt e)
  (hU : ∀ x ∈ t, UF x.f0 e.f0 = some (decide (Und (ky x) (ky e)))) (hW : ∀ (l : List En) (x : En), Qt l → Rt x → l.length ≤ 2000 → WF l x.f0 x.f1 x.f2 = some (putL l x)) :
  rone (fun e : En => e.f0) (fun e => e.f1) UF WF t e.f0 e.f1 e.f2 = some (oneL t e) := by
 have hQf : ∀ q : En → Bool, Qt (t.filter q) := fun q => ⟨hQ.srt.filter q, fun x hx => hQ.rt x (List.mem_filter.1 hx).1⟩
 have hlf : ∀ q : En → Bool, (t.filter q).length ≤ 2000 := fun q => Nat.le_trans (List.length_filter_le _ _) hlen
 unfold rone
 rw [if_pos ⟨by omega, List.all_eq_true.2 fun x hx => by rw [hU x hx]; rfl⟩]
 unfold oneL
 by_cases h2 : e.f1 = 2
 ·have hf : t.filter (rstay (fun e : En => e.f0) (fun e => e.f1) UF e.f1 e.f0) = t.filter fun x => !decide (ky x = ky e ∧ x.f1 = 1) := by
   refine List.filter_congr fun x hx => ?_
   unfold rstay
   rw [if_pos h2, rhere_eq]
   have hk := hQ.rt x hx
   have hk1 := hk.1.kind
   have hk2 := hk.2
   by_cases hq : ky x = ky e
   ·by_cases h1 : x.f1 = 1
    ·have : x.f1 ≠ 2 := by omega
     simp [hq, h1, show e.f0.data.toList = ky e from rfl]
    ·have : x.f1 = 2 := by omega
     simp [hq, this]
   ·simp [hq, show e.f0.data.toList = ky e from rfl]
  rw [if_pos h2, if_neg (by omega), hf]
  by_cases hd : t.any (rdir (fun e : En => e.f0) (fun e => e.f1) e.f0) = false
  ·rw [if_pos (.inr ⟨h2, hd⟩)]
   have hee : e = ⟨e.f0, 2, ⟨#[]⟩⟩ := by
    have hn := he.noda (by omega)
    cases e with
    | mk a b d => dsimp only at h2 hn; rw [h2, hn]; rfl
   have := hW _ e (hQf fun x => !decide (ky x = ky e ∧ x.f1 = 1)) he (hlf _)
   have hn : e.f2 = ⟨#[]⟩ := he.noda (by omega)
   rw [h2, hn] at this
   exact this
  ·rw [if_neg (by rintro (h | h); omega; exact hd h.2)]
   obtain ⟨x, hx, hxd⟩ := List.any_eq_true.1 (by simpa using hd)
   unfold rdir at hxd
   rw [rhere_eq] at hxd
   simp only [Bool.and_eq_true, decide_eq_true_eq, beq_iff_eq] at hxd
   have hxe : x = e := en_same (hQ.rt x hx).1 he hxd.1 hxd.2 h2
   subst hxe
   refine congrArg some (Srt.ext (hQ.srt.filter _) ((hQ.srt.filter _).put _) fun p => ?_)
   rw [fnd_putL _ (hQ.srt.filter _)]
   split
   ·rename_i hp
    rw [hp]
    exact (hQ.srt.filter _).at_ (List.mem_filter.2 ⟨hx, by simp; omega⟩)
   ·rfl
 ·have hf : t.filter (rstay (fun e : En => e.f0) (fun e => e.f1) UF e.f1 e.f0) = t.filter fun x => !decide (ky x = ky e ∨ Und (ky x) (ky e)) := by
   refine List.filter_congr fun x hx => ?_
   unfold rstay
   rw [if_neg h2, rhere_eq, hU x hx, Option.getD_some]
   by_cases hq : ky x = ky e
   ·simp [hq, show e.f0.data.toList = ky e from rfl]
   ·by_cases hu : Und (ky x) (ky e)
    ·simp [hq, hu, show e.f0.data.toList = ky e from rfl]
    ·simp [hq, hu, show e.f0.data.toList = ky e from rfl]
  rw [if_neg h2, hf]
  simp only
  have hkd := he.kind
  by_cases h1 : e.f1 = 1
  ·rw [if_pos h1, if_neg (by omega), if_neg (by omega)]
   have := hW _ e (hQf fun x => !decide (ky x = ky e ∨ Und (ky x) (ky e))) he (hlf _)
   rw [h1] at this
   exact this
  ·rw [if_neg h1]
   by_cases h4 : e.f1 = 4
   ·rw [if_pos (.inl h4), if_neg (by omega), if_pos h4]
    have hn : e.f2 = ⟨#[]⟩ := he.noda (by omega)
    have := hW _ ⟨e.f0, 2, e.f2⟩ (hQf fun x => !decide (ky x = ky e ∨ Und (ky x) (ky e))) (he.turn (by omega) (.inl rfl)) (hlf _)
    dsimp only at this
    rw [hn] at this ⊢
    exact this
   ·rw [if_neg (by rintro (h | h); exact h4 h; exact h2 h.1), if_pos (by omega)]
theorem roneL_eq (UF : ByteArray → ByteArray → Option Bool) (WF : List En → ByteArray → Int → ByteArray → Option (List En))
  (hU : ∀ x e : En, Rt x → Rt e → UF x.f0 e.f0 = some (decide (Und (ky x) (ky e)))) (hW : ∀ (l : List En) (x : En), Qt l → Rt x → l.length ≤ 2000 → WF l x.f0 x.f1 x.f2 = some (putL l x)) :
  ∀ (l t : List En), Qt t → (∀ e ∈ l, Rt e) → t.length + l.length ≤ 2000 → roneL (fun e : En => e.f0) (fun e => e.f1) (fun e => e.f2) UF WF t l = some (overL t l)
 | [], t, _, _, _ => rfl
 | e :: l, t, hQ, hl, hn => by
  rw [List.length_cons] at hn
  have he := hl e (by simp)
  rw [roneL, rone_eq UF WF hQ (by omega) he (fun x hx => hU x e (hQ.rt x hx).1 he) hW, Option.bind_some]
  have := oneL_len t e
  exact roneL_eq UF WF hU hW l (oneL t e) (hQ.one he) (fun x hx => hl x (by simp [hx])) (by omega)
end Go.Proofs.YthfbcclbappbcaaGreatDoor.Th
