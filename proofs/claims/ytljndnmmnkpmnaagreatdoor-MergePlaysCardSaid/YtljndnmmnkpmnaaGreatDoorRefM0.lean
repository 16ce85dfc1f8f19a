/- The document's two layers made one, in plain words: as Two's steps go, and what they come to. -/
import Derived.Test.YtljndnmmnkpmnaaGreatDoorThC
namespace Go.Proofs.YtljndnmmnkpmnaaGreatDoor.Th
open Go Go.Proofs.YtljndnmmnkpmnaaGreatDoor.Print
set_option linter.unusedVariables false
set_option linter.unusedSimpArgs false
open Classical
def hidB (high : List En) (x : En) : Prop := ∃ h ∈ high, h.f1 ≠ 2 ∧ (ky h = ky x ∨ Und (ky x) (ky h))
def keepP (high : List En) (x : En) : Prop := ¬ hidB high x ∧ (fnd high (ky x) = none ∨ x.f1 = 2 ∨ x.f1 = 4)
noncomputable def lowL (low high : List En) : List En := low.filter fun x => decide (keepP high x)
def overP (pre : List En) (e : En) : Prop := ∃ h ∈ pre, h.f1 ≠ 2 ∧ Und (ky e) (ky h)
noncomputable def hiS (low out pre : List En) (e : En) : List En :=
 if (fnd out (ky e)).isSome = true then out else putL out (if e.f1 = 2 ∧ (fnd low (ky e)).isSome = true ∧ ¬ overP pre e then ⟨e.f0, 4, e.f2⟩ else e)
noncomputable def hiL (low : List En) : List En → List En → List En → List En
 | out, _, [] => out
 | out, pre, e :: r => hiL low (hiS low out pre e) (pre ++ [e]) r
noncomputable def rtwo (low high : List En) : List En := hiL low (lowL low high) [] high
noncomputable def hiE (low high : List En) (e : En) : En := if e.f1 = 2 ∧ (fnd low (ky e)).isSome = true ∧ ¬ Hid high (ky e) then ⟨e.f0, 4, e.f2⟩ else e
theorem hiS_srt {low out pre : List En} (h : Srt out) (e : En) : Srt (hiS low out pre e) := by
 unfold hiS
 split
 ·exact h
 ·exact h.put _
theorem hiL_srt (low : List En) : ∀ (rest out pre : List En), Srt out → Srt (hiL low out pre rest)
 | [], out, pre, h => h
 | e :: r, out, pre, h => hiL_srt low r _ _ (hiS_srt h e)
theorem over_iff {high pre r : List En} {e : En} (hs : Srt high) (he : high = pre ++ e :: r) : overP pre e ↔ Hid high (ky e) := by
 constructor
 ·rintro ⟨h, hh, h2, hu⟩
  exact ⟨h, by rw [he]; exact List.mem_append.2 (.inl hh), h2, hu⟩
 ·rintro ⟨h, hh, h2, hu⟩
  rw [he] at hh hs
  rcases List.mem_append.1 hh with hh | hh
  ·exact ⟨h, hh, h2, hu⟩
  ·rcases List.mem_cons.1 hh with rfl | hh
   ·exact absurd hu (Und.irrefl _)
   ·exact absurd hu.bl (bl_asymm (hs.parts.2.1.head h hh))
theorem hiE_ky (low high : List En) (e : En) : ky (hiE low high e) = ky e := by unfold hiE; split <;> rfl
theorem fnd_hiS {low high out pre r : List En} {e : En} (hs : Srt high) (he : high = pre ++ e :: r) (ho : Srt out) (p : By) : fnd (hiS low out pre e) p = if p = ky e then (match fnd out p with | some x => some x | none => some (hiE low high e)) else fnd out p := by
 have hE : (if e.f1 = 2 ∧ (fnd low (ky e)).isSome = true ∧ ¬ overP pre e then (⟨e.f0, 4, e.f2⟩ : En) else e) = hiE low high e := by
  unfold hiE; simp only [over_iff hs he]
 unfold hiS
 rw [hE]
 by_cases hp : p = ky e
 ·rw [if_pos hp]
  subst hp
  cases hf : fnd out (ky e) with
  | some x => rw [if_pos (by rfl)]; exact hf
  | none => rw [if_neg (by simp), fnd_putL _ ho, if_pos (hiE_ky ..).symm]
 ·rw [if_neg hp]
  split
  ·rfl
  ·rw [fnd_putL _ ho, if_neg (by rw [hiE_ky]; exact hp)]
theorem fnd_hiL {low high : List En} (hs : Srt high) (p : By) : ∀ (rest out pre : List En), high = pre ++ rest → Srt out →
  fnd (hiL low out pre rest) p = match fnd rest p with | some e => (match fnd out p with | some x => some x | none => some (hiE low high e)) | none => fnd out p
 | [], out, pre, _, _ => by rw [hiL, fnd_nil]
 | e :: r, out, pre, he, ho => by
  rw [hiL, fnd_hiL hs p r _ _ (by rw [he]; simp) (hiS_srt ho e), fnd_cons, fnd_hiS hs he ho]
  by_cases hp : p = ky e
  ·have hr : fnd r p = none := by
    rw [he] at hs
    exact fnd_none.2 fun x hx hk => bl_ne (hs.parts.2.1.head x hx) (hp.symm.trans hk.symm)
   rw [hr, if_pos hp.symm, if_pos hp]
  ·rw [if_neg hp, if_neg (fun k => hp k.symm)]
theorem rtwo_eq {low high : List En} (h1 : Lyr low) (h2 : Lyr high) : rtwo low high = twoL low high := by
 refine Srt.ext (hiL_srt low high _ [] (h1.srt.filter _)) (twoL_srt h1.srt high) fun p => ?_
 rw [fnd_twoL h1.srt high h2.srt]
 unfold rtwo
 rw [fnd_hiL h2.srt p high (lowL low high) [] rfl (h1.srt.filter _)]
 unfold lowL
 rw [fnd_filter h1.srt]
 unfold mrg
 have gone : (∃ h ∈ high, h.f1 ≠ 2 ∧ (ky h = p ∨ Und p (ky h))) → ((fnd low p).filter fun x => decide (keepP high x)) = none := fun hh => by
  cases hl : fnd low p with
  | none => rfl
  | some x =>
   rw [Option.filter_some, if_neg]
   rw [decide_eq_true_iff]
   rintro ⟨k, _⟩
   obtain ⟨h, hm, hn, hu⟩ := hh
   exact k ⟨h, hm, hn, by rw [fnd_ky hl]; exact hu⟩
 cases hq : fnd high p with
 | some e =>
  obtain ⟨hm, hk⟩ := fnd_mem hq
  simp only
  by_cases he2 : e.f1 = 2
  ·rw [if_pos he2]
   by_cases hH : Hid high p
   ·rw [gone (by obtain ⟨h, a, b, c⟩ := hH; exact ⟨h, a, b, .inr c⟩), if_pos hH]
    simp only
    unfold hiE
    rw [if_neg (fun k => k.2.2 (by rw [hk]; exact hH))]; rfl
   ·rw [if_neg hH]
    cases hl : fnd low p with
    | none =>
     simp only [Option.filter_none]
     unfold hiE
     rw [if_neg (fun k => by rw [hk, hl] at k; cases k.2.1)]; rfl
    | some x =>
     have hkx := fnd_ky hl
     by_cases hx : Hld x
     ·have hkp : keepP high x := ⟨by
       rintro ⟨h, hh, hn2, hs | hu⟩
       ·have : h = e := h2.srt.uniq hh hm (hs.trans (hkx.trans hk.symm))
        rw [this] at hn2; exact hn2 he2
       ·exact hH ⟨h, hh, hn2, by rw [← hkx]; exact hu⟩, .inr hx⟩
      rw [Option.filter_some, if_pos (decide_eq_true hkp)]
      simp only [dirOver, if_pos hx]
     ·rw [Option.filter_some, if_neg]
      ·simp only [dirOver, if_neg hx]
       unfold hiE
       rw [if_pos ⟨he2, by rw [hk, hl]; rfl, by rw [hk]; exact hH⟩, (h2.rt e hm).noda (by omega)]
      ·rw [decide_eq_true_iff]
       rintro ⟨_, k | k⟩
       ·rw [hkx, hq] at k; cases k
       ·exact hx k
  ·rw [if_neg he2, gone ⟨e, hm, he2, .inl hk⟩]
   simp only
   unfold hiE
   rw [if_neg (fun k => he2 k.1)]
 | none =>
  simp only
  by_cases hH : Hid high p
  ·rw [gone (by obtain ⟨h, a, b, c⟩ := hH; exact ⟨h, a, b, .inr c⟩), if_pos hH]
  ·rw [if_neg hH]
   cases hl : fnd low p with
   | none => rfl
   | some x =>
    have hkx := fnd_ky hl
    have hkp : keepP high x := ⟨by
     rintro ⟨h, hh, hn2, hs | hu⟩
     ·exact fnd_none.1 hq h hh (hs.trans hkx)
     ·exact hH ⟨h, hh, hn2, by rw [← hkx]; exact hu⟩, .inl (by rw [hkx]; exact hq)⟩
    rw [Option.filter_some, if_pos (decide_eq_true hkp)]
end Go.Proofs.YtljndnmmnkpmnaaGreatDoor.Th
