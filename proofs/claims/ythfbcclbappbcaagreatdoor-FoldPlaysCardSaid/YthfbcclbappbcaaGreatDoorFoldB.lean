/- Trees as the printed functions tell them. -/
import Derived.Test.YthfbcclbappbcaaGreatDoorLayC
import Derived.Test.YthfbcclbappbcaaGreatDoorFoldA
namespace Go.Proofs.YthfbcclbappbcaaGreatDoor.Th
open Go Go.RowKit Go.Proofs.YthfbcclbappbcaaGreatDoor.Print Go.Proofs.YthfbcclbappbcaaGreatDoorW.PrintWords
set_option linter.unusedVariables false
set_option linter.unusedSimpArgs false
theorem lk_up (L : List (ByteArray × Bool)) (p q : ByteArray) (v : Bool) : lk (up L p v) q = if p = q then v else lk L q := by
 induction L with
 | nil => simp only [up, lk]
 | cons x r ih =>
  obtain ⟨a, y⟩ := x
  simp only [up]
  by_cases h : a = p
  ·rw [if_pos h]; simp only [lk]
   by_cases h2 : p = q
   ·rw [if_pos h2, if_pos h2]
   ·rw [if_neg h2, if_neg h2, if_neg (by rw [h]; exact h2)]
  ·rw [if_neg h]; simp only [lk]
   by_cases h2 : a = q
   ·rw [if_pos h2, if_pos h2, if_neg (fun h3 => h (h2.trans h3.symm))]
   ·rw [if_neg h2, if_neg h2, ih]
structure Lks (L : List (ByteArray × Bool)) (q : List En) : Prop where
 root : ∀ p : ByteArray, p.data.toList = [47] → lk L p = true
 at_ : ∀ p : ByteArray, p.data.toList ≠ [47] → (lk L p = true ↔ ∃ y ∈ q, ky y = p.data.toList ∧ Hld y)
theorem not_root {p : By} (h : Pth p) : p ≠ [47] := fun e => by
 obtain ⟨l, h1, h2⟩ := h
 rw [e, splitF_root] at h1
 exact h2 (Option.some.inj h1).symm
theorem Lks.step {L : List (ByteArray × Bool)} {q : List En} (h : Lks L q) {x : En} (hx : Nxt q x) (hq : Srt q) : Lks (up L x.f0 (x.f1 == 2 || x.f1 == 4)) (q ++ [x]) := by
 have hn := not_root hx.rt.1
 refine ⟨fun p hp => ?_, fun p hp => ?_⟩
 ·rw [lk_up, if_neg (fun e => hn (by unfold ky; rw [e]; exact hp))]; exact h.root p hp
 ·rw [lk_up]
  by_cases e : x.f0 = p
  ·rw [if_pos e, Hld.beq, decide_eq_true_iff]
   constructor
   ·intro hh; exact ⟨x, by simp, by unfold ky; rw [e], hh⟩
   ·rintro ⟨y, hy, hk, hh⟩
    rcases List.mem_append.1 hy with hy | hy
    ·have := hq.last hx.lt y hy
     rw [hk, ← e] at this
     exact absurd this (bl_irrefl _)
    ·rwa [List.mem_singleton.1 hy] at hh
  ·rw [if_neg e, h.at_ p hp]
   constructor
   ·rintro ⟨y, hy, hk⟩; exact ⟨y, List.mem_append_left _ hy, hk⟩
   ·rintro ⟨y, hy, hk, hh⟩
    rcases List.mem_append.1 hy with hy | hy
    ·exact ⟨y, hy, hk, hh⟩
    ·rw [List.mem_singleton.1 hy] at hk
     exact absurd (by_ext hk) e
abbrev tG := treeG (fun x : En => x.f0) (fun x => x.f1) (fun x => x.f2) z33.f z32.f
theorem dirB_eq {x : En} (h : Rt x) : ∃ d, dirB (fun x : En => x.f0) z32.f x = d ∧ (parB (ky x) = [] ∧ d.data.toList = [47] ∨ parB (ky x) ≠ [] ∧ parB (ky x) ≠ [47] ∧ d.data.toList = parB (ky x)) := by
 obtain ⟨d, c, hd, hh⟩ := dir_of h
 exact ⟨d, by unfold dirB; rw [hd]; rfl, hh⟩
theorem bad_iff {q : List En} {L : List (ByteArray × Bool)} (hL : Lks L q) (x : En) (hb : x.f0.size ≤ 9223372036854775807) :
  badB (fun x : En => x.f0) (fun x => x.f1) (fun x => x.f2) z33.f z32.f q.getLast? L x = false ↔ Nxt q x ∧ x.f1 ≤ 2 := by
 unfold badB okB
 rw [right_en x hb, Option.getD_some]
 by_cases hrt : Rt x
 ·rw [decide_eq_true hrt]
  obtain ⟨d, hd, hdd⟩ := dirB_eq hrt
  rw [hd]
  have hl : lk L d = true ↔ parB (ky x) = [] ∨ ∃ y ∈ q, ky y = parB (ky x) ∧ Hld y := by
   rcases hdd with ⟨h0, h1⟩ | ⟨h0, h0', h1⟩
   ·simp [hL.root d h1, h0]
   ·rw [hL.at_ d (by rw [h1]; exact h0'), h1]; simp [h0]
  cases hg : q.getLast? with
  | none =>
   simp only [Bool.or_eq_false_iff]
   constructor
   ·rintro ⟨⟨⟨_, h1⟩, h2⟩, h3⟩
    exact ⟨⟨hrt, (fun y hy => by rw [hg] at hy; cases hy), hl.1 (by simpa using h2)⟩, by simpa using h1⟩
   ·rintro ⟨⟨_, h1, h2⟩, h3⟩
    exact ⟨⟨⟨rfl, by simpa using h3⟩, by rw [hl.2 h2]; rfl⟩, trivial⟩
  | some z =>
   simp only [Bool.or_eq_false_iff]
   constructor
   ·rintro ⟨⟨⟨_, h1⟩, h2⟩, h3⟩
    exact ⟨⟨hrt, (fun y hy => by rw [hg] at hy; obtain rfl := Option.some.inj hy; simpa [bl, ky] using h3), hl.1 (by simpa using h2)⟩, by simpa using h1⟩
   ·rintro ⟨⟨_, h1, h2⟩, h3⟩
    refine ⟨⟨⟨rfl, by simpa using h3⟩, by rw [hl.2 h2]; rfl⟩, ?_⟩
    have := h1 z hg
    unfold bl ky at this
    rw [this]; rfl
 ·rw [decide_eq_false hrt]
  constructor
  ·intro h; simp at h
  ·rintro ⟨k, _⟩; exact absurd k.rt hrt
theorem treeG_iff : ∀ (r q : List En) (L : List (ByteArray × Bool)), Lks L q → Tre q → (∀ e ∈ r, e.f0.size ≤ 9223372036854775807) → (tG q.getLast? L r = true ↔ Tre (q ++ r))
 | [], q, L, _, hq, _ => by unfold tG; rw [treeG, List.append_nil]; simp [hq]
 | x :: r, q, L, hL, hq, hb => by
  unfold tG
  rw [treeG]
  have h1 := bad_iff hL x (hb x (by simp))
  cases hbd : badB (fun x : En => x.f0) (fun x => x.f1) (fun x => x.f2) z33.f z32.f q.getLast? L x with
  | true =>
   rw [if_pos rfl]
   constructor
   ·intro h; cases h
   ·intro h
    have := h1.2 ⟨h.lyr.nxt, h.kd x (by simp)⟩
    rw [hbd] at this; cases this
  | false =>
   obtain ⟨hn, hk⟩ := h1.1 hbd
   rw [if_neg (by decide)]
   have ht : Tre (q ++ [x]) := ⟨(hq.lyr.snoc x).2 hn, fun e he => by
    rcases List.mem_append.1 he with he | he
    ·exact hq.kd e he
    ·rw [List.mem_singleton.1 he]; exact hk⟩
   have := treeG_iff r (q ++ [x]) _ (hL.step hn hq.lyr.srt) ht (fun e he => hb e (by simp [he]))
   rw [List.getLast?_concat, List.append_assoc] at this
   exact this
open Classical in
theorem tree_eq (l : List En) (hb : ∀ e ∈ l, e.f0.size ≤ 9223372036854775807) : z45.f l = some (decide (Tre l ∧ l.length ≤ 1024)) := by
 unfold z45.f
 rw [if_pos (List.all_eq_true.2 fun x hx => by rw [right_en x (hb x hx), parent_some x (hb x hx)]; rfl)]
 congr 1
 unfold treeF
 by_cases hl : l.length ≤ 1024
 ·rw [if_neg (by omega)]
  have h := treeG_iff l [] [(⟨#[47]⟩, true)] ⟨fun p hp => by
   have : (⟨#[47]⟩ : ByteArray) = p := by_ext hp.symm
   rw [lk, if_pos this], fun p hp => by
   have : ¬ (⟨#[47]⟩ : ByteArray) = p := fun e => hp (by rw [← e])
   rw [lk, if_neg this, lk]; simp⟩ Tre.nil hb
  rw [List.nil_append] at h
  refine Bool.eq_iff_iff.2 (h.trans ?_)
  rw [decide_eq_true_iff]
  exact ⟨fun k => ⟨k, hl⟩, fun k => k.1⟩
 ·rw [if_pos (by omega), decide_eq_false (fun k => hl k.2)]
end Go.Proofs.YthfbcclbappbcaaGreatDoor.Th
