/- FoldA, FoldB, StackA in plain words: several texts made one (see each part). -/
import Derived.Test.YtdmnpofodechpaaGreatDoorLayC
import Derived.Test.YtdmnpofodechpaaGreatDoorPrintFo
section
namespace Go.Proofs.YtdmnpofodechpaaGreatDoor.Th
open Go Go.RowKit Go.Proofs.YtdmnpofodechpaaGreatDoor.Print Go.Proofs.YtdmnpofodechpaaGreatDoorW.PrintWords
set_option linter.unusedVariables false
set_option linter.unusedSimpArgs false
theorem under_en {x y : ByteArray} (hx : Pth x.data.toList) (hy : Pth y.data.toList) : path_Under.f x y = some (decide (Und x.data.toList y.data.toList)) := by
  obtain ⟨t, ht, hi⟩ := under_eq x y (by have := pth_size hx; omega) (by have := pth_size hy; omega)
  rw [ht]
  refine congrArg some (Bool.eq_iff_iff.2 (hi.trans ?_))
  rw [decide_eq_true_iff]
  obtain ⟨a, ha, _, hja, _, oka⟩ := pth_nil hx
  obtain ⟨b, hb, _, hjb, _, okb⟩ := pth_nil hy
  rw [hja, hjb, prefix_join oka.clean okb.clean]
  constructor
  · rintro ⟨a', b', ha', hb', h1, h2⟩
    obtain rfl := Option.some.inj (ha.symm.trans ha')
    obtain rfl := Option.some.inj (hb.symm.trans hb')
    exact ⟨h1, h2⟩
  · rintro ⟨h1, h2⟩; exact ⟨a, b, ha, hb, h1, h2⟩

theorem putG_eq {l : List En} (hs : Srt l) (x : En) : putG (fun e : En => e.f0) l x = putL l x := by
  obtain ⟨m, hm, hle, hi⟩ := srch hs (pathAt (fun e : En => e.f0) l) (fun i h => by unfold pathAt; rw [List.getElem?_eq_getElem h]; rfl) x.f0
  unfold putG
  rw [hm, putL_eq l hs x]
  have hft : l.filter (fun y => decide (bl (ky y) (ky x))) = l.take m := filter_take _ l m hle fun i h => by rw [decide_eq_true_iff]; exact hi i h
  rw [hft]
  rcases srch_hit hs hi with ⟨_, h1, h2⟩ | ⟨h1, h2⟩
  · have hp : pathAt (fun e : En => e.f0) l m = l[m].f0 := by unfold pathAt; rw [List.getElem?_eq_getElem h1]; rfl
    rw [hp, decide_eq_true h1, decide_eq_true (show Lib.compareBytes l[m].f0.data.toList x.f0.data.toList = 0 from (cb_zero _ _).2 h2), if_pos (by rfl), List.set_eq_take_append_cons_drop, if_pos h1]
    congr 2
    refine (filter_drop _ l (m + 1) h1 fun i h => ?_).symm
    rw [decide_eq_true_iff]
    have hk : ky x = ky l[m] := h2.symm
    constructor
    · intro hmi; rw [hk]; exact hs.get h1 h (by omega)
    · intro hb
      rw [hk] at hb
      by_cases hlt : m < i
      · exact hlt
      · by_cases e : i = m
        · subst e; exact absurd hb (bl_irrefl _)
        · exact absurd hb (bl_asymm (hs.get h h1 (by omega)))
  · have hd : l.filter (fun y => decide (bl (ky x) (ky y))) = l.drop m := filter_drop _ l m hle fun i h => by
      rw [decide_eq_true_iff]
      constructor
      · intro hmi
        rcases bl_tri (ky x) (ky l[i]) with h3 | h3 | h3
        · exact h3
        · exact absurd h3.symm (fnd_none.1 h2 _ (List.getElem_mem h))
        · exact absurd ((hi i h).2 h3) (by omega)
      · intro hb
        by_cases hlt : i < m
        · exact absurd hb (bl_asymm ((hi i h).1 hlt))
        · omega
    rw [hd]
    by_cases h3 : m < l.length
    · have hp : pathAt (fun e : En => e.f0) l m = l[m].f0 := by unfold pathAt; rw [List.getElem?_eq_getElem h3]; rfl
      rw [hp, decide_eq_true h3, decide_eq_false (show ¬ Lib.compareBytes l[m].f0.data.toList x.f0.data.toList = 0 from fun k => h1 ⟨h3, (cb_zero _ _).1 k⟩)]
      rw [if_neg (by decide)]
    · rw [decide_eq_false h3, if_neg (by simp)]
theorem goes_eq {x : En} {a : ByteArray} (hx : Pth (ky x)) (ha : Pth a.data.toList) : goesQ (fun e : En => e.f0) path_Under.f a x = decide (ky x = a.data.toList ∨ Und (ky x) a.data.toList) := by
  unfold goesQ
  rw [lst_eq, under_en hx ha, Option.getD_some, ← Bool.decide_or]
  rfl
theorem filter_goes {t : List En} (ht : ∀ x ∈ t, Pth (ky x)) {a : ByteArray} (ha : Pth a.data.toList) : (t.filter fun x => !goesQ (fun e : En => e.f0) path_Under.f a x) = t.filter fun x => !decide (ky x = a.data.toList ∨ Und (ky x) a.data.toList) :=
  List.filter_congr fun x hx => by rw [goes_eq (ht x hx) ha]
theorem one_eq {t : List En} (ht : Srt t) (hp : ∀ x ∈ t, Pth (ky x)) (e : En) (he : Pth (ky e)) (hl : t.length ≤ 100000) : fold_one.f t e.f0 e.f1 e.f2 = some (oneL t e) := by
  unfold fold_one.f
  rw [if_pos ⟨by omega, List.all_eq_true.2 fun x hx => by rw [under_en (hp x hx) he]; rfl⟩]
  congr 1
  unfold oneG oneL
  have h1 : (t.filter fun x => !hereQ (fun e : En => e.f0) (fun e => e.f1) e.f0 x) = t.filter fun x => !decide (ky x = ky e ∧ x.f1 = 1) := List.filter_congr fun x hx => by
    unfold hereQ; rw [lst_eq]
    congr 1
    exact Bool.eq_iff_iff.2 (by simp [ky])
  by_cases k2 : e.f1 = 2
  · rw [if_pos k2, if_pos k2, h1, putG_eq (ht.filter _)]
    congr 1
    cases e; simp only at k2; rw [k2]
  · rw [if_neg k2, if_neg k2, filter_goes hp he]
    simp only
    by_cases k3 : e.f1 = 3
    · rw [if_pos k3, if_pos k3]; rfl
    · rw [if_neg k3, if_neg k3, putG_eq (ht.filter _)]
      congr 1
      by_cases k4 : e.f1 = 4
      · rw [if_pos k4, if_pos k4]
      · rw [if_neg k4, if_neg k4]
end Go.Proofs.YtdmnpofodechpaaGreatDoor.Th
end
section
namespace Go.Proofs.YtdmnpofodechpaaGreatDoor.Th
open Go Go.RowKit Go.Proofs.YtdmnpofodechpaaGreatDoor.Print Go.Proofs.YtdmnpofodechpaaGreatDoorW.PrintWords
set_option linter.unusedVariables false
set_option linter.unusedSimpArgs false
theorem lk_up (L : List (ByteArray × Bool)) (p q : ByteArray) (v : Bool) : lk (up L p v) q = if p = q then v else lk L q := by
  induction L with
  | nil => simp only [up, lk]
  | cons x r ih =>
    obtain ⟨a, y⟩ := x
    simp only [up]
    by_cases h : a = p
    · rw [if_pos h]; simp only [lk]
      by_cases h2 : p = q
      · rw [if_pos h2, if_pos h2]
      · rw [if_neg h2, if_neg h2, if_neg (by rw [h]; exact h2)]
    · rw [if_neg h]; simp only [lk]
      by_cases h2 : a = q
      · rw [if_pos h2, if_pos h2, if_neg (fun h3 => h (h2.trans h3.symm))]
      · rw [if_neg h2, if_neg h2, ih]
structure Lks (L : List (ByteArray × Bool)) (q : List En) : Prop where
  root : ∀ p : ByteArray, p.data.toList = [47] → lk L p = true
  at_ : ∀ p : ByteArray, p.data.toList ≠ [47] → (lk L p = true ↔ ∃ y ∈ q, ky y = p.data.toList ∧ Hld y)
theorem not_root {p : By} (h : Pth p) : p ≠ [47] := fun e => by
  obtain ⟨l, h1, h2⟩ := h
  rw [e, splitF_root] at h1
  exact h2 (Option.some.inj h1).symm
theorem Lks.step {L : List (ByteArray × Bool)} {q : List En} (h : Lks L q) {x : En} (hx : Nxt q x) (hq : Srt q) : Lks (up L x.f0 (x.f1 == 2 || x.f1 == 4)) (q ++ [x]) := by
  have hn := not_root hx.rt.1
  refine ⟨fun p hp => ?_, fun p hp => ?_⟩
  · rw [lk_up, if_neg (fun e => hn (by unfold ky; rw [e]; exact hp))]; exact h.root p hp
  · rw [lk_up]
    by_cases e : x.f0 = p
    · rw [if_pos e, Hld.beq, decide_eq_true_iff]
      constructor
      · intro hh; exact ⟨x, by simp, by unfold ky; rw [e], hh⟩
      · rintro ⟨y, hy, hk, hh⟩
        rcases List.mem_append.1 hy with hy | hy
        · have := hq.last hx.lt y hy
          rw [hk, ← e] at this
          exact absurd this (bl_irrefl _)
        · rwa [List.mem_singleton.1 hy] at hh
    · rw [if_neg e, h.at_ p hp]
      constructor
      · rintro ⟨y, hy, hk⟩; exact ⟨y, List.mem_append_left _ hy, hk⟩
      · rintro ⟨y, hy, hk, hh⟩
        rcases List.mem_append.1 hy with hy | hy
        · exact ⟨y, hy, hk, hh⟩
        · rw [List.mem_singleton.1 hy] at hk
          exact absurd (by_ext hk) e
abbrev tG := treeG (fun x : En => x.f0) (fun x => x.f1) (fun x => x.f2) entry_Right.f path_Parent.f
theorem dirB_eq {x : En} (h : Rt x) : ∃ d, dirB (fun x : En => x.f0) path_Parent.f x = d ∧ (parB (ky x) = [] ∧ d.data.toList = [47] ∨ parB (ky x) ≠ [] ∧ parB (ky x) ≠ [47] ∧ d.data.toList = parB (ky x)) := by
  obtain ⟨d, c, hd, hh⟩ := dir_of h
  exact ⟨d, by unfold dirB; rw [hd]; rfl, hh⟩
theorem bad_iff {q : List En} {L : List (ByteArray × Bool)} (hL : Lks L q) (x : En) (hb : x.f0.size ≤ 9223372036854775807) :
    badB (fun x : En => x.f0) (fun x => x.f1) (fun x => x.f2) entry_Right.f path_Parent.f q.getLast? L x = false ↔ Nxt q x ∧ x.f1 ≤ 2 := by
  unfold badB okB
  rw [right_en x hb, Option.getD_some]
  by_cases hrt : Rt x
  · rw [decide_eq_true hrt]
    obtain ⟨d, hd, hdd⟩ := dirB_eq hrt
    rw [hd]
    have hl : lk L d = true ↔ parB (ky x) = [] ∨ ∃ y ∈ q, ky y = parB (ky x) ∧ Hld y := by
      rcases hdd with ⟨h0, h1⟩ | ⟨h0, h0', h1⟩
      · simp [hL.root d h1, h0]
      · rw [hL.at_ d (by rw [h1]; exact h0'), h1]; simp [h0]
    cases hg : q.getLast? with
    | none =>
      simp only [Bool.or_eq_false_iff]
      constructor
      · rintro ⟨⟨⟨_, h1⟩, h2⟩, h3⟩
        exact ⟨⟨hrt, (fun y hy => by rw [hg] at hy; cases hy), hl.1 (by simpa using h2)⟩, by simpa using h1⟩
      · rintro ⟨⟨_, h1, h2⟩, h3⟩
        exact ⟨⟨⟨rfl, by simpa using h3⟩, by rw [hl.2 h2]; rfl⟩, trivial⟩
    | some z =>
      simp only [Bool.or_eq_false_iff]
      constructor
      · rintro ⟨⟨⟨_, h1⟩, h2⟩, h3⟩
        exact ⟨⟨hrt, (fun y hy => by rw [hg] at hy; obtain rfl := Option.some.inj hy; simpa [bl, ky] using h3), hl.1 (by simpa using h2)⟩, by simpa using h1⟩
      · rintro ⟨⟨_, h1, h2⟩, h3⟩
        refine ⟨⟨⟨rfl, by simpa using h3⟩, by rw [hl.2 h2]; rfl⟩, ?_⟩
        have := h1 z hg
        unfold bl ky at this
        rw [this]; rfl
  · rw [decide_eq_false hrt]
    constructor
    · intro h; simp at h
    · rintro ⟨k, _⟩; exact absurd k.rt hrt
theorem treeG_iff : ∀ (r q : List En) (L : List (ByteArray × Bool)), Lks L q → Tre q → (∀ e ∈ r, e.f0.size ≤ 9223372036854775807) → (tG q.getLast? L r = true ↔ Tre (q ++ r))
  | [], q, L, _, hq, _ => by unfold tG; rw [treeG, List.append_nil]; simp [hq]
  | x :: r, q, L, hL, hq, hb => by
    unfold tG
    rw [treeG]
    have h1 := bad_iff hL x (hb x (by simp))
    cases hbd : badB (fun x : En => x.f0) (fun x => x.f1) (fun x => x.f2) entry_Right.f path_Parent.f q.getLast? L x with
    | true =>
      rw [if_pos rfl]
      constructor
      · intro h; cases h
      · intro h
        have := h1.2 ⟨h.lyr.nxt, h.kd x (by simp)⟩
        rw [hbd] at this; cases this
    | false =>
      obtain ⟨hn, hk⟩ := h1.1 hbd
      rw [if_neg (by decide)]
      have ht : Tre (q ++ [x]) := ⟨(hq.lyr.snoc x).2 hn, fun e he => by
        rcases List.mem_append.1 he with he | he
        · exact hq.kd e he
        · rw [List.mem_singleton.1 he]; exact hk⟩
      have := treeG_iff r (q ++ [x]) _ (hL.step hn hq.lyr.srt) ht (fun e he => hb e (by simp [he]))
      rw [List.getLast?_concat, List.append_assoc] at this
      exact this
open Classical in
theorem tree_eq (l : List En) (hb : ∀ e ∈ l, e.f0.size ≤ 9223372036854775807) : fold_Tree.f l = some (decide (Tre l ∧ l.length ≤ 1024)) := by
  unfold fold_Tree.f
  rw [if_pos (List.all_eq_true.2 fun x hx => by rw [right_en x (hb x hx), parent_some x (hb x hx)]; rfl)]
  congr 1
  unfold treeF
  by_cases hl : l.length ≤ 1024
  · rw [if_neg (by omega)]
    have h := treeG_iff l [] [(⟨#[47]⟩, true)] ⟨fun p hp => by
      have : (⟨#[47]⟩ : ByteArray) = p := by_ext hp.symm
      rw [lk, if_pos this], fun p hp => by
      have : ¬ (⟨#[47]⟩ : ByteArray) = p := fun e => hp (by rw [← e])
      rw [lk, if_neg this, lk]; simp⟩ Tre.nil hb
    rw [List.nil_append] at h
    refine Bool.eq_iff_iff.2 (h.trans ?_)
    rw [decide_eq_true_iff]
    exact ⟨fun k => ⟨k, hl⟩, fun k => k.1⟩
  · rw [if_pos (by omega), decide_eq_false (fun k => hl k.2)]
end Go.Proofs.YtdmnpofodechpaaGreatDoor.Th
end
section
namespace Go.Proofs.YtdmnpofodechpaaGreatDoor.Th
open Go Go.RowKit Go.Proofs.YtdmnpofodechpaaGreatDoor.Print Go.Proofs.YtdmnpofodechpaaGreatDoorW.PrintWords
set_option linter.unusedVariables false
set_option linter.unusedSimpArgs false
open Classical
def TR (l : List En) : Prop := Tre l ∧ l.length ≤ 1024
theorem tr_eq (l : List En) (hb : ∀ e ∈ l, e.f0.size ≤ 9223372036854775807) : fold_Tree.f l = some (decide (TR l)) :=
  (tree_eq l hb).trans (congrArg some (decide_eq_decide.2 Iff.rfl))
noncomputable def ovX (t l : List En) : List En := if TR t ∧ LR l ∧ (overL t l).length ≤ 1024 then overL t l else []
theorem over_l0 (t l : List En) (ht : TR t) (hl : LR l) : ∀ (n i k : Nat), i + n = l.length → n < k → fold_Over.l0 k (overL t (l.take i)) l (l.length : Int) (i : Int) = some (ovX t l) := by
  obtain ⟨ht1, ht2⟩ := ht
  obtain ⟨hl1, hl2⟩ := hl
  intro n
  induction n with
  | zero =>
    intro i k hn hk
    obtain ⟨k, rfl⟩ := Nat.exists_eq_add_of_le' (show 1 ≤ k by omega)
    have hT := overL_tre ht1 hl1
    rw [fold_Over.l0, if_neg (by omega), List.take_of_length_le (by omega), tr_eq _ hT.lyr.b, Option.bind_some]
    unfold ovX
    by_cases hn : (overL t l).length ≤ 1024
    · rw [decide_eq_true (show TR (overL t l) from ⟨hT, hn⟩), if_pos rfl, if_pos ⟨⟨ht1, ht2⟩, ⟨hl1, hl2⟩, hn⟩]
    · rw [decide_eq_false (show ¬ TR (overL t l) from fun h => hn h.2), if_neg (by decide), if_neg (fun h => hn h.2.2)]
  | succ n ih =>
    intro i k hn hk
    obtain ⟨k, rfl⟩ := Nat.exists_eq_add_of_le' (show 1 ≤ k by omega)
    have hi : i < l.length := by omega
    have hli : Lyr (l.take i) := Lyr.pre (r := l.drop i) (by rwa [List.take_append_drop])
    have hT := overL_tre ht1 hli
    have hlen := overL_len t (l.take i)
    rw [List.length_take] at hlen
    rw [fold_Over.l0, if_pos (by omega), if_pos (by omega), if_pos (by omega), rd_get l i hi, one_eq hT.lyr.srt (fun x hx => (hT.lyr.rt x hx).1) l[i] (hl1.rt _ (List.getElem_mem hi)).1 (by omega), Option.bind_some, wrap_up i (by omega), ← overL_snoc, ← List.take_succ_eq_append_getElem hi]
    exact ih (i + 1) k (by omega) (by omega)
theorem over_eq (t l : List En) (k : Nat) (hk : 300 ≤ k) (ht : ∀ e ∈ t, e.f0.size ≤ 9223372036854775807) (hl : ∀ e ∈ l, e.f0.size ≤ 9223372036854775807) : fold_Over.f k t l = some (ovX t l) := by
  obtain ⟨k, rfl⟩ := Nat.exists_eq_add_of_le' (show 1 ≤ k by omega)
  unfold fold_Over.f
  rw [tr_eq t ht, Option.bind_some]
  by_cases hT : TR t
  · rw [decide_eq_true hT, if_pos rfl, lr_eq l hl (k + 1) (by omega), Option.bind_some]
    by_cases hL : LR l
    · rw [decide_eq_true hL, Bool.not_true, fold_Over.j0, if_neg (by decide)]
      unfold api_Entry_85.f
      have := hT.2
      rw [if_pos (by omega), Option.bind_some]
      have := over_l0 t l hT hL l.length 0 k (by omega) (by have := hL.2; omega)
      rwa [List.take_zero, overL_nil] at this
    · rw [decide_eq_false hL, Bool.not_false, fold_Over.j0, if_pos rfl]
      unfold ovX
      rw [if_neg (fun h => hL h.2.1)]
  · rw [decide_eq_false hT, if_neg (by decide), fold_Over.j0, if_pos rfl]
    unfold ovX
    rw [if_neg (fun h => hT h.1)]
def SR (s : List (List En)) : Prop := s.length ≤ 9 ∧ ∀ l ∈ s, LR l
noncomputable def stX (s : List (List En)) : List En := if SR s then stkL s else []
theorem SR.len {s : List (List En)} (h : ∀ l ∈ s, LR l) : (stkL s).length ≤ s.length * 64 := stkL_len s 64 fun l hl => (h l hl).2
theorem stack_l0 (s : List (List En)) (hs : s.length ≤ 9) (hb : ∀ l ∈ s, ∀ e ∈ l, e.f0.size ≤ 9223372036854775807) : ∀ (n i k : Nat), i + n = s.length → n + 400 < k → (∀ l ∈ s.take i, LR l) → fold_Stack.l0 k (stkL (s.take i)) s (s.length : Int) (i : Int) = some (stX s) := by
  intro n
  induction n with
  | zero =>
    intro i k hn hk hq
    obtain ⟨k, rfl⟩ := Nat.exists_eq_add_of_le' (show 1 ≤ k by omega)
    rw [List.take_of_length_le (by omega)] at hq ⊢
    rw [fold_Stack.l0, if_neg (by omega)]
    unfold stX
    rw [if_pos ⟨hs, hq⟩]
  | succ n ih =>
    intro i k hn hk hq
    obtain ⟨k, rfl⟩ := Nat.exists_eq_add_of_le' (show 1 ≤ k by omega)
    have hi : i < s.length := by omega
    have hm := List.getElem_mem hi
    rw [fold_Stack.l0, if_pos (by omega), if_pos (by omega), if_pos (by omega), rdL_get s i hi, lr_eq _ (hb _ hm) k (by omega), Option.bind_some]
    by_cases hL : LR s[i]
    · have hT := stkL_tre (s := s.take i) fun l hl => (hq l hl).1
      have hlen := SR.len hq
      rw [List.length_take] at hlen
      have hlen2 := overL_len (stkL (s.take i)) s[i]
      have hq2 : ∀ l ∈ s.take (i + 1), LR l := fun l hl => by
        rw [List.take_succ_eq_append_getElem hi] at hl
        rcases List.mem_append.1 hl with hl | hl
        · exact hq l hl
        · rw [List.mem_singleton.1 hl]; exact hL
      rw [decide_eq_true hL, if_pos rfl, over_eq _ _ k (by omega) hT.lyr.b (hb _ hm), Option.bind_some, wrap_up i (by omega)]
      have : ovX (stkL (s.take i)) s[i] = stkL (s.take (i + 1)) := by
        unfold ovX
        have := hL.2
        rw [if_pos ⟨⟨hT, by omega⟩, hL, by omega⟩, List.take_succ_eq_append_getElem hi, stkL_snoc]
      rw [this]
      exact ih (i + 1) k (by omega) (by omega) hq2
    · rw [decide_eq_false hL, if_neg (by decide)]
      unfold stX
      rw [if_neg (fun h => hL (h.2 _ hm))]
theorem stack_eq (s : List (List En)) (hb : ∀ l ∈ s, ∀ e ∈ l, e.f0.size ≤ 9223372036854775807) (k : Nat) (hk : 500 ≤ k) : fold_Stack.f k s = some (stX s) := by
  unfold fold_Stack.f
  by_cases hl : s.length ≤ 9
  · rw [if_neg (by omega)]
    have := stack_l0 s hl hb s.length 0 k (by omega) (by omega) (by rw [List.take_zero]; intro l hl; cases hl)
    rwa [List.take_zero] at this
  · rw [if_pos (by omega)]
    unfold stX
    rw [if_neg (fun h => hl h.1)]
theorem stX_tre (s : List (List En)) : Tre (stX s) ∧ (stX s).length ≤ 576 := by
  unfold stX
  split
  · rename_i h
    have := SR.len h.2
    have h2 := h.1
    exact ⟨stkL_tre fun l hl => (h.2 l hl).1, by omega⟩
  · exact ⟨Tre.nil, by simp⟩
end Go.Proofs.YtdmnpofodechpaaGreatDoor.Th
end
