/- Trees and layers as the printed functions tell them; over, stack. -/
import Derived.Test.YtklcceccadlgkaaDoorFoldA
namespace Go.Proofs.YtklcceccadlgkaaDoor.Th
open Go Go.RowKit Go.Proofs.YtklcceccadlgkaaDoor.Print Go.Proofs.YtklcceccadlgkaaDoorW.PrintWords
set_option linter.unusedVariables false
set_option linter.unusedSimpArgs false

/-! ### the next entry of a layer -/
structure Nxt (q : List En) (x : En) : Prop where
  rt : Rt x
  lt : ∀ y, q.getLast? = some y → bl (ky y) (ky x)
  par : parB (ky x) = [] ∨ ∃ y ∈ q, ky y = parB (ky x) ∧ Hld y
theorem Srt.last {q : List En} (h : Srt q) {x : En} (hl : ∀ y, q.getLast? = some y → bl (ky y) (ky x)) : ∀ y ∈ q, bl (ky y) (ky x) := by
  intro y hy
  rcases List.eq_nil_or_concat q with rfl | ⟨r, z, rfl⟩
  · cases hy
  · rw [List.concat_eq_append] at *
    have hz := hl z (by simp)
    rcases List.mem_append.1 hy with h1 | h1
    · exact bl_trans (h.parts.2.2 y h1 z (by simp)) hz
    · rw [List.mem_singleton.1 h1]; exact hz
theorem Lyr.pre {q r : List En} (h : Lyr (q ++ r)) : Lyr q := by
  obtain ⟨h1, h2, h3⟩ := h
  have hp := h2.parts
  refine ⟨fun e he => h1 e (List.mem_append_left _ he), hp.1, fun e he => ?_⟩
  rcases h3 e (List.mem_append_left _ he) with h0 | ⟨x, hx, hk, hh⟩
  · exact .inl h0
  · rcases List.mem_append.1 hx with hx | hx
    · exact .inr ⟨x, hx, hk, hh⟩
    · have h4 := hp.2.2 e he x hx
      have h5 := (h1 e (List.mem_append_left _ he)).1.und.bl
      rw [hk] at h4
      exact absurd h5 (bl_asymm h4)
theorem Lyr.snoc {q : List En} (h : Lyr q) (x : En) : Lyr (q ++ [x]) ↔ Nxt q x := by
  constructor
  · intro k
    have hp := k.srt.parts
    refine ⟨k.rt x (by simp), fun y hy => hp.2.2 y (List.mem_of_getLast? hy) x (by simp), ?_⟩
    rcases k.par x (by simp) with h0 | ⟨y, hy, hk, hh⟩
    · exact .inl h0
    · rcases List.mem_append.1 hy with hy | hy
      · exact .inr ⟨y, hy, hk, hh⟩
      · rw [List.mem_singleton.1 hy] at hk
        have := (k.rt x (by simp)).1.und.len
        rw [← hk] at this
        omega
  · intro k
    refine ⟨fun e he => ?_, h.srt.append (List.pairwise_singleton _ _) (fun y hy z hz => by rw [List.mem_singleton.1 hz]; exact h.srt.last k.lt y hy), fun e he => ?_⟩
    · rcases List.mem_append.1 he with he | he
      · exact h.rt e he
      · rw [List.mem_singleton.1 he]; exact k.rt
    · rcases List.mem_append.1 he with he | he
      · rcases h.par e he with h0 | ⟨y, hy, hh⟩
        · exact .inl h0
        · exact .inr ⟨y, List.mem_append_left _ hy, hh⟩
      · rw [List.mem_singleton.1 he]
        rcases k.par with h0 | ⟨y, hy, hh⟩
        · exact .inl h0
        · exact .inr ⟨y, List.mem_append_left _ hy, hh⟩
theorem Lyr.nxt {q r : List En} {x : En} (h : Lyr (q ++ x :: r)) : Nxt q x := by
  have h1 : Lyr (q ++ [x]) := Lyr.pre (r := r) (by simpa using h)
  exact (h1.pre.snoc x).1 h1
theorem Tre.pre {q r : List En} (h : Tre (q ++ r)) : Tre q := ⟨h.lyr.pre, fun e he => h.kd e (List.mem_append_left _ he)⟩
theorem Hld.beq {x : En} : (x.f1 == 2 || x.f1 == 4) = decide (Hld x) := by
  refine Bool.eq_iff_iff.2 (Iff.trans ?_ (decide_eq_true_iff (p := Hld x)).symm)
  show _ ↔ x.f1 = 2 ∨ x.f1 = 4
  simp
theorem less_en (a b : En) : entry_Less.f a.f0 a.f1 a.f2 b.f0 b.f1 b.f2 = some (decide (bl (ky a) (ky b))) := by
  unfold entry_Less.f; rw [lst_data, lst_data]
  exact congrArg some (Bool.eq_iff_iff.2 (by rw [decide_eq_true_iff]; rfl))
theorem holds_en (a : En) : entry_Holds.f a.f0 a.f1 a.f2 = some (decide (Hld a)) := by
  unfold entry_Holds.f Hld
  by_cases h : a.f1 = 2
  · rw [if_pos h]; exact congrArg some (decide_eq_true (.inl h)).symm
  · rw [if_neg h]; exact congrArg some (Bool.eq_iff_iff.2 (by simp [h]))
/-! ### layer.Right -/
theorem take_last (l : List En) (i : Nat) (h : i < l.length) (h0 : 0 < i) : (l.take i).getLast? = some (l[i - 1]) := by
  rw [List.getLast?_take, if_neg (by omega), List.getElem?_eq_getElem (by omega)]; rfl
theorem nxt_iff (l : List En) (i : Nat) (h : i < l.length) (hq : Lyr (l.take i)) : Lyr (l.take (i + 1)) ↔ Nxt (l.take i) l[i] := by
  rw [List.take_succ_eq_append_getElem h]; exact hq.snoc _
theorem lyr_not {l : List En} {n : Nat} (h : ¬ Lyr (l.take n)) : ¬ Lyr l := fun k => h (Lyr.pre (r := l.drop n) (by rwa [List.take_append_drop]))
theorem right_l0 (l : List En) (hb : ∀ e ∈ l, e.f0.size ≤ 9223372036854775807) (hl : l.length ≤ 64) : ∀ (n i k : Nat), i + n = l.length → 2 * n + 2 ≤ k → Lyr (l.take i) →
    ∀ r, (layer_Right.l0 k l l (l.length : Int) (i : Int) = some r ↔ some r = some true ∧ Lyr l ∨ some r = some false ∧ ¬ Lyr l) := by
  intro n
  induction n with
  | zero =>
    intro i k hn hk hq r
    obtain ⟨k, rfl⟩ := Nat.exists_eq_add_of_le' (show 1 ≤ k by omega)
    rw [layer_Right.l0, if_neg (by omega)]
    have : l.take i = l := List.take_of_length_le (by omega)
    rw [this] at hq
    cases r <;> simp [hq]
  | succ n ih =>
    intro i k hn hk hq r
    obtain ⟨k, rfl⟩ := Nat.exists_eq_add_of_le' (show 2 ≤ k by omega)
    have hi : i < l.length := by omega
    rw [layer_Right.l0, if_pos (by omega), if_pos (by omega), if_pos (by omega), rd_get l i hi, right_en _ (hb _ (List.getElem_mem hi)), Option.bind_some]
    have key := nxt_iff l i hi hq
    have no : ¬ Nxt (l.take i) l[i] → (some false = some r ↔ some r = some true ∧ Lyr l ∨ some r = some false ∧ ¬ Lyr l) := fun hnx => by
      have := lyr_not (fun h => hnx (key.1 h))
      cases r <;> simp [this]
    have jt : ∀ a b c, layer_Right.j1 (k + 1) l (i : Int) l (l.length : Int) (i : Int) true a b c = some false := fun a b c => by rw [layer_Right.j1, if_pos rfl]
    have jf : Rt l[i] → (∀ y, (l.take i).getLast? = some y → bl (ky y) (ky l[i])) → (layer_Right.j1 (k + 1) l (i : Int) l (l.length : Int) (i : Int) false l[i].f0 l[i].f1 l[i].f2 = some r ↔ some r = some true ∧ Lyr l ∨ some r = some false ∧ ¬ Lyr l) := by
      intro hrt hlt
      obtain ⟨d, c, hd, hdd⟩ := dir_of hrt
      rw [layer_Right.j1, if_neg (by decide), hd, Option.bind_some, if_pos (by omega), if_pos (by omega), Int.toNat_natCast]
      obtain ⟨m, hm, hx⟩ := at_eq hq.srt d (by rw [List.length_take]; omega)
      rw [hm, Option.bind_some]
      dsimp only
      rw [lst_data d]
      have goon : Nxt (l.take i) l[i] → (layer_Right.l0 k l l (l.length : Int) (wrap64 ((i : Int) + 1)) = some r ↔ some r = some true ∧ Lyr l ∨ some r = some false ∧ ¬ Lyr l) := fun hnx => by
        rw [wrap_up i (by omega)]
        exact ih (i + 1) k (by omega) (by omega) (key.2 hnx) r
      rcases hdd with ⟨h0, h1⟩ | ⟨h0, h0', h1⟩
      · rw [if_pos h1]
        exact goon ⟨hrt, hlt, .inl h0⟩
      · rw [if_neg (by rw [h1]; exact h0')]
        rw [h1] at hx ⊢
        cases hf : fnd (l.take i) (parB (ky l[i])) with
        | none =>
          rw [if_neg (by simp)]
          refine no fun k => ?_
          rcases k.par with h2 | ⟨y, hy, hk, _⟩
          · exact h0 h2
          · exact fnd_none.1 hf y hy hk
        | some y =>
          obtain ⟨hmi, hmy⟩ := hx y hf
          rw [List.length_take] at hmi
          rw [List.getElem_take] at hmy
          rw [if_pos (by rfl), if_pos (by omega), if_pos (by omega), rd_get l m (by omega), hmy, holds_en, Option.bind_some]
          by_cases hh : Hld y
          · rw [decide_eq_true hh, if_pos rfl]
            exact goon ⟨hrt, hlt, .inr ⟨y, (fnd_mem hf).1, (fnd_mem hf).2, hh⟩⟩
          · rw [decide_eq_false hh, if_neg (by decide)]
            refine no fun k => ?_
            rcases k.par with h2 | ⟨z, hz, hk, hhz⟩
            · exact h0 h2
            · have := hq.srt.at_ hz
              rw [hk, hf] at this
              exact hh (Option.some.inj this ▸ hhz)
    by_cases hrt : Rt l[i]
    · rw [decide_eq_true hrt, if_pos rfl]
      by_cases hi0 : 0 < i
      · rw [if_pos (by omega)]
        have hw : wrap64 ((i : Int) - 1) = ((i - 1 : Nat) : Int) := by unfold wrap64; omega
        rw [hw, if_pos (by omega), if_pos (by omega), rd_get l (i - 1) (by omega), less_en, Option.bind_some]
        by_cases hlt : bl (ky l[i - 1]) (ky l[i])
        · rw [decide_eq_true hlt]
          refine jf hrt fun y hy => ?_
          rw [take_last l i hi hi0] at hy
          exact Option.some.inj hy ▸ hlt
        · rw [decide_eq_false hlt, Bool.not_false, jt]
          exact no fun k => hlt (k.lt _ (take_last l i hi hi0))
      · rw [if_neg (by omega)]
        refine jf hrt fun y hy => ?_
        rw [show i = 0 by omega] at hy
        simp at hy
    · rw [decide_eq_false hrt, if_neg (by decide), jt]
      exact no fun k => hrt k.rt
open Classical in
theorem layer_right (l : List En) (hb : ∀ e ∈ l, e.f0.size ≤ 9223372036854775807) (k : Nat) (hk : 200 ≤ k) : layer_Right.f k l = some (decide (Lyr l ∧ l.length ≤ 64)) := by
  unfold layer_Right.f
  by_cases hl : l.length ≤ 64
  · rw [if_neg (by omega)]
    have h := right_l0 l hb hl l.length 0 k (by omega) (by omega) (by rw [List.take_zero]; exact Lyr.nil)
    by_cases hL : Lyr l
    · rw [decide_eq_true ⟨hL, hl⟩]; exact (h true).2 (.inl ⟨rfl, hL⟩)
    · rw [decide_eq_false (fun k => hL k.1)]; exact (h false).2 (.inr ⟨rfl, hL⟩)
  · rw [if_pos (by omega), decide_eq_false (fun k => hl k.2)]
/-! ### fold.Tree -/
theorem lk_up (L : List (ByteArray × Bool)) (p q : ByteArray) (v : Bool) : lk (up L p v) q = if p = q then v else lk L q := by
  induction L with
  | nil => simp only [up, lk]
  | cons x r ih =>
    obtain ⟨a, y⟩ := x
    simp only [up]
    by_cases h : a = p
    · rw [if_pos h]; simp only [lk]
      by_cases h2 : p = q
      · rw [if_pos h2, if_pos h2]
      · rw [if_neg h2, if_neg h2, if_neg (by rw [h]; exact h2)]
    · rw [if_neg h]; simp only [lk]
      by_cases h2 : a = q
      · rw [if_pos h2, if_pos h2, if_neg (fun h3 => h (h2.trans h3.symm))]
      · rw [if_neg h2, if_neg h2, ih]
structure Lks (L : List (ByteArray × Bool)) (q : List En) : Prop where
  root : ∀ p : ByteArray, p.data.toList = [47] → lk L p = true
  at_ : ∀ p : ByteArray, p.data.toList ≠ [47] → (lk L p = true ↔ ∃ y ∈ q, ky y = p.data.toList ∧ Hld y)
theorem not_root {p : By} (h : Pth p) : p ≠ [47] := fun e => by
  obtain ⟨l, h1, h2⟩ := h
  rw [e, splitF_root] at h1
  exact h2 (Option.some.inj h1).symm
theorem Lks.step {L : List (ByteArray × Bool)} {q : List En} (h : Lks L q) {x : En} (hx : Nxt q x) (hq : Srt q) : Lks (up L x.f0 (x.f1 == 2 || x.f1 == 4)) (q ++ [x]) := by
  have hn := not_root hx.rt.1
  refine ⟨fun p hp => ?_, fun p hp => ?_⟩
  · rw [lk_up, if_neg (fun e => hn (by unfold ky; rw [e]; exact hp))]; exact h.root p hp
  · rw [lk_up]
    by_cases e : x.f0 = p
    · rw [if_pos e, Hld.beq, decide_eq_true_iff]
      constructor
      · intro hh; exact ⟨x, by simp, by unfold ky; rw [e], hh⟩
      · rintro ⟨y, hy, hk, hh⟩
        rcases List.mem_append.1 hy with hy | hy
        · have := hq.last hx.lt y hy
          rw [hk, ← e] at this
          exact absurd this (bl_irrefl _)
        · rwa [List.mem_singleton.1 hy] at hh
    · rw [if_neg e, h.at_ p hp]
      constructor
      · rintro ⟨y, hy, hk⟩; exact ⟨y, List.mem_append_left _ hy, hk⟩
      · rintro ⟨y, hy, hk, hh⟩
        rcases List.mem_append.1 hy with hy | hy
        · exact ⟨y, hy, hk, hh⟩
        · rw [List.mem_singleton.1 hy] at hk
          exact absurd (by_ext hk) e
abbrev tG := treeG (fun x : En => x.f0) (fun x => x.f1) (fun x => x.f2) entry_Right.f path_Parent.f
theorem dirB_eq {x : En} (h : Rt x) : ∃ d, dirB (fun x : En => x.f0) path_Parent.f x = d ∧ (parB (ky x) = [] ∧ d.data.toList = [47] ∨ parB (ky x) ≠ [] ∧ parB (ky x) ≠ [47] ∧ d.data.toList = parB (ky x)) := by
  obtain ⟨d, c, hd, hh⟩ := dir_of h
  exact ⟨d, by unfold dirB; rw [hd]; rfl, hh⟩
theorem bad_iff {q : List En} {L : List (ByteArray × Bool)} (hL : Lks L q) (x : En) (hb : x.f0.size ≤ 9223372036854775807) :
    badB (fun x : En => x.f0) (fun x => x.f1) (fun x => x.f2) entry_Right.f path_Parent.f q.getLast? L x = false ↔ Nxt q x ∧ x.f1 ≤ 2 := by
  unfold badB okB
  rw [right_en x hb, Option.getD_some]
  by_cases hrt : Rt x
  · rw [decide_eq_true hrt]
    obtain ⟨d, hd, hdd⟩ := dirB_eq hrt
    rw [hd]
    have hl : lk L d = true ↔ parB (ky x) = [] ∨ ∃ y ∈ q, ky y = parB (ky x) ∧ Hld y := by
      rcases hdd with ⟨h0, h1⟩ | ⟨h0, h0', h1⟩
      · simp [hL.root d h1, h0]
      · rw [hL.at_ d (by rw [h1]; exact h0'), h1]; simp [h0]
    cases hg : q.getLast? with
    | none =>
      simp only [Bool.or_eq_false_iff]
      constructor
      · rintro ⟨⟨⟨_, h1⟩, h2⟩, h3⟩
        exact ⟨⟨hrt, (fun y hy => by rw [hg] at hy; cases hy), hl.1 (by simpa using h2)⟩, by simpa using h1⟩
      · rintro ⟨⟨_, h1, h2⟩, h3⟩
        exact ⟨⟨⟨rfl, by simpa using h3⟩, by rw [hl.2 h2]; rfl⟩, trivial⟩
    | some z =>
      simp only [Bool.or_eq_false_iff]
      constructor
      · rintro ⟨⟨⟨_, h1⟩, h2⟩, h3⟩
        exact ⟨⟨hrt, (fun y hy => by rw [hg] at hy; obtain rfl := Option.some.inj hy; simpa [bl, ky] using h3), hl.1 (by simpa using h2)⟩, by simpa using h1⟩
      · rintro ⟨⟨_, h1, h2⟩, h3⟩
        refine ⟨⟨⟨rfl, by simpa using h3⟩, by rw [hl.2 h2]; rfl⟩, ?_⟩
        have := h1 z hg
        unfold bl ky at this
        rw [this]; rfl
  · rw [decide_eq_false hrt]
    constructor
    · intro h; simp at h
    · rintro ⟨k, _⟩; exact absurd k.rt hrt
theorem treeG_iff : ∀ (r q : List En) (L : List (ByteArray × Bool)), Lks L q → Tre q → (∀ e ∈ r, e.f0.size ≤ 9223372036854775807) → (tG q.getLast? L r = true ↔ Tre (q ++ r))
  | [], q, L, _, hq, _ => by unfold tG; rw [treeG, List.append_nil]; simp [hq]
  | x :: r, q, L, hL, hq, hb => by
    unfold tG
    rw [treeG]
    have h1 := bad_iff hL x (hb x (by simp))
    cases hbd : badB (fun x : En => x.f0) (fun x => x.f1) (fun x => x.f2) entry_Right.f path_Parent.f q.getLast? L x with
    | true =>
      rw [if_pos rfl]
      constructor
      · intro h; cases h
      · intro h
        have := h1.2 ⟨h.lyr.nxt, h.kd x (by simp)⟩
        rw [hbd] at this; cases this
    | false =>
      obtain ⟨hn, hk⟩ := h1.1 hbd
      rw [if_neg (by decide)]
      have ht : Tre (q ++ [x]) := ⟨(hq.lyr.snoc x).2 hn, fun e he => by
        rcases List.mem_append.1 he with he | he
        · exact hq.kd e he
        · rw [List.mem_singleton.1 he]; exact hk⟩
      have := treeG_iff r (q ++ [x]) _ (hL.step hn hq.lyr.srt) ht (fun e he => hb e (by simp [he]))
      rw [List.getLast?_concat, List.append_assoc] at this
      exact this
open Classical in
theorem tree_eq (l : List En) (hb : ∀ e ∈ l, e.f0.size ≤ 9223372036854775807) : fold_Tree.f l = some (decide (Tre l ∧ l.length ≤ 1024)) := by
  unfold fold_Tree.f
  rw [if_pos (List.all_eq_true.2 fun x hx => by rw [right_en x (hb x hx), parent_some x (hb x hx)]; rfl)]
  congr 1
  unfold treeF
  by_cases hl : l.length ≤ 1024
  · rw [if_neg (by omega)]
    have h := treeG_iff l [] [(⟨#[47]⟩, true)] ⟨fun p hp => by
      have : (⟨#[47]⟩ : ByteArray) = p := by_ext hp.symm
      rw [lk, if_pos this], fun p hp => by
      have : ¬ (⟨#[47]⟩ : ByteArray) = p := fun e => hp (by rw [← e])
      rw [lk, if_neg this, lk]; simp⟩ Tre.nil hb
    rw [List.nil_append] at h
    refine Bool.eq_iff_iff.2 (h.trans ?_)
    rw [decide_eq_true_iff]
    exact ⟨fun k => ⟨k, hl⟩, fun k => k.1⟩
  · rw [if_pos (by omega), decide_eq_false (fun k => hl k.2)]
end Go.Proofs.YtklcceccadlgkaaDoor.Th
