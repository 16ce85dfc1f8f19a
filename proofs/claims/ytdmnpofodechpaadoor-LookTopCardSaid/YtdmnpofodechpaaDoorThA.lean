/- Entries in plain words: sorted lists of entries, what stands at a path. -/
import Derived.Test.YtdmnpofodechpaaDoorThP
namespace Go.Proofs.YtdmnpofodechpaaDoor.Th
open Go Go.Proofs.YtdmnpofodechpaaDoor.Print
set_option linter.unusedVariables false
set_option linter.unusedSimpArgs false

abbrev En := S26
def ky (e : En) : By := e.f0.data.toList
def da (e : En) : By := e.f2.data.toList
theorem en_ext {a b : En} (h0 : ky a = ky b) (h1 : a.f1 = b.f1) (h2 : da a = da b) : a = b := by
  cases a; cases b; simp only [ky, da] at h0 h2; simp only at h1
  rw [by_ext h0, h1, by_ext h2]

/-! ### sorted lists of entries -/
def Srt (l : List En) : Prop := l.Pairwise fun x y => bl (ky x) (ky y)
def fnd (l : List En) (p : By) : Option En := l.find? fun e => decide (ky e = p)
theorem fnd_nil (p : By) : fnd [] p = none := rfl
theorem fnd_cons (x : En) (l : List En) (p : By) : fnd (x :: l) p = if ky x = p then some x else fnd l p := by
  unfold fnd; rw [List.find?_cons]; by_cases h : ky x = p <;> simp [h]
theorem fnd_mem {l : List En} {p : By} {e : En} (h : fnd l p = some e) : e ∈ l ∧ ky e = p := by
  unfold fnd at h
  exact ⟨List.mem_of_find?_eq_some h, by simpa using List.find?_some h⟩
theorem fnd_none {l : List En} {p : By} : fnd l p = none ↔ ∀ e ∈ l, ky e ≠ p := by
  unfold fnd; rw [List.find?_eq_none]; simp
theorem fnd_append (a b : List En) (p : By) : fnd (a ++ b) p = (fnd a p).or (fnd b p) := by
  unfold fnd; rw [List.find?_append]
theorem Srt.tail {x : En} {l : List En} (h : Srt (x :: l)) : Srt l := (List.pairwise_cons.1 h).2
theorem Srt.head {x : En} {l : List En} (h : Srt (x :: l)) : ∀ y ∈ l, bl (ky x) (ky y) := (List.pairwise_cons.1 h).1
theorem Srt.cons {x : En} {l : List En} (h : ∀ y ∈ l, bl (ky x) (ky y)) (k : Srt l) : Srt (x :: l) := List.pairwise_cons.2 ⟨h, k⟩
theorem Srt.at_ {l : List En} (h : Srt l) {e : En} (he : e ∈ l) : fnd l (ky e) = some e := by
  induction l with
  | nil => cases he
  | cons x l ih =>
    rw [fnd_cons]
    rcases List.mem_cons.1 he with rfl | he
    · rw [if_pos rfl]
    · rw [if_neg (fun e1 => bl_ne (h.head e he) e1)]; exact ih h.tail he
theorem Srt.uniq {l : List En} (h : Srt l) {a b : En} (ha : a ∈ l) (hb : b ∈ l) (e : ky a = ky b) : a = b := by
  have h1 := h.at_ ha; have h2 := h.at_ hb
  rw [e, h2] at h1; exact (Option.some.inj h1).symm
theorem Srt.filter {l : List En} (h : Srt l) (q : En → Bool) : Srt (l.filter q) := List.Pairwise.filter q h
theorem Srt.sub {a b : List En} (h : Srt b) (s : a.Sublist b) : Srt a := List.Pairwise.sublist s h
theorem Srt.append {a b : List En} (ha : Srt a) (hb : Srt b) (h : ∀ x ∈ a, ∀ y ∈ b, bl (ky x) (ky y)) : Srt (a ++ b) := List.pairwise_append.2 ⟨ha, hb, h⟩
theorem Srt.parts {a b : List En} (h : Srt (a ++ b)) : Srt a ∧ Srt b ∧ ∀ x ∈ a, ∀ y ∈ b, bl (ky x) (ky y) := List.pairwise_append.1 h
theorem fnd_filter {l : List En} (h : Srt l) (q : En → Bool) (p : By) : fnd (l.filter q) p = (fnd l p).filter q := by
  induction l with
  | nil => rfl
  | cons x l ih =>
    rw [List.filter_cons, fnd_cons]
    by_cases hx : ky x = p
    · rw [if_pos hx]
      cases hq : q x with
      | true => rw [if_pos rfl, fnd_cons, if_pos hx, Option.filter_some_pos hq]
      | false =>
        rw [if_neg (by simp), ih h.tail]
        have : fnd l p = none := fnd_none.2 fun e he e1 => bl_ne (h.head e he) (hx.trans e1.symm)
        rw [this, Option.filter_some_neg (by simp [hq])]; rfl
    · rw [if_neg hx, ← ih h.tail]
      split
      · rw [fnd_cons, if_neg hx]
      · rfl
/-- Sorted lists in which the same stands at each path are one list. -/
theorem Srt.ext {a b : List En} (ha : Srt a) (hb : Srt b) (h : ∀ p, fnd a p = fnd b p) : a = b := by
  induction a generalizing b with
  | nil =>
    cases b with
    | nil => rfl
    | cons y b => have := h (ky y); rw [fnd_cons, if_pos rfl] at this; cases this
  | cons x a ih =>
    cases b with
    | nil => have := h (ky x); rw [fnd_cons, if_pos rfl] at this; cases this
    | cons y b =>
      have hxy : x = y := by
        have h1 := h (ky x); have h2 := h (ky y)
        rw [fnd_cons, if_pos rfl, fnd_cons] at h1
        rw [fnd_cons, fnd_cons, if_pos rfl] at h2
        by_cases e : ky y = ky x
        · rw [if_pos e] at h1; exact Option.some.inj h1
        · rw [if_neg e] at h1; rw [if_neg (fun e1 => e e1.symm)] at h2
          have k1 := hb.head x (fnd_mem h1.symm).1
          have k2 := ha.head y (fnd_mem h2).1
          exact absurd k1 (bl_asymm k2)
      subst hxy
      congr 1
      refine ih ha.tail hb.tail fun p => ?_
      have := h p
      rw [fnd_cons, fnd_cons] at this
      by_cases e : ky x = p
      · subst e
        have k1 : fnd a (ky x) = none := fnd_none.2 fun e he e1 => bl_ne (ha.head e he) e1.symm
        have k2 : fnd b (ky x) = none := fnd_none.2 fun e he e1 => bl_ne (hb.head e he) e1.symm
        rw [k1, k2]
      · rwa [if_neg e, if_neg e] at this

/-! ### an entry put in its place -/
def putL : List En → En → List En
  | [], e => [e]
  | x :: t, e => if ky x = ky e then e :: t else if bl (ky e) (ky x) then e :: x :: t else x :: putL t e
theorem putL_mem {t : List En} {e y : En} (h : y ∈ putL t e) : y = e ∨ y ∈ t := by
  induction t with
  | nil => simp [putL] at h; exact .inl h
  | cons x t ih =>
    rw [putL] at h
    split at h
    · rcases List.mem_cons.1 h with h | h
      · exact .inl h
      · exact .inr (by simp [h])
    · split at h
      · rcases List.mem_cons.1 h with h | h
        · exact .inl h
        · exact .inr h
      · rcases List.mem_cons.1 h with h | h
        · exact .inr (by simp [h])
        · rcases ih h with h | h
          · exact .inl h
          · exact .inr (by simp [h])
theorem Srt.put {t : List En} (h : Srt t) (e : En) : Srt (putL t e) := by
  induction t with
  | nil => exact List.pairwise_singleton _ _
  | cons x t ih =>
    rw [Th.putL]
    split
    · rename_i hk
      exact Srt.cons (fun y hy => hk ▸ h.head y hy) h.tail
    · rename_i hk
      split
      · rename_i hb
        exact Srt.cons (fun y hy => by
          rcases List.mem_cons.1 hy with rfl | hy
          · exact hb
          · exact bl_trans hb (h.head y hy)) h
      · rename_i hb
        refine Srt.cons (fun y hy => ?_) (ih h.tail)
        rcases putL_mem hy with rfl | hy
        · rcases bl_tri (ky x) (ky y) with h1 | h1 | h1
          · exact h1
          · exact absurd h1 hk
          · exact absurd h1 hb
        · exact h.head y hy
theorem fnd_putL (t : List En) (h : Srt t) (e : En) (p : By) : fnd (putL t e) p = if p = ky e then some e else fnd t p := by
  induction t with
  | nil => rw [putL, fnd_cons]; simp [eq_comm]
  | cons x t ih =>
    rw [putL]
    split
    · rename_i hk
      rw [fnd_cons, fnd_cons]
      by_cases hp : p = ky e
      · rw [if_pos hp.symm, if_pos hp]
      · rw [if_neg (Ne.symm hp), if_neg hp, if_neg (by rw [hk]; exact Ne.symm hp)]
    · rename_i hk
      split
      · rw [fnd_cons]
        by_cases hp : p = ky e
        · rw [if_pos hp.symm, if_pos hp]
        · rw [if_neg (Ne.symm hp), if_neg hp]
      · rw [fnd_cons, ih h.tail, fnd_cons]
        by_cases hp : p = ky e
        · rw [if_pos hp, if_neg (by rw [hp]; exact hk), if_pos hp]
        · rw [if_neg hp, if_neg hp]
theorem putL_len (t : List En) (e : En) : (putL t e).length ≤ t.length + 1 := by
  induction t with
  | nil => simp [putL]
  | cons x t ih => rw [putL]; split <;> (try split) <;> simp <;> omega
/-- Put in its place: what is less, it, what is greater. -/
theorem putL_eq (t : List En) (h : Srt t) (e : En) : putL t e = t.filter (fun x => decide (bl (ky x) (ky e))) ++ e :: t.filter (fun x => decide (bl (ky e) (ky x))) := by
  induction t with
  | nil => rfl
  | cons x t ih =>
    rw [putL]
    split
    · rename_i hk
      have h1 : ∀ y ∈ t, bl (ky e) (ky y) := fun y hy => hk ▸ h.head y hy
      rw [List.filter_cons, if_neg (by simp [hk]; exact bl_irrefl _), List.filter_cons, if_neg (by simp [hk]; exact bl_irrefl _)]
      rw [List.filter_eq_nil_iff.2 (fun y hy => by simp; exact bl_asymm (h1 y hy)), List.filter_eq_self.2 (fun y hy => by simp; exact h1 y hy)]
      rfl
    · rename_i hk
      split
      · rename_i hb
        have h1 : ∀ y ∈ x :: t, bl (ky e) (ky y) := fun y hy => by
          rcases List.mem_cons.1 hy with rfl | hy
          · exact hb
          · exact bl_trans hb (h.head y hy)
        rw [List.filter_eq_nil_iff.2 (fun y hy => by simp; exact bl_asymm (h1 y hy)), List.filter_eq_self.2 (fun y hy => by simp; exact h1 y hy)]
        rfl
      · rename_i hb
        have hb2 : bl (ky x) (ky e) := by
          rcases bl_tri (ky x) (ky e) with h1 | h1 | h1
          · exact h1
          · exact absurd h1 hk
          · exact absurd h1 hb
        rw [List.filter_cons, if_pos (by simp; exact hb2), List.filter_cons, if_neg (by simp; exact hb), ih h.tail]
        rfl
end Go.Proofs.YtdmnpofodechpaaDoor.Th
