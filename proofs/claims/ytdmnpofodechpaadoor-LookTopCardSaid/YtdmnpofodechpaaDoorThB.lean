/- Layers, trees, a layer laid over a tree, two layers made one: in plain words. -/
import Derived.Test.YtdmnpofodechpaaDoorThA
namespace Go.Proofs.YtdmnpofodechpaaDoor.Th
open Go Go.Proofs.YtdmnpofodechpaaDoor.Print
set_option linter.unusedVariables false
set_option linter.unusedSimpArgs false

def noB : ByteArray := ⟨#[]⟩
/-- A right entry. -/
def Rt (e : En) : Prop := Pth (ky e) ∧ (e.f1 = 1 ∧ (da e).length ≤ 256 ∨ (e.f1 = 2 ∨ e.f1 = 3 ∨ e.f1 = 4) ∧ da e = [])
def Hld (e : En) : Prop := e.f1 = 2 ∨ e.f1 = 4
instance (e : En) : Decidable (Hld e) := inferInstanceAs (Decidable (_ ∨ _))
theorem Rt.kind {e : En} (h : Rt e) : e.f1 = 1 ∨ e.f1 = 2 ∨ e.f1 = 3 ∨ e.f1 = 4 := by rcases h.2 with h | h <;> omega
theorem Rt.noda {e : En} (h : Rt e) (k : e.f1 ≠ 1) : e.f2 = noB := by
  rcases h.2 with h | h
  · exact absurd h.1 k
  · exact by_ext h.2
theorem Rt.turn {e : En} (h : Rt e) (k : e.f1 ≠ 1) {n : Int} (hn : n = 2 ∨ n = 3 ∨ n = 4) : Rt ⟨e.f0, n, e.f2⟩ := by
  refine ⟨h.1, .inr ⟨hn, ?_⟩⟩
  rcases h.2 with h | h
  · exact absurd h.1 k
  · exact h.2
/-- A layer, whatever its length. -/
structure Lyr (l : List En) : Prop where
  rt : ∀ e ∈ l, Rt e
  srt : Srt l
  par : ∀ e ∈ l, parB (ky e) = [] ∨ ∃ x ∈ l, ky x = parB (ky e) ∧ Hld x
/-- A tree, whatever its length. -/
structure Tre (l : List En) : Prop where
  lyr : Lyr l
  kd : ∀ e ∈ l, e.f1 ≤ 2
theorem Lyr.nil : Lyr [] := ⟨fun _ h => (by cases h), List.Pairwise.nil, fun _ h => (by cases h)⟩
theorem Tre.nil : Tre [] := ⟨Lyr.nil, fun _ h => (by cases h)⟩
/-- What an entry lies under holds. -/
theorem Lyr.up {l : List En} (h : Lyr l) : ∀ (n : Nat) (e : En), (ky e).length ≤ n → e ∈ l → ∀ y, Und (ky e) y → y ≠ [] → ∃ x ∈ l, ky x = y ∧ Hld x := by
  intro n
  induction n with
  | zero => intro e hn he y hu _; have := hu.len; omega
  | succ n ih =>
    intro e hn he y hu hy
    have hp := (h.rt e he).1
    rcases hp.up hu with e1 | e1
    · rcases h.par e he with h0 | ⟨x, hx, hk, hh⟩
      · exact absurd (e1.trans h0) hy
      · exact ⟨x, hx, hk.trans e1.symm, hh⟩
    · rcases h.par e he with h0 | ⟨x, hx, hk, hh⟩
      · rw [h0] at e1; have := e1.len; simp at this
      · have hl := hp.und.len
        exact ih x (by rw [hk]; omega) hx y (by rw [hk]; exact e1) hy
theorem Lyr.anc {l : List En} (h : Lyr l) {e : En} (he : e ∈ l) {y : By} (hu : Und (ky e) y) (hy : y ≠ []) : ∃ x ∈ l, ky x = y ∧ Hld x := h.up _ e (Nat.le_refl _) he y hu hy
theorem Lyr.fndp {l : List En} (h : Lyr l) {e : En} (he : e ∈ l) : parB (ky e) = [] ∨ ∃ x, fnd l (parB (ky e)) = some x ∧ Hld x := by
  rcases h.par e he with h0 | ⟨x, hx, hk, hh⟩
  · exact .inl h0
  · exact .inr ⟨x, by rw [← hk]; exact h.srt.at_ hx, hh⟩

/-! ### an entry laid over a tree -/
def oneL (t : List En) (e : En) : List En :=
  if e.f1 = 2 then putL (t.filter fun x => !decide (ky x = ky e ∧ x.f1 = 1)) e
  else
    let t' := t.filter fun x => !decide (ky x = ky e ∨ Und (ky x) (ky e))
    if e.f1 = 3 then t' else putL t' (if e.f1 = 4 then ⟨e.f0, 2, e.f2⟩ else e)
/-- What is shown of an entry. -/
def shw (e : En) : Option En := if e.f1 = 3 then none else if e.f1 = 4 then some ⟨e.f0, 2, e.f2⟩ else some e
def lay1 (F : By → Option En) (e : En) (p : By) : Option En :=
  if e.f1 = 2 then if p = ky e then some e else F p
  else if p = ky e then shw e else if Und p (ky e) then none else F p
theorem oneL_srt {t : List En} (h : Srt t) (e : En) : Srt (oneL t e) := by
  unfold oneL
  split
  · exact (h.filter _).put _
  · simp only
    split
    · exact h.filter _
    · exact (h.filter _).put _
theorem fnd_ky {t : List En} {p : By} {x : En} (h : fnd t p = some x) : ky x = p := (fnd_mem h).2
theorem fnd_oneL {t : List En} (h : Srt t) (e : En) (p : By) : fnd (oneL t e) p = lay1 (fnd t) e p := by
  unfold oneL lay1
  split
  · rw [fnd_putL _ (h.filter _), fnd_filter h]
    split
    · rfl
    · rename_i hp
      cases hf : fnd t p with
      | none => rfl
      | some x =>
        have := fnd_ky hf
        rw [Option.filter_some, if_pos]
        simp; exact .inl fun e1 => hp (this.symm.trans e1)
  · simp only
    have key : p ≠ ky e → fnd (t.filter fun x => !decide (ky x = ky e ∨ Und (ky x) (ky e))) p = if Und p (ky e) then none else fnd t p := by
      intro hp
      rw [fnd_filter h]
      cases hf : fnd t p with
      | none => simp
      | some x =>
        have hk := fnd_ky hf
        rw [Option.filter_some, hk]
        by_cases hu : Und p (ky e)
        · rw [if_pos hu, if_neg]; simp [hu]
        · rw [if_neg hu, if_pos]; simp [hu, hp]
    have key0 : fnd (t.filter fun x => !decide (ky x = ky e ∨ Und (ky x) (ky e))) (ky e) = none := by
      rw [fnd_filter h]
      cases hf : fnd t (ky e) with
      | none => rfl
      | some x =>
        have hk := fnd_ky hf
        rw [Option.filter_some, hk, if_neg]; simp
    split
    · rename_i h3
      by_cases hp : p = ky e
      · rw [if_pos hp, hp, key0]; simp [shw, h3]
      · rw [if_neg hp, key hp]
    · rename_i h3
      rw [fnd_putL _ (h.filter _)]
      have hke : ky (if e.f1 = 4 then ⟨e.f0, 2, e.f2⟩ else e) = ky e := by split <;> rfl
      rw [hke]
      by_cases hp : p = ky e
      · rw [if_pos hp, if_pos hp, shw, if_neg h3]; split <;> rfl
      · rw [if_neg hp, if_neg hp, key hp]
theorem oneL_len (t : List En) (e : En) : (oneL t e).length ≤ t.length + 1 := by
  unfold oneL
  split
  · exact Nat.le_trans (putL_len _ _) (Nat.succ_le_succ (List.length_filter_le _ _))
  · simp only
    split
    · exact Nat.le_succ_of_le (List.length_filter_le _ _)
    · exact Nat.le_trans (putL_len _ _) (Nat.succ_le_succ (List.length_filter_le _ _))

/-! ### a layer laid over what is shown -/
/-- Does a layer hide what lies below, at a path? -/
def Hid (l : List En) (p : By) : Prop := ∃ x ∈ l, x.f1 ≠ 2 ∧ Und p (ky x)
instance (l : List En) (p : By) : Decidable (Hid l p) := inferInstanceAs (Decidable (∃ x ∈ l, x.f1 ≠ 2 ∧ Und p (ky x)))
theorem Hid.nil (p : By) : ¬ Hid [] p := by rintro ⟨x, hx, _⟩; cases hx
theorem Hid.und {l : List En} {p q : By} (h : Hid l p) (k : Und q p) : Hid l q := by obtain ⟨x, hx, h2, hu⟩ := h; exact ⟨x, hx, h2, k.trans hu⟩
theorem hid_snoc (l : List En) (e : En) (p : By) : Hid (l ++ [e]) p ↔ Hid l p ∨ (e.f1 ≠ 2 ∧ Und p (ky e)) := by
  unfold Hid; simp only [List.mem_append, List.mem_singleton]
  constructor
  · rintro ⟨x, hx | rfl, h⟩
    · exact .inl ⟨x, hx, h⟩
    · exact .inr h
  · rintro (⟨x, hx, h⟩ | h)
    · exact ⟨x, .inl hx, h⟩
    · exact ⟨e, .inr rfl, h⟩
def ovr (F : By → Option En) (l : List En) (p : By) : Option En := match fnd l p with
  | some e => shw e
  | none => if Hid l p then none else F p
theorem ovr_nil (F : By → Option En) : ovr F [] = F := by
  funext p; unfold ovr; rw [fnd_nil]; simp only; rw [if_neg (Hid.nil p)]
theorem shw_two {e : En} (h : e.f1 = 2) : shw e = some e := by unfold shw; rw [if_neg (by omega), if_neg (by omega)]
/-- Behind all that is less: nothing of them stands at, or under, what is greater. -/
theorem snoc_none {l : List En} {e : En} (h : Srt (l ++ [e])) {p : By} (hp : p = ky e ∨ Und p (ky e)) : fnd l p = none := by
  refine fnd_none.2 fun x hx e1 => ?_
  have h1 := h.parts.2.2 x hx e (by simp)
  rcases hp with rfl | hu
  · exact bl_ne h1 e1
  · rw [e1] at h1; exact bl_asymm h1 hu.bl
theorem ovr_snoc (F : By → Option En) (l : List En) (e : En) (h : Srt (l ++ [e])) : lay1 (ovr F l) e = ovr F (l ++ [e]) := by
  funext p
  unfold lay1
  by_cases hp : p = ky e
  · have hn : fnd l p = none := snoc_none h (.inl hp)
    have : ovr F (l ++ [e]) p = shw e := by
      unfold ovr; rw [fnd_append, hn, Option.none_or, fnd_cons, if_pos hp.symm]
    rw [this]
    by_cases h2 : e.f1 = 2
    · rw [if_pos h2, if_pos hp, shw_two h2]
    · rw [if_neg h2, if_pos hp]
  · have hf : fnd (l ++ [e]) p = fnd l p := by rw [fnd_append, fnd_cons, if_neg (Ne.symm hp), fnd_nil, Option.or_none]
    have hq : ovr F (l ++ [e]) p = match fnd l p with
      | some x => shw x
      | none => if Hid l p ∨ (e.f1 ≠ 2 ∧ Und p (ky e)) then none else F p := by
      unfold ovr; rw [hf]; cases fnd l p with
      | some x => rfl
      | none =>
        simp only
        by_cases hh : Hid (l ++ [e]) p
        · rw [if_pos hh, if_pos ((hid_snoc l e p).1 hh)]
        · rw [if_neg hh, if_neg (fun k => hh ((hid_snoc l e p).2 k))]
    rw [hq]
    by_cases h2 : e.f1 = 2
    · rw [if_pos h2, if_neg hp]
      unfold ovr
      cases fnd l p with
      | some x => rfl
      | none =>
        simp only
        by_cases hh : Hid l p
        · rw [if_pos hh, if_pos (.inl hh)]
        · rw [if_neg hh, if_neg (by rintro (k | k); exact hh k; exact k.1 h2)]
    · rw [if_neg h2, if_neg hp]
      by_cases hu : Und p (ky e)
      · rw [if_pos hu, snoc_none h (.inr hu)]
        simp only
        rw [if_pos (.inr ⟨h2, hu⟩)]
      · rw [if_neg hu]
        unfold ovr
        cases fnd l p with
        | some x => rfl
        | none =>
          simp only
          by_cases hh : Hid l p
          · rw [if_pos hh, if_pos (.inl hh)]
          · rw [if_neg hh, if_neg (by rintro (k | k); exact hh k; exact hu k.2)]
/-- A layer laid over a list. -/
def overL (t l : List En) : List En := l.foldl oneL t
theorem overL_snoc (t l : List En) (e : En) : overL t (l ++ [e]) = oneL (overL t l) e := by unfold overL; rw [List.foldl_append]; rfl
theorem overL_nil (t : List En) : overL t [] = t := rfl
theorem snoc_ind {P : List En → Prop} (h0 : P []) (h1 : ∀ l e, P l → P (l ++ [e])) : ∀ l, P l := by
  intro l
  have : ∀ r : List En, P r.reverse := by
    intro r
    induction r with
    | nil => exact h0
    | cons e r ih => rw [List.reverse_cons]; exact h1 _ _ ih
  have h := this l.reverse
  rwa [List.reverse_reverse] at h
theorem overL_srt {t : List En} (h : Srt t) (l : List En) : Srt (overL t l) := by
  induction l using snoc_ind with
  | h0 => exact h
  | h1 l e ih => rw [overL_snoc]; exact oneL_srt ih e
theorem fnd_overL {t : List En} (h : Srt t) (l : List En) (hl : Srt l) : fnd (overL t l) = ovr (fnd t) l := by
  induction l using snoc_ind with
  | h0 => rw [overL_nil, ovr_nil]
  | h1 l e ih =>
    rw [overL_snoc, ← ovr_snoc _ _ _ hl]
    funext p
    rw [fnd_oneL (overL_srt h l), ih hl.parts.1]
theorem overL_len (t l : List En) : (overL t l).length ≤ t.length + l.length := by
  induction l using snoc_ind with
  | h0 => exact Nat.le_refl _
  | h1 l e ih => rw [overL_snoc, List.length_append]; have := oneL_len (overL t l) e; simp; omega
/-- A tree, by what stands at each path. -/
structure TreF (F : By → Option En) : Prop where
  rt : ∀ p e, F p = some e → ky e = p ∧ Rt e ∧ e.f1 ≤ 2
  par : ∀ p e, F p = some e → parB p = [] ∨ ∃ x, F (parB p) = some x ∧ x.f1 = 2
theorem Tre.f {t : List En} (h : Tre t) : TreF (fnd t) := by
  refine ⟨fun p e he => ?_, fun p e he => ?_⟩
  · obtain ⟨hm, hk⟩ := fnd_mem he; exact ⟨hk, h.lyr.rt e hm, h.kd e hm⟩
  · obtain ⟨hm, hk⟩ := fnd_mem he
    rw [← hk]
    rcases h.lyr.fndp hm with h0 | ⟨x, hx, hh⟩
    · exact .inl h0
    · refine .inr ⟨x, hx, ?_⟩
      have := h.kd x (fnd_mem hx).1
      rcases hh with h2 | h2 <;> omega
theorem TreF.tre {t : List En} (h : Srt t) (hf : TreF (fnd t)) : Tre t := by
  refine ⟨⟨fun e he => (hf.rt _ e (h.at_ he)).2.1, h, fun e he => ?_⟩, fun e he => (hf.rt _ e (h.at_ he)).2.2⟩
  rcases hf.par _ e (h.at_ he) with h0 | ⟨x, hx, h2⟩
  · exact .inl h0
  · exact .inr ⟨x, (fnd_mem hx).1, (fnd_mem hx).2, .inl h2⟩
theorem shw_some {e x : En} (h : shw e = some x) : ky x = ky e ∧ (Rt e → Rt x ∧ x.f1 ≤ 2) ∧ (Hld e → x.f1 = 2) ∧ e.f1 ≠ 3 := by
  unfold shw at h
  split at h
  · cases h
  · rename_i h3
    split at h
    · rename_i h4
      obtain rfl := Option.some.inj h
      exact ⟨rfl, fun hr => ⟨hr.turn (by omega) (.inl rfl), by simp⟩, fun _ => rfl, h3⟩
    · rename_i h4
      obtain rfl := Option.some.inj h
      refine ⟨rfl, fun hr => ⟨hr, by have := hr.kind; omega⟩, fun hh => ?_, h3⟩
      rcases hh with h2 | h2
      · exact h2
      · exact absurd h2 h4
theorem shw_hld {e : En} (h : Hld e) : ∃ x, shw e = some x ∧ x.f1 = 2 := by
  unfold shw
  rcases h with h | h
  · exact ⟨e, by rw [if_neg (by omega), if_neg (by omega)], h⟩
  · exact ⟨⟨e.f0, 2, e.f2⟩, by rw [if_neg (by omega), if_pos h], rfl⟩
theorem ovr_tre {F : By → Option En} (hF : TreF F) {l : List En} (hl : Lyr l) : TreF (ovr F l) := by
  have hpar : ∀ p e, ovr F l p = some e → Pth p ∧ ky e = p ∧ Rt e ∧ e.f1 ≤ 2 := by
    intro p e he
    unfold ovr at he
    cases hf : fnd l p with
    | some x =>
      rw [hf] at he
      obtain ⟨hm, hk⟩ := fnd_mem hf
      obtain ⟨h1, h2, _, _⟩ := shw_some he
      have hr := hl.rt x hm
      exact ⟨hk ▸ hr.1, h1.trans hk, h2 hr⟩
    | none =>
      rw [hf] at he; simp only at he
      split at he
      · cases he
      · obtain ⟨h1, h2, h3⟩ := hF.rt p e he
        exact ⟨h1 ▸ h2.1, h1, h2, h3⟩
  refine ⟨fun p e he => (hpar p e he).2, fun p e he => ?_⟩
  have hP := (hpar p e he).1
  unfold ovr at he
  cases hf : fnd l p with
  | some x =>
    obtain ⟨hm, hk⟩ := fnd_mem hf
    rcases hl.fndp hm with h0 | ⟨y, hy, hh⟩
    · left; rw [← hk]; exact h0
    · right
      obtain ⟨z, hz, h2⟩ := shw_hld hh
      refine ⟨z, ?_, h2⟩
      unfold ovr
      rw [← hk, hy]; exact hz
  | none =>
    rw [hf] at he; simp only at he
    split at he
    · cases he
    · rename_i hh
      rcases hF.par p e he with h0 | ⟨x, hx, h2⟩
      · exact .inl h0
      · right
        unfold ovr
        cases hg : fnd l (parB p) with
        | some y =>
          obtain ⟨hm, hk⟩ := fnd_mem hg
          have hy2 : y.f1 = 2 := by
            rcases Decidable.em (y.f1 = 2) with h | h
            · exact h
            · exact absurd ⟨y, hm, h, by rw [hk]; exact hP.und⟩ hh
          exact ⟨y, shw_two hy2, hy2⟩
        | none =>
          simp only
          rw [if_neg (fun k => hh (k.und hP.und))]
          exact ⟨x, hx, h2⟩
theorem overL_tre {t l : List En} (ht : Tre t) (hl : Lyr l) : Tre (overL t l) := by
  refine TreF.tre (overL_srt ht.lyr.srt l) ?_
  rw [fnd_overL ht.lyr.srt l hl.srt]
  exact ovr_tre ht.f hl
/-- A stack folded. -/
def stkL (s : List (List En)) : List En := s.foldl overL []
theorem stkL_snoc (s : List (List En)) (l : List En) : stkL (s ++ [l]) = overL (stkL s) l := by unfold stkL; rw [List.foldl_append]; rfl
theorem foldl_tre (s : List (List En)) (hs : ∀ l ∈ s, Lyr l) : ∀ t, Tre t → Tre (s.foldl overL t) := by
  induction s with
  | nil => intro t ht; exact ht
  | cons l s ih => intro t ht; exact ih (fun x hx => hs x (by simp [hx])) _ (overL_tre ht (hs l (by simp)))
theorem stkL_tre {s : List (List En)} (hs : ∀ l ∈ s, Lyr l) : Tre (stkL s) := foldl_tre s hs [] Tre.nil
/-- What a stack shows, path by path. -/
def shows (s : List (List En)) : By → Option En := s.foldl ovr (fun _ => none)
theorem foldl_shows (s : List (List En)) (hs : ∀ l ∈ s, Srt l) : ∀ t, Srt t → fnd (s.foldl overL t) = s.foldl ovr (fnd t) := by
  induction s with
  | nil => intro t _; rfl
  | cons l s ih =>
    intro t ht
    rw [List.foldl_cons, List.foldl_cons, ih (fun x hx => hs x (by simp [hx])) _ (overL_srt ht l), fnd_overL ht l (hs l (by simp))]
theorem fnd_stkL {s : List (List En)} (hs : ∀ l ∈ s, Srt l) : fnd (stkL s) = shows s := foldl_shows s hs [] List.Pairwise.nil
theorem shows_snoc (s : List (List En)) (l : List En) : shows (s ++ [l]) = ovr (shows s) l := by unfold shows; rw [List.foldl_append]; rfl
theorem shows_append (s r : List (List En)) : shows (s ++ r) = r.foldl ovr (shows s) := by unfold shows; rw [List.foldl_append]
theorem shows_tre {s : List (List En)} (hs : ∀ l ∈ s, Lyr l) : TreF (shows s) := by
  rw [← fnd_stkL (fun l h => (hs l h).srt)]; exact (stkL_tre hs).f
theorem stkL_srt {s : List (List En)} (hs : ∀ l ∈ s, Lyr l) : Srt (stkL s) := (stkL_tre hs).lyr.srt
theorem stkL_len (s : List (List En)) (n : Nat) (h : ∀ l ∈ s, l.length ≤ n) : (stkL s).length ≤ s.length * n := by
  have : ∀ (s : List (List En)) (t : List En), (∀ l ∈ s, l.length ≤ n) → (s.foldl overL t).length ≤ t.length + s.length * n := by
    intro s
    induction s with
    | nil => intro t _; simp
    | cons l s ih =>
      intro t h
      have h1 := ih (overL t l) (fun x hx => h x (by simp [hx]))
      have h2 := overL_len t l
      have h3 := h l (by simp)
      rw [List.foldl_cons, List.length_cons, Nat.add_mul]; omega
  have := this s [] h
  unfold stkL
  simpa using this

/-! ### the bottom -/
def botL (l : List En) : List En := (l.filter fun x => !decide (x.f1 = 3)).map fun x => if x.f1 = 4 then ⟨x.f0, 2, x.f2⟩ else x
theorem botL_srt {l : List En} (h : Srt l) : Srt (botL l) := by
  unfold botL Srt
  rw [List.pairwise_map]
  refine (h.filter _).imp fun {a b} hab => ?_
  have e : ∀ x : En, ky (if x.f1 = 4 then ⟨x.f0, 2, x.f2⟩ else x) = ky x := fun x => by split <;> rfl
  rw [e, e]; exact hab
theorem fnd_botL {l : List En} (h : Srt l) (p : By) : fnd (botL l) p = (fnd l p).bind shw := by
  unfold botL
  have : ∀ l : List En, fnd (l.map fun x => if x.f1 = 4 then ⟨x.f0, 2, x.f2⟩ else x) p = (fnd l p).map fun x => if x.f1 = 4 then ⟨x.f0, 2, x.f2⟩ else x := by
    intro l
    induction l with
    | nil => rfl
    | cons x l ih =>
      have e : ky (if x.f1 = 4 then ⟨x.f0, 2, x.f2⟩ else x) = ky x := by split <;> rfl
      rw [List.map_cons, fnd_cons, fnd_cons, e, ih]
      split <;> rfl
  rw [this, fnd_filter h]
  cases fnd l p with
  | none => rfl
  | some e =>
    rw [Option.filter_some, Option.bind_some]
    unfold shw
    by_cases h3 : e.f1 = 3
    · rw [if_neg (by simp [h3]), if_pos h3]; rfl
    · rw [if_pos (by simp [h3]), if_neg h3]
      rw [Option.map_some]; split <;> rfl
theorem shows_one (l : List En) (h : Srt l) : shows [l] = fnd (botL l) := by
  funext p
  rw [fnd_botL h]
  unfold shows
  simp only [List.foldl_cons, List.foldl_nil]
  unfold ovr
  cases fnd l p with
  | none => simp
  | some e => rfl
theorem stkL_one {l : List En} (h : Lyr l) : stkL [l] = botL l := by
  refine (stkL_srt (s := [l]) (by simpa using h)).ext (botL_srt h.srt) fun p => ?_
  rw [fnd_stkL (by simpa using h.srt), shows_one l h.srt]
theorem botL_tre {l : List En} (h : Lyr l) : Tre (botL l) := by rw [← stkL_one h]; exact stkL_tre (by simpa using h)
theorem botL_id {t : List En} (h : Tre t) : botL t = t := by
  unfold botL
  rw [List.filter_eq_self.2 (fun x hx => by have := h.kd x hx; simp; omega)]
  conv => rhs; rw [← List.map_id t]
  refine List.map_congr_left fun x hx => ?_
  have := h.kd x hx
  rw [if_neg (by omega)]; rfl
theorem stkL_tree {t : List En} (h : Tre t) : stkL [t] = t := by rw [stkL_one h.lyr, botL_id h]
theorem botL_len (l : List En) : (botL l).length ≤ l.length := by unfold botL; rw [List.length_map]; exact List.length_filter_le _ _

end Go.Proofs.YtdmnpofodechpaaDoor.Th
