/- Plain facts of pick.Steps and the reference's Merged, as printed: which merges are made, and how many. -/
import Derived.Test.YtnjhncplodpafaaPickB
import Derived.Test.YtnjhncplodpafaaPrint5
namespace Go.Proofs.Ytnjhncplodpafaa.Pure
set_option linter.unusedVariables false
set_option linter.unusedSimpArgs false
open Go.RowKit Go.Proofs.Ytnjhncplodpafaa.Print Go.Proofs.YtnjhncplodpafaaW.PrintWords Go.Proofs.YtnjhncplodpafaaW.PrintLast Go.Proofs.YtnjhncplodpafaaW.PrintMore

/-- A list with pair k merged. -/
def mrg (l : List Int) (k : Nat) : List Int := l.take k ++ [pr l k] ++ l.drop (k + 2)
theorem mrg_length {l : List Int} {k : Nat} (h : k < l.length - 1) : (mrg l k).length = l.length - 1 := by simp [mrg]; omega
theorem mrg_getD {l : List Int} {k : Nat} (h : k < l.length - 1) (i : Nat) : (mrg l k).getD i 0 = if i < k then l.getD i 0 else if i = k then pr l k else l.getD (i + 1) 0 := by
  unfold mrg
  simp only [List.getD_eq_getElem?_getD]
  by_cases h1 : i < k
  · rw [if_pos h1, List.append_assoc, List.getElem?_append_left (by simp; omega), List.getElem?_take, if_pos h1]
  · rw [if_neg h1]
    by_cases h2 : i = k
    · subst h2
      rw [if_pos rfl, List.append_assoc, List.getElem?_append_right (by rw [List.length_take]; omega), List.length_take, Nat.min_eq_left (by omega), Nat.sub_self]
      rfl
    · rw [if_neg h2, List.getElem?_append_right (by simp; omega), List.getElem?_drop]
      congr 2
      simp
      omega

theorem At.pr_held {l : List Int} {d : Int} {k : Nat} (h : At l d k) : held (pr l k) = pr l k := by
  have := pr_bd l k; have := h.le; unfold held; split
  · omega
  · split <;> omega

/-- n merges lead from l to a list of which no more may be merged. -/
inductive St (d : Int) : List Int → Nat → List Int → Prop where
  | stop {l} : No l d → St d l 0 l
  | step {l k n l'} : At l d k → St d (mrg l k) n l' → St d l (n + 1) l'
theorem St.no {d : Int} {l l' : List Int} {n : Nat} (h : St d l n l') : No l' d := by
  induction h with
  | stop h => exact h
  | step _ _ ih => exact ih
theorem St.len {d : Int} {l l' : List Int} {n : Nat} (h : St d l n l') : l'.length + n = l.length := by
  induction h with
  | stop h => rfl
  | step ha _ ih => rw [mrg_length ha.kl] at ih; have := ha.kl; omega
theorem St.one {d : Int} {l l' l'' : List Int} {n m : Nat} (h : St d l n l') (h' : St d l m l'') : n = m ∧ l' = l'' := by
  induction h generalizing m l'' with
  | stop hn => cases h' with
    | stop _ => exact ⟨rfl, rfl⟩
    | step ha _ => exact (ha.not hn).elim
  | step ha _ ih => cases h' with
    | stop hn => exact (ha.not hn).elim
    | step ha' h' =>
      have := ha.one ha'
      subst this
      obtain ⟨e1, e2⟩ := ih h'
      exact ⟨by omega, e2⟩
theorem St.most {d : Int} {l l' : List Int} {n : Nat} (h : St d l n l') (hd : 1 ≤ d) : n = 0 ∨ d ≤ l'.length := by
  induction h with
  | stop _ => exact .inl rfl
  | step ha h ih =>
    have h1 := ha.d2; have h2 := mrg_length ha.kl; have h3 := h.len; have h4 := ha.kl
    rcases ih with h0 | h0
    · exact .inr (by omega)
    · exact .inr h0

theorem replace_eq (l : List Int) (d : Int) (k : Nat) (h : At l d k) (hl : l.length < 17592186044416) :
    slices_Replace_int_int.f l (k : Int) (wrap64 ((k : Int) + 2)) [pr l k] = some (mrg l k) := by
  have hk := h.kl
  rw [w64 (by omega) (by omega)]
  unfold slices_Replace_int_int.f
  rw [if_pos ⟨by omega, rfl, by omega, rfl⟩]
  have e1 : ((k : Nat) : Int).toNat = k := by omega
  have e2 : (((k : Nat) : Int) + 2).toNat = k + 2 := by omega
  rw [e1, e2]; rfl

/-- What the loop of Steps comes to, from a list on. -/
def Goes (d : Int) (l : List Int) (n : Nat) : Prop := ∀ c : Nat, c + l.length < 4611686018427387904 → Ev (fun k => pick_Steps.l0 k d l (c : Int)) ((c + n : Nat) : Int)
theorem goes_stop (d : Int) (l : List Int) (hl : l.length < 4611686018) (hn : No l d) : Goes d l 0 := by
  intro c hc
  obtain ⟨r, hr, h⟩ := next_ev l (by omega) d
  rcases h with ⟨k, rfl, hk⟩ | ⟨rfl, _⟩
  · exact (hk.not hn).elim
  · refine Ev.succ ?_
    simp only [pick_Steps.l0]
    refine Ev.bind hr ?_
    simp only [Bool.false_eq_true, if_false]
    exact Ev.now _
theorem goes_step (d : Int) (l : List Int) (hl : l.length < 4611686018) (q n : Nat) (hq : At l d q) (he : Goes d (mrg l q) n) : Goes d l (n + 1) := by
  intro c hc
  have hkl := hq.kl
  have h1 := he (c + 1) (by rw [mrg_length hkl]; omega)
  obtain ⟨r, hr, h⟩ := next_ev l (by omega) d
  obtain rfl : r = ((q : Int), true) := by
    rcases h with ⟨k, rfl, hk⟩ | ⟨rfl, hn⟩
    · rw [hk.one hq]
    · exact (hq.not hn).elim
  have e : c + (n + 1) = c + 1 + n := by omega
  rw [e]
  have hw := succ_wrap (i := q) (by omega)
  have hwc := succ_wrap (i := c) (by omega)
  have h2 := replace_eq l d q hq (by omega)
  refine Ev.succ ?_
  simp only [pick_Steps.l0]
  refine Ev.bind hr ?_
  refine Ev.congr (fun k => ?_) h1
  dsimp only
  rw [if_pos rfl, if_pos (by omega), if_pos (by omega), pick_held_eq, Option.bind_some, if_pos (by omega), if_pos (by omega), pick_held_eq, Option.bind_some]
  simp only [hw, pr_wrap, h2, hwc, Option.bind_some]
theorem steps_loop (d : Int) (m : Nat) : ∀ l : List Int, l.length ≤ m → l.length < 4611686018 → ∃ n l', St d l n l' ∧ Goes d l n := by
  induction m with
  | zero => intro l hm hl; exact ⟨0, l, .stop (fun a b => by omega), goes_stop d l hl (fun a b => by omega)⟩
  | succ m ih =>
    intro l hm hl
    obtain ⟨r, hr, h⟩ := next_ev l (by omega) d
    rcases h with ⟨q, rfl, hq⟩ | ⟨rfl, hn⟩
    · have hkl := hq.kl
      obtain ⟨n, l', hs, he⟩ := ih (mrg l q) (by rw [mrg_length hkl]; omega) (by rw [mrg_length hkl]; omega)
      exact ⟨n + 1, l', .step hq hs, goes_step d l hl q n hq he⟩
    · exact ⟨0, l, .stop hn, goes_stop d l hl hn⟩
theorem steps_ev (d : Int) (l : List Int) (hl : l.length < 4611686018) : ∃ n l', St d l n l' ∧ Ev (fun k => pick_Steps.f k l d) (n : Int) := by
  obtain ⟨n, l', hs, he⟩ := steps_loop d l.length l (Nat.le_refl _) hl
  refine ⟨n, l', hs, ?_⟩
  have := he 0 (by omega)
  unfold pick_Steps.f slices_Clone_int_int.f
  rw [if_pos (by omega)]
  simp only [Option.bind_some]
  rwa [Nat.zero_add] at this

theorem merged_eq (l : List Int) (k : Nat) (hk : k < l.length - 1) (hl : l.length < 4611686018) : shaleref17_Merged.f l (k : Int) = some (mrg l k) := by
  have hw := succ_wrap (i := k) (by omega)
  have hw2 : wrap64 ((k : Int) + 2) = ((k + 2 : Nat) : Int) := by rw [w64 (by omega) (by omega)]; simp
  have e1 : ((k : Nat) : Int).toNat = k := by omega
  have e2 : (wrap64 ((k : Int) + 2)).toNat = k + 2 := by omega
  unfold shaleref17_Merged.f
  rw [Option.bind_some, if_pos (by omega), if_pos (by omega), if_pos (by simp; omega), Option.bind_some, if_pos (by omega), size_eq, Option.bind_some, if_pos (by omega), if_pos (by omega), size_eq, Option.bind_some, if_pos (by simp; omega), Option.bind_some, if_pos (by omega), if_pos (by omega), if_pos (by simp; omega), e1, e2, hw, pr_wrap]
  rfl
end Go.Proofs.Ytnjhncplodpafaa.Pure
