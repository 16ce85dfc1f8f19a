/- Plain facts of the pick functions, as printed: held sizes, pairs, the next pair. -/
import Derived.Test.YtnjhncplodpafaaPrint4
namespace Go.Proofs.Ytnjhncplodpafaa.Pure
set_option linter.unusedVariables false
set_option linter.unusedSimpArgs false
open Go.RowKit Go.Proofs.Ytnjhncplodpafaa.Print Go.Proofs.YtnjhncplodpafaaW.PrintWords Go.Proofs.YtnjhncplodpafaaW.PrintLast Go.Proofs.YtnjhncplodpafaaW.PrintMore

theorem w64 {x : Int} (h0 : -9223372036854775808 ≤ x) (h1 : x ≤ 9223372036854775807) : wrap64 x = x := by unfold wrap64; omega

theorem Ev.succ {α : Type} {g : Nat → Option α} {r : α} (h : Ev (fun k => g (k + 1)) r) : Ev g r := Ev.step (fun _ => rfl) h
theorem Ev.some {α : Type} {a r : α} (h : a = r) : Ev (fun _ => some a) r := h ▸ Ev.now a

def held (a : Int) : Int := if a < 0 then 0 else if a > 1048576 then 1048576 else a
theorem held_bd (a : Int) : 0 ≤ held a ∧ held a ≤ 1048576 := by unfold held; split <;> (try split) <;> omega
theorem pick_held_eq (a : Int) : pick_held.f a = some (held a) := by
  unfold pick_held.f held mx mn
  congr 1
  split <;> split <;> (try split) <;> (try split) <;> omega
theorem size_eq (a : Int) : shaleref17_Size.f a = some (held a) := by
  unfold shaleref17_Size.f held
  split
  · rfl
  · split <;> rfl

/-- The sum of neighbours i and i + 1. -/
def pr (l : List Int) (i : Nat) : Int := held (l.getD i 0) + held (l.getD (i + 1) 0)
theorem pr_bd (l : List Int) (i : Nat) : 0 ≤ pr l i ∧ pr l i ≤ 2097152 := by
  unfold pr
  have := held_bd (l.getD i 0); have := held_bd (l.getD (i + 1) 0); omega
def prs (l : List Int) : List Int := (List.range (l.length - 1)).map (pr l)
theorem prs_length (l : List Int) : (prs l).length = l.length - 1 := by simp [prs]
theorem prs_getD (l : List Int) (i : Nat) (h : i < l.length - 1) : (prs l).getD i 0 = pr l i := by
  simp [prs, List.getD_eq_getElem?_getD, h]
theorem rd_nat (l : List Int) (i : Nat) : rd l (i : Int) = l.getD i 0 := rfl

theorem pairs_loop (l : List Int) (hl : l.length < 17592186044416) (d : Nat) : ∀ (i : Nat), i + d = l.length - 1 →
    Ev (fun k => pick_Pairs.l0 k l ((List.range i).map (pr l)) ((l.length - 1 : Nat) : Int) (i : Int)) (prs l) := by
  induction d with
  | zero =>
    intro i hi
    refine Ev.step (f := fun _ => some ((List.range i).map (pr l))) (fun k => ?_) ?_
    · simp only [pick_Pairs.l0]; rw [if_neg (by omega)]
    · have : i = l.length - 1 := by omega
      subst this; exact Ev.now _
  | succ d ih =>
    intro i hi
    have h1 := ih (i + 1) (by omega)
    refine Ev.step (fun k => ?_) h1
    have hw : wrap64 ((i : Int) + 1) = ((i + 1 : Nat) : Int) := by rw [w64 (by omega) (by omega)]; simp
    have hp := pr_bd l i
    have hq : wrap64 (held (rd l (i : Int)) + held (rd l ((i + 1 : Nat) : Int))) = pr l i := by
      show wrap64 (pr l i) = pr l i
      exact w64 (by omega) (by omega)
    simp only [pick_Pairs.l0, pick_held_eq, Option.bind_some, hw, hq]
    rw [if_pos (by omega), if_pos (by omega), if_pos (by omega), if_pos (by omega), if_pos (by omega), if_pos (by simp; omega)]
    rw [List.range_succ, List.map_append]; rfl

theorem pairs_ev (l : List Int) (hl : l.length < 17592186044416) : Ev (fun k => pick_Pairs.f k l) (prs l) := by
  unfold pick_Pairs.f
  have h : mx (wrap64 ((l.length : Int) - 1)) 0 = ((l.length - 1 : Nat) : Int) := by
    unfold mx; rw [w64 (by omega) (by omega)]; split <;> omega
  rw [h]
  exact pairs_loop l hl (l.length - 1) 0 (by omega)

/-- m is a least one of a list. -/
theorem min_loop (l : List Int) (hl : l.length < 17592186044416) (d : Nat) : ∀ (i : Nat) (m : Int), i + d = l.length → (∃ j, j < l.length ∧ m = l.getD j 0) → (∀ j, j < i → m ≤ l.getD j 0) →
    ∃ r, Ev (fun k => slices_Min_int_int.l0 k l m (i : Int)) r ∧ (∃ j, j < l.length ∧ r = l.getD j 0) ∧ ∀ j, j < l.length → r ≤ l.getD j 0 := by
  induction d with
  | zero =>
    intro i m hi hj hm
    refine ⟨m, Ev.step (f := fun _ => some m) (fun k => ?_) (Ev.now _), hj, fun j h => hm j (by omega)⟩
    simp only [slices_Min_int_int.l0]; rw [if_neg (by omega)]
  | succ d ih =>
    intro i m hi hj hm
    have hw : wrap64 ((i : Int) + 1) = ((i + 1 : Nat) : Int) := by rw [w64 (by omega) (by omega)]; simp
    obtain ⟨r, hr, h⟩ := ih (i + 1) (mn m (l.getD i 0)) (by omega) (by
      unfold mn; split
      · exact ⟨i, by omega, rfl⟩
      · exact hj) (by
      intro j hj'
      by_cases e : j = i
      · subst e; unfold mn; split <;> omega
      · have := hm j (by omega); unfold mn; split <;> omega)
    refine ⟨r, Ev.step (fun k => ?_) hr, h⟩
    simp only [slices_Min_int_int.l0, hw, rd_nat]
    rw [if_pos (by omega), if_pos (by omega)]

theorem min_ev (l : List Int) (hl : l.length < 17592186044416) (h0 : 0 < l.length) :
    ∃ r, Ev (fun k => slices_Min_int_int.f k l) r ∧ (∃ j, j < l.length ∧ r = l.getD j 0) ∧ ∀ j, j < l.length → r ≤ l.getD j 0 := by
  obtain ⟨r, hr, h⟩ := min_loop l hl (l.length - 1) 1 (l.getD 0 0) (by omega) ⟨0, h0, rfl⟩ (fun j hj => by
    obtain rfl : j = 0 := by omega
    exact Int.le_refl _)
  refine ⟨r, Ev.congr (fun k => ?_) hr, h⟩
  unfold slices_Min_int_int.f
  rw [if_neg (by omega), if_pos (by omega)]
  rfl

theorem index_loop (l : List Int) (hl : l.length < 17592186044416) (v : Int) (d : Nat) : ∀ (i : Nat), i + d = l.length → (∃ j, i ≤ j ∧ j < l.length ∧ v = l.getD j 0) → (∀ j, j < i → v ≠ l.getD j 0) →
    ∃ r : Nat, Ev (fun k => slices_Index_int_int.l0 k l v (l.length : Int) (i : Int)) (r : Int) ∧ r < l.length ∧ v = l.getD r 0 ∧ ∀ j, j < r → v ≠ l.getD j 0 := by
  induction d with
  | zero => intro i hi ⟨j, h1, h2, _⟩; omega
  | succ d ih =>
    intro i hi hj hn
    have hw : wrap64 ((i : Int) + 1) = ((i + 1 : Nat) : Int) := by rw [w64 (by omega) (by omega)]; simp
    by_cases e : v = l.getD i 0
    · refine ⟨i, Ev.step (f := fun _ => some (i : Int)) (fun k => ?_) (Ev.now _), by omega, e, hn⟩
      simp only [slices_Index_int_int.l0]
      rw [if_pos (by omega), if_pos (by omega), if_pos (by omega), if_pos (show v = rd l (i : Int) from e)]
    · obtain ⟨j, h1, h2, h3⟩ := hj
      obtain ⟨r, hr, h⟩ := ih (i + 1) (by omega) ⟨j, by by_cases e' : j = i
                                                        · subst e'; exact absurd h3 e
                                                        · omega, h2, h3⟩ (by
        intro j hj
        by_cases e' : j = i
        · subst e'; exact e
        · exact hn j (by omega))
      refine ⟨r, Ev.step (fun k => ?_) hr, h⟩
      simp only [slices_Index_int_int.l0, hw]
      rw [if_pos (by omega), if_pos (by omega), if_pos (by omega), if_neg (show ¬ v = rd l (i : Int) from e)]

/-- What 'the next pair is at k' says. -/
structure At (l : List Int) (d : Int) (k : Nat) : Prop where
  d1 : 1 ≤ d
  d2 : d < l.length
  kl : k < l.length - 1
  le : pr l k ≤ 64
  least : ∀ i, i < l.length - 1 → pr l k ≤ pr l i
  first : ∀ i, i < k → pr l k < pr l i
/-- No pair may be merged. -/
def No (l : List Int) (d : Int) : Prop := 1 ≤ d → d < l.length → ∀ i, i < l.length - 1 → 64 < pr l i
theorem At.one {l : List Int} {d e : Int} {k j : Nat} (h : At l d k) (h' : At l e j) : k = j := by
  by_cases e1 : k < j
  · have := h'.first k e1; have := h.least j h'.kl; omega
  · by_cases e2 : j < k
    · have := h.first j e2; have := h'.least k h.kl; omega
    · omega
theorem At.not {l : List Int} {d : Int} {k : Nat} (h : At l d k) (hn : No l d) : False := by
  have := hn h.d1 h.d2 k h.kl; have := h.le; omega

theorem j0_false (k : Nat) (l : List Int) : pick_Next.j0 (k + 1) l false = (pick_Pairs.f k l).bind fun t => (slices_Min_int_int.f k t).bind fun m => if m > 64 then some (0, false) else (slices_Index_int_int.f k t m).bind fun i => some (i, true) := by
  simp only [pick_Next.j0]
  rw [if_neg (by simp)]
def Nx (l : List Int) (d : Int) (r : Int × Bool) : Prop := (∃ k : Nat, r = ((k : Int), true) ∧ At l d k) ∨ (r = (0, false) ∧ No l d)
theorem next_ev (l : List Int) (hl : l.length < 17592186044416) (d : Int) : ∃ r, Ev (fun k => pick_Next.f k l d) r ∧ Nx l d r := by
  have hf : ∀ c : Bool, (c = true → ¬ (1 ≤ d ∧ d < l.length)) → (c = false → 1 ≤ d ∧ d < l.length) → ∃ r, Ev (fun k => pick_Next.j0 k l c) r ∧ Nx l d r := by
    intro c h1 h0
    cases c with
    | true => exact ⟨(0, false), Ev.step (f := fun _ => some (0, false)) (fun k => by simp [pick_Next.j0]) (Ev.now _), .inr ⟨rfl, fun a b => absurd ⟨a, b⟩ (h1 rfl)⟩⟩
    | false =>
      obtain ⟨a, b⟩ := h0 rfl
      have hp := pairs_ev l hl
      obtain ⟨m, hm, ⟨j, hj, hmj⟩, hle⟩ := min_ev (prs l) (by rw [prs_length]; omega) (by rw [prs_length]; omega)
      rw [prs_length] at hj
      rw [prs_getD l j hj] at hmj
      have hle' : ∀ i, i < l.length - 1 → m ≤ pr l i := fun i hi => by
        have := hle i (by rw [prs_length]; exact hi)
        rwa [prs_getD l i hi] at this
      by_cases e : m > 64
      · refine ⟨(0, false), Ev.step (fun k => j0_false k l) ?_, .inr ⟨rfl, fun _ _ i hi => by have := hle' i hi; omega⟩⟩
        refine Ev.bind hp ?_
        refine Ev.bind hm ?_
        exact Ev.congr (f := fun _ => some (0, false)) (fun k => if_pos e) (Ev.now _)
      · obtain ⟨r, hr, hrl, hrv, hrn⟩ := index_loop (prs l) (by rw [prs_length]; omega) m (prs l).length 0 (by omega) ⟨j, by omega, by rw [prs_length]; exact hj, by rw [prs_getD l j hj]; exact hmj⟩ (fun j h => by omega)
        rw [prs_length] at hrl
        rw [prs_getD l r hrl] at hrv
        refine ⟨((r : Int), true), Ev.step (fun k => j0_false k l) ?_, .inl ⟨r, rfl, a, b, hrl, by omega, fun i hi => by have := hle' i hi; omega, fun i hi => ?_⟩⟩
        · refine Ev.bind hp ?_
          refine Ev.bind hm ?_
          refine Ev.congr (fun k => if_neg e) ?_
          exact Ev.bind (g := fun k => slices_Index_int_int.f k (prs l) m) hr (Ev.now _)
        have h2 := hrn i hi
        rw [prs_getD l i (by omega)] at h2
        have := hle' i (by omega)
        omega
  unfold pick_Next.f
  by_cases c : d < 1
  · obtain ⟨r, hr, h⟩ := hf true (fun _ => by omega) (by simp)
    exact ⟨r, Ev.congr (fun k => by rw [if_pos c]) hr, h⟩
  · obtain ⟨r, hr, h⟩ := hf (decide ((l.length : Int) ≤ d)) (fun h => by have := of_decide_eq_true h; omega) (fun h => by have := of_decide_eq_false h; omega)
    exact ⟨r, Ev.congr (fun k => by rw [if_neg c]) hr, h⟩

theorem awake_ev : Ev (fun k => shalelaw17_awake.f k) true := by
  obtain ⟨r, hr, h⟩ := next_ev [5, 1, 2] (by simp) 2
  have e : r = (1, true) := by
    have h1 : At [5, 1, 2] 2 1 := ⟨by decide, by decide, by decide, by decide, by decide, by decide⟩
    rcases h with ⟨k, rfl, hk⟩ | ⟨rfl, hn⟩
    · rw [hk.one h1]; rfl
    · exact (h1.not hn).elim
  subst e
  exact Ev.bind hr (Ev.congr (fun k => by rw [if_pos rfl]) (Ev.now _))
end Go.Proofs.Ytnjhncplodpafaa.Pure
