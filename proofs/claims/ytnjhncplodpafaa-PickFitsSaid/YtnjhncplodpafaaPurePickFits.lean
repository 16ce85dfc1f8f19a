/- Layers that have all together no more than 64 entries are merged down to the depth: for every list of sizes and every depth (no condition). -/
import Derived.Test.YtnjhncplodpafaaPickC
import Derived.Test.YtnjhncplodpafaaPrint7
import Derived.DataShut
namespace Go.Proofs.Ytnjhncplodpafaa.Pure
set_option linter.unusedVariables false
set_option linter.unusedSimpArgs false
open Go.RowKit Go.Proofs.Ytnjhncplodpafaa.Print Go.Proofs.YtnjhncplodpafaaW.PrintWords Go.Proofs.YtnjhncplodpafaaW.PrintLast Go.Proofs.YtnjhncplodpafaaW.PrintMore

theorem sum_getD (l : List Int) (h0 : ∀ x ∈ l, 0 ≤ x) : 0 ≤ l.sum ∧ ∀ i, l.getD i 0 ≤ l.sum ∧ 0 ≤ l.getD i 0 := by
  induction l with
  | nil => simp
  | cons x l ih =>
    obtain ⟨h1, h2⟩ := ih (fun y hy => h0 y (List.mem_cons_of_mem _ hy))
    have hx := h0 x List.mem_cons_self
    refine ⟨by simp; omega, fun i => ?_⟩
    cases i with
    | zero => simp; omega
    | succ i => have := h2 i; simp [List.sum_cons] at this ⊢; omega
theorem sum_two (l : List Int) (h0 : ∀ x ∈ l, 0 ≤ x) (i : Nat) (hi : i < l.length - 1) : l.sum = (l.take i).sum + (l.getD i 0 + l.getD (i + 1) 0) + (l.drop (i + 2)).sum := by
  induction l generalizing i with
  | nil => simp at hi
  | cons x l ih =>
    cases i with
    | zero =>
      cases l with
      | nil => simp at hi
      | cons y l => simp; omega
    | succ i =>
      have := ih (fun y hy => h0 y (List.mem_cons_of_mem _ hy)) i (by simp at hi; omega)
      simp [List.sum_cons] at this ⊢
      omega
/-- Small sizes: none below 0, 64 in all. -/
def Sm (l : List Int) : Prop := (∀ x ∈ l, 0 ≤ x) ∧ l.sum ≤ 64
theorem sum_pos {l : List Int} (h0 : ∀ x ∈ l, 0 ≤ x) : 0 ≤ l.sum := (sum_getD l h0).1
theorem Sm.pr {l : List Int} (h : Sm l) {i : Nat} (hi : i < l.length - 1) : pr l i = l.getD i 0 + l.getD (i + 1) 0 ∧ pr l i ≤ 64 := by
  have h1 := (sum_getD l h.1).2 i; have h2 := (sum_getD l h.1).2 (i + 1); have h3 := h.2
  have h4 := sum_two l h.1 i hi
  have h5 := sum_pos (l := l.take i) (fun x hx => h.1 x (List.mem_of_mem_take hx))
  have h6 := sum_pos (l := l.drop (i + 2)) (fun x hx => h.1 x (List.mem_of_mem_drop hx))
  have e : ∀ x : Int, 0 ≤ x → x ≤ 64 → held x = x := fun x a b => by unfold held; rw [if_neg (by omega), if_neg (by omega)]
  unfold Pure.pr
  rw [e _ (by omega) (by omega), e _ (by omega) (by omega)]
  omega
theorem Sm.mrg {l : List Int} (h : Sm l) {k : Nat} (hk : k < l.length - 1) : Sm (mrg l k) := by
  have h1 := h.pr hk
  have h2 := sum_two l h.1 k hk
  have h3 := (sum_getD l h.1).2 k; have h4 := (sum_getD l h.1).2 (k + 1); have h5 := h.2
  refine ⟨fun x hx => ?_, ?_⟩
  · unfold Pure.mrg at hx
    rw [List.mem_append, List.mem_append, List.mem_singleton] at hx
    rcases hx with (hx | rfl) | hx
    · exact h.1 x (List.mem_of_mem_take hx)
    · omega
    · exact h.1 x (List.mem_of_mem_drop hx)
  · unfold Pure.mrg
    rw [List.sum_append, List.sum_append, List.sum_singleton]
    omega
theorem St.small {d : Int} {l l' : List Int} {n : Nat} (h : St d l n l') (hd : 1 ≤ d) (hs : Sm l) : (n : Int) = if d < l.length then l.length - d else 0 := by
  induction h with
  | stop hn =>
    rename_i l
    by_cases c : d < l.length
    · exfalso
      have := hn hd c 0 (by omega)
      have := (hs.pr (i := 0) (by omega)).2
      omega
    · rw [if_neg c]; rfl
  | step ha h ih =>
    rename_i l k n l'
    have h1 := ih (hs.mrg ha.kl)
    have h2 := mrg_length ha.kl
    have h3 := ha.d2; have h4 := ha.kl
    rw [h2] at h1
    rw [if_pos h3]
    split at h1 <;> omega

theorem fits_loop (x0 : List Int) (a : Int) (d : Int) (hx : ∀ x ∈ x0, 0 ≤ x ∧ x ≤ 255) (hl : x0.length ≤ 60) (hd : d = wrap64 (1 + (Int.tmod (wrap64 a) 5))) (hd1 : 1 ≤ d ∧ d ≤ 5) (q : Nat) : ∀ (i : Nat) (m : List Int), i + q = x0.length → m.length = i → Sm m → Ev (fun k => shalelaw17_PickFits.l0 k x0 a m m.sum (i : Int)) true := by
  induction q with
  | zero =>
    intro i m hi hm hs
    obtain ⟨n, l', hst, he⟩ := steps_ev d m (by omega)
    have h1 := hst.small hd1.1 hs
    refine Ev.step (f := fun k => (pick_Steps.f k m d).bind fun t => some (t == (mx (wrap64 ((m.length : Int) - d)) 0))) (fun k => ?_) ?_
    · simp only [shalelaw17_PickFits.l0]
      rw [if_neg (by omega), ← hd]
    · refine Ev.bind he (Ev.some ?_)
      rw [beq_iff_eq, h1, w64 (by omega) (by omega)]
      unfold mx
      split <;> split <;> omega
  | succ q ih =>
    intro i m hi hm hs
    have hw := succ_wrap (i := i) (by omega)
    obtain ⟨v, hv⟩ : ∃ v, v = Int.tmod (wrap64 (rd x0 (i : Int))) 8 := ⟨_, rfl⟩
    have hr : 0 ≤ rd x0 (i : Int) ∧ rd x0 (i : Int) ≤ 255 := by
      have : rd x0 (i : Int) = x0[i]'(by omega) := by
        show x0.getD i 0 = _
        rw [List.getD_eq_getElem?_getD, List.getElem?_eq_getElem (by omega)]; rfl
      rw [this]
      exact hx _ (List.getElem_mem _)
    have hvb : 0 ≤ v ∧ v ≤ 7 := by
      rw [hv, w64 (by omega) (by omega), Int.tmod_eq_emod_of_nonneg (by omega)]
      omega
    have hsp := sum_pos hs.1
    have hs2 := hs.2
    have hws : wrap64 (m.sum + v) = m.sum + v := w64 (by omega) (by omega)
    have hws0 : wrap64 (m.sum + 0) = m.sum + 0 := w64 (by omega) (by omega)
    by_cases c : m.sum + v > 64
    · have := ih (i + 1) (m ++ [0]) (by omega) (by simp; omega) ⟨fun x hx => by
        rw [List.mem_append, List.mem_singleton] at hx
        rcases hx with hx | rfl
        · exact hs.1 x hx
        · omega, by rw [List.sum_append, List.sum_singleton]; omega⟩
      rw [List.sum_append, List.sum_singleton] at this
      refine Ev.step (fun k => ?_) this
      simp only [shalelaw17_PickFits.l0]
      rw [← hv, if_pos (by omega), if_pos (by omega), if_pos (by omega), if_pos (by omega), hws0, hw]
    · have := ih (i + 1) (m ++ [v]) (by omega) (by simp; omega) ⟨fun x hx => by
        rw [List.mem_append, List.mem_singleton] at hx
        rcases hx with hx | rfl
        · exact hs.1 x hx
        · omega, by rw [List.sum_append, List.sum_singleton]; omega⟩
      rw [List.sum_append, List.sum_singleton] at this
      refine Ev.step (fun k => ?_) this
      simp only [shalelaw17_PickFits.l0]
      rw [← hv, if_pos (by omega), if_pos (by omega), if_neg (by omega), if_pos (by omega), hws, hw]

theorem PickFits : shalelaw17_PickFits.Pure := by
  intro l a _ hz hx ha
  have ha' : (0 : Int) ≤ a ∧ a ≤ 255 := (Lit.wf_int_iff .u8 a).1 ha
  have hx' : ∀ x ∈ l, (0 : Int) ≤ x ∧ x ≤ 255 := fun x h => (Lit.wf_int_iff .u8 x).1 (hx x h)
  obtain ⟨d, hd⟩ : ∃ d, d = wrap64 (1 + (Int.tmod (wrap64 a) 5)) := ⟨_, rfl⟩
  have hdb : 1 ≤ d ∧ d ≤ 5 := by
    rw [hd, w64 (x := a) (by omega) (by omega), Int.tmod_eq_emod_of_nonneg (by omega), w64 (by omega) (by omega)]
    omega
  refine Ev.rounds ?_
  refine Ev.bind awake_ev ?_
  by_cases c : (l.length : Int) > 60
  · refine Ev.congr (f := fun k => shalelaw17_PickFits.j0 k l a true) (fun k => ?_) ?_
    · rw [if_pos rfl, decide_eq_true c]
    · refine Ev.step (fun k => ?_) (Ev.bind awake_ev (Ev.now _))
      simp only [shalelaw17_PickFits.j0, if_true]
  · refine Ev.congr (f := fun k => shalelaw17_PickFits.j0 k l a false) (fun k => ?_) ?_
    · rw [if_pos rfl, decide_eq_false c]
    · have := fits_loop l a d hx' (by omega) hd hdb l.length 0 [] (by omega) rfl ⟨by simp, by simp⟩
      refine Ev.step (fun k => ?_) this
      simp only [shalelaw17_PickFits.j0]
      rw [if_neg (by simp)]
      rfl
end Go.Proofs.Ytnjhncplodpafaa.Pure
