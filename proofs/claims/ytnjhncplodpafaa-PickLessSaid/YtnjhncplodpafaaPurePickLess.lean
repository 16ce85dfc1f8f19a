/- The next pair has no more entries than any other one; of a greater depth there is a pair only where there is one of a lesser, and the same: for every list of sizes and every depth (no condition). -/
import Derived.Test.YtnjhncplodpafaaPickA
import Derived.DataShut
import Derived.Test.YtnjhncplodpafaaPrint4
namespace Go.Proofs.Ytnjhncplodpafaa.Pure
set_option linter.unusedVariables false
set_option linter.unusedSimpArgs false
open Go.RowKit Go.Proofs.Ytnjhncplodpafaa.Print Go.Proofs.YtnjhncplodpafaaW.PrintWords Go.Proofs.YtnjhncplodpafaaW.PrintLast Go.Proofs.YtnjhncplodpafaaW.PrintMore

theorem less_none (l : List Int) (x : Int) (i : Nat) : Ev (fun k => shalelaw17_PickLess.l0 k x false (prs l) (i : Int)) true := by
  have h : Ev (fun k => shalelaw17_PickLess.j3 k x false (prs l) (i : Int) false) true := Ev.step (f := fun _ => some true) (fun k => by simp [shalelaw17_PickLess.j3]) (Ev.now _)
  exact Ev.step (fun k => by simp [shalelaw17_PickLess.l0]) h
theorem less_loop (l : List Int) (hl : l.length < 17592186044416) (d : Int) (q : Nat) (hq : At l d q) (m : Nat) : ∀ i : Nat, i + m = l.length - 1 → Ev (fun k => shalelaw17_PickLess.l0 k (q : Int) true (prs l) (i : Int)) true := by
  have hrq : rd (prs l) (q : Int) = pr l q := prs_getD l q hq.kl
  have hkl := hq.kl
  have hd : ∀ (i : Nat) (b : Bool), b = decide ((i : Int) < (prs l).length) → Ev (fun k => shalelaw17_PickLess.j3 k (q : Int) true (prs l) (i : Int) b) true → Ev (fun k => shalelaw17_PickLess.l0 k (q : Int) true (prs l) (i : Int)) true := fun i b hb h => Ev.step (fun k => by simp only [shalelaw17_PickLess.l0, if_true]; rw [← hb]) h
  induction m with
  | zero =>
    intro i hi
    refine hd i false (by rw [prs_length]; exact (decide_eq_false (by omega)).symm) (Ev.step (f := fun _ => some true) (fun k => ?_) (Ev.now _))
    simp only [shalelaw17_PickLess.j3, hrq, prs_length]
    rw [if_neg (by simp), if_pos trivial, if_pos (by omega), if_pos (by omega), decide_eq_true hq.le]
  | succ m ih =>
    intro i hi
    have hw : wrap64 ((i : Int) + 1) = ((i + 1 : Nat) : Int) := by rw [w64 (by omega) (by omega)]; simp
    have hr : rd (prs l) (i : Int) = pr l i := prs_getD l i (by omega)
    have h1 := hq.least i (by omega)
    refine hd i true (by rw [prs_length]; exact (decide_eq_true (by omega)).symm) (Ev.step (fun k => ?_) (ih (i + 1) (by omega)))
    simp only [shalelaw17_PickLess.j3, hrq, hr, prs_length, hw]
    rw [if_pos (by simp), if_pos (by omega), if_pos (by omega), if_pos (by omega), if_pos (by omega), if_neg (by omega)]
    by_cases e : pr l i = pr l q
    · rw [if_pos e, if_neg (fun c => by have := hq.first i (by omega); omega)]
    · rw [if_neg e]

theorem PickLess : shalelaw17_PickLess.Pure := by
  intro l a _ hz _ ha
  have hl : l.length < 17592186044416 := by omega
  obtain ⟨d, hd⟩ : ∃ d, d = wrap64 (1 + (Int.tmod (wrap64 a) 9)) := ⟨_, rfl⟩
  have hdb : 1 ≤ d ∧ d ≤ 9 := by
    have ha' : (0 : Int) ≤ a ∧ a ≤ 255 := (Lit.wf_int_iff .u8 a).1 ha
    rw [hd, w64 (x := a) (by omega) (by omega), Int.tmod_eq_emod_of_nonneg (by omega), w64 (by omega) (by omega)]
    omega
  refine Ev.rounds ?_
  refine Ev.bind awake_ev ?_
  by_cases c : (l.length : Int) > 100
  · refine Ev.congr (f := fun k => shalelaw17_PickLess.j0 k l a true) (fun k => ?_) ?_
    · rw [if_pos rfl, decide_eq_true c]
    · refine Ev.step (fun k => ?_) (Ev.bind awake_ev (Ev.now _))
      simp only [shalelaw17_PickLess.j0, if_true]
  · refine Ev.congr (f := fun k => shalelaw17_PickLess.j0 k l a false) (fun k => ?_) ?_
    · rw [if_pos rfl, decide_eq_false c]
    · obtain ⟨r, hr, h⟩ := next_ev l hl d
      obtain ⟨r', hr', h'⟩ := next_ev l hl (d + 1)
      refine Ev.step (f := fun k => (pick_Next.f k l d).bind fun bt144 => ((pick_Next.f k l (d + 1)).bind fun bt146 => ((pick_Pairs.f k l).bind fun t148 => (if bt146.2 = true then (if bt144.2 = true then (shalelaw17_PickLess.j1 k bt144.1 bt144.2 t148 (bt146.1 != bt144.1)) else (shalelaw17_PickLess.j1 k bt144.1 bt144.2 t148 true)) else (shalelaw17_PickLess.j1 k bt144.1 bt144.2 t148 false))))) (fun k => by simp only [shalelaw17_PickLess.j0]; rw [if_neg (by simp), ← hd, w64 (x := d + 1) (by omega) (by omega)]) ?_
      refine Ev.bind hr ?_
      refine Ev.bind hr' ?_
      refine Ev.bind (pairs_ev l hl) ?_
      have hgo : Ev (fun k => shalelaw17_PickLess.l0 k r.1 r.2 (prs l) 0) true := by
        rcases h with ⟨q, rfl, hq⟩ | ⟨rfl, hn⟩
        · exact less_loop l hl d q hq (l.length - 1) 0 (by omega)
        · exact less_none l 0 0
      have hj : Ev (fun k => shalelaw17_PickLess.j1 k r.1 r.2 (prs l) false) true := Ev.step (fun k => by simp [shalelaw17_PickLess.j1]) hgo
      refine Ev.congr (fun k => ?_) hj
      rcases h' with ⟨q', rfl, hq'⟩ | ⟨rfl, hn'⟩
      · have hq : At l d q' := ⟨hdb.1, by have := hq'.d2; omega, hq'.kl, hq'.le, hq'.least, hq'.first⟩
        rcases h with ⟨q, rfl, hq2⟩ | ⟨rfl, hn⟩
        · rw [hq2.one hq]; simp
        · exact (hq.not hn).elim
      · simp
end Go.Proofs.Ytnjhncplodpafaa.Pure
