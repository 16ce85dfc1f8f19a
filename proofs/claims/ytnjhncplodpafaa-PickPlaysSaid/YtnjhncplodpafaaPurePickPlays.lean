/- The next pair, and how many entries neighbours have, are the document's: for every list of sizes and every depth (no condition). -/
import Derived.Test.YtnjhncplodpafaaPickB
import Derived.Test.YtnjhncplodpafaaPrint3
namespace Go.Proofs.Ytnjhncplodpafaa.Pure
set_option linter.unusedVariables false
set_option linter.unusedSimpArgs false
open Go.RowKit Go.Proofs.Ytnjhncplodpafaa.Print Go.Proofs.YtnjhncplodpafaaW.PrintWords Go.Proofs.YtnjhncplodpafaaW.PrintLast Go.Proofs.YtnjhncplodpafaaW.PrintMore

theorem plays_loop (l : List Int) (hl : l.length < 17592186044416) (m : Nat) : ∀ i : Nat, i + m = l.length - 1 → Ev (fun k => shalelaw17_PickPlays.l0 k l (prs l) (i : Int)) true := by
  induction m with
  | zero =>
    intro i hi
    refine Ev.step (f := fun _ => some true) (fun k => ?_) (Ev.now _)
    simp only [shalelaw17_PickPlays.l0, prs_length]
    rw [if_neg (by omega)]
  | succ m ih =>
    intro i hi
    have hw := succ_wrap (i := i) (by omega)
    have hp := pr_wrap l i
    have hr : rd (prs l) (i : Int) = pr l i := prs_getD l i (by omega)
    refine Ev.step (fun k => ?_) (ih (i + 1) (by omega))
    simp only [shalelaw17_PickPlays.l0, size_eq, Option.bind_some, hw, hp, hr, prs_length]
    rw [if_pos (by omega), if_pos (by omega), if_pos (by omega), if_pos (by omega), if_pos (by omega), if_pos trivial]

theorem PickPlays : shalelaw17_PickPlays.Pure := by
  intro l d _ hz _ _
  have hl : l.length < 17592186044416 := by omega
  refine Ev.rounds ?_
  refine Ev.bind awake_ev ?_
  by_cases c : (l.length : Int) > 100
  · refine Ev.congr (f := fun k => shalelaw17_PickPlays.j0 k l d true) (fun k => ?_) ?_
    · rw [if_pos rfl, decide_eq_true c]
    · refine Ev.step (fun k => ?_) (Ev.bind awake_ev (Ev.now _))
      simp only [shalelaw17_PickPlays.j0, if_true]
  · refine Ev.congr (f := fun k => shalelaw17_PickPlays.j0 k l d false) (fun k => ?_) ?_
    · rw [if_pos rfl, decide_eq_false c]
    · obtain ⟨r, hr, h⟩ := next_ev l hl d
      obtain ⟨n, hn, h'⟩ := refNext_ev l hl d
      have hj : Ev (fun k => shalelaw17_PickPlays.j1 k l (prs l) false) true := Ev.step (fun k => by simp [shalelaw17_PickPlays.j1]) (plays_loop l hl (l.length - 1) 0 (by omega))
      have hlen : (((prs l).length : Int) != (mx (wrap64 ((l.length : Int) - 1)) 0)) = false := by
        rw [prs_length]; unfold mx; rw [w64 (by omega) (by omega)]; split <;> simp <;> omega
      refine Ev.step (f := fun k => (pick_Next.f k l d).bind fun bt131 => ((shaleref17_Next.f k l d).bind fun t133 => ((pick_Pairs.f k l).bind fun t134 => (if (bt131.2 != (decide (t133 ≥ 0))) = true then (shalelaw17_PickPlays.j1 k l t134 true) else (if bt131.2 = true then (if bt131.1 = t133 then (shalelaw17_PickPlays.j1 k l t134 ((t134.length : Int) != (mx (wrap64 ((l.length : Int) - 1)) 0))) else (shalelaw17_PickPlays.j1 k l t134 true)) else (if bt131.1 = 0 then (shalelaw17_PickPlays.j1 k l t134 ((t134.length : Int) != (mx (wrap64 ((l.length : Int) - 1)) 0))) else (shalelaw17_PickPlays.j1 k l t134 true))))))) (fun k => by simp only [shalelaw17_PickPlays.j0]; rw [if_neg (by simp)]) ?_
      refine Ev.bind hr ?_
      refine Ev.bind hn ?_
      refine Ev.bind (pairs_ev l hl) ?_
      rcases next_both h h' with ⟨k, rfl, rfl, hk⟩ | ⟨rfl, rfl, hk⟩
      · refine Ev.congr (fun k => ?_) hj
        rw [if_neg (by simp), if_pos rfl, if_pos rfl, hlen]
      · refine Ev.congr (fun k => ?_) hj
        rw [if_neg (by simp), if_neg (by simp), if_pos rfl, hlen]
end Go.Proofs.Ytnjhncplodpafaa.Pure
