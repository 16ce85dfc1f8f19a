/- Of more depth no more merges are made; of none, none: for every list of sizes and every depth (no condition). -/
import Derived.Test.YtnjhncplodpafaaPickC
import Derived.Test.YtnjhncplodpafaaPrint7
import Derived.DataShut
namespace Go.Proofs.Ytnjhncplodpafaa.Pure
set_option linter.unusedVariables false
set_option linter.unusedSimpArgs false
open Go.RowKit Go.Proofs.Ytnjhncplodpafaa.Print Go.Proofs.YtnjhncplodpafaaW.PrintWords Go.Proofs.YtnjhncplodpafaaW.PrintLast Go.Proofs.YtnjhncplodpafaaW.PrintMore

theorem St.less {d : Int} {l l' l'' : List Int} {n m : Nat} (h : St (d + 1) l m l'') (h' : St d l n l') (hd : 1 ≤ d) : m ≤ n := by
  induction h generalizing n l' with
  | stop _ => omega
  | step ha h ih =>
    have hb : ∀ {l k}, At l (d + 1) k → At l d k := fun h => ⟨hd, by have := h.d2; omega, h.kl, h.le, h.least, h.first⟩
    cases h' with
    | stop hn => exact ((hb ha).not hn).elim
    | step ha' h' =>
      have := (hb ha).one ha'
      subst this
      have := ih h'
      omega

theorem PickCounts : shalelaw17_PickCounts.Pure := by
  intro l d _ hz _ hd
  have hd' : (-9223372036854775808 : Int) ≤ d ∧ d ≤ 9223372036854775807 := (Lit.wf_int_iff .i64 d).1 hd
  refine Ev.rounds ?_
  refine Ev.bind awake_ev ?_
  by_cases c : (l.length : Int) > 100
  · refine Ev.congr (f := fun k => shalelaw17_PickCounts.j0 k l d true) (fun k => ?_) ?_
    · rw [if_pos rfl, decide_eq_true c]
    · refine Ev.step (fun k => ?_) (Ev.bind awake_ev (Ev.now _))
      simp only [shalelaw17_PickCounts.j0, if_true]
  · refine Ev.congr (f := fun k => shalelaw17_PickCounts.j0 k l d false) (fun k => ?_) ?_
    · rw [if_pos rfl, decide_eq_false c]
    · obtain ⟨n, l', hs, he⟩ := steps_ev d l (by omega)
      have hlen := hs.len
      refine Ev.succ ?_
      simp only [shalelaw17_PickCounts.j0]
      refine Ev.congr (fun k => if_neg (by simp)) ?_
      refine Ev.bind he ?_
      by_cases h1 : d < 1
      · obtain ⟨rfl, _⟩ := hs.one (.stop (fun a _ => by omega))
        exact Ev.congr (fun k => if_pos h1) (Ev.some rfl)
      · refine Ev.congr (fun k => if_neg h1) ?_
        by_cases h2 : d ≥ l.length
        · obtain ⟨rfl, _⟩ := hs.one (.stop (fun _ b => by omega))
          exact Ev.congr (fun k => if_pos h2) (Ev.some rfl)
        · refine Ev.congr (fun k => if_neg h2) ?_
          refine Ev.congr (fun k => if_pos (by omega)) ?_
          have hw : wrap64 (d + 1) = d + 1 := w64 (by omega) (by omega)
          rw [hw]
          obtain ⟨m, l'', hs2, he2⟩ := steps_ev (d + 1) l (by omega)
          refine Ev.bind he2 ?_
          have hle := hs2.less hs (by omega)
          refine Ev.congr (fun k => if_pos (by omega)) (Ev.some ?_)
          rw [decide_eq_true_iff, w64 (by omega) (by omega)]
          rcases hs.most (by omega) with h | h <;> omega
end Go.Proofs.Ytnjhncplodpafaa.Pure
