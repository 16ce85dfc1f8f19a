/- Behind as many merges as Steps tells there are no more layers than depth, or no two neighbours may be merged; no more are made than there are layers too many: for every list of sizes and every depth (no condition). -/
import Derived.Test.YtnjhncplodpafaaPickC
import Derived.DataShut
import Derived.Test.YtnjhncplodpafaaPrint6
namespace Go.Proofs.Ytnjhncplodpafaa.Pure
set_option linter.unusedVariables false
set_option linter.unusedSimpArgs false
open Go.RowKit Go.Proofs.Ytnjhncplodpafaa.Print Go.Proofs.YtnjhncplodpafaaW.PrintWords Go.Proofs.YtnjhncplodpafaaW.PrintLast Go.Proofs.YtnjhncplodpafaaW.PrintMore

theorem ends_tail (l : List Int) (hl : l.length < 4611686018) (c : Bool) (hc : c = false → ∀ i, i < l.length - 1 → 64 < pr l i) (m : Nat) : ∀ i : Nat, i + m = l.length → Ev (fun k => shalelaw17_PickEnds.l1 k l c (i : Int)) true := by
  have hs : ∀ (i : Nat), i ≤ l.length → (c = true ∨ ¬ i + 1 < l.length) → Ev (fun k => shalelaw17_PickEnds.l1 k l c (i : Int)) true := by
    intro i hi h
    have hw := succ_wrap (i := i) (by omega)
    have hj : Ev (fun k => shalelaw17_PickEnds.j5 k l c (i : Int) false) true := Ev.step (f := fun _ => some true) (fun k => by simp [shalelaw17_PickEnds.j5]) (Ev.now _)
    refine Ev.step (fun k => ?_) hj
    simp only [shalelaw17_PickEnds.l1, hw]
    rcases h with rfl | h
    · split <;> rfl
    · rw [if_neg (by omega)]
  induction m with
  | zero =>
    intro i hi
    exact hs i (by omega) (.inr (by omega))
  | succ m ih =>
    intro i hi
    by_cases h : c = true ∨ ¬ i + 1 < l.length
    · exact hs i (by omega) h
    · have h1 : c = false := by cases c <;> simp_all
      have h2 : i + 1 < l.length := by
        by_cases h' : i + 1 < l.length
        · exact h'
        · exact absurd (.inr h') h
      have hp := hc h1 i (by omega)
      have hw := succ_wrap (i := i) (by omega)
      have hj : Ev (fun k => shalelaw17_PickEnds.j5 k l c (i : Int) true) true := by
        refine Ev.step (fun k => ?_) (ih (i + 1) (by omega))
        simp only [shalelaw17_PickEnds.j5, size_eq, Option.bind_some, hw, pr_wrap]
        rw [if_pos (by simp), if_pos (by omega), if_pos (by omega), if_pos (by omega), if_pos (by omega), if_neg (by omega)]
      refine Ev.step (fun k => ?_) hj
      simp only [shalelaw17_PickEnds.l1, hw]
      rw [if_pos (by omega), h1]
      rfl

theorem ends_loop (l : List Int) (hl : l.length < 4611686018) (d : Int) (hd : -9223372036854775808 ≤ d ∧ d ≤ 9223372036854775807) (n : Nat) (hn1 : n ≤ l.length) (hn2 : 1 ≤ d → n = 0 ∨ d + n ≤ l.length) (q : Nat) : ∀ (i : Nat) (m l' : List Int), i + q = n → m.length ≤ l.length → St d m q l' → Ev (fun k => shalelaw17_PickEnds.l0 k l d (n : Int) m (i : Int)) true := by
  induction q with
  | zero =>
    intro i m l' hi hm hs
    have hno : No m d := by cases hs; assumption
    obtain ⟨r, hr, h⟩ := refNext_ev m (by omega) d
    rcases h with ⟨k, rfl, hk⟩ | ⟨rfl, _⟩
    · exact (hk.not hno).elim
    · have hj3 : ∀ c : Bool, (c = false → ∀ i, i < m.length - 1 → 64 < pr m i) → Ev (fun k => shalelaw17_PickEnds.j3 k m c) true := fun c hc => by
        refine Ev.succ ?_
        simp only [shalelaw17_PickEnds.j3]
        exact ends_tail m (by omega) c hc m.length 0 (by omega)
      have hj2 : Ev (fun k => shalelaw17_PickEnds.j2 k d m false) true := by
        by_cases h1 : (m.length : Int) ≤ d
        · refine Ev.step (fun k => ?_) (hj3 true (by simp))
          simp only [shalelaw17_PickEnds.j2]
          rw [if_neg (by simp), if_pos h1]
        · refine Ev.step (fun k => ?_) (hj3 (decide (d < 1)) (fun hc => hno (by have := of_decide_eq_false hc; omega) (by omega)))
          simp only [shalelaw17_PickEnds.j2]
          rw [if_neg (by simp), if_neg h1]
      refine Ev.step (f := fun k => (shaleref17_Next.f k m d).bind fun t => if t ≥ 0 then shalelaw17_PickEnds.j2 k d m true else if d ≥ 1 then shalelaw17_PickEnds.j2 k d m (decide ((n : Int) > (mx (wrap64 ((l.length : Int) - d)) 0))) else shalelaw17_PickEnds.j2 k d m false) (fun k => ?_) ?_
      · simp only [shalelaw17_PickEnds.l0]
        rw [if_neg (by omega)]
      · refine Ev.bind hr ?_
        refine Ev.congr (fun k => ?_) hj2
        rw [if_neg (by omega)]
        by_cases h1 : d ≥ 1
        · rw [if_pos h1, decide_eq_false]
          have := hn2 h1
          rw [w64 (by omega) (by omega)]
          unfold mx
          split <;> omega
        · rw [if_neg h1]
  | succ q ih =>
    intro i m l' hi hm hs
    cases hs with
    | step ha hs =>
      rename_i k0
      obtain ⟨r, hr, h⟩ := refNext_ev m (by omega) d
      rcases h with ⟨k, rfl, hk⟩ | ⟨rfl, hn⟩
      · obtain rfl := hk.one ha
        have hw := succ_wrap (i := i) (by omega)
        have hkl := hk.kl
        refine Ev.step (f := fun k => (shaleref17_Next.f k m d).bind fun t => if t < 0 then some false else (shaleref17_Merged.f m t).bind fun t2 => shalelaw17_PickEnds.l0 k l d (n : Int) t2 (wrap64 ((i : Int) + 1))) (fun k => ?_) ?_
        · simp only [shalelaw17_PickEnds.l0]
          rw [if_pos (by omega)]
        · refine Ev.bind hr ?_
          refine Ev.congr (fun k' => ?_) (ih (i + 1) (mrg m k) l' (by omega) (by rw [mrg_length hkl]; omega) hs)
          rw [if_neg (by omega), merged_eq m k hkl (by omega)]
          simp only [Option.bind_some, hw]
      · exact (ha.not hn).elim

theorem PickEnds : shalelaw17_PickEnds.Pure := by
  intro l d _ hz _ hd
  have hd' : (-9223372036854775808 : Int) ≤ d ∧ d ≤ 9223372036854775807 := (Lit.wf_int_iff .i64 d).1 hd
  refine Ev.rounds ?_
  refine Ev.bind awake_ev ?_
  by_cases c : (l.length : Int) > 100
  · refine Ev.congr (f := fun k => shalelaw17_PickEnds.j0 k l d true) (fun k => ?_) ?_
    · rw [if_pos rfl, decide_eq_true c]
    · refine Ev.step (fun k => ?_) (Ev.bind awake_ev (Ev.now _))
      simp only [shalelaw17_PickEnds.j0, if_true]
  · refine Ev.congr (f := fun k => shalelaw17_PickEnds.j0 k l d false) (fun k => ?_) ?_
    · rw [if_pos rfl, decide_eq_false c]
    · obtain ⟨n, l', hs, he⟩ := steps_ev d l (by omega)
      refine Ev.step (f := fun k => (pick_Steps.f k l d).bind fun t => shalelaw17_PickEnds.l0 k l d t l 0) (fun k => ?_) ?_
      · simp only [shalelaw17_PickEnds.j0, Option.bind_some, List.nil_append, List.length_nil]
        rw [if_neg (by simp)]
        congr 1
        funext t
        rw [if_pos (by omega)]
      · refine Ev.bind he ?_
        have hlen := hs.len
        exact ends_loop l (by omega) d hd' n (by omega) (fun h1 => by rcases hs.most h1 with h | h <;> omega) n 0 l l' (by omega) (Nat.le_refl _) hs
end Go.Proofs.Ytnjhncplodpafaa.Pure
