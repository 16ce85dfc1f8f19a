/- Sizes below 0 count as 0, great ones as too great: of neither the pair, or the number of merges, is another one: for every list of sizes and every depth (no condition). -/
import Derived.Test.YtnjhncplodpafaaPickC
import Derived.Test.YtnjhncplodpafaaPrint7
import Derived.DataShut
namespace Go.Proofs.Ytnjhncplodpafaa.Pure
set_option linter.unusedVariables false
set_option linter.unusedSimpArgs false
open Go.RowKit Go.Proofs.Ytnjhncplodpafaa.Print Go.Proofs.YtnjhncplodpafaaW.PrintWords Go.Proofs.YtnjhncplodpafaaW.PrintLast Go.Proofs.YtnjhncplodpafaaW.PrintMore

/-- Two sizes that count alike, or are both too great. -/
def E (x y : Int) : Prop := held x = held y ∨ (64 < held x ∧ 64 < held y)
structure Sim (l m : List Int) : Prop where
  len : l.length = m.length
  e : ∀ i, E (l.getD i 0) (m.getD i 0)
theorem Sim.symm {l m : List Int} (h : Sim l m) : Sim m l := ⟨h.len.symm, fun i => by
  rcases h.e i with h | h
  · exact .inl h.symm
  · exact .inr ⟨h.2, h.1⟩⟩
theorem Sim.pr {l m : List Int} (h : Sim l m) (i : Nat) : Pure.pr l i = Pure.pr m i ∨ (64 < Pure.pr l i ∧ 64 < Pure.pr m i) := by
  unfold Pure.pr
  have a := held_bd (l.getD i 0); have b := held_bd (l.getD (i + 1) 0); have c := held_bd (m.getD i 0); have d := held_bd (m.getD (i + 1) 0)
  rcases h.e i with h1 | h1 <;> rcases h.e (i + 1) with h2 | h2 <;> omega
theorem Sim.no {l m : List Int} (h : Sim l m) {d : Int} (hn : No l d) : No m d := fun a b i hi => by
  have := hn a (by rw [h.len]; exact b) i (by rw [h.len]; exact hi)
  rcases h.pr i with h | h <;> omega
theorem Sim.at {l m : List Int} (h : Sim l m) {d : Int} {k : Nat} (hk : At l d k) : At m d k ∧ Pure.pr l k = Pure.pr m k := by
  have h0 := hk.le
  have e : Pure.pr l k = Pure.pr m k := by rcases h.pr k with h | h <;> omega
  refine ⟨⟨hk.d1, by rw [← h.len]; exact hk.d2, by rw [← h.len]; exact hk.kl, by omega, fun i hi => ?_, fun i hi => ?_⟩, e⟩
  · have := hk.least i (by rw [h.len]; exact hi)
    rcases h.pr i with h | h <;> omega
  · have := hk.first i hi
    rcases h.pr i with h | h <;> omega
theorem Sim.mrg {l m : List Int} (h : Sim l m) {d : Int} {k : Nat} (hk : At l d k) : Sim (Pure.mrg l k) (Pure.mrg m k) := by
  obtain ⟨hm, e⟩ := h.at hk
  refine ⟨by rw [mrg_length hk.kl, mrg_length hm.kl, h.len], fun i => ?_⟩
  rw [mrg_getD hk.kl, mrg_getD hm.kl]
  split
  · exact h.e i
  · split
    · exact .inl (by rw [e])
    · exact h.e (i + 1)
theorem St.sim {d : Int} {l l' m m' : List Int} {n q : Nat} (h : St d l n l') (h' : St d m q m') (hs : Sim l m) : n = q := by
  induction h generalizing m m' q with
  | stop hn => cases h' with
    | stop _ => rfl
    | step ha _ => exact (ha.not (hs.no hn)).elim
  | step ha _ ih => cases h' with
    | stop hn => exact ((hs.at ha).1.not hn).elim
    | step ha' h' =>
      have := (hs.at ha).1.one ha'
      subst this
      have := ih h' (hs.mrg ha)
      omega
theorem Nx.sim {l m : List Int} {d : Int} {r s : Int × Bool} (h : Nx l d r) (h' : Nx m d s) (hs : Sim l m) : r = s := by
  rcases h with ⟨k, rfl, hk⟩ | ⟨rfl, hn⟩
  · rcases h' with ⟨j, rfl, hj⟩ | ⟨rfl, hn⟩
    · rw [(hs.at hk).1.one hj]
    · exact ((hs.at hk).1.not hn).elim
  · rcases h' with ⟨j, rfl, hj⟩ | ⟨rfl, _⟩
    · exact (hj.not (hs.no hn)).elim
    · rfl

/-- A size as the law turns it. -/
def turn (x : Int) : Int := if mx x 0 > 1000 then 1048576 else mx x 0
theorem turn_e (x : Int) : E x (turn x) := by
  unfold E turn held mx
  split <;> split <;> (try split) <;> (try split) <;> (try split) <;> omega
theorem turn_sim (l : List Int) : Sim l (l.map turn) := ⟨by simp, fun i => by
  by_cases hi : i < l.length
  · simp only [List.getD_eq_getElem?_getD, List.getElem?_map, List.getElem?_eq_getElem hi]
    exact turn_e _
  · simp only [List.getD_eq_getElem?_getD, List.getElem?_map, List.getElem?_eq_none (Nat.le_of_not_lt hi)]
    exact .inl rfl⟩

theorem same_loop (l : List Int) (hl : l.length ≤ 100) (d : Int) (q : Nat) : ∀ i : Nat, i + q = l.length → Ev (fun k => shalelaw17_PickSame.l0 k l d ((l.take i).map turn) (i : Int)) true := by
  induction q with
  | zero =>
    intro i hi
    obtain rfl : i = l.length := by omega
    rw [List.take_length]
    have hs := turn_sim l
    obtain ⟨r, hr, h⟩ := next_ev l (by omega) d
    obtain ⟨s, hr', h'⟩ := next_ev (l.map turn) (by simp; omega) d
    obtain ⟨n, l', hst, he⟩ := steps_ev d l (by omega)
    obtain ⟨m, m', hst', he'⟩ := steps_ev d (l.map turn) (by simp; omega)
    have e1 := h.sim h' hs
    subst e1
    have e2 := hst.sim hst' hs
    subst e2
    refine Ev.succ ?_
    simp only [shalelaw17_PickSame.l0]
    refine Ev.congr (fun k => if_neg (by omega)) ?_
    refine Ev.bind hr ?_
    refine Ev.bind hr' ?_
    refine Ev.congr (fun k => if_pos (by simp)) ?_
    refine Ev.congr (fun k => if_pos rfl) ?_
    refine Ev.bind he ?_
    refine Ev.bind he' ?_
    exact Ev.some (by simp)
  | succ q ih =>
    intro i hi
    have hw := succ_wrap (i := i) (by omega)
    have hr : rd l (i : Int) = l[i]'(by omega) := by
      show l.getD i 0 = _
      rw [List.getD_eq_getElem?_getD, List.getElem?_eq_getElem (by omega)]; rfl
    have h1 := ih (i + 1) (by omega)
    rw [List.take_succ_eq_append_getElem (by omega), List.map_append, List.map_singleton, ← hr] at h1
    refine Ev.step (fun k => ?_) h1
    have hlen : ((l.take i).map turn).length < 17592186044416 := by simp; omega
    simp only [shalelaw17_PickSame.l0]
    rw [if_pos (by omega), if_pos (by omega)]
    by_cases c : mx (rd l (i : Int)) 0 > 1000
    · rw [if_pos c, if_pos hlen, hw, show turn (rd l (i : Int)) = 1048576 from if_pos c]
    · rw [if_neg c, if_pos hlen, hw, show turn (rd l (i : Int)) = mx (rd l (i : Int)) 0 from if_neg c]

theorem PickSame : shalelaw17_PickSame.Pure := by
  intro l a _ hz hx ha
  refine Ev.rounds ?_
  refine Ev.bind awake_ev ?_
  by_cases c : (l.length : Int) > 100
  · refine Ev.congr (f := fun k => shalelaw17_PickSame.j0 k l a true) (fun k => ?_) ?_
    · rw [if_pos rfl, decide_eq_true c]
    · refine Ev.step (fun k => ?_) (Ev.bind awake_ev (Ev.now _))
      simp only [shalelaw17_PickSame.j0, if_true]
  · refine Ev.congr (f := fun k => shalelaw17_PickSame.j0 k l a false) (fun k => ?_) ?_
    · rw [if_pos rfl, decide_eq_false c]
    · have := same_loop l (by omega) (wrap64 (1 + (Int.tmod (wrap64 a) 9))) l.length 0 (by omega)
      refine Ev.step (fun k => ?_) this
      simp only [shalelaw17_PickSame.j0]
      rw [if_neg (by simp)]
      rfl
end Go.Proofs.Ytnjhncplodpafaa.Pure
