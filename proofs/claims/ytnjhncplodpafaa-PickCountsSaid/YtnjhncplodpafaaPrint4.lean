-- Written by pr.py out of the translation (no hand typed it); Lean checks it.
import Derived.Test.YtnjhncplodpafaaPrint0
import Derived.Test.YtnjhncplodpafaaPrint1
namespace Go.Proofs.Ytnjhncplodpafaa.Print
open Go.RowKit Go.Proofs.YtnjhncplodpafaaW.PrintWords Go.Proofs.YtnjhncplodpafaaW.PrintLast Go.Proofs.YtnjhncplodpafaaW.PrintMore
attribute [local go_sem] max2_int min2_int max_two min_two max_three min_three max_four min_four   -- for this text's walks alone
set_option linter.unusedVariables false
set_option linter.unusedSimpArgs false

/-! ### shalelaw17_PickLess: function 4 -/
mutual
def shalelaw17_PickLess.j0 : Nat → List Int → Int → Bool → Option (Bool)
  | 0, _, _, _ => none
  | k + 1, x0, x1, x18 => if x18 = true then ((shalelaw17_awake.f k).bind fun t143 => (some t143)) else ((pick_Next.f k x0 (wrap64 (1 + (Int.tmod (wrap64 (x1)) 9)))).bind fun bt144 => ((pick_Next.f k x0 (wrap64 ((wrap64 (1 + (Int.tmod (wrap64 (x1)) 9))) + 1))).bind fun bt146 => ((pick_Pairs.f k x0).bind fun t148 => (if bt146.2 = true then (if bt144.2 = true then (shalelaw17_PickLess.j1 k bt144.1 bt144.2 t148 (bt146.1 != bt144.1)) else (shalelaw17_PickLess.j1 k bt144.1 bt144.2 t148 true)) else (shalelaw17_PickLess.j1 k bt144.1 bt144.2 t148 false)))))
def shalelaw17_PickLess.j1 : Nat → Int → Bool → List Int → Bool → Option (Bool)
  | 0, _, _, _, _ => none
  | k + 1, x6, x7, x10, x48 => if x48 = true then (some false) else (shalelaw17_PickLess.l0 k x6 x7 x10 0)
def shalelaw17_PickLess.l0 : Nat → Int → Bool → List Int → Int → Option (Bool)
  | 0, _, _, _, _ => none
  | k + 1, x6, x7, x10, x11 => if x7 = true then (shalelaw17_PickLess.j3 k x6 x7 x10 x11 (decide (x11 < (x10.length : Int)))) else (shalelaw17_PickLess.j3 k x6 x7 x10 x11 false)
def shalelaw17_PickLess.j3 : Nat → Int → Bool → List Int → Int → Bool → Option (Bool)
  | 0, _, _, _, _, _ => none
  | k + 1, x6, x7, x10, x11, x55 => if x55 = true then (if 0 ≤ x11 then (if x11 < (x10.length : Int) then (if 0 ≤ x6 then (if x6 < (x10.length : Int) then (if (rd x10 x11) < (rd x10 x6) then (some false) else (if (rd x10 x11) = (rd x10 x6) then (if x11 < x6 then (some false) else (shalelaw17_PickLess.l0 k x6 x7 x10 (wrap64 (x11 + 1)))) else (shalelaw17_PickLess.l0 k x6 x7 x10 (wrap64 (x11 + 1))))) else (none)) else (none)) else (none)) else (none)) else (if x7 = true then (if 0 ≤ x6 then (if x6 < (x10.length : Int) then (some (decide ((rd x10 x6) ≤ 64))) else (none)) else (none)) else (some true))
end
def shalelaw17_PickLess.f (k : Nat) (l0 : List Int) (a1 : Int) : Option (Bool) := (shalelaw17_awake.f k).bind fun t142 => (if t142 = true then (shalelaw17_PickLess.j0 k l0 a1 (decide ((l0.length : Int) > 100))) else (shalelaw17_PickLess.j0 k l0 a1 true))
theorem shalelaw17_PickLess.mono_l : ∀ k, (∀ y0 y1 y2, LeO (shalelaw17_PickLess.j0 k y0 y1 y2) (shalelaw17_PickLess.j0 (k + 1) y0 y1 y2)) ∧ (∀ y0 y1 y2 y3, LeO (shalelaw17_PickLess.j1 k y0 y1 y2 y3) (shalelaw17_PickLess.j1 (k + 1) y0 y1 y2 y3)) ∧ (∀ y0 y1 y2 y3, LeO (shalelaw17_PickLess.l0 k y0 y1 y2 y3) (shalelaw17_PickLess.l0 (k + 1) y0 y1 y2 y3)) ∧ (∀ y0 y1 y2 y3 y4, LeO (shalelaw17_PickLess.j3 k y0 y1 y2 y3 y4) (shalelaw17_PickLess.j3 (k + 1) y0 y1 y2 y3 y4))
  | 0 => ⟨fun _ _ _ r h => by simp [shalelaw17_PickLess.j0] at h, fun _ _ _ _ r h => by simp [shalelaw17_PickLess.j1] at h, fun _ _ _ _ r h => by simp [shalelaw17_PickLess.l0] at h, fun _ _ _ _ _ r h => by simp [shalelaw17_PickLess.j3] at h⟩
  | k + 1 => by
    obtain ⟨ih0, ih1, ih2, ih3⟩ := shalelaw17_PickLess.mono_l k
    refine ⟨?_, ?_, ?_, ?_⟩
    · intro y0 y1 y2
      unfold shalelaw17_PickLess.j0
      repeat' first
      | (with_reducible exact ih0 _ _ _)
      | (with_reducible exact ih1 _ _ _ _)
      | (with_reducible exact ih2 _ _ _ _)
      | (with_reducible exact ih3 _ _ _ _ _)
      | (with_reducible exact pick_Next.mono _ _ _)
      | (with_reducible exact pick_Pairs.mono _ _)
      | (with_reducible exact shalelaw17_awake.mono _)
      | (with_reducible exact LeO.refl _)
      | (with_reducible exact LeO.none _)
      | (with_reducible refine LeO.ite ?_ ?_)
      | (with_reducible refine LeO.bind ?_ (fun _ => ?_))
      | exact ih0 _ _ _
      | exact ih1 _ _ _ _
      | exact ih2 _ _ _ _
      | exact ih3 _ _ _ _ _
      | exact pick_Next.mono _ _ _
      | exact pick_Pairs.mono _ _
      | exact shalelaw17_awake.mono _
      | exact LeO.none _
      | refine LeO.ite ?_ ?_
      | refine LeO.bind ?_ (fun _ => ?_)
    · intro y0 y1 y2 y3
      unfold shalelaw17_PickLess.j1
      repeat' first
      | (with_reducible exact ih0 _ _ _)
      | (with_reducible exact ih1 _ _ _ _)
      | (with_reducible exact ih2 _ _ _ _)
      | (with_reducible exact ih3 _ _ _ _ _)
      | (with_reducible exact pick_Next.mono _ _ _)
      | (with_reducible exact pick_Pairs.mono _ _)
      | (with_reducible exact shalelaw17_awake.mono _)
      | (with_reducible exact LeO.refl _)
      | (with_reducible exact LeO.none _)
      | (with_reducible refine LeO.ite ?_ ?_)
      | (with_reducible refine LeO.bind ?_ (fun _ => ?_))
      | exact ih0 _ _ _
      | exact ih1 _ _ _ _
      | exact ih2 _ _ _ _
      | exact ih3 _ _ _ _ _
      | exact pick_Next.mono _ _ _
      | exact pick_Pairs.mono _ _
      | exact shalelaw17_awake.mono _
      | exact LeO.none _
      | refine LeO.ite ?_ ?_
      | refine LeO.bind ?_ (fun _ => ?_)
    · intro y0 y1 y2 y3
      unfold shalelaw17_PickLess.l0
      repeat' first
      | (with_reducible exact ih0 _ _ _)
      | (with_reducible exact ih1 _ _ _ _)
      | (with_reducible exact ih2 _ _ _ _)
      | (with_reducible exact ih3 _ _ _ _ _)
      | (with_reducible exact pick_Next.mono _ _ _)
      | (with_reducible exact pick_Pairs.mono _ _)
      | (with_reducible exact shalelaw17_awake.mono _)
      | (with_reducible exact LeO.refl _)
      | (with_reducible exact LeO.none _)
      | (with_reducible refine LeO.ite ?_ ?_)
      | (with_reducible refine LeO.bind ?_ (fun _ => ?_))
      | exact ih0 _ _ _
      | exact ih1 _ _ _ _
      | exact ih2 _ _ _ _
      | exact ih3 _ _ _ _ _
      | exact pick_Next.mono _ _ _
      | exact pick_Pairs.mono _ _
      | exact shalelaw17_awake.mono _
      | exact LeO.none _
      | refine LeO.ite ?_ ?_
      | refine LeO.bind ?_ (fun _ => ?_)
    · intro y0 y1 y2 y3 y4
      unfold shalelaw17_PickLess.j3
      repeat' first
      | (with_reducible exact ih0 _ _ _)
      | (with_reducible exact ih1 _ _ _ _)
      | (with_reducible exact ih2 _ _ _ _)
      | (with_reducible exact ih3 _ _ _ _ _)
      | (with_reducible exact pick_Next.mono _ _ _)
      | (with_reducible exact pick_Pairs.mono _ _)
      | (with_reducible exact shalelaw17_awake.mono _)
      | (with_reducible exact LeO.refl _)
      | (with_reducible exact LeO.none _)
      | (with_reducible refine LeO.ite ?_ ?_)
      | (with_reducible refine LeO.bind ?_ (fun _ => ?_))
      | exact ih0 _ _ _
      | exact ih1 _ _ _ _
      | exact ih2 _ _ _ _
      | exact ih3 _ _ _ _ _
      | exact pick_Next.mono _ _ _
      | exact pick_Pairs.mono _ _
      | exact shalelaw17_awake.mono _
      | exact LeO.none _
      | refine LeO.ite ?_ ?_
      | refine LeO.bind ?_ (fun _ => ?_)
theorem shalelaw17_PickLess.mono : ∀ a0 a1 k, LeO (shalelaw17_PickLess.f k a0 a1) (shalelaw17_PickLess.f (k + 1) a0 a1) := by
  intro a0 a1 k
  obtain ⟨ih0, ih1, ih2, ih3⟩ := shalelaw17_PickLess.mono_l k
  unfold shalelaw17_PickLess.f
  repeat' first
      | (with_reducible exact ih0 _ _ _)
      | (with_reducible exact ih1 _ _ _ _)
      | (with_reducible exact ih2 _ _ _ _)
      | (with_reducible exact ih3 _ _ _ _ _)
      | (with_reducible exact pick_Next.mono _ _ _)
      | (with_reducible exact pick_Pairs.mono _ _)
      | (with_reducible exact shalelaw17_awake.mono _)
      | (with_reducible exact LeO.refl _)
      | (with_reducible exact LeO.none _)
      | (with_reducible refine LeO.ite ?_ ?_)
      | (with_reducible refine LeO.bind ?_ (fun _ => ?_))
      | exact ih0 _ _ _
      | exact ih1 _ _ _ _
      | exact ih2 _ _ _ _
      | exact ih3 _ _ _ _ _
      | exact pick_Next.mono _ _ _
      | exact pick_Pairs.mono _ _
      | exact shalelaw17_awake.mono _
      | exact LeO.none _
      | refine LeO.ite ?_ ?_
      | refine LeO.bind ?_ (fun _ => ?_)
set_option maxHeartbeats 8000000 in
set_option maxRecDepth 100000 in
theorem shalelaw17_PickLess.calls (k : Nat) (A0 : Option Addr) (c0 : Nat) (l0 : List Int) (a1 : Int) (r : Bool) (w : World) (hr0 : Kd.C (Kd.int .i64) w A0 l0.length l0) (hc0 : l0.length ≤ c0) (h : shalelaw17_PickLess.f k l0 a1 = some r) :
    Calls Try.prog 4 #[.slice A0 l0.length c0, .int .u8 a1] w fun e w' => e = .returned (.bool r) ∧ Below w.heap.size w w' := by
  have HR0 := Aside0.mk hr0
  have HC0 := Aside0.mk hc0
  clear hr0 hc0
  have HB := Aside0.mk (Below.refl w.heap.size w)
  have H : ((shalelaw17_awake.f k).bind fun t142 => (if t142 = true then (shalelaw17_PickLess.j0 k l0 a1 (decide ((l0.length : Int) > 100))) else (shalelaw17_PickLess.j0 k l0 a1 true))) = some r := h
  clear h
  have HC3 := Aside0.mk H
  clear H
  go_enter Try.func4, Try.ntmps4
  go_upto_region 1 with (fail)
  repeat (go_quiet (fail); go_upto_region 1 with (fail))
  go_cut [18] (fun v18 wc => ∃ (kq : Nat) (x18_2 : Bool), v18 = .bool x18_2 ∧ Aside0 (shalelaw17_PickLess.j0 kq l0 a1 x18_2 = some r) ∧ Aside0 (kq ≤ k) ∧ Aside0 (Below w.heap.size w wc))
  case first =>
    have H := HC3.out
    clear HC3
    replace H := Option.bind_eq_some_iff.mp H
    obtain ⟨t142, A40, H⟩ := H
    replace H : (if t142 = true then (shalelaw17_PickLess.j0 k l0 a1 (decide ((l0.length : Int) > 100))) else (shalelaw17_PickLess.j0 k l0 a1 true)) = some r := H
    have A4 := Aside0.mk A40
    clear A40
    by_cases c5 : t142 = true
    · subst c5
      have H1 : (shalelaw17_PickLess.j0 k l0 a1 (decide ((l0.length : Int) > 100))) = some r := by rw [if_pos rfl] at H; exact H
      clear H
      have H := H1
      clear H1
      have H' := Aside0.mk H
      clear H
      go_wp2_with (first | (go_at_call 9; (with_reducible refine (shalelaw17_awake.calls k  true _ A4.out).mono ?_); rintro e w6 ⟨rfl, hb⟩; have n0_ := Aside0.mk (below_step (by repeat (first | (with_reducible first | exact HB.out | apply below_alloc | apply pw_below_drewN | apply below_drew1) | exact HB.out)) hb); clear HB; have HB := n0_; clear n0_; (try clear hb); (try clear hb2); (try clear hk); (try clear hi)))
      repeat (go_quiet (first | (go_at_call 9; (with_reducible refine (shalelaw17_awake.calls k  true _ A4.out).mono ?_); rintro e w6 ⟨rfl, hb⟩; have n0_ := Aside0.mk (below_step (by repeat (first | (with_reducible first | exact HB.out | apply below_alloc | apply pw_below_drewN | apply below_drew1) | exact HB.out)) hb); clear HB; have HB := n0_; clear n0_; (try clear hb); (try clear hb2); (try clear hk); (try clear hi))); try go_wp2_with (first | (go_at_call 9; (with_reducible refine (shalelaw17_awake.calls k  true _ A4.out).mono ?_); rintro e w6 ⟨rfl, hb⟩; have n0_ := Aside0.mk (below_step (by repeat (first | (with_reducible first | exact HB.out | apply below_alloc | apply pw_below_drewN | apply below_drew1) | exact HB.out)) hb); clear HB; have HB := n0_; clear n0_; (try clear hb); (try clear hb2); (try clear hk); (try clear hi))))
      go_meet
      case rel => exact ⟨_, (decide ((l0.length : Int) > 100)), (by first | rfl | (simp; done) | (simp [*]; done)), H', ⟨by first | omega | exact Nat.le_refl _⟩, ⟨by repeat (first | (with_reducible first | exact HB.out | apply below_alloc | apply pw_below_drewN | apply below_drew1) | exact HB.out)⟩⟩
    · replace c5 := Bool.eq_false_iff.mpr c5
      subst c5
      have H1 : (shalelaw17_PickLess.j0 k l0 a1 true) = some r := by rw [if_neg (show ¬ (false = true) by decide)] at H; exact H
      clear H
      have H := H1
      clear H1
      have H' := Aside0.mk H
      clear H
      go_wp2_with (first | (go_at_call 9; (with_reducible refine (shalelaw17_awake.calls k  false _ A4.out).mono ?_); rintro e w7 ⟨rfl, hb⟩; have n0_ := Aside0.mk (below_step (by repeat (first | (with_reducible first | exact HB.out | apply below_alloc | apply pw_below_drewN | apply below_drew1) | exact HB.out)) hb); clear HB; have HB := n0_; clear n0_; (try clear hb); (try clear hb2); (try clear hk); (try clear hi)))
      repeat (go_quiet (first | (go_at_call 9; (with_reducible refine (shalelaw17_awake.calls k  false _ A4.out).mono ?_); rintro e w7 ⟨rfl, hb⟩; have n0_ := Aside0.mk (below_step (by repeat (first | (with_reducible first | exact HB.out | apply below_alloc | apply pw_below_drewN | apply below_drew1) | exact HB.out)) hb); clear HB; have HB := n0_; clear n0_; (try clear hb); (try clear hb2); (try clear hk); (try clear hi))); try go_wp2_with (first | (go_at_call 9; (with_reducible refine (shalelaw17_awake.calls k  false _ A4.out).mono ?_); rintro e w7 ⟨rfl, hb⟩; have n0_ := Aside0.mk (below_step (by repeat (first | (with_reducible first | exact HB.out | apply below_alloc | apply pw_below_drewN | apply below_drew1) | exact HB.out)) hb); clear HB; have HB := n0_; clear n0_; (try clear hb); (try clear hb2); (try clear hk); (try clear hi))))
      go_meet
      case rel => exact ⟨_, (true), (by first | rfl | (simp; done) | (simp [*]; done)), H', ⟨by first | omega | exact Nat.le_refl _⟩, ⟨by repeat (first | (with_reducible first | exact HB.out | apply below_alloc | apply pw_below_drewN | apply below_drew1) | exact HB.out)⟩⟩
  case rest =>
    clear HC3
    try clear p2
    try clear c4
    try clear c5
    obtain ⟨kq, x18_2, rfl, HA, HJ2, HB⟩ := hcut
    cases kq with
    | zero => exact absurd HA.out (by simp [shalelaw17_PickLess.j0])
    | succ kj2 =>
      have H := HA.out
      clear HA
      simp only [shalelaw17_PickLess.j0] at H
      by_cases c8 : x18_2 = true
      · subst c8
        have H1 : ((shalelaw17_awake.f kj2).bind fun t143 => (some t143)) = some r := by rw [if_pos rfl] at H; exact H
        clear H
        have H := H1
        clear H1
        replace H := Option.bind_eq_some_iff.mp H
        obtain ⟨t143, A90, H⟩ := H
        replace H : (some t143) = some r := H
        have A9 := Aside0.mk A90
        clear A90
        obtain rfl := Option.some.inj H
        go_wp2_with (first | (go_at_call 9; (with_reducible refine (shalelaw17_awake.calls kj2  t143 _ A9.out).mono ?_); rintro e w10 ⟨rfl, hb⟩; have n0_ := Aside0.mk (below_step (by repeat (first | (with_reducible first | exact HB.out | apply below_alloc | apply pw_below_drewN | apply below_drew1) | exact HB.out)) hb); clear HB; have HB := n0_; clear n0_; (try clear hb); (try clear hb2); (try clear hk); (try clear hi)))
        repeat (go_quiet (first | (go_at_call 9; (with_reducible refine (shalelaw17_awake.calls kj2  t143 _ A9.out).mono ?_); rintro e w10 ⟨rfl, hb⟩; have n0_ := Aside0.mk (below_step (by repeat (first | (with_reducible first | exact HB.out | apply below_alloc | apply pw_below_drewN | apply below_drew1) | exact HB.out)) hb); clear HB; have HB := n0_; clear n0_; (try clear hb); (try clear hb2); (try clear hk); (try clear hi))); try go_wp2_with (first | (go_at_call 9; (with_reducible refine (shalelaw17_awake.calls kj2  t143 _ A9.out).mono ?_); rintro e w10 ⟨rfl, hb⟩; have n0_ := Aside0.mk (below_step (by repeat (first | (with_reducible first | exact HB.out | apply below_alloc | apply pw_below_drewN | apply below_drew1) | exact HB.out)) hb); clear HB; have HB := n0_; clear n0_; (try clear hb); (try clear hb2); (try clear hk); (try clear hi))))
        go_ret
        exact ⟨by first | rfl | (simp [errW_none, errW_some] <;> rfl) | (simp [*, errW_none, errW_some] <;> rfl), by repeat (first | (with_reducible first | exact HB.out | apply below_alloc | apply pw_below_drewN | apply below_drew1) | exact HB.out)⟩
      · replace c8 := Bool.eq_false_iff.mpr c8
        subst c8
        have H1 : ((pick_Next.f kj2 l0 (wrap64 (1 + (Int.tmod (wrap64 (a1)) 9)))).bind fun bt144 => ((pick_Next.f kj2 l0 (wrap64 ((wrap64 (1 + (Int.tmod (wrap64 (a1)) 9))) + 1))).bind fun bt146 => ((pick_Pairs.f kj2 l0).bind fun t148 => (if bt146.2 = true then (if bt144.2 = true then (shalelaw17_PickLess.j1 kj2 bt144.1 bt144.2 t148 (bt146.1 != bt144.1)) else (shalelaw17_PickLess.j1 kj2 bt144.1 bt144.2 t148 true)) else (shalelaw17_PickLess.j1 kj2 bt144.1 bt144.2 t148 false))))) = some r := by rw [if_neg (show ¬ (false = true) by decide)] at H; exact H
        clear H
        have H := H1
        clear H1
        replace H := Option.bind_eq_some_iff.mp H
        obtain ⟨⟨t144, t145⟩, A110, H⟩ := H
        replace H : ((pick_Next.f kj2 l0 (wrap64 ((wrap64 (1 + (Int.tmod (wrap64 (a1)) 9))) + 1))).bind fun bt146 => ((pick_Pairs.f kj2 l0).bind fun t148 => (if bt146.2 = true then (if t145 = true then (shalelaw17_PickLess.j1 kj2 t144 t145 t148 (bt146.1 != t144)) else (shalelaw17_PickLess.j1 kj2 t144 t145 t148 true)) else (shalelaw17_PickLess.j1 kj2 t144 t145 t148 false)))) = some r := H
        have A11 := Aside0.mk A110
        clear A110
        replace H := Option.bind_eq_some_iff.mp H
        obtain ⟨⟨t146, t147⟩, A120, H⟩ := H
        replace H : ((pick_Pairs.f kj2 l0).bind fun t148 => (if t147 = true then (if t145 = true then (shalelaw17_PickLess.j1 kj2 t144 t145 t148 (t146 != t144)) else (shalelaw17_PickLess.j1 kj2 t144 t145 t148 true)) else (shalelaw17_PickLess.j1 kj2 t144 t145 t148 false))) = some r := H
        have A12 := Aside0.mk A120
        clear A120
        replace H := Option.bind_eq_some_iff.mp H
        obtain ⟨t148, A130, H⟩ := H
        replace H : (if t147 = true then (if t145 = true then (shalelaw17_PickLess.j1 kj2 t144 t145 t148 (t146 != t144)) else (shalelaw17_PickLess.j1 kj2 t144 t145 t148 true)) else (shalelaw17_PickLess.j1 kj2 t144 t145 t148 false)) = some r := H
        have A13 := Aside0.mk A130
        clear A130
        have HC14 := Aside0.mk H
        clear H
        go_upto_region 7 with (first | (go_at_call 10; (with_reducible refine (pick_Next.calls kj2 _ _ l0 (wrap64 (1 + (Int.tmod (wrap64 (a1)) 9))) t144 t145 _ ?side1 ?side2 A11.out).mono ?_); (case side1 => repeat (first | exact (Kd.C_below HR0.out HB.out) | (with_reducible refine Kd.C_alloc ?_ _) | (with_reducible refine Kd.C_drewN ?_ _) | (with_reducible refine Kd.C_drew ?_))); (case side2 => exact HC0.out); rintro e w15 ⟨rfl, hb⟩; have n0_ := Aside0.mk (below_step (by repeat (first | (with_reducible first | exact HB.out | apply below_alloc | apply pw_below_drewN | apply below_drew1) | exact HB.out)) hb); clear HB; have HB := n0_; clear n0_; (try clear hb); (try clear hb2); (try clear hk); (try clear hi)) | (go_at_call 10; (with_reducible refine (pick_Next.calls kj2 _ _ l0 (wrap64 ((wrap64 (1 + (Int.tmod (wrap64 (a1)) 9))) + 1)) t146 t147 _ ?side1 ?side2 A12.out).mono ?_); (case side1 => repeat (first | exact (Kd.C_below HR0.out HB.out) | (with_reducible refine Kd.C_alloc ?_ _) | (with_reducible refine Kd.C_drewN ?_ _) | (with_reducible refine Kd.C_drew ?_))); (case side2 => exact HC0.out); rintro e w16 ⟨rfl, hb⟩; have n0_ := Aside0.mk (below_step (by repeat (first | (with_reducible first | exact HB.out | apply below_alloc | apply pw_below_drewN | apply below_drew1) | exact HB.out)) hb); clear HB; have HB := n0_; clear n0_; (try clear hb); (try clear hb2); (try clear hk); (try clear hi)) | (go_at_call 12; (with_reducible refine (pick_Pairs.calls kj2 _ _ l0 t148 _ ?side1 ?side2 A13.out).mono ?_); (case side1 => repeat (first | exact (Kd.C_below HR0.out HB.out) | (with_reducible refine Kd.C_alloc ?_ _) | (with_reducible refine Kd.C_drewN ?_ _) | (with_reducible refine Kd.C_drew ?_))); (case side2 => exact HC0.out); rintro e w17 ⟨v149, rfl, ho0, hb⟩; have n0_ := Aside0.mk (Kd.R_lower ho0 (below_size (by repeat (first | (with_reducible first | exact HB.out | apply below_alloc | apply pw_below_drewN | apply below_drew1) | exact HB.out)))); have n1_ := Aside0.mk (below_step (by repeat (first | (with_reducible first | exact HB.out | apply below_alloc | apply pw_below_drewN | apply below_drew1) | exact HB.out)) hb); clear HB; have HO150 := n0_; have HB := n1_; clear n0_ n1_; (try clear hb); (try clear hb2); (try clear hk); (try clear hi); (try clear ho0)))
        repeat (go_quiet (first | (go_at_call 10; (with_reducible refine (pick_Next.calls kj2 _ _ l0 (wrap64 (1 + (Int.tmod (wrap64 (a1)) 9))) t144 t145 _ ?side1 ?side2 A11.out).mono ?_); (case side1 => repeat (first | exact (Kd.C_below HR0.out HB.out) | (with_reducible refine Kd.C_alloc ?_ _) | (with_reducible refine Kd.C_drewN ?_ _) | (with_reducible refine Kd.C_drew ?_))); (case side2 => exact HC0.out); rintro e w15 ⟨rfl, hb⟩; have n0_ := Aside0.mk (below_step (by repeat (first | (with_reducible first | exact HB.out | apply below_alloc | apply pw_below_drewN | apply below_drew1) | exact HB.out)) hb); clear HB; have HB := n0_; clear n0_; (try clear hb); (try clear hb2); (try clear hk); (try clear hi)) | (go_at_call 10; (with_reducible refine (pick_Next.calls kj2 _ _ l0 (wrap64 ((wrap64 (1 + (Int.tmod (wrap64 (a1)) 9))) + 1)) t146 t147 _ ?side1 ?side2 A12.out).mono ?_); (case side1 => repeat (first | exact (Kd.C_below HR0.out HB.out) | (with_reducible refine Kd.C_alloc ?_ _) | (with_reducible refine Kd.C_drewN ?_ _) | (with_reducible refine Kd.C_drew ?_))); (case side2 => exact HC0.out); rintro e w16 ⟨rfl, hb⟩; have n0_ := Aside0.mk (below_step (by repeat (first | (with_reducible first | exact HB.out | apply below_alloc | apply pw_below_drewN | apply below_drew1) | exact HB.out)) hb); clear HB; have HB := n0_; clear n0_; (try clear hb); (try clear hb2); (try clear hk); (try clear hi)) | (go_at_call 12; (with_reducible refine (pick_Pairs.calls kj2 _ _ l0 t148 _ ?side1 ?side2 A13.out).mono ?_); (case side1 => repeat (first | exact (Kd.C_below HR0.out HB.out) | (with_reducible refine Kd.C_alloc ?_ _) | (with_reducible refine Kd.C_drewN ?_ _) | (with_reducible refine Kd.C_drew ?_))); (case side2 => exact HC0.out); rintro e w17 ⟨v149, rfl, ho0, hb⟩; have n0_ := Aside0.mk (Kd.R_lower ho0 (below_size (by repeat (first | (with_reducible first | exact HB.out | apply below_alloc | apply pw_below_drewN | apply below_drew1) | exact HB.out)))); have n1_ := Aside0.mk (below_step (by repeat (first | (with_reducible first | exact HB.out | apply below_alloc | apply pw_below_drewN | apply below_drew1) | exact HB.out)) hb); clear HB; have HO150 := n0_; have HB := n1_; clear n0_ n1_; (try clear hb); (try clear hb2); (try clear hk); (try clear hi); (try clear ho0))); go_upto_region 7 with (first | (go_at_call 10; (with_reducible refine (pick_Next.calls kj2 _ _ l0 (wrap64 (1 + (Int.tmod (wrap64 (a1)) 9))) t144 t145 _ ?side1 ?side2 A11.out).mono ?_); (case side1 => repeat (first | exact (Kd.C_below HR0.out HB.out) | (with_reducible refine Kd.C_alloc ?_ _) | (with_reducible refine Kd.C_drewN ?_ _) | (with_reducible refine Kd.C_drew ?_))); (case side2 => exact HC0.out); rintro e w15 ⟨rfl, hb⟩; have n0_ := Aside0.mk (below_step (by repeat (first | (with_reducible first | exact HB.out | apply below_alloc | apply pw_below_drewN | apply below_drew1) | exact HB.out)) hb); clear HB; have HB := n0_; clear n0_; (try clear hb); (try clear hb2); (try clear hk); (try clear hi)) | (go_at_call 10; (with_reducible refine (pick_Next.calls kj2 _ _ l0 (wrap64 ((wrap64 (1 + (Int.tmod (wrap64 (a1)) 9))) + 1)) t146 t147 _ ?side1 ?side2 A12.out).mono ?_); (case side1 => repeat (first | exact (Kd.C_below HR0.out HB.out) | (with_reducible refine Kd.C_alloc ?_ _) | (with_reducible refine Kd.C_drewN ?_ _) | (with_reducible refine Kd.C_drew ?_))); (case side2 => exact HC0.out); rintro e w16 ⟨rfl, hb⟩; have n0_ := Aside0.mk (below_step (by repeat (first | (with_reducible first | exact HB.out | apply below_alloc | apply pw_below_drewN | apply below_drew1) | exact HB.out)) hb); clear HB; have HB := n0_; clear n0_; (try clear hb); (try clear hb2); (try clear hk); (try clear hi)) | (go_at_call 12; (with_reducible refine (pick_Pairs.calls kj2 _ _ l0 t148 _ ?side1 ?side2 A13.out).mono ?_); (case side1 => repeat (first | exact (Kd.C_below HR0.out HB.out) | (with_reducible refine Kd.C_alloc ?_ _) | (with_reducible refine Kd.C_drewN ?_ _) | (with_reducible refine Kd.C_drew ?_))); (case side2 => exact HC0.out); rintro e w17 ⟨v149, rfl, ho0, hb⟩; have n0_ := Aside0.mk (Kd.R_lower ho0 (below_size (by repeat (first | (with_reducible first | exact HB.out | apply below_alloc | apply pw_below_drewN | apply below_drew1) | exact HB.out)))); have n1_ := Aside0.mk (below_step (by repeat (first | (with_reducible first | exact HB.out | apply below_alloc | apply pw_below_drewN | apply below_drew1) | exact HB.out)) hb); clear HB; have HO150 := n0_; have HB := n1_; clear n0_ n1_; (try clear hb); (try clear hb2); (try clear hk); (try clear hi); (try clear ho0))))
        (try simp only [Act.put, List.setIfInBounds_toArray, List.set_cons_zero, List.set_cons_succ])
        go_cut [48] (fun v48 wc => ∃ (kq : Nat) (x48_13 : Bool), v48 = .bool x48_13 ∧ Aside0 (shalelaw17_PickLess.j1 kq t144 t145 t148 x48_13 = some r) ∧ Aside0 (kq ≤ kj2) ∧ Aside0 (Kd.R (Kd.int .i64) 3 wc w.heap.size (fun _ => True) v149 t148) ∧ Aside0 (Below w.heap.size w wc))
        case first =>
          have H := HC14.out
          clear HC14
          by_cases c18 : t147 = true
          · subst c18
            have H1 : (if t145 = true then (shalelaw17_PickLess.j1 kj2 t144 t145 t148 (t146 != t144)) else (shalelaw17_PickLess.j1 kj2 t144 t145 t148 true)) = some r := by rw [if_pos rfl] at H; exact H
            clear H
            have H := H1
            clear H1
            by_cases c19 : t145 = true
            · subst c19
              have H1 : (shalelaw17_PickLess.j1 kj2 t144 true t148 (t146 != t144)) = some r := by rw [if_pos rfl] at H; exact H
              clear H
              have H := H1
              clear H1
              have H' := Aside0.mk H
              clear H
              go_wp2
              repeat (go_quiet (fail); try go_wp2)
              go_meet
              case rel => exact ⟨_, ((t146 != t144)), (by first | rfl | (simp; done) | (simp [*]; done)), H', ⟨by have := HJ2.out; first | omega | exact Nat.le_refl _⟩, ⟨by (with_reducible repeat (first | apply Kd.R_alloc | apply Kd.R_drewN | apply Kd.R_drew)); exact HO150.out⟩, ⟨by repeat (first | (with_reducible first | exact HB.out | apply below_alloc | apply pw_below_drewN | apply below_drew1) | exact HB.out)⟩⟩
            · replace c19 := Bool.eq_false_iff.mpr c19
              subst c19
              have H1 : (shalelaw17_PickLess.j1 kj2 t144 false t148 true) = some r := by rw [if_neg (show ¬ (false = true) by decide)] at H; exact H
              clear H
              have H := H1
              clear H1
              have H' := Aside0.mk H
              clear H
              go_wp2
              repeat (go_quiet (fail); try go_wp2)
              go_meet
              case rel => exact ⟨_, (true), (by first | rfl | (simp; done) | (simp [*]; done)), H', ⟨by have := HJ2.out; first | omega | exact Nat.le_refl _⟩, ⟨by (with_reducible repeat (first | apply Kd.R_alloc | apply Kd.R_drewN | apply Kd.R_drew)); exact HO150.out⟩, ⟨by repeat (first | (with_reducible first | exact HB.out | apply below_alloc | apply pw_below_drewN | apply below_drew1) | exact HB.out)⟩⟩
          · replace c18 := Bool.eq_false_iff.mpr c18
            subst c18
            have H1 : (shalelaw17_PickLess.j1 kj2 t144 t145 t148 false) = some r := by rw [if_neg (show ¬ (false = true) by decide)] at H; exact H
            clear H
            have H := H1
            clear H1
            have H' := Aside0.mk H
            clear H
            go_wp2
            repeat (go_quiet (fail); try go_wp2)
            go_meet
            case rel => exact ⟨_, (false), (by first | rfl | (simp; done) | (simp [*]; done)), H', ⟨by have := HJ2.out; first | omega | exact Nat.le_refl _⟩, ⟨by (with_reducible repeat (first | apply Kd.R_alloc | apply Kd.R_drewN | apply Kd.R_drew)); exact HO150.out⟩, ⟨by repeat (first | (with_reducible first | exact HB.out | apply below_alloc | apply pw_below_drewN | apply below_drew1) | exact HB.out)⟩⟩
        case rest =>
          clear HC14
          try clear c1
          try clear p2
          try clear c4
          try clear c5
          try clear p6
          try clear c8
          try clear c18
          try clear c19
          try clear p2
          obtain ⟨kq, x48_13, rfl, HA, HJ13, HO_10, HB⟩ := hcut
          cases kq with
          | zero => exact absurd HA.out (by simp [shalelaw17_PickLess.j1])
          | succ kj13 =>
            have H := HA.out
            clear HA
            simp only [shalelaw17_PickLess.j1] at H
            by_cases c20 : x48_13 = true
            · subst c20
              have H1 : (some false) = some r := by rw [if_pos rfl] at H; exact H
              clear H
              have H := H1
              clear H1
              obtain rfl := Option.some.inj H
              go_wp2
              repeat (go_quiet (fail); try go_wp2)
              go_ret
              exact ⟨by first | rfl | (simp [errW_none, errW_some] <;> rfl) | (simp [*, errW_none, errW_some] <;> rfl), by repeat (first | (with_reducible first | exact HB.out | apply below_alloc | apply pw_below_drewN | apply below_drew1) | exact HB.out)⟩
            · replace c20 := Bool.eq_false_iff.mpr c20
              subst c20
              have H1 : (shalelaw17_PickLess.l0 kj13 t144 t145 t148 0) = some r := by rw [if_neg (show ¬ (false = true) by decide)] at H; exact H
              clear H
              have H := H1
              clear H1
              have H' := Aside0.mk H
              clear H
              go_wp2
              repeat (go_quiet (fail); try go_wp2)
              go_loopg [11] kj13 (fun kq v11 w' => ∃ (x11_3 : Int), v11 = .int .i64 x11_3 ∧ Aside0 (shalelaw17_PickLess.l0 kq t144 t145 t148 x11_3 = some r) ∧ Aside0 (kq ≤ kj13) ∧ Aside0 (Kd.R (Kd.int .i64) 3 w' w.heap.size (fun _ => True) v149 t148) ∧ Aside0 (Below w.heap.size w w'))
              case atStart => exact ⟨(0), (by first | rfl | (simp; done) | (simp [*]; done)), H', ⟨Nat.le_refl _⟩, ⟨by (with_reducible repeat (first | apply Kd.R_alloc | apply Kd.R_drewN | apply Kd.R_drew)); exact HO_10.out⟩, ⟨by repeat (first | (with_reducible first | exact HB.out | apply below_alloc | apply pw_below_drewN | apply below_drew1) | exact HB.out)⟩⟩
              case round =>
                clear H'
                try clear c1
                try clear c2
                try clear p2
                try clear c4
                try clear c5
                try clear p6
                try clear c8
                try clear c18
                try clear c19
                try clear c20
                try clear p2
                try clear p6
                obtain ⟨x11_3, rfl, HA, HK3, HO_10, HB⟩ := hrel
                cases gk with
                | zero => exact absurd HA.out (by simp [shalelaw17_PickLess.l0])
                | succ k3 =>
                  have H := HA.out
                  clear HA
                  simp only [shalelaw17_PickLess.l0] at H
                  have HC21 := Aside0.mk H
                  clear H
                  go_upto_region 10 with (fail)
                  repeat (go_quiet (fail); go_upto_region 10 with (fail))
                  go_cut [55] (fun v55 wc => ∃ (kq : Nat) (x55_20 : Bool), v55 = .bool x55_20 ∧ Aside0 (shalelaw17_PickLess.j3 kq t144 t145 t148 x11_3 x55_20 = some r) ∧ Aside0 (kq ≤ k3) ∧ Aside0 (Kd.R (Kd.int .i64) 3 wc w.heap.size (fun _ => True) v149 t148) ∧ Aside0 (Below w.heap.size w wc))
                  case first =>
                    have H := HC21.out
                    clear HC21
                    by_cases c22 : t145 = true
                    · subst c22
                      have H1 : (shalelaw17_PickLess.j3 k3 t144 true t148 x11_3 (decide (x11_3 < (t148.length : Int)))) = some r := by rw [if_pos rfl] at H; exact H
                      clear H
                      have H := H1
                      clear H1
                      have H' := Aside0.mk H
                      clear H
                      obtain ⟨Ao23, co23, eo23⟩ := Kd.R_slice HO_10.out
                      subst eo23
                      go_wp2
                      repeat (go_quiet (fail); try go_wp2)
                      go_meet
                      case rel => exact ⟨_, (decide (x11_3 < (t148.length : Int))), (by first | rfl | (simp; done) | (simp [*]; done)), H', ⟨by have := HJ2.out; have := HJ13.out; have := HK3.out; first | omega | exact Nat.le_refl _⟩, ⟨by (with_reducible repeat (first | apply Kd.R_alloc | apply Kd.R_drewN | apply Kd.R_drew)); exact HO_10.out⟩, ⟨by repeat (first | (with_reducible first | exact HB.out | apply below_alloc | apply pw_below_drewN | apply below_drew1) | exact HB.out)⟩⟩
                    · replace c22 := Bool.eq_false_iff.mpr c22
                      subst c22
                      have H1 : (shalelaw17_PickLess.j3 k3 t144 false t148 x11_3 false) = some r := by rw [if_neg (show ¬ (false = true) by decide)] at H; exact H
                      clear H
                      have H := H1
                      clear H1
                      have H' := Aside0.mk H
                      clear H
                      go_wp2
                      repeat (go_quiet (fail); try go_wp2)
                      go_meet
                      case rel => exact ⟨_, (false), (by first | rfl | (simp; done) | (simp [*]; done)), H', ⟨by have := HJ2.out; have := HJ13.out; have := HK3.out; first | omega | exact Nat.le_refl _⟩, ⟨by (with_reducible repeat (first | apply Kd.R_alloc | apply Kd.R_drewN | apply Kd.R_drew)); exact HO_10.out⟩, ⟨by repeat (first | (with_reducible first | exact HB.out | apply below_alloc | apply pw_below_drewN | apply below_drew1) | exact HB.out)⟩⟩
                  case rest =>
                    clear HC21
                    try clear c1
                    try clear c2
                    try clear p2
                    try clear c4
                    try clear c5
                    try clear p6
                    try clear c8
                    try clear c18
                    try clear c19
                    try clear c20
                    try clear c22
                    try clear p2
                    try clear p6
                    obtain ⟨kq, x55_20, rfl, HA, HJ20, HO_10, HB⟩ := hcut
                    cases kq with
                    | zero => exact absurd HA.out (by simp [shalelaw17_PickLess.j3])
                    | succ kj20 =>
                      have H := HA.out
                      clear HA
                      simp only [shalelaw17_PickLess.j3] at H
                      by_cases c24 : x55_20 = true
                      · subst c24
                        have H1 : (if 0 ≤ x11_3 then (if x11_3 < (t148.length : Int) then (if 0 ≤ t144 then (if t144 < (t148.length : Int) then (if (rd t148 x11_3) < (rd t148 t144) then (some false) else (if (rd t148 x11_3) = (rd t148 t144) then (if x11_3 < t144 then (some false) else (shalelaw17_PickLess.l0 kj20 t144 t145 t148 (wrap64 (x11_3 + 1)))) else (shalelaw17_PickLess.l0 kj20 t144 t145 t148 (wrap64 (x11_3 + 1))))) else (none)) else (none)) else (none)) else (none)) = some r := by rw [if_pos rfl] at H; exact H
                        clear H
                        have H := H1
                        clear H1
                        by_cases c25 : 0 ≤ x11_3
                        · rw [if_pos c25] at H
                          have c25b0 : decide (0 ≤ x11_3) = true := decide_eq_true c25
                          clear c25
                          by_cases c26 : x11_3 < (t148.length : Int)
                          · rw [if_pos c26] at H
                            have c26b0 : decide (x11_3 < (t148.length : Int)) = true := decide_eq_true c26
                            clear c26
                            by_cases c27 : 0 ≤ t144
                            · rw [if_pos c27] at H
                              have c27b0 : decide (0 ≤ t144) = true := decide_eq_true c27
                              clear c27
                              by_cases c28 : t144 < (t148.length : Int)
                              · rw [if_pos c28] at H
                                have c28b0 : decide (t144 < (t148.length : Int)) = true := decide_eq_true c28
                                clear c28
                                by_cases c29 : (rd t148 x11_3) < (rd t148 t144)
                                · rw [if_pos c29] at H
                                  have c29b0 : decide ((rd t148 x11_3) < (rd t148 t144)) = true := decide_eq_true c29
                                  clear c29
                                  obtain rfl := Option.some.inj H
                                  obtain ⟨Ao30, co30, eo30⟩ := Kd.R_slice HO_10.out
                                  subst eo30
                                  have p151 : 0 ≤ (x11_3 : Int) := of_decide_eq_true (by first | (with_reducible assumption) | assumption)
                                  have q151 : x11_3 < (t148.length : Int) := of_decide_eq_true (by first | (with_reducible assumption) | assumption)
                                  obtain ⟨ad151, e151, hx151_0⟩ := Kd.at_int (Kd.R_reads' HO_10.out).2.2 x11_3 p151 q151
                                  cases e151
                                  replace p151 := eq_true p151
                                  replace q151 := eq_true q151
                                  have p152 : 0 ≤ (t144 : Int) := of_decide_eq_true (by first | (with_reducible assumption) | assumption)
                                  have q152 : t144 < (t148.length : Int) := of_decide_eq_true (by first | (with_reducible assumption) | assumption)
                                  obtain ⟨ad152, e152, hx152_0⟩ := Kd.at_int (Kd.R_reads' HO_10.out).2.2 t144 p152 q152
                                  obtain rfl : ad151 = ad152 := (by injection e152)
                                  replace p152 := eq_true p152
                                  replace q152 := eq_true q152
                                  go_wp2
                                  repeat (go_quiet (fail); try go_wp2)
                                  go_ret
                                  exact ⟨by first | rfl | (simp [errW_none, errW_some] <;> rfl) | (simp [*, errW_none, errW_some] <;> rfl), by repeat (first | (with_reducible first | exact HB.out | apply below_alloc | apply pw_below_drewN | apply below_drew1) | exact HB.out)⟩
                                · rw [if_neg c29] at H
                                  have c29b0 : decide ((rd t148 x11_3) < (rd t148 t144)) = false := decide_eq_false c29
                                  clear c29
                                  by_cases c31 : (rd t148 x11_3) = (rd t148 t144)
                                  · rw [if_pos c31] at H
                                    have c31b0 : ((rd t148 x11_3) == (rd t148 t144)) = true := beq_iff_eq.mpr c31
                                    have c31b1 : ((rd t148 x11_3) != (rd t148 t144)) = false := bne_eq_false_iff_eq.mpr c31
                                    clear c31
                                    by_cases c32 : x11_3 < t144
                                    · rw [if_pos c32] at H
                                      have c32b0 : decide (x11_3 < t144) = true := decide_eq_true c32
                                      clear c32
                                      obtain rfl := Option.some.inj H
                                      obtain ⟨Ao33, co33, eo33⟩ := Kd.R_slice HO_10.out
                                      subst eo33
                                      have p151 : 0 ≤ (x11_3 : Int) := of_decide_eq_true (by first | (with_reducible assumption) | assumption)
                                      have q151 : x11_3 < (t148.length : Int) := of_decide_eq_true (by first | (with_reducible assumption) | assumption)
                                      obtain ⟨ad151, e151, hx151_0⟩ := Kd.at_int (Kd.R_reads' HO_10.out).2.2 x11_3 p151 q151
                                      cases e151
                                      replace p151 := eq_true p151
                                      replace q151 := eq_true q151
                                      have p152 : 0 ≤ (t144 : Int) := of_decide_eq_true (by first | (with_reducible assumption) | assumption)
                                      have q152 : t144 < (t148.length : Int) := of_decide_eq_true (by first | (with_reducible assumption) | assumption)
                                      obtain ⟨ad152, e152, hx152_0⟩ := Kd.at_int (Kd.R_reads' HO_10.out).2.2 t144 p152 q152
                                      obtain rfl : ad151 = ad152 := (by injection e152)
                                      replace p152 := eq_true p152
                                      replace q152 := eq_true q152
                                      have p153 : 0 ≤ (x11_3 : Int) := of_decide_eq_true (by first | (with_reducible assumption) | assumption)
                                      have q153 : x11_3 < (t148.length : Int) := of_decide_eq_true (by first | (with_reducible assumption) | assumption)
                                      obtain ⟨ad153, e153, hx153_0⟩ := Kd.at_int (Kd.R_reads' HO_10.out).2.2 x11_3 p153 q153
                                      obtain rfl : ad151 = ad153 := (by injection e153)
                                      replace p153 := eq_true p153
                                      replace q153 := eq_true q153
                                      have p154 : 0 ≤ (t144 : Int) := of_decide_eq_true (by first | (with_reducible assumption) | assumption)
                                      have q154 : t144 < (t148.length : Int) := of_decide_eq_true (by first | (with_reducible assumption) | assumption)
                                      obtain ⟨ad154, e154, hx154_0⟩ := Kd.at_int (Kd.R_reads' HO_10.out).2.2 t144 p154 q154
                                      obtain rfl : ad151 = ad154 := (by injection e154)
                                      replace p154 := eq_true p154
                                      replace q154 := eq_true q154
                                      go_wp2
                                      repeat (go_quiet (fail); try go_wp2)
                                      go_ret
                                      exact ⟨by first | rfl | (simp [errW_none, errW_some] <;> rfl) | (simp [*, errW_none, errW_some] <;> rfl), by repeat (first | (with_reducible first | exact HB.out | apply below_alloc | apply pw_below_drewN | apply below_drew1) | exact HB.out)⟩
                                    · rw [if_neg c32] at H
                                      have c32b0 : decide (x11_3 < t144) = false := decide_eq_false c32
                                      clear c32
                                      have H' := Aside0.mk H
                                      clear H
                                      obtain ⟨Ao34, co34, eo34⟩ := Kd.R_slice HO_10.out
                                      subst eo34
                                      have p151 : 0 ≤ (x11_3 : Int) := of_decide_eq_true (by first | (with_reducible assumption) | assumption)
                                      have q151 : x11_3 < (t148.length : Int) := of_decide_eq_true (by first | (with_reducible assumption) | assumption)
                                      obtain ⟨ad151, e151, hx151_0⟩ := Kd.at_int (Kd.R_reads' HO_10.out).2.2 x11_3 p151 q151
                                      cases e151
                                      replace p151 := eq_true p151
                                      replace q151 := eq_true q151
                                      have p152 : 0 ≤ (t144 : Int) := of_decide_eq_true (by first | (with_reducible assumption) | assumption)
                                      have q152 : t144 < (t148.length : Int) := of_decide_eq_true (by first | (with_reducible assumption) | assumption)
                                      obtain ⟨ad152, e152, hx152_0⟩ := Kd.at_int (Kd.R_reads' HO_10.out).2.2 t144 p152 q152
                                      obtain rfl : ad151 = ad152 := (by injection e152)
                                      replace p152 := eq_true p152
                                      replace q152 := eq_true q152
                                      have p153 : 0 ≤ (x11_3 : Int) := of_decide_eq_true (by first | (with_reducible assumption) | assumption)
                                      have q153 : x11_3 < (t148.length : Int) := of_decide_eq_true (by first | (with_reducible assumption) | assumption)
                                      obtain ⟨ad153, e153, hx153_0⟩ := Kd.at_int (Kd.R_reads' HO_10.out).2.2 x11_3 p153 q153
                                      obtain rfl : ad151 = ad153 := (by injection e153)
                                      replace p153 := eq_true p153
                                      replace q153 := eq_true q153
                                      have p154 : 0 ≤ (t144 : Int) := of_decide_eq_true (by first | (with_reducible assumption) | assumption)
                                      have q154 : t144 < (t148.length : Int) := of_decide_eq_true (by first | (with_reducible assumption) | assumption)
                                      obtain ⟨ad154, e154, hx154_0⟩ := Kd.at_int (Kd.R_reads' HO_10.out).2.2 t144 p154 q154
                                      obtain rfl : ad151 = ad154 := (by injection e154)
                                      replace p154 := eq_true p154
                                      replace q154 := eq_true q154
                                      go_wp2
                                      repeat (go_quiet (fail); try go_wp2)
                                      go_roundg kj20
                                      case measure => have := HJ2.out; have := HJ13.out; have := HK3.out; have := HJ20.out; omega
                                      case rel => exact ⟨(wrap64 (x11_3 + 1)), (by first | rfl | (simp; done) | (simp [*]; done)), H', ⟨by have := HJ2.out; have := HJ13.out; have := HK3.out; have := HJ20.out; omega⟩, ⟨by (with_reducible repeat (first | apply Kd.R_alloc | apply Kd.R_drewN | apply Kd.R_drew)); exact HO_10.out⟩, ⟨by repeat (first | (with_reducible first | exact HB.out | apply below_alloc | apply pw_below_drewN | apply below_drew1) | exact HB.out)⟩⟩
                                  · rw [if_neg c31] at H
                                    have c31b0 : ((rd t148 x11_3) == (rd t148 t144)) = false := beq_eq_false_iff_ne.mpr c31
                                    have c31b1 : ((rd t148 x11_3) != (rd t148 t144)) = true := bne_iff_ne.mpr c31
                                    have H' := Aside0.mk H
                                    clear H
                                    obtain ⟨Ao35, co35, eo35⟩ := Kd.R_slice HO_10.out
                                    subst eo35
                                    have p151 : 0 ≤ (x11_3 : Int) := of_decide_eq_true (by first | (with_reducible assumption) | assumption)
                                    have q151 : x11_3 < (t148.length : Int) := of_decide_eq_true (by first | (with_reducible assumption) | assumption)
                                    obtain ⟨ad151, e151, hx151_0⟩ := Kd.at_int (Kd.R_reads' HO_10.out).2.2 x11_3 p151 q151
                                    cases e151
                                    replace p151 := eq_true p151
                                    replace q151 := eq_true q151
                                    have p152 : 0 ≤ (t144 : Int) := of_decide_eq_true (by first | (with_reducible assumption) | assumption)
                                    have q152 : t144 < (t148.length : Int) := of_decide_eq_true (by first | (with_reducible assumption) | assumption)
                                    obtain ⟨ad152, e152, hx152_0⟩ := Kd.at_int (Kd.R_reads' HO_10.out).2.2 t144 p152 q152
                                    obtain rfl : ad151 = ad152 := (by injection e152)
                                    replace p152 := eq_true p152
                                    replace q152 := eq_true q152
                                    have p153 : 0 ≤ (x11_3 : Int) := of_decide_eq_true (by first | (with_reducible assumption) | assumption)
                                    have q153 : x11_3 < (t148.length : Int) := of_decide_eq_true (by first | (with_reducible assumption) | assumption)
                                    obtain ⟨ad153, e153, hx153_0⟩ := Kd.at_int (Kd.R_reads' HO_10.out).2.2 x11_3 p153 q153
                                    obtain rfl : ad151 = ad153 := (by injection e153)
                                    replace p153 := eq_true p153
                                    replace q153 := eq_true q153
                                    have p154 : 0 ≤ (t144 : Int) := of_decide_eq_true (by first | (with_reducible assumption) | assumption)
                                    have q154 : t144 < (t148.length : Int) := of_decide_eq_true (by first | (with_reducible assumption) | assumption)
                                    obtain ⟨ad154, e154, hx154_0⟩ := Kd.at_int (Kd.R_reads' HO_10.out).2.2 t144 p154 q154
                                    obtain rfl : ad151 = ad154 := (by injection e154)
                                    replace p154 := eq_true p154
                                    replace q154 := eq_true q154
                                    go_wp2
                                    repeat (go_quiet (fail); try go_wp2)
                                    go_roundg kj20
                                    case measure => have := HJ2.out; have := HJ13.out; have := HK3.out; have := HJ20.out; omega
                                    case rel => exact ⟨(wrap64 (x11_3 + 1)), (by first | rfl | (simp; done) | (simp [*]; done)), H', ⟨by have := HJ2.out; have := HJ13.out; have := HK3.out; have := HJ20.out; omega⟩, ⟨by (with_reducible repeat (first | apply Kd.R_alloc | apply Kd.R_drewN | apply Kd.R_drew)); exact HO_10.out⟩, ⟨by repeat (first | (with_reducible first | exact HB.out | apply below_alloc | apply pw_below_drewN | apply below_drew1) | exact HB.out)⟩⟩
                              · rw [if_neg c28] at H
                                exact absurd H (by simp)
                            · rw [if_neg c27] at H
                              exact absurd H (by simp)
                          · rw [if_neg c26] at H
                            exact absurd H (by simp)
                        · rw [if_neg c25] at H
                          exact absurd H (by simp)
                      · replace c24 := Bool.eq_false_iff.mpr c24
                        subst c24
                        have H1 : (if t145 = true then (if 0 ≤ t144 then (if t144 < (t148.length : Int) then (some (decide ((rd t148 t144) ≤ 64))) else (none)) else (none)) else (some true)) = some r := by rw [if_neg (show ¬ (false = true) by decide)] at H; exact H
                        clear H
                        have H := H1
                        clear H1
                        by_cases c36 : t145 = true
                        · subst c36
                          have H1 : (if 0 ≤ t144 then (if t144 < (t148.length : Int) then (some (decide ((rd t148 t144) ≤ 64))) else (none)) else (none)) = some r := by rw [if_pos rfl] at H; exact H
                          clear H
                          have H := H1
                          clear H1
                          by_cases c37 : 0 ≤ t144
                          · rw [if_pos c37] at H
                            have c37b0 : decide (0 ≤ t144) = true := decide_eq_true c37
                            clear c37
                            by_cases c38 : t144 < (t148.length : Int)
                            · rw [if_pos c38] at H
                              have c38b0 : decide (t144 < (t148.length : Int)) = true := decide_eq_true c38
                              clear c38
                              obtain rfl := Option.some.inj H
                              obtain ⟨Ao39, co39, eo39⟩ := Kd.R_slice HO_10.out
                              subst eo39
                              have p155 : 0 ≤ (t144 : Int) := of_decide_eq_true (by first | (with_reducible assumption) | assumption)
                              have q155 : t144 < (t148.length : Int) := of_decide_eq_true (by first | (with_reducible assumption) | assumption)
                              obtain ⟨ad155, e155, hx155_0⟩ := Kd.at_int (Kd.R_reads' HO_10.out).2.2 t144 p155 q155
                              cases e155
                              replace p155 := eq_true p155
                              replace q155 := eq_true q155
                              go_wp2
                              repeat (go_quiet (fail); try go_wp2)
                              go_ret
                              exact ⟨by first | rfl | (simp [errW_none, errW_some] <;> rfl) | (simp [*, errW_none, errW_some] <;> rfl), by repeat (first | (with_reducible first | exact HB.out | apply below_alloc | apply pw_below_drewN | apply below_drew1) | exact HB.out)⟩
                            · rw [if_neg c38] at H
                              exact absurd H (by simp)
                          · rw [if_neg c37] at H
                            exact absurd H (by simp)
                        · replace c36 := Bool.eq_false_iff.mpr c36
                          subst c36
                          have H1 : (some true) = some r := by rw [if_neg (show ¬ (false = true) by decide)] at H; exact H
                          clear H
                          have H := H1
                          clear H1
                          obtain rfl := Option.some.inj H
                          go_wp2
                          repeat (go_quiet (fail); try go_wp2)
                          go_ret
                          exact ⟨by first | rfl | (simp [errW_none, errW_some] <;> rfl) | (simp [*, errW_none, errW_some] <;> rfl), by repeat (first | (with_reducible first | exact HB.out | apply below_alloc | apply pw_below_drewN | apply below_drew1) | exact HB.out)⟩

/-- THE ONE PURE STATEMENT of shalelaw17_PickLess: yours. -/
def shalelaw17_PickLess.Pure : Prop := ∀ (l0 : List Int) (a1 : Int), l0.length ≤ maxLen → l0.length * 8 ≤ 140737488351232 → (∀ x ∈ l0, (Lit.int .i64 x).wf = true) → (Lit.int .u8 a1).wf = true → ∃ k, shalelaw17_PickLess.f k l0 a1 = some true
theorem shalelaw17_PickLess.walk (P : shalelaw17_PickLess.Pure) (a0 : Option Addr) (len0 cap0 : Nat) (z0 : List Int) (a1 : Int) (w : World) (w0 : (a0 = none ∧ len0 = 0 ∧ cap0 = 0 ∧ z0 = []) ∨ ∃ x, a0 = some x ∧ len0 ≤ cap0 ∧ cap0 ≤ maxLen ∧ z0.length = cap0 ∧ (∀ i, i < z0.length → w.cell? (x.add i) = some (.int .i64 (z0.getD i 0))) ∧ ∀ n ∈ z0, (Lit.int .i64 n).wf = true) (y0 : len0 * 8 ≤ 140737488351232) (w1 : (Lit.int .u8 a1).wf = true) :
    Calls Try.prog 4 #[.slice a0 len0 cap0, .int .u8 a1] w fun e w' => e = .returned (.bool true) ∧ Below w.heap.size w w' := by
  obtain ⟨l0, rfl, hr0, hm0, hw0, hc0⟩ := ReadsInt.ofRowC w0
  obtain ⟨k, h⟩ := P l0 a1 hm0 y0 hw0 w1
  refine (shalelaw17_PickLess.calls k _ _ l0 a1 true w (Kd.C_of_reads (d := (0 : Int)) (h1 := fun _ => rfl) hr0) hc0 h).mono ?_
  rintro e w' ⟨rfl, hd⟩
  exact ⟨rfl, hd⟩

/-! ### slices_Clone_int_int: function 19 -/
def slices_Clone_int_int.f (l0 : List Int) : Option (List Int) := if l0.length < 17592186044416 then some l0 else none
set_option maxHeartbeats 8000000 in
theorem slices_Clone_int_int.calls (A0 : Option Addr) (c0 : Nat) (l0 : List Int) (r : List Int) (w : World) (hr0 : Kd.C (Kd.int .i64) w A0 l0.length l0) (hc0 : l0.length ≤ c0) (h : slices_Clone_int_int.f l0 = some r) :
    Calls Try.prog 19 #[.slice A0 l0.length c0] w fun e w' => ∃ v0_ : Value, e = .returned (v0_) ∧ Kd.R (Kd.int .i64) 3 w' w.heap.size (fun _ => True) v0_ r ∧ Below w.heap.size w w' := by
  unfold slices_Clone_int_int.f at h
  split at h
  · rename_i hl
    injection h with h
    subst h
    cases A0 with
    | none =>
      obtain ⟨h1, h2⟩ := reads_none hr0
      subst h1
      have hnil := @Lib.run_eql_slice_nil
      go_enter Try.func19, Try.ntmps19
      go_wp2
      go_ret
      exact ⟨_, rfl, Kd.R_nil _ _ _ _ _, Below.refl _ _⟩
    | some ad =>
      have hnil := @Lib.run_eql_slice_nil
      have HR := Aside0.mk hr0
      have HL := Aside0.mk hl
      clear hr0 hl hc0
      go_enter Try.func19, Try.ntmps19
      go_wp2_with (first
        | (at_builtin; refine Kd.R_append_rows (Kd.int .i64) (w0 := w) w.heap.size rfl (.tmp 5) (.tmp 6) 22 3 (.int .i64 0) 8 rfl Try.underlying22 info3 rfl (by decide) (by omega) _ [] l0 (some ad) l0.length c0 (fun _ => True) (fun _ => False) rfl rfl ?aF (Kd.C_below HR.out ?aB2) (fun _ _ h => ?aK) (fun _ h => h.elim) (fun _ _ => trivial) ?aB ?aS ?aL ?_)
        | fail)
      case aF => exact R_empty_lit _ _ _ _ (Nat.le_refl _)
      case aB2 => exact below_alloc (Below.refl _ _) _
      case aK => exact h
      case aB => exact below_alloc (Below.refl _ _) _
      case aS => simp
      case aL => have := HL.out; simp; omega
      intro v1 w1 ho hb hg hat
      go_wp2
      go_ret
      exact ⟨_, rfl, by simpa using ho, hb⟩
  · cases h

/-! ### slices_Replace_int_int: function 20 -/
def slices_Replace_int_int.f (l0 : List Int) (a1 a2 : Int) (l3 : List Int) : Option (List Int) :=
  if 0 ≤ a1 ∧ a2 = a1 + 2 ∧ a2 ≤ l0.length ∧ l3.length = 1 then some (l0.take a1.toNat ++ l3 ++ l0.drop a2.toNat) else none
theorem slices_Replace_int_int.zeroI (w : World) : (zeroValue 3).run Try.prog w = .ok (.int .i64 0) w := by kernel_rfl
theorem slices_Replace_int_int.size3 : (Try.prog.info? 3).map (·.size) = some 1 := by kernel_rfl
set_option maxHeartbeats 8000000 in
set_option maxRecDepth 100000 in
theorem slices_Replace_int_int.at_end (g cap : Nat) (cur : List Value) (i : Nat) (A3 : Option Addr) (c3 : Nat) (x : Int) (w0 w : World) (hB : Below w0.heap.size w0 w) (hge : w0.heap.size ≤ g) (hg : Blk w g 3 cur) (hnc : i + 2 ≤ cap) (hcm : cap ≤ 9223372036854775807) (hcs : cur.length = cap)
    (hx : ∃ ad, A3 = some ad ∧ w.cell? ad = some (.int .i64 x)) :
    Calls Try.prog 20 #[.slice (some ⟨g, 0, none⟩) (i + 2) cap, .int .i64 i, .int .i64 ((i : Int) + 2), .slice A3 1 c3] w fun e w' => e = .returned (.slice (some ⟨g, 0, none⟩) (i + 1) cap) ∧ (∃ cur', Blk w' g 3 cur' ∧ cur'.length = cap ∧ cur'.take (i + 1) = cur.take i ++ [.int .i64 x]) ∧ KB w w' g ∧ Below w0.heap.size w0 w' := by
  obtain ⟨ad, rfl, hx⟩ := hx
  have HG := Aside0.mk hg
  have HB := Aside0.mk hB
  have HX := Aside0.mk hx
  have HC := Aside0.mk hcs
  clear hg hB hx hcs
  have hne : ((i : Int) == ((i : Int) + 2)) = false := by simp; omega
  have heq : (((i : Int) + 2) == ((i + 2 : Nat) : Int)) = true := by simp
  have heq2 : (((i : Int) + 2) == ((i : Int) + 2)) = true := by simp
  go_enter Try.func20, Try.ntmps20
  go_wp2_with (first
    | ((with_reducible refine gate_builtin (b := .append) (xs := #[.tmp 32, .tmp 33]) rfl ?_); refine wp_append_in rfl (.tmp 32) (.tmp 33) 22 3 1 rfl Try.underlying22 slices_Replace_int_int.size3 g i cap 1 c3 (some ad) rfl rfl cur 3 [.int .i64 x] HG.out rfl (by omega) ?hp ?hf ?h1 HB.out hge ?_))
  case hp => intro _; exact ⟨ad, rfl, fun j v hv => by
    cases j with
    | zero => simp at hv; subst hv; simpa [Addr.add] using HX.out
    | succ j => simp at hv⟩
  case hf => have := HC.out; simp; omega
  case h1 => intro v hv; simp at hv; subst hv; rfl
  intro w1 hg1 hk1 hb1
  have HL1 : Aside0 ((splice cur i [Value.int .i64 x]).length = cap) := ⟨by rw [length_splice _ _ _ (by have := HC.out; simp; omega)]; exact HC.out⟩
  go_wp2_with (first
      | ((with_reducible refine gate_builtin (b := .clear) (xs := #[.tmp 43]) rfl ?_); refine wp_clear rfl (.tmp 43) 22 3 1 rfl _ Try.underlying22 slices_Replace_int_int.zeroI rfl (by simp [Value.cells, Value.oneCell']) g (i + 1) 1 _ _ rfl _ 3 hg1.out ?hp2 ?hf2 hb1.out hge ?_))
  case hf2 => have := HL1.out; omega
  intro w2 zs hz hg2 hk2 hb2
  go_wp2
  go_ret
  refine ⟨rfl, ⟨_, hg2.out, ?_, ?_⟩, hk1.out.trans hk2.out, hb2.out⟩
  · rw [length_splice _ _ _ (by have := HL1.out; omega)]; exact HL1.out
  · have := HC.out
    have e1 : (splice cur i [Value.int .i64 x]).take (i + 1) = cur.take i ++ [.int .i64 x] := by
      unfold splice
      rw [← List.append_assoc, List.take_append_of_le_length (by simp; omega), List.take_of_length_le (by simp; omega)]
    unfold splice at e1 ⊢
    rw [List.take_append_of_le_length (by simp; omega), List.take_take, Nat.min_self]
    exact e1
set_option maxHeartbeats 8000000 in
set_option maxRecDepth 100000 in
theorem slices_Replace_int_int.at_mid (g cap : Nat) (cur : List Value) (i m : Nat) (A3 : Option Addr) (c3 : Nat) (x : Int) (w0 w : World) (hB : Below w0.heap.size w0 w) (hge : w0.heap.size ≤ g) (hg : Blk w g 3 cur) (hin : 0 < m) (hnc : i + 2 + m ≤ cap) (hcm : cap ≤ 9223372036854775807) (hcs : cur.length = cap) (hone : ∀ u ∈ (cur.take (i + 2 + m)), u.oneCell' = true)
    (hx : ∃ ad, A3 = some ad ∧ w.cell? ad = some (.int .i64 x)) :
    Calls Try.prog 20 #[.slice (some ⟨g, 0, none⟩) (i + 2 + m) cap, .int .i64 i, .int .i64 ((i : Int) + 2), .slice A3 1 c3] w fun e w' => e = .returned (.slice (some ⟨g, 0, none⟩) (i + 1 + m) cap) ∧ (∃ cur', Blk w' g 3 cur' ∧ cur'.length = cap ∧ cur'.take (i + 1 + m) = cur.take i ++ [.int .i64 x] ++ (cur.take (i + 2 + m)).drop (i + 2)) ∧ KB w w' g ∧ Below w0.heap.size w0 w' := by
  obtain ⟨ad, rfl, hx⟩ := hx
  have HG := Aside0.mk hg
  have HB := Aside0.mk hB
  have HX := Aside0.mk hx
  have HC := Aside0.mk hcs
  have HO := Aside0.mk hone
  clear hg hB hx hcs hone
  have hne : ((i : Int) == ((i : Int) + 2)) = false := by simp; omega
  have heq : (((i : Int) + 2) == ((i + 2 + m : Nat) : Int)) = false := by simp; omega
  have heq' : (((i : Int) + 2) == ((i : Int) + 2 + (m : Int))) = false := by simp; omega
  go_enter Try.func20, Try.ntmps20
  go_wp2
  go_region
  go_wp2_with (first
    | ((with_reducible refine gate_builtin (b := .copy) (xs := #[.tmp 95, .tmp 96]) rfl ?_); refine wp_copy rfl (.tmp 95) (.tmp 96) 22 22 rfl 3 1 Try.underlying22 slices_Replace_int_int.size3 g i _ _ _ _ _ _ rfl rfl cur 3 [.int .i64 x] HG.out.drew ?hn (fun _ => ⟨rfl, ad, rfl, ?hp⟩) ?hf ?h1 (below_drew1 HB.out) hge ?_))
  case hn => have e_ : Nat.min 1 (i + 1 + m - i) = 1 := Nat.min_eq_left (by omega); simp [e_]
  case hp =>
    intro j v hv
    cases j with
    | zero => simp at hv; subst hv; simpa [Addr.add] using HX.out
    | succ j => simp at hv
  case hf => have := HC.out; simp; omega
  case h1 => intro v hv; simp at hv; subst hv; rfl
  intro w1 hg1 hk1 hb1
  obtain ⟨c1, hc1⟩ : ∃ c1, c1 = splice cur i [Value.int .i64 x] := ⟨_, rfl⟩
  rw [← hc1] at hg1
  have H1 := Aside0.mk hc1
  have HL1 : Aside0 (c1.length = cap) := ⟨by rw [hc1, length_splice _ _ _ (by have := HC.out; simp; omega)]; exact HC.out⟩
  have HD1 : Aside0 ((c1.take (i + 2 + m)).drop (i + 2) = (cur.take (i + 2 + m)).drop (i + 2)) := ⟨by
    rw [hc1]
    apply List.ext_getElem?
    intro j
    have e1 : ¬ i + 2 + j < i := by omega
    have e2 : i + 2 + j - i = j + 1 + 1 := by omega
    simp only [splice, List.getElem?_drop, List.getElem?_take, List.length_singleton, List.getElem?_append]
    have := HC.out
    by_cases h : i + 2 + j < i + 2 + m
    · rw [if_pos h, if_pos h, if_neg (by rw [List.length_take]; omega), if_neg (by rw [List.length_take]; simp; omega), List.length_take, Nat.min_eq_left (by omega)]
      congr 1
      omega
    · rw [if_neg h, if_neg h]⟩
  clear hc1
  go_wp2
  have k1 : IntKind.i64.wrap ((i : Int) + 1) = (i : Int) + 1 := IntWalk.i64_in _ (by omega)
  have k2 : 0 ≤ (i : Int) + 1 := by omega
  have k3 : ((i : Int) + 1).toNat = i + 1 := by omega
  have k4 : ¬ cap = i + 1 := by omega
  have k5 : ¬ cap = i + 2 := by omega
  have k6 : (i : Int) + 1 ≤ (i : Int) + 1 + (m : Int) := by omega
  have k7 : ((i : Int) + 2).toNat = i + 2 := by omega
  have k8 : 0 ≤ (i : Int) + 2 := by omega
  have k9 : (i : Int) + 2 ≤ (i : Int) + 2 + (m : Int) := by omega
  go_still_tail 9, (by kernel_rfl)
  change wpList _ _ _ _ _ w1.drew
  (with_reducible refine gate_builtin (b := .copy) (xs := #[.tmp 103, .tmp 106]) rfl ?_)
  refine wp_copy rfl (.tmp 103) (.tmp 106) 22 22 rfl 3 1 Try.underlying22 slices_Replace_int_int.size3 g (i + 1) _ _ _ _ _ _ rfl rfl c1 3 ((c1.take (i + 2 + m)).drop (i + 2)) hg1.out.drew ?hn2 (fun _ => ⟨rfl, ⟨g, i + 2, none⟩, rfl, ?hp2⟩) ?hf2 ?h12 (below_drew1 hb1.out) hge ?_
  case hn2 => rw [List.length_drop, List.length_take, HL1.out]; have e_ : Nat.min m (i + 1 + m - (i + 1)) = m := Nat.min_eq_left (by omega); simp; omega
  case hp2 => 
    intro j v hv
    rw [List.getElem?_drop] at hv
    rw [addr_add]
    refine hg1.out.drew.cell ?_
    rw [← hv, List.getElem?_take]
    have : i + 2 + j < (c1.take (i + 2 + m)).length := (List.getElem?_eq_some_iff.1 hv).1
    rw [if_pos (by rw [List.length_take] at this; omega)]
  case hf2 => rw [List.length_drop, List.length_take, HL1.out]; omega
  case h12 =>
    rw [HD1.out]
    intro v hv
    exact HO.out v (List.mem_of_mem_drop hv)
  intro w2 hg2 hk2 hb2
  obtain ⟨c2, hc2⟩ : ∃ c2, c2 = splice c1 (i + 1) ((c1.take (i + 2 + m)).drop (i + 2)) := ⟨_, rfl⟩
  rw [← hc2] at hg2
  have H2 := Aside0.mk hc2
  have HL2 : Aside0 (c2.length = cap) := ⟨by rw [hc2, length_splice _ _ _ (by have := HL1.out; rw [List.length_drop, List.length_take]; omega)]; exact HL1.out⟩
  clear hc2 k1 k2 k3 k4 k5 k6 k7 k8 k9
  have k1 : i + 2 + m - (i + 1 + m) = 1 := by omega
  have k2 : ¬ cap = i + 1 + m := by omega
  go_wp2_with (first
      | ((with_reducible refine gate_builtin (b := .clear) (xs := #[.tmp 110]) rfl ?_); refine wp_clear rfl (.tmp 110) 22 3 1 rfl _ Try.underlying22 slices_Replace_int_int.zeroI rfl (by simp [Value.cells, Value.oneCell']) g (i + 1 + m) _ _ _ rfl c2 3 hg2.out ?hp3 ?hf3 hb2.out hge ?_))
  case hf3 => have := HL2.out; omega
  intro w3 zs hz hg3 hk3 hb3
  go_wp2
  go_ret
  refine ⟨rfl, ⟨_, hg3.out, ?_, ?_⟩, ((KB.trans (b := w.drew) ⟨Nat.le_refl _, fun _ _ _ => rfl⟩ hk1.out).trans (KB.trans (b := w1.drew) ⟨Nat.le_refl _, fun _ _ _ => rfl⟩ hk2.out)).trans hk3.out, hb3.out⟩
  · rw [length_splice _ _ _ (by have := HL2.out; omega)]; exact HL2.out
  · have := HC.out
    have := HL1.out
    have := HL2.out
    have e2 : c2.take (i + 1 + m) = cur.take i ++ [.int .i64 x] ++ (cur.take (i + 2 + m)).drop (i + 2) := by
      rw [H2.out]
      unfold splice
      rw [HD1.out, ← List.append_assoc, List.take_append_of_le_length (by simp; omega), List.take_of_length_le (by simp; omega), H1.out]
      congr 1
      unfold splice
      rw [← List.append_assoc, List.take_append_of_le_length (by simp; omega), List.take_of_length_le (by simp; omega)]
    unfold splice
    rw [List.take_append_of_le_length (by simp; omega), List.take_take, Nat.min_self]
    exact e2
theorem slices_Replace_int_int.calls (P0_ : Nat → Prop) (u9000_ : Value) (l0 : List Int) (a1 a2 : Int) (A3 : Option Addr) (c3 : Nat) (l3 : List Int) (r : List Int) (w0 w : World) (hB : Below w0.heap.size w0 w) (ho0 : Kd.R (Kd.int .i64) 3 w w0.heap.size P0_ u9000_ l0) (hr3 : ∀ W_, Kept w W_ (fun k_ => P0_ k_) → Kd.C (Kd.int .i64) W_ A3 l3.length l3) (hc3 : l3.length ≤ c3) (h : slices_Replace_int_int.f l0 a1 a2 l3 = some r) :
    Calls Try.prog 20 #[u9000_, .int .i64 a1, .int .i64 a2, .slice A3 l3.length c3] w fun e w' => ∃ v0_ : Value, e = .returned (v0_) ∧ Kd.R (Kd.int .i64) 3 w' w0.heap.size (fun k_ => (P0_ k_ ∨ w.heap.size ≤ k_)) v0_ r ∧ Below w0.heap.size w0 w' ∧ Kept w w' (fun k_ => P0_ k_) := by
  unfold slices_Replace_int_int.f at h
  split at h
  · rename_i hc
    obtain ⟨h1, rfl, h3, h4⟩ := hc
    injection h with h
    subst h
    obtain ⟨i, rfl⟩ : ∃ i : Nat, a1 = i := ⟨a1.toNat, by omega⟩
    obtain ⟨x, rfl⟩ : ∃ x, l3 = [x] := by
      cases l3 with
      | nil => simp at h4
      | cons x l => cases l with
        | nil => exact ⟨x, rfl⟩
        | cons y l => simp at h4
    have hx := C_cells (Flat.int .i64) (hr3 w (Kept.refl w _)) (by simp)
    obtain ⟨ad, rfl, hx⟩ := hx
    have hx0 : w.cell? ad = some (.int .i64 x) := by simpa [Addr.add] using hx 0 (.int .i64 x) rfl
    have F := Flat.int .i64
    rcases R_raw F ho0 with ⟨rfl, rfl⟩ | ⟨g, cap, cur, rfl, hge, hok, hg, hnc, hcm, hcs, ht⟩
    · simp at h3; omega
    have hsz : (Kd.int .i64).sz = 1 := rfl
    rw [hsz, Nat.mul_one] at hcs ht
    have htn : (((i : Nat) : Int) + 2).toNat = i + 2 := by omega
    have hin : ((i : Nat) : Int).toNat = i := by omega
    have hdr : ∀ m, (cur.take l0.length).drop m = encL (fun x => [.int .i64 x]) (l0.drop m) := fun m => by rw [ht]; simpa [hsz] using encL_drop F l0 m
    have htk : ∀ m, m ≤ l0.length → cur.take m = encL (fun x => [.int .i64 x]) (l0.take m) := fun m hm => by
      have := encL_take F l0 m
      rw [hsz, Nat.mul_one, ← ht, List.take_take, Nat.min_eq_left hm] at this
      exact this
    have hfin : ∀ (n : Nat) (e : Ending) (w' : World), n = (l0.take i ++ [x] ++ l0.drop (i + 2)).length → e = .returned (.slice (some ⟨g, 0, none⟩) n cap) → (∃ cur', Blk w' g 3 cur' ∧ cur'.length = cap ∧ cur'.take n = cur.take i ++ [.int .i64 x] ++ (cur.take l0.length).drop (i + 2)) → KB w w' g → Below w0.heap.size w0 w' →
        ∃ v0_ : Value, e = .returned (v0_) ∧ Kd.R (Kd.int .i64) 3 w' w0.heap.size (fun k_ => (P0_ k_ ∨ w.heap.size ≤ k_)) v0_ (l0.take (i : Int).toNat ++ [x] ++ l0.drop ((i : Int) + 2).toNat) ∧ Below w0.heap.size w0 w' ∧ Kept w w' (fun k_ => P0_ k_) := by
      rintro n e w' hn he ⟨cur', hg', hl', ht'⟩ hk hb
      refine ⟨_, he, ?_, hb, hk.kept hok⟩
      rw [htn, hin]
      refine R_shut F hge (.inl hok) hg' hn (by rw [← hn]; simp at hn; omega) hcm (by rw [hsz, Nat.mul_one]; exact hl') ?_
      rw [hsz, Nat.mul_one, ← hn, ht', htk i (by omega), hdr]
      simp [encL]
    by_cases e : i + 2 = l0.length
    · have := slices_Replace_int_int.at_end g cap cur i (some ad) c3 x w0 w hB hge hg (by omega) hcm hcs ⟨ad, rfl, hx0⟩
      rw [← e]
      refine this.mono ?_
      rintro e1 w' ⟨he, ⟨cur', hg', hl', ht'⟩, hk, hb⟩
      refine hfin (i + 1) e1 w' (by simp; omega) he ⟨cur', hg', hl', ?_⟩ hk hb
      rw [ht', hdr, List.drop_eq_nil_of_le (by omega)]
      simp [encL]
    · obtain ⟨m, hm⟩ : ∃ m, l0.length = i + 2 + m := ⟨l0.length - (i + 2), by omega⟩
      have := slices_Replace_int_int.at_mid g cap cur i m (some ad) c3 x w0 w hB hge hg (by omega) (by omega) hcm hcs (by rw [← hm, ht]; exact encL_one F l0) ⟨ad, rfl, hx0⟩
      rw [← hm] at this
      refine this.mono ?_
      rintro e1 w' ⟨he, hcur, hk, hb⟩
      exact hfin (i + 1 + m) e1 w' (by simp; omega) he hcur hk hb
  · cases h

end Go.Proofs.Ytnjhncplodpafaa.Print
