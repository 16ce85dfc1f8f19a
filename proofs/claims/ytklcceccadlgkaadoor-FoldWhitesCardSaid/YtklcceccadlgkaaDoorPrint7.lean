-- Written by pr.py out of the translation (no hand typed it); Lean checks it.
import Derived.Test.YtklcceccadlgkaaDoorPrint0
import Derived.Test.YtklcceccadlgkaaDoorPrint1
import Derived.Test.YtklcceccadlgkaaDoorPrint2
import Derived.Test.YtklcceccadlgkaaDoorPrint3
import Derived.Test.YtklcceccadlgkaaDoorPrint4
namespace Go.Proofs.YtklcceccadlgkaaDoor.Print
open Go.RowKit Go.Proofs.YtklcceccadlgkaaDoorW.PrintWords Go.Proofs.YtklcceccadlgkaaDoorW.PrintLast Go.Proofs.YtklcceccadlgkaaDoorW.PrintMore
attribute [local go_sem] max2_int min2_int max_two min_two max_three min_three max_four min_four   -- for this text's walks alone
set_option linter.unusedVariables false
set_option linter.unusedSimpArgs false

attribute [local go_sem high] eqA23
/-! ### shalelaw10_FoldWhites: function 17 -/
mutual
def shalelaw10_FoldWhites.j0 : Nat → List (List (S23)) → ByteArray → Bool → Option (Bool)
  | 0, _, _, _ => none
  | k + 1, x0, x1, x23 => if x23 = true then ((shalelaw10_awake.f k).bind fun t254 => (some t254)) else (if 1 + x1.size ≤ 9223372036854775807 then ((some (([(⟨(⟨#[47]⟩ : ByteArray) ++ x1, 3, (⟨#[]⟩ : ByteArray)⟩ : S23)] : List (S23)) : List (S23))).bind fun y255 => ((fold_Stack.f k x0).bind fun t258 => ((layer_Right.f k y255).bind fun t261 => (if t261 = true then ((fold_Over.f k t258 y255).bind fun t265 => (shalelaw10_FoldWhites.l0 k x1 t258 t265 0 0)) else ((fold_Over.f k t258 y255).bind fun t262 => (some ((t262.length : Int) == 0))))))) else (none))
def shalelaw10_FoldWhites.l0 : Nat → ByteArray → List (S23) → List (S23) → Int → Int → Option (Bool)
  | 0, _, _, _, _, _ => none
  | k + 1, x1, x6, x7, x8, x9 => if x9 < (x6.length : Int) then (if 0 ≤ x9 then (if 1 + x1.size ≤ 9223372036854775807 then (if ((rd_T23 x6 x9).f0).toList = ((⟨#[47]⟩ : ByteArray) ++ x1).toList then (shalelaw10_FoldWhites.j2 k x1 x6 x7 x8 x9 true) else (if (((rd_T23 x6 x9).f0).size : Int) > (wrap64 ((x1.size : Int) + 1)) then (if 0 ≤ (wrap64 ((x1.size : Int) + 2)) then (if (wrap64 ((x1.size : Int) + 2)) ≤ (((rd_T23 x6 x9).f0).size : Int) then (if ((⟨#[47]⟩ : ByteArray) ++ x1).size + 1 ≤ 9223372036854775807 then (shalelaw10_FoldWhites.j2 k x1 x6 x7 x8 x9 ((((rd_T23 x6 x9).f0).extract 0 ((wrap64 ((x1.size : Int) + 2)) : Int).toNat).toList == (((⟨#[47]⟩ : ByteArray) ++ x1) ++ (⟨#[47]⟩ : ByteArray)).toList)) else (none)) else (none)) else (none)) else (shalelaw10_FoldWhites.j2 k x1 x6 x7 x8 x9 false))) else (none)) else (none)) else (some (x8 == (x7.length : Int)))
def shalelaw10_FoldWhites.j2 : Nat → ByteArray → List (S23) → List (S23) → Int → Int → Bool → Option (Bool)
  | 0, _, _, _, _, _, _ => none
  | k + 1, x1, x6, x7, x8, x9, x11 => if x11 = true then (shalelaw10_FoldWhites.l0 k x1 x6 x7 x8 (wrap64 (x9 + 1))) else (if x8 ≥ (x7.length : Int) then (some false) else (if 0 ≤ x8 then (if x8 < (x7.length : Int) then (if 0 ≤ x9 then (if x9 < (x6.length : Int) then (if (!((((rd_T23 x7 x8).f0).toList) == (((rd_T23 x6 x9).f0).toList)) || (!(((rd_T23 x7 x8).f1) == ((rd_T23 x6 x9).f1)) || (!((((rd_T23 x7 x8).f2).toList) == (((rd_T23 x6 x9).f2).toList))))) = true then (some false) else (shalelaw10_FoldWhites.l0 k x1 x6 x7 (wrap64 (x8 + 1)) (wrap64 (x9 + 1)))) else (none)) else (none)) else (none)) else (none)))
end
def shalelaw10_FoldWhites.f (k : Nat) (l0 : List (List (S23))) (a1 : ByteArray) : Option (Bool) := (shalelaw10_awake.f k).bind fun t252 => (if t252 = true then ((shalelaw10_Few.f k l0).bind fun t253 => (if t253 = 0 then (shalelaw10_FoldWhites.j0 k l0 a1 true) else (shalelaw10_FoldWhites.j0 k l0 a1 (decide ((a1.size : Int) > 50))))) else (shalelaw10_FoldWhites.j0 k l0 a1 true))
theorem shalelaw10_FoldWhites.mono_l : ∀ k, (∀ y0 y1 y2, LeO (shalelaw10_FoldWhites.j0 k y0 y1 y2) (shalelaw10_FoldWhites.j0 (k + 1) y0 y1 y2)) ∧ (∀ y0 y1 y2 y3 y4, LeO (shalelaw10_FoldWhites.l0 k y0 y1 y2 y3 y4) (shalelaw10_FoldWhites.l0 (k + 1) y0 y1 y2 y3 y4)) ∧ (∀ y0 y1 y2 y3 y4 y5, LeO (shalelaw10_FoldWhites.j2 k y0 y1 y2 y3 y4 y5) (shalelaw10_FoldWhites.j2 (k + 1) y0 y1 y2 y3 y4 y5))
  | 0 => ⟨fun _ _ _ r h => by simp [shalelaw10_FoldWhites.j0] at h, fun _ _ _ _ _ r h => by simp [shalelaw10_FoldWhites.l0] at h, fun _ _ _ _ _ _ r h => by simp [shalelaw10_FoldWhites.j2] at h⟩
  | k + 1 => by
    obtain ⟨ih0, ih1, ih2⟩ := shalelaw10_FoldWhites.mono_l k
    refine ⟨?_, ?_, ?_⟩
    · intro y0 y1 y2
      unfold shalelaw10_FoldWhites.j0
      repeat' first
      | (with_reducible exact ih0 _ _ _)
      | (with_reducible exact ih1 _ _ _ _ _)
      | (with_reducible exact ih2 _ _ _ _ _ _)
      | (with_reducible exact fold_Over.mono _ _ _)
      | (with_reducible exact fold_Stack.mono _ _)
      | (with_reducible exact layer_Right.mono _ _)
      | (with_reducible exact shalelaw10_Few.mono _ _)
      | (with_reducible exact shalelaw10_awake.mono _)
      | (with_reducible exact LeO.refl _)
      | (with_reducible exact LeO.none _)
      | (with_reducible refine LeO.ite ?_ ?_)
      | (with_reducible refine LeO.bind ?_ (fun _ => ?_))
      | exact ih0 _ _ _
      | exact ih1 _ _ _ _ _
      | exact ih2 _ _ _ _ _ _
      | exact fold_Over.mono _ _ _
      | exact fold_Stack.mono _ _
      | exact layer_Right.mono _ _
      | exact shalelaw10_Few.mono _ _
      | exact shalelaw10_awake.mono _
      | exact LeO.none _
      | refine LeO.ite ?_ ?_
      | refine LeO.bind ?_ (fun _ => ?_)
    · intro y0 y1 y2 y3 y4
      unfold shalelaw10_FoldWhites.l0
      repeat' first
      | (with_reducible exact ih0 _ _ _)
      | (with_reducible exact ih1 _ _ _ _ _)
      | (with_reducible exact ih2 _ _ _ _ _ _)
      | (with_reducible exact fold_Over.mono _ _ _)
      | (with_reducible exact fold_Stack.mono _ _)
      | (with_reducible exact layer_Right.mono _ _)
      | (with_reducible exact shalelaw10_Few.mono _ _)
      | (with_reducible exact shalelaw10_awake.mono _)
      | (with_reducible exact LeO.refl _)
      | (with_reducible exact LeO.none _)
      | (with_reducible refine LeO.ite ?_ ?_)
      | (with_reducible refine LeO.bind ?_ (fun _ => ?_))
      | exact ih0 _ _ _
      | exact ih1 _ _ _ _ _
      | exact ih2 _ _ _ _ _ _
      | exact fold_Over.mono _ _ _
      | exact fold_Stack.mono _ _
      | exact layer_Right.mono _ _
      | exact shalelaw10_Few.mono _ _
      | exact shalelaw10_awake.mono _
      | exact LeO.none _
      | refine LeO.ite ?_ ?_
      | refine LeO.bind ?_ (fun _ => ?_)
    · intro y0 y1 y2 y3 y4 y5
      unfold shalelaw10_FoldWhites.j2
      repeat' first
      | (with_reducible exact ih0 _ _ _)
      | (with_reducible exact ih1 _ _ _ _ _)
      | (with_reducible exact ih2 _ _ _ _ _ _)
      | (with_reducible exact fold_Over.mono _ _ _)
      | (with_reducible exact fold_Stack.mono _ _)
      | (with_reducible exact layer_Right.mono _ _)
      | (with_reducible exact shalelaw10_Few.mono _ _)
      | (with_reducible exact shalelaw10_awake.mono _)
      | (with_reducible exact LeO.refl _)
      | (with_reducible exact LeO.none _)
      | (with_reducible refine LeO.ite ?_ ?_)
      | (with_reducible refine LeO.bind ?_ (fun _ => ?_))
      | exact ih0 _ _ _
      | exact ih1 _ _ _ _ _
      | exact ih2 _ _ _ _ _ _
      | exact fold_Over.mono _ _ _
      | exact fold_Stack.mono _ _
      | exact layer_Right.mono _ _
      | exact shalelaw10_Few.mono _ _
      | exact shalelaw10_awake.mono _
      | exact LeO.none _
      | refine LeO.ite ?_ ?_
      | refine LeO.bind ?_ (fun _ => ?_)
theorem shalelaw10_FoldWhites.mono : ∀ a0 a1 k, LeO (shalelaw10_FoldWhites.f k a0 a1) (shalelaw10_FoldWhites.f (k + 1) a0 a1) := by
  intro a0 a1 k
  obtain ⟨ih0, ih1, ih2⟩ := shalelaw10_FoldWhites.mono_l k
  unfold shalelaw10_FoldWhites.f
  repeat' first
      | (with_reducible exact ih0 _ _ _)
      | (with_reducible exact ih1 _ _ _ _ _)
      | (with_reducible exact ih2 _ _ _ _ _ _)
      | (with_reducible exact fold_Over.mono _ _ _)
      | (with_reducible exact fold_Stack.mono _ _)
      | (with_reducible exact layer_Right.mono _ _)
      | (with_reducible exact shalelaw10_Few.mono _ _)
      | (with_reducible exact shalelaw10_awake.mono _)
      | (with_reducible exact LeO.refl _)
      | (with_reducible exact LeO.none _)
      | (with_reducible refine LeO.ite ?_ ?_)
      | (with_reducible refine LeO.bind ?_ (fun _ => ?_))
      | exact ih0 _ _ _
      | exact ih1 _ _ _ _ _
      | exact ih2 _ _ _ _ _ _
      | exact fold_Over.mono _ _ _
      | exact fold_Stack.mono _ _
      | exact layer_Right.mono _ _
      | exact shalelaw10_Few.mono _ _
      | exact shalelaw10_awake.mono _
      | exact LeO.none _
      | refine LeO.ite ?_ ?_
      | refine LeO.bind ?_ (fun _ => ?_)
set_option maxHeartbeats 8000000 in
set_option maxRecDepth 100000 in
theorem shalelaw10_FoldWhites.calls (k : Nat) (A0 : Option Addr) (c0 : Nat) (l0 : List (List (S23))) (a1 : ByteArray) (r : Bool) (w : World) (hr0 : Kd.C (Kd.slice 23 k23) w A0 l0.length l0) (hc0 : l0.length ≤ c0) (h : shalelaw10_FoldWhites.f k l0 a1 = some r) (hr : r = true) :
    Calls Tryd.prog 17 #[.slice A0 l0.length c0, .string a1] w fun e w' => e = .returned (.bool r) ∧ Below w.heap.size w w' := by
  have hu23 := Tryd.underlying23
  have HR0 := Aside0.mk hr0
  have HC0 := Aside0.mk hc0
  clear hr0 hc0
  have HB := Aside0.mk (Below.refl w.heap.size w)
  have H : ((shalelaw10_awake.f k).bind fun t252 => (if t252 = true then ((shalelaw10_Few.f k l0).bind fun t253 => (if t253 = 0 then (shalelaw10_FoldWhites.j0 k l0 a1 true) else (shalelaw10_FoldWhites.j0 k l0 a1 (decide ((a1.size : Int) > 50))))) else (shalelaw10_FoldWhites.j0 k l0 a1 true))) = some r := h
  clear h
  have HRR_ := Aside0.mk hr
  clear hr
  have HC3 := Aside0.mk H
  clear H
  go_enter Tryd.func17, Tryd.ntmps17
  go_upto_region 1 with (fail)
  repeat (go_quiet (fail); go_upto_region 1 with (fail))
  go_cut [23] (fun v23 wc => ∃ (kq : Nat) (x23_2 : Bool), v23 = .bool x23_2 ∧ Aside0 (shalelaw10_FoldWhites.j0 kq l0 a1 x23_2 = some r) ∧ Aside0 (kq ≤ k) ∧ Aside0 (Below w.heap.size w wc))
  case first =>
    have H := HC3.out
    clear HC3
    replace H := Option.bind_eq_some_iff.mp H
    obtain ⟨t252, A40, H⟩ := H
    replace H : (if t252 = true then ((shalelaw10_Few.f k l0).bind fun t253 => (if t253 = 0 then (shalelaw10_FoldWhites.j0 k l0 a1 true) else (shalelaw10_FoldWhites.j0 k l0 a1 (decide ((a1.size : Int) > 50))))) else (shalelaw10_FoldWhites.j0 k l0 a1 true)) = some r := H
    have A4 := Aside0.mk A40
    clear A40
    by_cases c5 : t252 = true
    · subst c5
      have H1 : ((shalelaw10_Few.f k l0).bind fun t253 => (if t253 = 0 then (shalelaw10_FoldWhites.j0 k l0 a1 true) else (shalelaw10_FoldWhites.j0 k l0 a1 (decide ((a1.size : Int) > 50))))) = some r := by rw [if_pos rfl] at H; exact H
      clear H
      have H := H1
      clear H1
      replace H := Option.bind_eq_some_iff.mp H
      obtain ⟨t253, A60, H⟩ := H
      replace H : (if t253 = 0 then (shalelaw10_FoldWhites.j0 k l0 a1 true) else (shalelaw10_FoldWhites.j0 k l0 a1 (decide ((a1.size : Int) > 50)))) = some r := H
      have A6 := Aside0.mk A60
      clear A60
      by_cases c7 : t253 = 0
      · rw [if_pos c7] at H
        have c7b0 : (t253 == 0) = true := beq_iff_eq.mpr c7
        have c7b1 : (t253 != 0) = false := bne_eq_false_iff_eq.mpr c7
        clear c7
        (first | rw [c7b0] | (simp only [i64_w, i32_w]; rw [c7b0]) | skip)
        have H' := Aside0.mk H
        clear H
        go_wp2_with (first | (go_at_call 46; (with_reducible refine (shalelaw10_awake.calls k  true _ A4.out).mono ?_); rintro e w8 ⟨rfl, hb⟩; have n0_ := Aside0.mk (below_step (by repeat (first | (with_reducible first | exact HB.out | apply below_alloc | apply pw_below_drewN | apply below_drew1) | exact HB.out)) hb); clear HB; have HB := n0_; clear n0_; (try clear hb); (try clear hb2); (try clear hk); (try clear hi)) | (go_at_call 44; (with_reducible refine (shalelaw10_Few.calls k _ _ l0 t253 _ ?side1 ?side2 A6.out).mono ?_); (case side1 => repeat (first | exact (Kd.C_below HR0.out HB.out) | (with_reducible refine Kd.C_alloc ?_ _) | (with_reducible refine Kd.C_drewN ?_ _) | (with_reducible refine Kd.C_drew ?_))); (case side2 => exact HC0.out); rintro e w' ⟨rfl, ⟨nd, rfl⟩⟩; (try first | exact ⟨rfl, _, World.drewN_drewN _ _ _⟩ | exact ⟨rfl, _, Eq.trans (World.drewN_drewN _ _ _) (congrArg (World.drewN _) (Nat.add_assoc _ _ _))⟩)))
        repeat (go_quiet (first | (go_at_call 46; (with_reducible refine (shalelaw10_awake.calls k  true _ A4.out).mono ?_); rintro e w8 ⟨rfl, hb⟩; have n0_ := Aside0.mk (below_step (by repeat (first | (with_reducible first | exact HB.out | apply below_alloc | apply pw_below_drewN | apply below_drew1) | exact HB.out)) hb); clear HB; have HB := n0_; clear n0_; (try clear hb); (try clear hb2); (try clear hk); (try clear hi)) | (go_at_call 44; (with_reducible refine (shalelaw10_Few.calls k _ _ l0 t253 _ ?side1 ?side2 A6.out).mono ?_); (case side1 => repeat (first | exact (Kd.C_below HR0.out HB.out) | (with_reducible refine Kd.C_alloc ?_ _) | (with_reducible refine Kd.C_drewN ?_ _) | (with_reducible refine Kd.C_drew ?_))); (case side2 => exact HC0.out); rintro e w' ⟨rfl, ⟨nd, rfl⟩⟩; (try first | exact ⟨rfl, _, World.drewN_drewN _ _ _⟩ | exact ⟨rfl, _, Eq.trans (World.drewN_drewN _ _ _) (congrArg (World.drewN _) (Nat.add_assoc _ _ _))⟩))); try go_wp2_with (first | (go_at_call 46; (with_reducible refine (shalelaw10_awake.calls k  true _ A4.out).mono ?_); rintro e w8 ⟨rfl, hb⟩; have n0_ := Aside0.mk (below_step (by repeat (first | (with_reducible first | exact HB.out | apply below_alloc | apply pw_below_drewN | apply below_drew1) | exact HB.out)) hb); clear HB; have HB := n0_; clear n0_; (try clear hb); (try clear hb2); (try clear hk); (try clear hi)) | (go_at_call 44; (with_reducible refine (shalelaw10_Few.calls k _ _ l0 t253 _ ?side1 ?side2 A6.out).mono ?_); (case side1 => repeat (first | exact (Kd.C_below HR0.out HB.out) | (with_reducible refine Kd.C_alloc ?_ _) | (with_reducible refine Kd.C_drewN ?_ _) | (with_reducible refine Kd.C_drew ?_))); (case side2 => exact HC0.out); rintro e w' ⟨rfl, ⟨nd, rfl⟩⟩; (try first | exact ⟨rfl, _, World.drewN_drewN _ _ _⟩ | exact ⟨rfl, _, Eq.trans (World.drewN_drewN _ _ _) (congrArg (World.drewN _) (Nat.add_assoc _ _ _))⟩))))
        go_meet
        case rel => exact ⟨_, (true), (by first | rfl | (simp; done) | (simp [*]; done)), H', ⟨by first | omega | exact Nat.le_refl _⟩, ⟨by repeat (first | (with_reducible first | exact HB.out | apply below_alloc | apply pw_below_drewN | apply below_drew1) | exact HB.out)⟩⟩
      · rw [if_neg c7] at H
        have c7b0 : (t253 == 0) = false := beq_eq_false_iff_ne.mpr c7
        have c7b1 : (t253 != 0) = true := bne_iff_ne.mpr c7
        (first | rw [c7b0] | (simp only [i64_w, i32_w]; rw [c7b0]) | skip)
        have H' := Aside0.mk H
        clear H
        go_wp2_with (first | (go_at_call 46; (with_reducible refine (shalelaw10_awake.calls k  true _ A4.out).mono ?_); rintro e w9 ⟨rfl, hb⟩; have n0_ := Aside0.mk (below_step (by repeat (first | (with_reducible first | exact HB.out | apply below_alloc | apply pw_below_drewN | apply below_drew1) | exact HB.out)) hb); clear HB; have HB := n0_; clear n0_; (try clear hb); (try clear hb2); (try clear hk); (try clear hi)) | (go_at_call 44; (with_reducible refine (shalelaw10_Few.calls k _ _ l0 t253 _ ?side1 ?side2 A6.out).mono ?_); (case side1 => repeat (first | exact (Kd.C_below HR0.out HB.out) | (with_reducible refine Kd.C_alloc ?_ _) | (with_reducible refine Kd.C_drewN ?_ _) | (with_reducible refine Kd.C_drew ?_))); (case side2 => exact HC0.out); rintro e w' ⟨rfl, ⟨nd, rfl⟩⟩; (try first | exact ⟨rfl, _, World.drewN_drewN _ _ _⟩ | exact ⟨rfl, _, Eq.trans (World.drewN_drewN _ _ _) (congrArg (World.drewN _) (Nat.add_assoc _ _ _))⟩)))
        repeat (go_quiet (first | (go_at_call 46; (with_reducible refine (shalelaw10_awake.calls k  true _ A4.out).mono ?_); rintro e w9 ⟨rfl, hb⟩; have n0_ := Aside0.mk (below_step (by repeat (first | (with_reducible first | exact HB.out | apply below_alloc | apply pw_below_drewN | apply below_drew1) | exact HB.out)) hb); clear HB; have HB := n0_; clear n0_; (try clear hb); (try clear hb2); (try clear hk); (try clear hi)) | (go_at_call 44; (with_reducible refine (shalelaw10_Few.calls k _ _ l0 t253 _ ?side1 ?side2 A6.out).mono ?_); (case side1 => repeat (first | exact (Kd.C_below HR0.out HB.out) | (with_reducible refine Kd.C_alloc ?_ _) | (with_reducible refine Kd.C_drewN ?_ _) | (with_reducible refine Kd.C_drew ?_))); (case side2 => exact HC0.out); rintro e w' ⟨rfl, ⟨nd, rfl⟩⟩; (try first | exact ⟨rfl, _, World.drewN_drewN _ _ _⟩ | exact ⟨rfl, _, Eq.trans (World.drewN_drewN _ _ _) (congrArg (World.drewN _) (Nat.add_assoc _ _ _))⟩))); try go_wp2_with (first | (go_at_call 46; (with_reducible refine (shalelaw10_awake.calls k  true _ A4.out).mono ?_); rintro e w9 ⟨rfl, hb⟩; have n0_ := Aside0.mk (below_step (by repeat (first | (with_reducible first | exact HB.out | apply below_alloc | apply pw_below_drewN | apply below_drew1) | exact HB.out)) hb); clear HB; have HB := n0_; clear n0_; (try clear hb); (try clear hb2); (try clear hk); (try clear hi)) | (go_at_call 44; (with_reducible refine (shalelaw10_Few.calls k _ _ l0 t253 _ ?side1 ?side2 A6.out).mono ?_); (case side1 => repeat (first | exact (Kd.C_below HR0.out HB.out) | (with_reducible refine Kd.C_alloc ?_ _) | (with_reducible refine Kd.C_drewN ?_ _) | (with_reducible refine Kd.C_drew ?_))); (case side2 => exact HC0.out); rintro e w' ⟨rfl, ⟨nd, rfl⟩⟩; (try first | exact ⟨rfl, _, World.drewN_drewN _ _ _⟩ | exact ⟨rfl, _, Eq.trans (World.drewN_drewN _ _ _) (congrArg (World.drewN _) (Nat.add_assoc _ _ _))⟩))))
        go_meet
        case rel => exact ⟨_, (decide ((a1.size : Int) > 50)), (by first | rfl | (simp; done) | (simp [*]; done)), H', ⟨by first | omega | exact Nat.le_refl _⟩, ⟨by repeat (first | (with_reducible first | exact HB.out | apply below_alloc | apply pw_below_drewN | apply below_drew1) | exact HB.out)⟩⟩
    · replace c5 := Bool.eq_false_iff.mpr c5
      subst c5
      have H1 : (shalelaw10_FoldWhites.j0 k l0 a1 true) = some r := by rw [if_neg (show ¬ (false = true) by decide)] at H; exact H
      clear H
      have H := H1
      clear H1
      have H' := Aside0.mk H
      clear H
      go_wp2_with (first | (go_at_call 46; (with_reducible refine (shalelaw10_awake.calls k  false _ A4.out).mono ?_); rintro e w10 ⟨rfl, hb⟩; have n0_ := Aside0.mk (below_step (by repeat (first | (with_reducible first | exact HB.out | apply below_alloc | apply pw_below_drewN | apply below_drew1) | exact HB.out)) hb); clear HB; have HB := n0_; clear n0_; (try clear hb); (try clear hb2); (try clear hk); (try clear hi)))
      repeat (go_quiet (first | (go_at_call 46; (with_reducible refine (shalelaw10_awake.calls k  false _ A4.out).mono ?_); rintro e w10 ⟨rfl, hb⟩; have n0_ := Aside0.mk (below_step (by repeat (first | (with_reducible first | exact HB.out | apply below_alloc | apply pw_below_drewN | apply below_drew1) | exact HB.out)) hb); clear HB; have HB := n0_; clear n0_; (try clear hb); (try clear hb2); (try clear hk); (try clear hi))); try go_wp2_with (first | (go_at_call 46; (with_reducible refine (shalelaw10_awake.calls k  false _ A4.out).mono ?_); rintro e w10 ⟨rfl, hb⟩; have n0_ := Aside0.mk (below_step (by repeat (first | (with_reducible first | exact HB.out | apply below_alloc | apply pw_below_drewN | apply below_drew1) | exact HB.out)) hb); clear HB; have HB := n0_; clear n0_; (try clear hb); (try clear hb2); (try clear hk); (try clear hi))))
      go_meet
      case rel => exact ⟨_, (true), (by first | rfl | (simp; done) | (simp [*]; done)), H', ⟨by first | omega | exact Nat.le_refl _⟩, ⟨by repeat (first | (with_reducible first | exact HB.out | apply below_alloc | apply pw_below_drewN | apply below_drew1) | exact HB.out)⟩⟩
  case rest =>
    clear HC3
    try clear c1
    try clear p2
    try clear c5
    try clear c7
    try clear c7b0
    try clear c7b1
    obtain ⟨kq, x23_2, rfl, HA, HJ2, HB⟩ := hcut
    cases kq with
    | zero => exact absurd HA.out (by simp [shalelaw10_FoldWhites.j0])
    | succ kj2 =>
      have H := HA.out
      clear HA
      simp only [shalelaw10_FoldWhites.j0] at H
      by_cases c11 : x23_2 = true
      · subst c11
        have H1 : ((shalelaw10_awake.f kj2).bind fun t254 => (some t254)) = some r := by rw [if_pos rfl] at H; exact H
        clear H
        have H := H1
        clear H1
        replace H := Option.bind_eq_some_iff.mp H
        obtain ⟨t254, A120, H⟩ := H
        replace H : (some t254) = some r := H
        have A12 := Aside0.mk A120
        clear A120
        obtain rfl := Option.some.inj H
        go_wp2_with (first | (go_at_call 46; (with_reducible refine (shalelaw10_awake.calls kj2  t254 _ A12.out).mono ?_); rintro e w13 ⟨rfl, hb⟩; have n0_ := Aside0.mk (below_step (by repeat (first | (with_reducible first | exact HB.out | apply below_alloc | apply pw_below_drewN | apply below_drew1) | exact HB.out)) hb); clear HB; have HB := n0_; clear n0_; (try clear hb); (try clear hb2); (try clear hk); (try clear hi)))
        repeat (go_quiet (first | (go_at_call 46; (with_reducible refine (shalelaw10_awake.calls kj2  t254 _ A12.out).mono ?_); rintro e w13 ⟨rfl, hb⟩; have n0_ := Aside0.mk (below_step (by repeat (first | (with_reducible first | exact HB.out | apply below_alloc | apply pw_below_drewN | apply below_drew1) | exact HB.out)) hb); clear HB; have HB := n0_; clear n0_; (try clear hb); (try clear hb2); (try clear hk); (try clear hi))); try go_wp2_with (first | (go_at_call 46; (with_reducible refine (shalelaw10_awake.calls kj2  t254 _ A12.out).mono ?_); rintro e w13 ⟨rfl, hb⟩; have n0_ := Aside0.mk (below_step (by repeat (first | (with_reducible first | exact HB.out | apply below_alloc | apply pw_below_drewN | apply below_drew1) | exact HB.out)) hb); clear HB; have HB := n0_; clear n0_; (try clear hb); (try clear hb2); (try clear hk); (try clear hi))))
        go_ret
        exact ⟨by first | rfl | (simp [errW_none, errW_some] <;> rfl) | (simp [*, errW_none, errW_some] <;> rfl), by repeat (first | (with_reducible first | exact HB.out | apply below_alloc | apply pw_below_drewN | apply below_drew1) | exact HB.out)⟩
      · replace c11 := Bool.eq_false_iff.mpr c11
        subst c11
        have H1 : (if 1 + a1.size ≤ 9223372036854775807 then ((some (([(⟨(⟨#[47]⟩ : ByteArray) ++ a1, 3, (⟨#[]⟩ : ByteArray)⟩ : S23)] : List (S23)) : List (S23))).bind fun y255 => ((fold_Stack.f kj2 l0).bind fun t258 => ((layer_Right.f kj2 y255).bind fun t261 => (if t261 = true then ((fold_Over.f kj2 t258 y255).bind fun t265 => (shalelaw10_FoldWhites.l0 kj2 a1 t258 t265 0 0)) else ((fold_Over.f kj2 t258 y255).bind fun t262 => (some ((t262.length : Int) == 0))))))) else (none)) = some r := by rw [if_neg (show ¬ (false = true) by decide)] at H; exact H
        clear H
        have H := H1
        clear H1
        by_cases c14 : 1 + a1.size ≤ 9223372036854775807
        · rw [if_pos c14] at H
          have c14b0 := eq_true c14
          have c14b1 : decide (1 + a1.size ≤ 9223372036854775807) = true := decide_eq_true c14
          try have c14b2 : (9223372036854775807 < 1 + a1.size) = False := eq_false (Nat.not_lt.2 c14)
          obtain ⟨y255, hy255⟩ : ∃ y_ : List (S23), y_ = (([(⟨(⟨#[47]⟩ : ByteArray) ++ a1, 3, (⟨#[]⟩ : ByteArray)⟩ : S23)] : List (S23))) := ⟨_, rfl⟩
          replace H : ((fold_Stack.f kj2 l0).bind fun t258 => ((layer_Right.f kj2 y255).bind fun t261 => (if t261 = true then ((fold_Over.f kj2 t258 y255).bind fun t265 => (shalelaw10_FoldWhites.l0 kj2 a1 t258 t265 0 0)) else ((fold_Over.f kj2 t258 y255).bind fun t262 => (some ((t262.length : Int) == 0)))))) = some r := by first | (rw [hy255]; with_reducible exact H) | (have H2_ := (Option.bind_some _ _).symm.trans H; rw [hy255]; with_reducible exact H2_) | (have H2_ := (Option.bind_some _ _).symm.trans H; with_reducible exact H2_) | with_reducible exact H | (rw [hy255]; exact H) | exact H
          have Ny255 := Aside0.mk hy255
          clear hy255
          replace H := Option.bind_eq_some_iff.mp H
          obtain ⟨t258, A150, H⟩ := H
          replace H : ((layer_Right.f kj2 y255).bind fun t261 => (if t261 = true then ((fold_Over.f kj2 t258 y255).bind fun t265 => (shalelaw10_FoldWhites.l0 kj2 a1 t258 t265 0 0)) else ((fold_Over.f kj2 t258 y255).bind fun t262 => (some ((t262.length : Int) == 0))))) = some r := H
          have A15 := Aside0.mk A150
          clear A150
          replace H := Option.bind_eq_some_iff.mp H
          obtain ⟨t261, A160, H⟩ := H
          replace H : (if t261 = true then ((fold_Over.f kj2 t258 y255).bind fun t265 => (shalelaw10_FoldWhites.l0 kj2 a1 t258 t265 0 0)) else ((fold_Over.f kj2 t258 y255).bind fun t262 => (some ((t262.length : Int) == 0)))) = some r := H
          have A16 := Aside0.mk A160
          clear A160
          by_cases c17 : t261 = true
          · subst c17
            have H1 : ((fold_Over.f kj2 t258 y255).bind fun t265 => (shalelaw10_FoldWhites.l0 kj2 a1 t258 t265 0 0)) = some r := by rw [if_pos rfl] at H; exact H
            clear H
            have H := H1
            clear H1
            replace H := Option.bind_eq_some_iff.mp H
            obtain ⟨t265, A180, H⟩ := H
            replace H : (shalelaw10_FoldWhites.l0 kj2 a1 t258 t265 0 0) = some r := H
            have A18 := Aside0.mk A180
            clear A180
            have H' := Aside0.mk H
            clear H
            go_wp2_with (first | ((with_reducible refine gate_dst (N := 28) rfl ?_); (try (refine gate_guard (by rfl) ?_; dsimp only)); refine Kd.R_lit k23 _ 23 ?hg (N := 28) ?hd (xs := ([(⟨(⟨#[47]⟩ : ByteArray) ++ a1, 3, (⟨#[]⟩ : ByteArray)⟩ : S23)] : List (S23))) (inner := [.string ((⟨#[47]⟩ : ByteArray) ++ a1), .int .i64 3, .string (⟨#[]⟩ : ByteArray)]) (ok := fun _ => True) (okp := fun _ => True) ?hr ?hp (fun _ hk => hk) trivial (Below.refl _ _) (Nat.le_refl _) (by simp) ?_; (case hd => rfl); (case hg => rfl); (case hr => first | (go_simp; done) | (go_simp; rfl)); (case hp => exact (Reps.c3 (show Kd.M k23 _ _ _ (⟨(⟨#[47]⟩ : ByteArray) ++ a1, 3, (⟨#[]⟩ : ByteArray)⟩ : S23) [.string ((⟨#[47]⟩ : ByteArray) ++ a1), .int .i64 3, .string (⟨#[]⟩ : ByteArray)] from (k23_mkM _ _ _ (⟨(⟨#[47]⟩ : ByteArray) ++ a1, 3, (⟨#[]⟩ : ByteArray)⟩ : S23) )) (Reps.none _ _))); intro v256 w19 ho20 hb hg_ hnew_; clear hg_ hnew_; (first | rw [← Ny255.out] at ho20 | (simp only [Int.reduceToNat] at ho20; rw [← Ny255.out] at ho20)); have n0_ := Aside0.mk (Kd.R_lower ho20 (below_size (by repeat (first | (with_reducible first | exact HB.out | apply below_alloc | apply pw_below_drewN | apply below_drew1) | exact HB.out)))); have n1_ := Aside0.mk (below_step (by repeat (first | (with_reducible first | exact HB.out | apply below_alloc | apply pw_below_drewN | apply below_drew1) | exact HB.out)) hb); clear HB; have HO257 := n0_; have HB := n1_; clear n0_ n1_; clear hb ho20) | (go_at_call 48; (with_reducible refine (fold_Stack.calls kj2 _ _ l0 t258 _ ?side1 ?side2 A15.out).mono ?_); (case side1 => repeat (first | exact (Kd.C_below HR0.out HB.out) | (with_reducible refine Kd.C_alloc ?_ _) | (with_reducible refine Kd.C_drewN ?_ _) | (with_reducible refine Kd.C_drew ?_))); (case side2 => exact HC0.out); rintro e w21 ⟨v259, rfl, ho0, hb⟩; have n0_ := Aside0.mk (Kd.R_elder' (by (with_reducible repeat (first | apply Kd.R_alloc | apply Kd.R_drewN | apply Kd.R_drew)); exact HO257.out) (Kd.R_base ho0) hb); have n1_ := Aside0.mk (Kd.R_lower (Kd.R_new' ho0 (Kd.R_lt (by (with_reducible repeat (first | apply Kd.R_alloc | apply Kd.R_drewN | apply Kd.R_drew)); exact HO257.out))) (below_size (by repeat (first | (with_reducible first | exact HB.out | apply below_alloc | apply pw_below_drewN | apply below_drew1) | exact HB.out)))); have n2_ := Aside0.mk (below_step (by repeat (first | (with_reducible first | exact HB.out | apply below_alloc | apply pw_below_drewN | apply below_drew1) | exact HB.out)) hb); clear HO257; clear HB; have HO257 := n0_; have HO260 := n1_; have HB := n2_; clear n0_ n1_ n2_; (try clear hb); (try clear hb2); (try clear hk); (try clear hi); (try clear ho0); obtain ⟨Ao22, co22, eo22⟩ := Kd.R_slice HO257.out; subst eo22) | (go_at_call 51; (with_reducible refine (layer_Right.calls kj2 _ _ y255 true _ ?side1 ?side2 A16.out).mono ?_); (case side1 => repeat (first | exact (Kd.R_reads' HO257.out).2.2 | (with_reducible refine Kd.C_alloc ?_ _) | (with_reducible refine Kd.C_drewN ?_ _) | (with_reducible refine Kd.C_drew ?_))); (case side2 => exact (Kd.R_reads' HO257.out).2.1); rintro e w23 ⟨rfl, hb⟩; have n0_ := Aside0.mk (Kd.R_below (by (with_reducible repeat (first | apply Kd.R_alloc | apply Kd.R_drewN | apply Kd.R_drew)); exact HO257.out) hb); have n1_ := Aside0.mk (Kd.R_below (by (with_reducible repeat (first | apply Kd.R_alloc | apply Kd.R_drewN | apply Kd.R_drew)); exact HO260.out) hb); have n2_ := Aside0.mk (below_step (by repeat (first | (with_reducible first | exact HB.out | apply below_alloc | apply pw_below_drewN | apply below_drew1) | exact HB.out)) hb); clear HO257; clear HO260; clear HB; have HO257 := n0_; have HO260 := n1_; have HB := n2_; clear n0_ n1_ n2_; (try clear hb); (try clear hb2); (try clear hk); (try clear hi); obtain ⟨Ao24, co24, eo24⟩ := Kd.R_slice HO260.out; subst eo24) | (go_at_call 50; (with_reducible refine (fold_Over.calls kj2 _ _ t258 _ _ y255 t265 _ ?side1 ?side2 ?side3 ?side4 A18.out).mono ?_); (case side1 => repeat (first | exact (Kd.R_reads' HO260.out).2.2 | (with_reducible refine Kd.C_alloc ?_ _) | (with_reducible refine Kd.C_drewN ?_ _) | (with_reducible refine Kd.C_drew ?_))); (case side2 => exact (Kd.R_reads' HO260.out).2.1); (case side3 => repeat (first | exact (Kd.R_reads' HO257.out).2.2 | (with_reducible refine Kd.C_alloc ?_ _) | (with_reducible refine Kd.C_drewN ?_ _) | (with_reducible refine Kd.C_drew ?_))); (case side4 => exact (Kd.R_reads' HO257.out).2.1); rintro e w25 ⟨v266, rfl, ho0, hb⟩; have n0_ := Aside0.mk (Kd.R_elder' (by (with_reducible repeat (first | apply Kd.R_alloc | apply Kd.R_drewN | apply Kd.R_drew)); exact HO257.out) (Kd.R_base ho0) hb); have n1_ := Aside0.mk (Kd.R_elder' (by (with_reducible repeat (first | apply Kd.R_alloc | apply Kd.R_drewN | apply Kd.R_drew)); exact HO260.out) (Kd.R_base ho0) hb); have n2_ := Aside0.mk (Kd.R_lower (Kd.R_new' (Kd.R_new' ho0 (Kd.R_lt (by (with_reducible repeat (first | apply Kd.R_alloc | apply Kd.R_drewN | apply Kd.R_drew)); exact HO257.out))) (Kd.R_lt (by (with_reducible repeat (first | apply Kd.R_alloc | apply Kd.R_drewN | apply Kd.R_drew)); exact HO260.out))) (below_size (by repeat (first | (with_reducible first | exact HB.out | apply below_alloc | apply pw_below_drewN | apply below_drew1) | exact HB.out)))); have n3_ := Aside0.mk (below_step (by repeat (first | (with_reducible first | exact HB.out | apply below_alloc | apply pw_below_drewN | apply below_drew1) | exact HB.out)) hb); clear HO257; clear HO260; clear HB; have HO257 := n0_; have HO260 := n1_; have HO267 := n2_; have HB := n3_; clear n0_ n1_ n2_ n3_; (try clear hb); (try clear hb2); (try clear hk); (try clear hi); (try clear ho0)))
            repeat (go_quiet (first | ((with_reducible refine gate_dst (N := 28) rfl ?_); (try (refine gate_guard (by rfl) ?_; dsimp only)); refine Kd.R_lit k23 _ 23 ?hg (N := 28) ?hd (xs := ([(⟨(⟨#[47]⟩ : ByteArray) ++ a1, 3, (⟨#[]⟩ : ByteArray)⟩ : S23)] : List (S23))) (inner := [.string ((⟨#[47]⟩ : ByteArray) ++ a1), .int .i64 3, .string (⟨#[]⟩ : ByteArray)]) (ok := fun _ => True) (okp := fun _ => True) ?hr ?hp (fun _ hk => hk) trivial (Below.refl _ _) (Nat.le_refl _) (by simp) ?_; (case hd => rfl); (case hg => rfl); (case hr => first | (go_simp; done) | (go_simp; rfl)); (case hp => exact (Reps.c3 (show Kd.M k23 _ _ _ (⟨(⟨#[47]⟩ : ByteArray) ++ a1, 3, (⟨#[]⟩ : ByteArray)⟩ : S23) [.string ((⟨#[47]⟩ : ByteArray) ++ a1), .int .i64 3, .string (⟨#[]⟩ : ByteArray)] from (k23_mkM _ _ _ (⟨(⟨#[47]⟩ : ByteArray) ++ a1, 3, (⟨#[]⟩ : ByteArray)⟩ : S23) )) (Reps.none _ _))); intro v256 w19 ho20 hb hg_ hnew_; clear hg_ hnew_; (first | rw [← Ny255.out] at ho20 | (simp only [Int.reduceToNat] at ho20; rw [← Ny255.out] at ho20)); have n0_ := Aside0.mk (Kd.R_lower ho20 (below_size (by repeat (first | (with_reducible first | exact HB.out | apply below_alloc | apply pw_below_drewN | apply below_drew1) | exact HB.out)))); have n1_ := Aside0.mk (below_step (by repeat (first | (with_reducible first | exact HB.out | apply below_alloc | apply pw_below_drewN | apply below_drew1) | exact HB.out)) hb); clear HB; have HO257 := n0_; have HB := n1_; clear n0_ n1_; clear hb ho20) | (go_at_call 48; (with_reducible refine (fold_Stack.calls kj2 _ _ l0 t258 _ ?side1 ?side2 A15.out).mono ?_); (case side1 => repeat (first | exact (Kd.C_below HR0.out HB.out) | (with_reducible refine Kd.C_alloc ?_ _) | (with_reducible refine Kd.C_drewN ?_ _) | (with_reducible refine Kd.C_drew ?_))); (case side2 => exact HC0.out); rintro e w21 ⟨v259, rfl, ho0, hb⟩; have n0_ := Aside0.mk (Kd.R_elder' (by (with_reducible repeat (first | apply Kd.R_alloc | apply Kd.R_drewN | apply Kd.R_drew)); exact HO257.out) (Kd.R_base ho0) hb); have n1_ := Aside0.mk (Kd.R_lower (Kd.R_new' ho0 (Kd.R_lt (by (with_reducible repeat (first | apply Kd.R_alloc | apply Kd.R_drewN | apply Kd.R_drew)); exact HO257.out))) (below_size (by repeat (first | (with_reducible first | exact HB.out | apply below_alloc | apply pw_below_drewN | apply below_drew1) | exact HB.out)))); have n2_ := Aside0.mk (below_step (by repeat (first | (with_reducible first | exact HB.out | apply below_alloc | apply pw_below_drewN | apply below_drew1) | exact HB.out)) hb); clear HO257; clear HB; have HO257 := n0_; have HO260 := n1_; have HB := n2_; clear n0_ n1_ n2_; (try clear hb); (try clear hb2); (try clear hk); (try clear hi); (try clear ho0); obtain ⟨Ao22, co22, eo22⟩ := Kd.R_slice HO257.out; subst eo22) | (go_at_call 51; (with_reducible refine (layer_Right.calls kj2 _ _ y255 true _ ?side1 ?side2 A16.out).mono ?_); (case side1 => repeat (first | exact (Kd.R_reads' HO257.out).2.2 | (with_reducible refine Kd.C_alloc ?_ _) | (with_reducible refine Kd.C_drewN ?_ _) | (with_reducible refine Kd.C_drew ?_))); (case side2 => exact (Kd.R_reads' HO257.out).2.1); rintro e w23 ⟨rfl, hb⟩; have n0_ := Aside0.mk (Kd.R_below (by (with_reducible repeat (first | apply Kd.R_alloc | apply Kd.R_drewN | apply Kd.R_drew)); exact HO257.out) hb); have n1_ := Aside0.mk (Kd.R_below (by (with_reducible repeat (first | apply Kd.R_alloc | apply Kd.R_drewN | apply Kd.R_drew)); exact HO260.out) hb); have n2_ := Aside0.mk (below_step (by repeat (first | (with_reducible first | exact HB.out | apply below_alloc | apply pw_below_drewN | apply below_drew1) | exact HB.out)) hb); clear HO257; clear HO260; clear HB; have HO257 := n0_; have HO260 := n1_; have HB := n2_; clear n0_ n1_ n2_; (try clear hb); (try clear hb2); (try clear hk); (try clear hi); obtain ⟨Ao24, co24, eo24⟩ := Kd.R_slice HO260.out; subst eo24) | (go_at_call 50; (with_reducible refine (fold_Over.calls kj2 _ _ t258 _ _ y255 t265 _ ?side1 ?side2 ?side3 ?side4 A18.out).mono ?_); (case side1 => repeat (first | exact (Kd.R_reads' HO260.out).2.2 | (with_reducible refine Kd.C_alloc ?_ _) | (with_reducible refine Kd.C_drewN ?_ _) | (with_reducible refine Kd.C_drew ?_))); (case side2 => exact (Kd.R_reads' HO260.out).2.1); (case side3 => repeat (first | exact (Kd.R_reads' HO257.out).2.2 | (with_reducible refine Kd.C_alloc ?_ _) | (with_reducible refine Kd.C_drewN ?_ _) | (with_reducible refine Kd.C_drew ?_))); (case side4 => exact (Kd.R_reads' HO257.out).2.1); rintro e w25 ⟨v266, rfl, ho0, hb⟩; have n0_ := Aside0.mk (Kd.R_elder' (by (with_reducible repeat (first | apply Kd.R_alloc | apply Kd.R_drewN | apply Kd.R_drew)); exact HO257.out) (Kd.R_base ho0) hb); have n1_ := Aside0.mk (Kd.R_elder' (by (with_reducible repeat (first | apply Kd.R_alloc | apply Kd.R_drewN | apply Kd.R_drew)); exact HO260.out) (Kd.R_base ho0) hb); have n2_ := Aside0.mk (Kd.R_lower (Kd.R_new' (Kd.R_new' ho0 (Kd.R_lt (by (with_reducible repeat (first | apply Kd.R_alloc | apply Kd.R_drewN | apply Kd.R_drew)); exact HO257.out))) (Kd.R_lt (by (with_reducible repeat (first | apply Kd.R_alloc | apply Kd.R_drewN | apply Kd.R_drew)); exact HO260.out))) (below_size (by repeat (first | (with_reducible first | exact HB.out | apply below_alloc | apply pw_below_drewN | apply below_drew1) | exact HB.out)))); have n3_ := Aside0.mk (below_step (by repeat (first | (with_reducible first | exact HB.out | apply below_alloc | apply pw_below_drewN | apply below_drew1) | exact HB.out)) hb); clear HO257; clear HO260; clear HB; have HO257 := n0_; have HO260 := n1_; have HO267 := n2_; have HB := n3_; clear n0_ n1_ n2_ n3_; (try clear hb); (try clear hb2); (try clear hk); (try clear hi); (try clear ho0))); try go_wp2_with (first | ((with_reducible refine gate_dst (N := 28) rfl ?_); (try (refine gate_guard (by rfl) ?_; dsimp only)); refine Kd.R_lit k23 _ 23 ?hg (N := 28) ?hd (xs := ([(⟨(⟨#[47]⟩ : ByteArray) ++ a1, 3, (⟨#[]⟩ : ByteArray)⟩ : S23)] : List (S23))) (inner := [.string ((⟨#[47]⟩ : ByteArray) ++ a1), .int .i64 3, .string (⟨#[]⟩ : ByteArray)]) (ok := fun _ => True) (okp := fun _ => True) ?hr ?hp (fun _ hk => hk) trivial (Below.refl _ _) (Nat.le_refl _) (by simp) ?_; (case hd => rfl); (case hg => rfl); (case hr => first | (go_simp; done) | (go_simp; rfl)); (case hp => exact (Reps.c3 (show Kd.M k23 _ _ _ (⟨(⟨#[47]⟩ : ByteArray) ++ a1, 3, (⟨#[]⟩ : ByteArray)⟩ : S23) [.string ((⟨#[47]⟩ : ByteArray) ++ a1), .int .i64 3, .string (⟨#[]⟩ : ByteArray)] from (k23_mkM _ _ _ (⟨(⟨#[47]⟩ : ByteArray) ++ a1, 3, (⟨#[]⟩ : ByteArray)⟩ : S23) )) (Reps.none _ _))); intro v256 w19 ho20 hb hg_ hnew_; clear hg_ hnew_; (first | rw [← Ny255.out] at ho20 | (simp only [Int.reduceToNat] at ho20; rw [← Ny255.out] at ho20)); have n0_ := Aside0.mk (Kd.R_lower ho20 (below_size (by repeat (first | (with_reducible first | exact HB.out | apply below_alloc | apply pw_below_drewN | apply below_drew1) | exact HB.out)))); have n1_ := Aside0.mk (below_step (by repeat (first | (with_reducible first | exact HB.out | apply below_alloc | apply pw_below_drewN | apply below_drew1) | exact HB.out)) hb); clear HB; have HO257 := n0_; have HB := n1_; clear n0_ n1_; clear hb ho20) | (go_at_call 48; (with_reducible refine (fold_Stack.calls kj2 _ _ l0 t258 _ ?side1 ?side2 A15.out).mono ?_); (case side1 => repeat (first | exact (Kd.C_below HR0.out HB.out) | (with_reducible refine Kd.C_alloc ?_ _) | (with_reducible refine Kd.C_drewN ?_ _) | (with_reducible refine Kd.C_drew ?_))); (case side2 => exact HC0.out); rintro e w21 ⟨v259, rfl, ho0, hb⟩; have n0_ := Aside0.mk (Kd.R_elder' (by (with_reducible repeat (first | apply Kd.R_alloc | apply Kd.R_drewN | apply Kd.R_drew)); exact HO257.out) (Kd.R_base ho0) hb); have n1_ := Aside0.mk (Kd.R_lower (Kd.R_new' ho0 (Kd.R_lt (by (with_reducible repeat (first | apply Kd.R_alloc | apply Kd.R_drewN | apply Kd.R_drew)); exact HO257.out))) (below_size (by repeat (first | (with_reducible first | exact HB.out | apply below_alloc | apply pw_below_drewN | apply below_drew1) | exact HB.out)))); have n2_ := Aside0.mk (below_step (by repeat (first | (with_reducible first | exact HB.out | apply below_alloc | apply pw_below_drewN | apply below_drew1) | exact HB.out)) hb); clear HO257; clear HB; have HO257 := n0_; have HO260 := n1_; have HB := n2_; clear n0_ n1_ n2_; (try clear hb); (try clear hb2); (try clear hk); (try clear hi); (try clear ho0); obtain ⟨Ao22, co22, eo22⟩ := Kd.R_slice HO257.out; subst eo22) | (go_at_call 51; (with_reducible refine (layer_Right.calls kj2 _ _ y255 true _ ?side1 ?side2 A16.out).mono ?_); (case side1 => repeat (first | exact (Kd.R_reads' HO257.out).2.2 | (with_reducible refine Kd.C_alloc ?_ _) | (with_reducible refine Kd.C_drewN ?_ _) | (with_reducible refine Kd.C_drew ?_))); (case side2 => exact (Kd.R_reads' HO257.out).2.1); rintro e w23 ⟨rfl, hb⟩; have n0_ := Aside0.mk (Kd.R_below (by (with_reducible repeat (first | apply Kd.R_alloc | apply Kd.R_drewN | apply Kd.R_drew)); exact HO257.out) hb); have n1_ := Aside0.mk (Kd.R_below (by (with_reducible repeat (first | apply Kd.R_alloc | apply Kd.R_drewN | apply Kd.R_drew)); exact HO260.out) hb); have n2_ := Aside0.mk (below_step (by repeat (first | (with_reducible first | exact HB.out | apply below_alloc | apply pw_below_drewN | apply below_drew1) | exact HB.out)) hb); clear HO257; clear HO260; clear HB; have HO257 := n0_; have HO260 := n1_; have HB := n2_; clear n0_ n1_ n2_; (try clear hb); (try clear hb2); (try clear hk); (try clear hi); obtain ⟨Ao24, co24, eo24⟩ := Kd.R_slice HO260.out; subst eo24) | (go_at_call 50; (with_reducible refine (fold_Over.calls kj2 _ _ t258 _ _ y255 t265 _ ?side1 ?side2 ?side3 ?side4 A18.out).mono ?_); (case side1 => repeat (first | exact (Kd.R_reads' HO260.out).2.2 | (with_reducible refine Kd.C_alloc ?_ _) | (with_reducible refine Kd.C_drewN ?_ _) | (with_reducible refine Kd.C_drew ?_))); (case side2 => exact (Kd.R_reads' HO260.out).2.1); (case side3 => repeat (first | exact (Kd.R_reads' HO257.out).2.2 | (with_reducible refine Kd.C_alloc ?_ _) | (with_reducible refine Kd.C_drewN ?_ _) | (with_reducible refine Kd.C_drew ?_))); (case side4 => exact (Kd.R_reads' HO257.out).2.1); rintro e w25 ⟨v266, rfl, ho0, hb⟩; have n0_ := Aside0.mk (Kd.R_elder' (by (with_reducible repeat (first | apply Kd.R_alloc | apply Kd.R_drewN | apply Kd.R_drew)); exact HO257.out) (Kd.R_base ho0) hb); have n1_ := Aside0.mk (Kd.R_elder' (by (with_reducible repeat (first | apply Kd.R_alloc | apply Kd.R_drewN | apply Kd.R_drew)); exact HO260.out) (Kd.R_base ho0) hb); have n2_ := Aside0.mk (Kd.R_lower (Kd.R_new' (Kd.R_new' ho0 (Kd.R_lt (by (with_reducible repeat (first | apply Kd.R_alloc | apply Kd.R_drewN | apply Kd.R_drew)); exact HO257.out))) (Kd.R_lt (by (with_reducible repeat (first | apply Kd.R_alloc | apply Kd.R_drewN | apply Kd.R_drew)); exact HO260.out))) (below_size (by repeat (first | (with_reducible first | exact HB.out | apply below_alloc | apply pw_below_drewN | apply below_drew1) | exact HB.out)))); have n3_ := Aside0.mk (below_step (by repeat (first | (with_reducible first | exact HB.out | apply below_alloc | apply pw_below_drewN | apply below_drew1) | exact HB.out)) hb); clear HO257; clear HO260; clear HB; have HO257 := n0_; have HO260 := n1_; have HO267 := n2_; have HB := n3_; clear n0_ n1_ n2_ n3_; (try clear hb); (try clear hb2); (try clear hk); (try clear hi); (try clear ho0))))
            go_loopg [8, 9] kj2 (fun kq v8 v9 w' => ∃ (x8_2 : Int) (x9_2 : Int), v8 = .int .i64 x8_2 ∧ v9 = .int .i64 x9_2 ∧ Aside0 (shalelaw10_FoldWhites.l0 kq a1 t258 t265 x8_2 x9_2 = some r) ∧ Aside0 (kq ≤ kj2) ∧ Aside0 (Kd.R k23 23 w' w.heap.size (fun k_ => some k_ ≠ (v266 : Value).ownBlock) (.slice Ao24 t258.length co24) t258) ∧ Aside0 (Kd.R k23 23 w' w.heap.size (fun k_ => some k_ ≠ ((.slice Ao24 t258.length co24) : Value).ownBlock) v266 t265) ∧ Aside0 (Below w.heap.size w w'))
            case atStart => exact ⟨(0), (0), (by first | rfl | (simp; done) | (simp [*]; done)), (by first | rfl | (simp; done) | (simp [*]; done)), H', ⟨Nat.le_refl _⟩, ⟨by (with_reducible repeat (first | apply Kd.R_alloc | apply Kd.R_drewN | apply Kd.R_drew)); exact Kd.R_mono HO260.out (fun _ hk => hk.2)⟩, ⟨by (with_reducible repeat (first | apply Kd.R_alloc | apply Kd.R_drewN | apply Kd.R_drew)); exact Kd.R_mono HO267.out (fun _ hk => hk.2)⟩, ⟨by repeat (first | (with_reducible first | exact HB.out | apply below_alloc | apply pw_below_drewN | apply below_drew1) | exact HB.out)⟩⟩
            case round =>
              clear H'
              try clear c1
              try clear p2
              try clear c3
              try clear c5
              try clear c7
              try clear c7b0
              try clear c7b1
              try clear c11
              try clear c14
              try clear c14b0
              try clear c14b1
              try clear c14b2
              try clear c17
              try clear p2
              obtain ⟨x8_2, x9_2, rfl, rfl, HA, HK2, HO_6, HO_7, HB⟩ := hrel
              cases gk with
              | zero => exact absurd HA.out (by simp [shalelaw10_FoldWhites.l0])
              | succ k2 =>
                have H := HA.out
                clear HA
                simp only [shalelaw10_FoldWhites.l0] at H
                by_cases c26 : x9_2 < (t258.length : Int)
                · rw [if_pos c26] at H
                  have c26b0 : decide (x9_2 < (t258.length : Int)) = true := decide_eq_true c26
                  clear c26
                  by_cases c27 : 0 ≤ x9_2
                  · rw [if_pos c27] at H
                    have c27b0 : decide (0 ≤ x9_2) = true := decide_eq_true c27
                    clear c27
                    have HC28 := Aside0.mk H
                    clear H
                    have p268 : 0 ≤ (x9_2 : Int) := of_decide_eq_true (by first | (with_reducible assumption) | assumption)
                    have q268 : x9_2 < (t258.length : Int) := of_decide_eq_true (by first | (with_reducible assumption) | assumption)
                    obtain ⟨ad268, e268, hx268_0, hx268_1, hx268_2⟩ := at_T23 (Kd.R_reads' HO_6.out).2.2 x9_2 p268 q268
                    cases e268
                    replace p268 := eq_true p268
                    replace q268 := eq_true q268
                    go_upto_region 13 with (fail)
                    repeat (go_quiet (fail); go_upto_region 13 with (fail))
                    go_cut [11] (fun v11 wc => ∃ (kq : Nat) (x11_27 : Bool), v11 = .bool x11_27 ∧ Aside0 (shalelaw10_FoldWhites.j2 kq a1 t258 t265 x8_2 x9_2 x11_27 = some r) ∧ Aside0 (kq ≤ k2) ∧ Aside0 (Kd.R k23 23 wc w.heap.size (fun k_ => some k_ ≠ (v266 : Value).ownBlock) (.slice (some ad268) t258.length co24) t258) ∧ Aside0 (Kd.R k23 23 wc w.heap.size (fun k_ => some k_ ≠ ((.slice (some ad268) t258.length co24) : Value).ownBlock) v266 t265) ∧ Aside0 (Below w.heap.size w wc))
                    case first =>
                      have H := HC28.out
                      clear HC28
                      by_cases c29 : 1 + a1.size ≤ 9223372036854775807
                      · rw [if_pos c29] at H
                        have c29b0 := eq_true c29
                        have c29b1 : decide (1 + a1.size ≤ 9223372036854775807) = true := decide_eq_true c29
                        try have c29b2 : (9223372036854775807 < 1 + a1.size) = False := eq_false (Nat.not_lt.2 c29)
                        by_cases c30 : ((rd_T23 t258 x9_2).f0).toList = ((⟨#[47]⟩ : ByteArray) ++ a1).toList
                        · rw [if_pos c30] at H
                          have c30b0 : (((rd_T23 t258 x9_2).f0).toList == ((⟨#[47]⟩ : ByteArray) ++ a1).toList) = true := beq_iff_eq.mpr c30
                          have c30b1 : (((rd_T23 t258 x9_2).f0).toList != ((⟨#[47]⟩ : ByteArray) ++ a1).toList) = false := bne_eq_false_iff_eq.mpr c30
                          clear c30
                          (first | rw [c30b0] | (simp only [i64_w, i32_w]; rw [c30b0]) | skip)
                          have H' := Aside0.mk H
                          clear H
                          go_wp2
                          repeat (go_quiet (fail); try go_wp2)
                          go_meet
                          case rel => exact ⟨_, (true), (by first | rfl | (simp; done) | (simp [*]; done)), H', ⟨by have := HJ2.out; have := HK2.out; first | omega | exact Nat.le_refl _⟩, ⟨by (with_reducible repeat (first | apply Kd.R_alloc | apply Kd.R_drewN | apply Kd.R_drew)); exact HO_6.out⟩, ⟨by (with_reducible repeat (first | apply Kd.R_alloc | apply Kd.R_drewN | apply Kd.R_drew)); exact HO_7.out⟩, ⟨by repeat (first | (with_reducible first | exact HB.out | apply below_alloc | apply pw_below_drewN | apply below_drew1) | exact HB.out)⟩⟩
                        · rw [if_neg c30] at H
                          have c30b0 : (((rd_T23 t258 x9_2).f0).toList == ((⟨#[47]⟩ : ByteArray) ++ a1).toList) = false := beq_eq_false_iff_ne.mpr c30
                          have c30b1 : (((rd_T23 t258 x9_2).f0).toList != ((⟨#[47]⟩ : ByteArray) ++ a1).toList) = true := bne_iff_ne.mpr c30
                          (first | rw [c30b0] | (simp only [i64_w, i32_w]; rw [c30b0]) | skip)
                          by_cases c31 : (((rd_T23 t258 x9_2).f0).size : Int) > (wrap64 ((a1.size : Int) + 1))
                          · rw [if_pos c31] at H
                            have c31b0 : decide ((wrap64 ((a1.size : Int) + 1)) < (((rd_T23 t258 x9_2).f0).size : Int)) = true := decide_eq_true c31
                            have c31b5 : decide (((a1.size : Int) + 1) < (((rd_T23 t258 x9_2).f0).size : Int)) = true := by
                              have e31 : wrap64 ((a1.size : Int) + 1) = (a1.size : Int) + 1 := by have := of_eq_true c29b0; unfold wrap64; omega
                              rw [e31] at c31b0; exact c31b0
                            clear c31
                            obtain ⟨ji32, hji32⟩ : ∃ j_ : Int, (wrap64 ((a1.size : Int) + 2)) = j_ := ⟨_, rfl⟩
                            replace H : (if 0 ≤ (ji32) then (if (ji32) ≤ (((rd_T23 t258 x9_2).f0).size : Int) then (if ((⟨#[47]⟩ : ByteArray) ++ a1).size + 1 ≤ 9223372036854775807 then (shalelaw10_FoldWhites.j2 k2 a1 t258 t265 x8_2 x9_2 ((((rd_T23 t258 x9_2).f0).extract 0 ((ji32) : Int).toNat).toList == (((⟨#[47]⟩ : ByteArray) ++ a1) ++ (⟨#[47]⟩ : ByteArray)).toList)) else (none)) else (none)) else (none)) = some r := by first | (rw [hji32] at H; exact H) | (simp only [hji32] at H ⊢; exact H)
                            have hji32w : (IntKind.i64.wrap ((a1.size : Int) + 2)) = ji32 := (i64_w _).trans hji32
                            by_cases c33 : 0 ≤ (ji32)
                            · rw [if_pos c33] at H
                              have c33b0 := eq_true c33
                              have c33b1 : decide (0 ≤ (ji32)) = true := decide_eq_true c33
                              clear c33
                              by_cases c34 : (ji32) ≤ (((rd_T23 t258 x9_2).f0).size : Int)
                              · rw [if_pos c34] at H
                                have c34b0 := eq_true c34
                                have c34b1 : decide ((ji32) ≤ (((rd_T23 t258 x9_2).f0).size : Int)) = true := decide_eq_true c34
                                clear c34
                                by_cases c35 : ((⟨#[47]⟩ : ByteArray) ++ a1).size + 1 ≤ 9223372036854775807
                                · rw [if_pos c35] at H
                                  have c35b0 := eq_true c35
                                  have c35b1 : decide (((⟨#[47]⟩ : ByteArray) ++ a1).size + 1 ≤ 9223372036854775807) = true := decide_eq_true c35
                                  try have c35b2 : (9223372036854775807 < ((⟨#[47]⟩ : ByteArray) ++ a1).size + 1) = False := eq_false (Nat.not_lt.2 c35)
                                  try (have c35b3 := c35b2; simp only [ByteArray.size_append] at c35b3)
                                  try (have c35b4 := c35b2; simp only [ByteArray.size_append, show (⟨#[47]⟩ : ByteArray).size = 1 from rfl] at c35b4)
                                  have H' := Aside0.mk H
                                  clear H
                                  go_wp2
                                  repeat (go_quiet (fail); try go_wp2)
                                  go_meet
                                  case rel => exact ⟨_, (((((rd_T23 t258 x9_2).f0).extract 0 ((ji32) : Int).toNat).toList == (((⟨#[47]⟩ : ByteArray) ++ a1) ++ (⟨#[47]⟩ : ByteArray)).toList)), (by first | rfl | (simp; done) | (simp only [← hji32] <;> (first | rfl | simp)) | (simp [*]; done)), H', ⟨by have := HJ2.out; have := HK2.out; first | omega | exact Nat.le_refl _⟩, ⟨by (with_reducible repeat (first | apply Kd.R_alloc | apply Kd.R_drewN | apply Kd.R_drew)); exact HO_6.out⟩, ⟨by (with_reducible repeat (first | apply Kd.R_alloc | apply Kd.R_drewN | apply Kd.R_drew)); exact HO_7.out⟩, ⟨by repeat (first | (with_reducible first | exact HB.out | apply below_alloc | apply pw_below_drewN | apply below_drew1) | exact HB.out)⟩⟩
                                · rw [if_neg c35] at H
                                  exact absurd H (by simp)
                              · rw [if_neg c34] at H
                                exact absurd H (by simp)
                            · rw [if_neg c33] at H
                              exact absurd H (by simp)
                          · rw [if_neg c31] at H
                            have c31b0 : decide ((wrap64 ((a1.size : Int) + 1)) < (((rd_T23 t258 x9_2).f0).size : Int)) = false := decide_eq_false c31
                            have c31b5 : decide (((a1.size : Int) + 1) < (((rd_T23 t258 x9_2).f0).size : Int)) = false := by
                              have e31 : wrap64 ((a1.size : Int) + 1) = (a1.size : Int) + 1 := by have := of_eq_true c29b0; unfold wrap64; omega
                              rw [e31] at c31b0; exact c31b0
                            clear c31
                            have H' := Aside0.mk H
                            clear H
                            go_wp2
                            repeat (go_quiet (fail); try go_wp2)
                            go_meet
                            case rel => exact ⟨_, (false), (by first | rfl | (simp; done) | (simp [*]; done)), H', ⟨by have := HJ2.out; have := HK2.out; first | omega | exact Nat.le_refl _⟩, ⟨by (with_reducible repeat (first | apply Kd.R_alloc | apply Kd.R_drewN | apply Kd.R_drew)); exact HO_6.out⟩, ⟨by (with_reducible repeat (first | apply Kd.R_alloc | apply Kd.R_drewN | apply Kd.R_drew)); exact HO_7.out⟩, ⟨by repeat (first | (with_reducible first | exact HB.out | apply below_alloc | apply pw_below_drewN | apply below_drew1) | exact HB.out)⟩⟩
                      · rw [if_neg c29] at H
                        exact absurd H (by simp)
                    case rest =>
                      clear HC28
                      try clear c1
                      try clear c2
                      try clear p2
                      try clear q2
                      try clear hx2
                      try clear c3
                      try clear c5
                      try clear p6
                      try clear c7
                      try clear c7b0
                      try clear c7b1
                      try clear c11
                      try clear c14
                      try clear c14b0
                      try clear c14b1
                      try clear c14b2
                      try clear c17
                      try clear c26
                      try clear c26b0
                      try clear p26
                      try clear q26
                      try clear hx26
                      try clear c27
                      try clear c27b0
                      try clear c29
                      try clear c29b0
                      try clear c29b1
                      try clear c29b2
                      try clear c30
                      try clear c30b0
                      try clear c30b1
                      try clear c31
                      try clear c31b0
                      try clear c33
                      try clear c33b0
                      try clear c33b1
                      try clear c34
                      try clear c34b0
                      try clear c34b1
                      try clear c35
                      try clear c35b0
                      try clear c35b1
                      try clear c35b2
                      try clear hx268_0
                      try clear hx268_1
                      try clear hx268_2
                      try clear p2
                      try clear p268
                      try clear q268
                      obtain ⟨kq, x11_27, rfl, HA, HJ27, HO_6, HO_7, HB⟩ := hcut
                      cases kq with
                      | zero => exact absurd HA.out (by simp [shalelaw10_FoldWhites.j2])
                      | succ kj27 =>
                        have H := HA.out
                        clear HA
                        simp only [shalelaw10_FoldWhites.j2] at H
                        by_cases c36 : x11_27 = true
                        · subst c36
                          have H1 : (shalelaw10_FoldWhites.l0 kj27 a1 t258 t265 x8_2 (wrap64 (x9_2 + 1))) = some r := by rw [if_pos rfl] at H; exact H
                          clear H
                          have H := H1
                          clear H1
                          have H' := Aside0.mk H
                          clear H
                          go_wp2
                          repeat (go_quiet (fail); try go_wp2)
                          go_roundg kj27
                          case measure => have := HJ2.out; have := HK2.out; have := HJ27.out; omega
                          case rel => exact ⟨(x8_2), (wrap64 (x9_2 + 1)), (by first | rfl | (simp; done) | (simp [*]; done)), (by first | rfl | (simp; done) | (simp [*]; done)), H', ⟨by have := HJ2.out; have := HK2.out; have := HJ27.out; omega⟩, ⟨by (with_reducible repeat (first | apply Kd.R_alloc | apply Kd.R_drewN | apply Kd.R_drew)); exact HO_6.out⟩, ⟨by (with_reducible repeat (first | apply Kd.R_alloc | apply Kd.R_drewN | apply Kd.R_drew)); exact HO_7.out⟩, ⟨by repeat (first | (with_reducible first | exact HB.out | apply below_alloc | apply pw_below_drewN | apply below_drew1) | exact HB.out)⟩⟩
                        · replace c36 := Bool.eq_false_iff.mpr c36
                          subst c36
                          have H1 : (if x8_2 ≥ (t265.length : Int) then (some false) else (if 0 ≤ x8_2 then (if x8_2 < (t265.length : Int) then (if 0 ≤ x9_2 then (if x9_2 < (t258.length : Int) then (if (!((((rd_T23 t265 x8_2).f0).toList) == (((rd_T23 t258 x9_2).f0).toList)) || (!(((rd_T23 t265 x8_2).f1) == ((rd_T23 t258 x9_2).f1)) || (!((((rd_T23 t265 x8_2).f2).toList) == (((rd_T23 t258 x9_2).f2).toList))))) = true then (some false) else (shalelaw10_FoldWhites.l0 kj27 a1 t258 t265 (wrap64 (x8_2 + 1)) (wrap64 (x9_2 + 1)))) else (none)) else (none)) else (none)) else (none))) = some r := by rw [if_neg (show ¬ (false = true) by decide)] at H; exact H
                          clear H
                          have H := H1
                          clear H1
                          by_cases c37 : x8_2 ≥ (t265.length : Int)
                          · rw [if_pos c37] at H
                            have c37b0 : decide ((t265.length : Int) ≤ x8_2) = true := decide_eq_true c37
                            clear c37
                            exact Bool.noConfusion ((Option.some.inj H).trans HRR_.out)
                          · rw [if_neg c37] at H
                            have c37b0 : decide ((t265.length : Int) ≤ x8_2) = false := decide_eq_false c37
                            clear c37
                            by_cases c38 : 0 ≤ x8_2
                            · rw [if_pos c38] at H
                              have c38b0 : decide (0 ≤ x8_2) = true := decide_eq_true c38
                              clear c38
                              by_cases c39 : x8_2 < (t265.length : Int)
                              · rw [if_pos c39] at H
                                have c39b0 : decide (x8_2 < (t265.length : Int)) = true := decide_eq_true c39
                                clear c39
                                by_cases c40 : 0 ≤ x9_2
                                · rw [if_pos c40] at H
                                  have c40b0 : decide (0 ≤ x9_2) = true := decide_eq_true c40
                                  clear c40
                                  by_cases c41 : x9_2 < (t258.length : Int)
                                  · rw [if_pos c41] at H
                                    have c41b0 : decide (x9_2 < (t258.length : Int)) = true := decide_eq_true c41
                                    clear c41
                                    by_cases c42 : (!((((rd_T23 t265 x8_2).f0).toList) == (((rd_T23 t258 x9_2).f0).toList)) || (!(((rd_T23 t265 x8_2).f1) == ((rd_T23 t258 x9_2).f1)) || (!((((rd_T23 t265 x8_2).f2).toList) == (((rd_T23 t258 x9_2).f2).toList))))) = true
                                    · rw [if_pos c42] at H
                                      have c42b0 : (!((((rd_T23 t265 x8_2).f0).toList) == (((rd_T23 t258 x9_2).f0).toList)) || (!(((rd_T23 t265 x8_2).f1) == ((rd_T23 t258 x9_2).f1)) || (!((((rd_T23 t265 x8_2).f2).toList) == (((rd_T23 t258 x9_2).f2).toList))))) = true := c42
                                      (try (have c42b8 := c42b0; simp only [beq_true, beq_false, Bool.true_beq, Bool.false_beq, bne, Bool.not_eq_true', Bool.not_eq_false', Bool.not_true, Bool.not_false] at c42b8))
                                      clear c42
                                      exact Bool.noConfusion ((Option.some.inj H).trans HRR_.out)
                                    · rw [if_neg c42] at H
                                      have c42b0 : (!((((rd_T23 t265 x8_2).f0).toList) == (((rd_T23 t258 x9_2).f0).toList)) || (!(((rd_T23 t265 x8_2).f1) == ((rd_T23 t258 x9_2).f1)) || (!((((rd_T23 t265 x8_2).f2).toList) == (((rd_T23 t258 x9_2).f2).toList))))) = false := by simpa using c42
                                      (try (have c42b8 := c42b0; simp only [beq_true, beq_false, Bool.true_beq, Bool.false_beq, bne, Bool.not_eq_true', Bool.not_eq_false', Bool.not_true, Bool.not_false] at c42b8))
                                      clear c42
                                      have H' := Aside0.mk H
                                      clear H
                                      obtain ⟨Ao43, co43, eo43⟩ := Kd.R_slice HO_7.out
                                      subst eo43
                                      have p269 : 0 ≤ (x8_2 : Int) := of_decide_eq_true (by first | (with_reducible assumption) | assumption)
                                      have q269 : x8_2 < (t265.length : Int) := of_decide_eq_true (by first | (with_reducible assumption) | assumption)
                                      obtain ⟨ad269, e269, hx269_0, hx269_1, hx269_2⟩ := at_T23 (Kd.R_reads' HO_7.out).2.2 x8_2 p269 q269
                                      cases e269
                                      replace p269 := eq_true p269
                                      replace q269 := eq_true q269
                                      have p270 : 0 ≤ (x9_2 : Int) := of_decide_eq_true (by first | (with_reducible assumption) | assumption)
                                      have q270 : x9_2 < (t258.length : Int) := of_decide_eq_true (by first | (with_reducible assumption) | assumption)
                                      obtain ⟨ad270, e270, hx270_0, hx270_1, hx270_2⟩ := at_T23 (Kd.R_reads' HO_6.out).2.2 x9_2 p270 q270
                                      obtain rfl : ad268 = ad270 := (by injection e270)
                                      replace p270 := eq_true p270
                                      replace q270 := eq_true q270
                                      go_wp2
                                      repeat (go_quiet (fail); try go_wp2)
                                      go_roundg kj27
                                      case measure => have := HJ2.out; have := HK2.out; have := HJ27.out; omega
                                      case rel => exact ⟨(wrap64 (x8_2 + 1)), (wrap64 (x9_2 + 1)), (by first | rfl | (simp; done) | (simp [*]; done)), (by first | rfl | (simp; done) | (simp [*]; done)), H', ⟨by have := HJ2.out; have := HK2.out; have := HJ27.out; omega⟩, ⟨by (with_reducible repeat (first | apply Kd.R_alloc | apply Kd.R_drewN | apply Kd.R_drew)); exact HO_6.out⟩, ⟨by (with_reducible repeat (first | apply Kd.R_alloc | apply Kd.R_drewN | apply Kd.R_drew)); exact HO_7.out⟩, ⟨by repeat (first | (with_reducible first | exact HB.out | apply below_alloc | apply pw_below_drewN | apply below_drew1) | exact HB.out)⟩⟩
                                  · rw [if_neg c41] at H
                                    exact absurd H (by simp)
                                · rw [if_neg c40] at H
                                  exact absurd H (by simp)
                              · rw [if_neg c39] at H
                                exact absurd H (by simp)
                            · rw [if_neg c38] at H
                              exact absurd H (by simp)
                  · rw [if_neg c27] at H
                    exact absurd H (by simp)
                · rw [if_neg c26] at H
                  have c26b0 : decide (x9_2 < (t258.length : Int)) = false := decide_eq_false c26
                  clear c26
                  obtain rfl := Option.some.inj H
                  obtain ⟨Ao44, co44, eo44⟩ := Kd.R_slice HO_7.out
                  subst eo44
                  go_wp2
                  repeat (go_quiet (fail); try go_wp2)
                  go_ret
                  exact ⟨by first | rfl | (simp [errW_none, errW_some] <;> rfl) | (simp [*, errW_none, errW_some] <;> rfl), by repeat (first | (with_reducible first | exact HB.out | apply below_alloc | apply pw_below_drewN | apply below_drew1) | exact HB.out)⟩
          · replace c17 := Bool.eq_false_iff.mpr c17
            subst c17
            have H1 : ((fold_Over.f kj2 t258 y255).bind fun t262 => (some ((t262.length : Int) == 0))) = some r := by rw [if_neg (show ¬ (false = true) by decide)] at H; exact H
            clear H
            have H := H1
            clear H1
            replace H := Option.bind_eq_some_iff.mp H
            obtain ⟨t262, A450, H⟩ := H
            replace H : (some ((t262.length : Int) == 0)) = some r := H
            have A45 := Aside0.mk A450
            clear A450
            obtain rfl := Option.some.inj H
            go_wp2_with (first | ((with_reducible refine gate_dst (N := 28) rfl ?_); (try (refine gate_guard (by rfl) ?_; dsimp only)); refine Kd.R_lit k23 _ 23 ?hg (N := 28) ?hd (xs := ([(⟨(⟨#[47]⟩ : ByteArray) ++ a1, 3, (⟨#[]⟩ : ByteArray)⟩ : S23)] : List (S23))) (inner := [.string ((⟨#[47]⟩ : ByteArray) ++ a1), .int .i64 3, .string (⟨#[]⟩ : ByteArray)]) (ok := fun _ => True) (okp := fun _ => True) ?hr ?hp (fun _ hk => hk) trivial (Below.refl _ _) (Nat.le_refl _) (by simp) ?_; (case hd => rfl); (case hg => rfl); (case hr => first | (go_simp; done) | (go_simp; rfl)); (case hp => exact (Reps.c3 (show Kd.M k23 _ _ _ (⟨(⟨#[47]⟩ : ByteArray) ++ a1, 3, (⟨#[]⟩ : ByteArray)⟩ : S23) [.string ((⟨#[47]⟩ : ByteArray) ++ a1), .int .i64 3, .string (⟨#[]⟩ : ByteArray)] from (k23_mkM _ _ _ (⟨(⟨#[47]⟩ : ByteArray) ++ a1, 3, (⟨#[]⟩ : ByteArray)⟩ : S23) )) (Reps.none _ _))); intro v256 w46 ho47 hb hg_ hnew_; clear hg_ hnew_; (first | rw [← Ny255.out] at ho47 | (simp only [Int.reduceToNat] at ho47; rw [← Ny255.out] at ho47)); have n0_ := Aside0.mk (Kd.R_lower ho47 (below_size (by repeat (first | (with_reducible first | exact HB.out | apply below_alloc | apply pw_below_drewN | apply below_drew1) | exact HB.out)))); have n1_ := Aside0.mk (below_step (by repeat (first | (with_reducible first | exact HB.out | apply below_alloc | apply pw_below_drewN | apply below_drew1) | exact HB.out)) hb); clear HB; have HO257 := n0_; have HB := n1_; clear n0_ n1_; clear hb ho47) | (go_at_call 48; (with_reducible refine (fold_Stack.calls kj2 _ _ l0 t258 _ ?side1 ?side2 A15.out).mono ?_); (case side1 => repeat (first | exact (Kd.C_below HR0.out HB.out) | (with_reducible refine Kd.C_alloc ?_ _) | (with_reducible refine Kd.C_drewN ?_ _) | (with_reducible refine Kd.C_drew ?_))); (case side2 => exact HC0.out); rintro e w48 ⟨v259, rfl, ho0, hb⟩; have n0_ := Aside0.mk (Kd.R_elder' (by (with_reducible repeat (first | apply Kd.R_alloc | apply Kd.R_drewN | apply Kd.R_drew)); exact HO257.out) (Kd.R_base ho0) hb); have n1_ := Aside0.mk (Kd.R_lower (Kd.R_new' ho0 (Kd.R_lt (by (with_reducible repeat (first | apply Kd.R_alloc | apply Kd.R_drewN | apply Kd.R_drew)); exact HO257.out))) (below_size (by repeat (first | (with_reducible first | exact HB.out | apply below_alloc | apply pw_below_drewN | apply below_drew1) | exact HB.out)))); have n2_ := Aside0.mk (below_step (by repeat (first | (with_reducible first | exact HB.out | apply below_alloc | apply pw_below_drewN | apply below_drew1) | exact HB.out)) hb); clear HO257; clear HB; have HO257 := n0_; have HO260 := n1_; have HB := n2_; clear n0_ n1_ n2_; (try clear hb); (try clear hb2); (try clear hk); (try clear hi); (try clear ho0); obtain ⟨Ao49, co49, eo49⟩ := Kd.R_slice HO257.out; subst eo49) | (go_at_call 51; (with_reducible refine (layer_Right.calls kj2 _ _ y255 false _ ?side1 ?side2 A16.out).mono ?_); (case side1 => repeat (first | exact (Kd.R_reads' HO257.out).2.2 | (with_reducible refine Kd.C_alloc ?_ _) | (with_reducible refine Kd.C_drewN ?_ _) | (with_reducible refine Kd.C_drew ?_))); (case side2 => exact (Kd.R_reads' HO257.out).2.1); rintro e w50 ⟨rfl, hb⟩; have n0_ := Aside0.mk (Kd.R_below (by (with_reducible repeat (first | apply Kd.R_alloc | apply Kd.R_drewN | apply Kd.R_drew)); exact HO257.out) hb); have n1_ := Aside0.mk (Kd.R_below (by (with_reducible repeat (first | apply Kd.R_alloc | apply Kd.R_drewN | apply Kd.R_drew)); exact HO260.out) hb); have n2_ := Aside0.mk (below_step (by repeat (first | (with_reducible first | exact HB.out | apply below_alloc | apply pw_below_drewN | apply below_drew1) | exact HB.out)) hb); clear HO257; clear HO260; clear HB; have HO257 := n0_; have HO260 := n1_; have HB := n2_; clear n0_ n1_ n2_; (try clear hb); (try clear hb2); (try clear hk); (try clear hi); obtain ⟨Ao51, co51, eo51⟩ := Kd.R_slice HO260.out; subst eo51) | (go_at_call 50; (with_reducible refine (fold_Over.calls kj2 _ _ t258 _ _ y255 t262 _ ?side1 ?side2 ?side3 ?side4 A45.out).mono ?_); (case side1 => repeat (first | exact (Kd.R_reads' HO260.out).2.2 | (with_reducible refine Kd.C_alloc ?_ _) | (with_reducible refine Kd.C_drewN ?_ _) | (with_reducible refine Kd.C_drew ?_))); (case side2 => exact (Kd.R_reads' HO260.out).2.1); (case side3 => repeat (first | exact (Kd.R_reads' HO257.out).2.2 | (with_reducible refine Kd.C_alloc ?_ _) | (with_reducible refine Kd.C_drewN ?_ _) | (with_reducible refine Kd.C_drew ?_))); (case side4 => exact (Kd.R_reads' HO257.out).2.1); rintro e w52 ⟨v263, rfl, ho0, hb⟩; have n0_ := Aside0.mk (Kd.R_elder' (by (with_reducible repeat (first | apply Kd.R_alloc | apply Kd.R_drewN | apply Kd.R_drew)); exact HO257.out) (Kd.R_base ho0) hb); have n1_ := Aside0.mk (Kd.R_elder' (by (with_reducible repeat (first | apply Kd.R_alloc | apply Kd.R_drewN | apply Kd.R_drew)); exact HO260.out) (Kd.R_base ho0) hb); have n2_ := Aside0.mk (Kd.R_lower (Kd.R_new' (Kd.R_new' ho0 (Kd.R_lt (by (with_reducible repeat (first | apply Kd.R_alloc | apply Kd.R_drewN | apply Kd.R_drew)); exact HO257.out))) (Kd.R_lt (by (with_reducible repeat (first | apply Kd.R_alloc | apply Kd.R_drewN | apply Kd.R_drew)); exact HO260.out))) (below_size (by repeat (first | (with_reducible first | exact HB.out | apply below_alloc | apply pw_below_drewN | apply below_drew1) | exact HB.out)))); have n3_ := Aside0.mk (below_step (by repeat (first | (with_reducible first | exact HB.out | apply below_alloc | apply pw_below_drewN | apply below_drew1) | exact HB.out)) hb); clear HO257; clear HO260; clear HB; have HO257 := n0_; have HO260 := n1_; have HO264 := n2_; have HB := n3_; clear n0_ n1_ n2_ n3_; (try clear hb); (try clear hb2); (try clear hk); (try clear hi); (try clear ho0); obtain ⟨Ao53, co53, eo53⟩ := Kd.R_slice HO264.out; subst eo53))
            repeat (go_quiet (first | ((with_reducible refine gate_dst (N := 28) rfl ?_); (try (refine gate_guard (by rfl) ?_; dsimp only)); refine Kd.R_lit k23 _ 23 ?hg (N := 28) ?hd (xs := ([(⟨(⟨#[47]⟩ : ByteArray) ++ a1, 3, (⟨#[]⟩ : ByteArray)⟩ : S23)] : List (S23))) (inner := [.string ((⟨#[47]⟩ : ByteArray) ++ a1), .int .i64 3, .string (⟨#[]⟩ : ByteArray)]) (ok := fun _ => True) (okp := fun _ => True) ?hr ?hp (fun _ hk => hk) trivial (Below.refl _ _) (Nat.le_refl _) (by simp) ?_; (case hd => rfl); (case hg => rfl); (case hr => first | (go_simp; done) | (go_simp; rfl)); (case hp => exact (Reps.c3 (show Kd.M k23 _ _ _ (⟨(⟨#[47]⟩ : ByteArray) ++ a1, 3, (⟨#[]⟩ : ByteArray)⟩ : S23) [.string ((⟨#[47]⟩ : ByteArray) ++ a1), .int .i64 3, .string (⟨#[]⟩ : ByteArray)] from (k23_mkM _ _ _ (⟨(⟨#[47]⟩ : ByteArray) ++ a1, 3, (⟨#[]⟩ : ByteArray)⟩ : S23) )) (Reps.none _ _))); intro v256 w46 ho47 hb hg_ hnew_; clear hg_ hnew_; (first | rw [← Ny255.out] at ho47 | (simp only [Int.reduceToNat] at ho47; rw [← Ny255.out] at ho47)); have n0_ := Aside0.mk (Kd.R_lower ho47 (below_size (by repeat (first | (with_reducible first | exact HB.out | apply below_alloc | apply pw_below_drewN | apply below_drew1) | exact HB.out)))); have n1_ := Aside0.mk (below_step (by repeat (first | (with_reducible first | exact HB.out | apply below_alloc | apply pw_below_drewN | apply below_drew1) | exact HB.out)) hb); clear HB; have HO257 := n0_; have HB := n1_; clear n0_ n1_; clear hb ho47) | (go_at_call 48; (with_reducible refine (fold_Stack.calls kj2 _ _ l0 t258 _ ?side1 ?side2 A15.out).mono ?_); (case side1 => repeat (first | exact (Kd.C_below HR0.out HB.out) | (with_reducible refine Kd.C_alloc ?_ _) | (with_reducible refine Kd.C_drewN ?_ _) | (with_reducible refine Kd.C_drew ?_))); (case side2 => exact HC0.out); rintro e w48 ⟨v259, rfl, ho0, hb⟩; have n0_ := Aside0.mk (Kd.R_elder' (by (with_reducible repeat (first | apply Kd.R_alloc | apply Kd.R_drewN | apply Kd.R_drew)); exact HO257.out) (Kd.R_base ho0) hb); have n1_ := Aside0.mk (Kd.R_lower (Kd.R_new' ho0 (Kd.R_lt (by (with_reducible repeat (first | apply Kd.R_alloc | apply Kd.R_drewN | apply Kd.R_drew)); exact HO257.out))) (below_size (by repeat (first | (with_reducible first | exact HB.out | apply below_alloc | apply pw_below_drewN | apply below_drew1) | exact HB.out)))); have n2_ := Aside0.mk (below_step (by repeat (first | (with_reducible first | exact HB.out | apply below_alloc | apply pw_below_drewN | apply below_drew1) | exact HB.out)) hb); clear HO257; clear HB; have HO257 := n0_; have HO260 := n1_; have HB := n2_; clear n0_ n1_ n2_; (try clear hb); (try clear hb2); (try clear hk); (try clear hi); (try clear ho0); obtain ⟨Ao49, co49, eo49⟩ := Kd.R_slice HO257.out; subst eo49) | (go_at_call 51; (with_reducible refine (layer_Right.calls kj2 _ _ y255 false _ ?side1 ?side2 A16.out).mono ?_); (case side1 => repeat (first | exact (Kd.R_reads' HO257.out).2.2 | (with_reducible refine Kd.C_alloc ?_ _) | (with_reducible refine Kd.C_drewN ?_ _) | (with_reducible refine Kd.C_drew ?_))); (case side2 => exact (Kd.R_reads' HO257.out).2.1); rintro e w50 ⟨rfl, hb⟩; have n0_ := Aside0.mk (Kd.R_below (by (with_reducible repeat (first | apply Kd.R_alloc | apply Kd.R_drewN | apply Kd.R_drew)); exact HO257.out) hb); have n1_ := Aside0.mk (Kd.R_below (by (with_reducible repeat (first | apply Kd.R_alloc | apply Kd.R_drewN | apply Kd.R_drew)); exact HO260.out) hb); have n2_ := Aside0.mk (below_step (by repeat (first | (with_reducible first | exact HB.out | apply below_alloc | apply pw_below_drewN | apply below_drew1) | exact HB.out)) hb); clear HO257; clear HO260; clear HB; have HO257 := n0_; have HO260 := n1_; have HB := n2_; clear n0_ n1_ n2_; (try clear hb); (try clear hb2); (try clear hk); (try clear hi); obtain ⟨Ao51, co51, eo51⟩ := Kd.R_slice HO260.out; subst eo51) | (go_at_call 50; (with_reducible refine (fold_Over.calls kj2 _ _ t258 _ _ y255 t262 _ ?side1 ?side2 ?side3 ?side4 A45.out).mono ?_); (case side1 => repeat (first | exact (Kd.R_reads' HO260.out).2.2 | (with_reducible refine Kd.C_alloc ?_ _) | (with_reducible refine Kd.C_drewN ?_ _) | (with_reducible refine Kd.C_drew ?_))); (case side2 => exact (Kd.R_reads' HO260.out).2.1); (case side3 => repeat (first | exact (Kd.R_reads' HO257.out).2.2 | (with_reducible refine Kd.C_alloc ?_ _) | (with_reducible refine Kd.C_drewN ?_ _) | (with_reducible refine Kd.C_drew ?_))); (case side4 => exact (Kd.R_reads' HO257.out).2.1); rintro e w52 ⟨v263, rfl, ho0, hb⟩; have n0_ := Aside0.mk (Kd.R_elder' (by (with_reducible repeat (first | apply Kd.R_alloc | apply Kd.R_drewN | apply Kd.R_drew)); exact HO257.out) (Kd.R_base ho0) hb); have n1_ := Aside0.mk (Kd.R_elder' (by (with_reducible repeat (first | apply Kd.R_alloc | apply Kd.R_drewN | apply Kd.R_drew)); exact HO260.out) (Kd.R_base ho0) hb); have n2_ := Aside0.mk (Kd.R_lower (Kd.R_new' (Kd.R_new' ho0 (Kd.R_lt (by (with_reducible repeat (first | apply Kd.R_alloc | apply Kd.R_drewN | apply Kd.R_drew)); exact HO257.out))) (Kd.R_lt (by (with_reducible repeat (first | apply Kd.R_alloc | apply Kd.R_drewN | apply Kd.R_drew)); exact HO260.out))) (below_size (by repeat (first | (with_reducible first | exact HB.out | apply below_alloc | apply pw_below_drewN | apply below_drew1) | exact HB.out)))); have n3_ := Aside0.mk (below_step (by repeat (first | (with_reducible first | exact HB.out | apply below_alloc | apply pw_below_drewN | apply below_drew1) | exact HB.out)) hb); clear HO257; clear HO260; clear HB; have HO257 := n0_; have HO260 := n1_; have HO264 := n2_; have HB := n3_; clear n0_ n1_ n2_ n3_; (try clear hb); (try clear hb2); (try clear hk); (try clear hi); (try clear ho0); obtain ⟨Ao53, co53, eo53⟩ := Kd.R_slice HO264.out; subst eo53)); try go_wp2_with (first | ((with_reducible refine gate_dst (N := 28) rfl ?_); (try (refine gate_guard (by rfl) ?_; dsimp only)); refine Kd.R_lit k23 _ 23 ?hg (N := 28) ?hd (xs := ([(⟨(⟨#[47]⟩ : ByteArray) ++ a1, 3, (⟨#[]⟩ : ByteArray)⟩ : S23)] : List (S23))) (inner := [.string ((⟨#[47]⟩ : ByteArray) ++ a1), .int .i64 3, .string (⟨#[]⟩ : ByteArray)]) (ok := fun _ => True) (okp := fun _ => True) ?hr ?hp (fun _ hk => hk) trivial (Below.refl _ _) (Nat.le_refl _) (by simp) ?_; (case hd => rfl); (case hg => rfl); (case hr => first | (go_simp; done) | (go_simp; rfl)); (case hp => exact (Reps.c3 (show Kd.M k23 _ _ _ (⟨(⟨#[47]⟩ : ByteArray) ++ a1, 3, (⟨#[]⟩ : ByteArray)⟩ : S23) [.string ((⟨#[47]⟩ : ByteArray) ++ a1), .int .i64 3, .string (⟨#[]⟩ : ByteArray)] from (k23_mkM _ _ _ (⟨(⟨#[47]⟩ : ByteArray) ++ a1, 3, (⟨#[]⟩ : ByteArray)⟩ : S23) )) (Reps.none _ _))); intro v256 w46 ho47 hb hg_ hnew_; clear hg_ hnew_; (first | rw [← Ny255.out] at ho47 | (simp only [Int.reduceToNat] at ho47; rw [← Ny255.out] at ho47)); have n0_ := Aside0.mk (Kd.R_lower ho47 (below_size (by repeat (first | (with_reducible first | exact HB.out | apply below_alloc | apply pw_below_drewN | apply below_drew1) | exact HB.out)))); have n1_ := Aside0.mk (below_step (by repeat (first | (with_reducible first | exact HB.out | apply below_alloc | apply pw_below_drewN | apply below_drew1) | exact HB.out)) hb); clear HB; have HO257 := n0_; have HB := n1_; clear n0_ n1_; clear hb ho47) | (go_at_call 48; (with_reducible refine (fold_Stack.calls kj2 _ _ l0 t258 _ ?side1 ?side2 A15.out).mono ?_); (case side1 => repeat (first | exact (Kd.C_below HR0.out HB.out) | (with_reducible refine Kd.C_alloc ?_ _) | (with_reducible refine Kd.C_drewN ?_ _) | (with_reducible refine Kd.C_drew ?_))); (case side2 => exact HC0.out); rintro e w48 ⟨v259, rfl, ho0, hb⟩; have n0_ := Aside0.mk (Kd.R_elder' (by (with_reducible repeat (first | apply Kd.R_alloc | apply Kd.R_drewN | apply Kd.R_drew)); exact HO257.out) (Kd.R_base ho0) hb); have n1_ := Aside0.mk (Kd.R_lower (Kd.R_new' ho0 (Kd.R_lt (by (with_reducible repeat (first | apply Kd.R_alloc | apply Kd.R_drewN | apply Kd.R_drew)); exact HO257.out))) (below_size (by repeat (first | (with_reducible first | exact HB.out | apply below_alloc | apply pw_below_drewN | apply below_drew1) | exact HB.out)))); have n2_ := Aside0.mk (below_step (by repeat (first | (with_reducible first | exact HB.out | apply below_alloc | apply pw_below_drewN | apply below_drew1) | exact HB.out)) hb); clear HO257; clear HB; have HO257 := n0_; have HO260 := n1_; have HB := n2_; clear n0_ n1_ n2_; (try clear hb); (try clear hb2); (try clear hk); (try clear hi); (try clear ho0); obtain ⟨Ao49, co49, eo49⟩ := Kd.R_slice HO257.out; subst eo49) | (go_at_call 51; (with_reducible refine (layer_Right.calls kj2 _ _ y255 false _ ?side1 ?side2 A16.out).mono ?_); (case side1 => repeat (first | exact (Kd.R_reads' HO257.out).2.2 | (with_reducible refine Kd.C_alloc ?_ _) | (with_reducible refine Kd.C_drewN ?_ _) | (with_reducible refine Kd.C_drew ?_))); (case side2 => exact (Kd.R_reads' HO257.out).2.1); rintro e w50 ⟨rfl, hb⟩; have n0_ := Aside0.mk (Kd.R_below (by (with_reducible repeat (first | apply Kd.R_alloc | apply Kd.R_drewN | apply Kd.R_drew)); exact HO257.out) hb); have n1_ := Aside0.mk (Kd.R_below (by (with_reducible repeat (first | apply Kd.R_alloc | apply Kd.R_drewN | apply Kd.R_drew)); exact HO260.out) hb); have n2_ := Aside0.mk (below_step (by repeat (first | (with_reducible first | exact HB.out | apply below_alloc | apply pw_below_drewN | apply below_drew1) | exact HB.out)) hb); clear HO257; clear HO260; clear HB; have HO257 := n0_; have HO260 := n1_; have HB := n2_; clear n0_ n1_ n2_; (try clear hb); (try clear hb2); (try clear hk); (try clear hi); obtain ⟨Ao51, co51, eo51⟩ := Kd.R_slice HO260.out; subst eo51) | (go_at_call 50; (with_reducible refine (fold_Over.calls kj2 _ _ t258 _ _ y255 t262 _ ?side1 ?side2 ?side3 ?side4 A45.out).mono ?_); (case side1 => repeat (first | exact (Kd.R_reads' HO260.out).2.2 | (with_reducible refine Kd.C_alloc ?_ _) | (with_reducible refine Kd.C_drewN ?_ _) | (with_reducible refine Kd.C_drew ?_))); (case side2 => exact (Kd.R_reads' HO260.out).2.1); (case side3 => repeat (first | exact (Kd.R_reads' HO257.out).2.2 | (with_reducible refine Kd.C_alloc ?_ _) | (with_reducible refine Kd.C_drewN ?_ _) | (with_reducible refine Kd.C_drew ?_))); (case side4 => exact (Kd.R_reads' HO257.out).2.1); rintro e w52 ⟨v263, rfl, ho0, hb⟩; have n0_ := Aside0.mk (Kd.R_elder' (by (with_reducible repeat (first | apply Kd.R_alloc | apply Kd.R_drewN | apply Kd.R_drew)); exact HO257.out) (Kd.R_base ho0) hb); have n1_ := Aside0.mk (Kd.R_elder' (by (with_reducible repeat (first | apply Kd.R_alloc | apply Kd.R_drewN | apply Kd.R_drew)); exact HO260.out) (Kd.R_base ho0) hb); have n2_ := Aside0.mk (Kd.R_lower (Kd.R_new' (Kd.R_new' ho0 (Kd.R_lt (by (with_reducible repeat (first | apply Kd.R_alloc | apply Kd.R_drewN | apply Kd.R_drew)); exact HO257.out))) (Kd.R_lt (by (with_reducible repeat (first | apply Kd.R_alloc | apply Kd.R_drewN | apply Kd.R_drew)); exact HO260.out))) (below_size (by repeat (first | (with_reducible first | exact HB.out | apply below_alloc | apply pw_below_drewN | apply below_drew1) | exact HB.out)))); have n3_ := Aside0.mk (below_step (by repeat (first | (with_reducible first | exact HB.out | apply below_alloc | apply pw_below_drewN | apply below_drew1) | exact HB.out)) hb); clear HO257; clear HO260; clear HB; have HO257 := n0_; have HO260 := n1_; have HO264 := n2_; have HB := n3_; clear n0_ n1_ n2_ n3_; (try clear hb); (try clear hb2); (try clear hk); (try clear hi); (try clear ho0); obtain ⟨Ao53, co53, eo53⟩ := Kd.R_slice HO264.out; subst eo53)))
            go_ret
            exact ⟨by first | rfl | (simp [errW_none, errW_some] <;> rfl) | (simp [*, errW_none, errW_some] <;> rfl), by repeat (first | (with_reducible first | exact HB.out | apply below_alloc | apply pw_below_drewN | apply below_drew1) | exact HB.out)⟩
        · rw [if_neg c14] at H
          exact absurd H (by simp)

end Go.Proofs.YtklcceccadlgkaaDoor.Print
