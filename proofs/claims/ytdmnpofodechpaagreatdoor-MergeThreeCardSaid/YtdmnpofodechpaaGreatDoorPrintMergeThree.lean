-- Written by pr.py out of the translation (no hand typed it); Lean checks it.
import Derived.Test.YtdmnpofodechpaaGreatDoorWGuard
import Derived.Test.YtdmnpofodechpaaGreatDoorPrint0
import Derived.Test.YtdmnpofodechpaaGreatDoorPrint1
import Derived.Test.YtdmnpofodechpaaGreatDoorPrintF
import Derived.Test.YtdmnpofodechpaaGreatDoorPrintFo
import Derived.Test.YtdmnpofodechpaaGreatDoorPrintMe2
import Derived.Test.YtdmnpofodechpaaGreatDoorPrintSa
namespace Go.Proofs.YtdmnpofodechpaaGreatDoor.Print
open Go.RowKit Go.Proofs.YtdmnpofodechpaaGreatDoorW.PrintWords Go.Proofs.YtdmnpofodechpaaGreatDoorW.PrintLast Go.Proofs.YtdmnpofodechpaaGreatDoorW.PrintMore
attribute [local go_sem] max2_int min2_int max_two min_two max_three min_three max_four min_four   -- for this text's walks alone
set_option linter.unusedVariables false
set_option linter.unusedSimpArgs false


/-! ### shalelaw15_MergeThree: function 18 -/
mutual
def shalelaw15_MergeThree.j0 : Nat → List (S28) → List (S28) → List (S28) → Bool → Bool → Option (Bool)
  | 0, _, _, _, _, _ => none
  | k + 1, x0, x1, x2, x3, x44 => if x44 = true then ((shalelaw15_awake.f k).bind fun t699 => (some t699)) else ((merge_Two.f k x0 x1 x3).bind fun bt700 => ((merge_Two.f k x1 x2 false).bind fun bt706 => ((fail_Code.f bt700.2).bind fun t712 => (if t712 = 0 then ((fail_Code.f bt706.2).bind fun t713 => (shalelaw15_MergeThree.j1 k x0 x2 x3 bt700.1 bt700.2 bt706.1 bt706.2 (t713 != 0))) else (shalelaw15_MergeThree.j1 k x0 x2 x3 bt700.1 bt700.2 bt706.1 bt706.2 true)))))
def shalelaw15_MergeThree.j1 : Nat → List (S28) → List (S28) → Bool → List (S28) → List Int → List (S28) → List Int → Bool → Option (Bool)
  | 0, _, _, _, _, _, _, _, _ => none
  | k + 1, x0, x2, x3, x9, x10, x11, x12, x66 => if x66 = true then ((fail_Code.f x10).bind fun t714 => (if t714 = 16 then (some true) else ((fail_Code.f x12).bind fun t715 => (some (t715 == 16))))) else ((merge_Two.f k x9 x2 x3).bind fun bt716 => ((merge_Two.f k x0 x11 x3).bind fun bt722 => ((fail_Code.f bt716.2).bind fun t728 => (if t728 = 0 then ((fail_Code.f bt722.2).bind fun t729 => (shalelaw15_MergeThree.j2 k x3 bt716.1 bt716.2 bt722.1 bt722.2 (t729 != 0))) else (shalelaw15_MergeThree.j2 k x3 bt716.1 bt716.2 bt722.1 bt722.2 true)))))
def shalelaw15_MergeThree.j2 : Nat → Bool → List (S28) → List Int → List (S28) → List Int → Bool → Option (Bool)
  | 0, _, _, _, _, _, _ => none
  | k + 1, x3, x13, x14, x15, x16, x96 => if x96 = true then ((fail_Code.f x14).bind fun t730 => ((fail_Code.f x16).bind fun t731 => (some (t730 == t731)))) else ((fold_Stack.f k (([x13] : List (List (S28))))).bind fun t735 => ((fold_Stack.f k (([x15] : List (List (S28))))).bind fun t741 => ((shalelaw09_Same.f k t735 t741).bind fun t744 => (if t744 = 1 then (if x3 = true then ((shalelaw09_Same.f k x13 x15).bind fun t745 => (if t745 = 1 then (some true) else (some false))) else (some ((x13.length : Int) == (x15.length : Int)))) else (some false)))))
end
def shalelaw15_MergeThree.f (k : Nat) (l0 : List (S28)) (l1 : List (S28)) (l2 : List (S28)) (a3 : Bool) : Option (Bool) := (shalelaw15_awake.f k).bind fun t695 => (if t695 = true then ((shalelaw09_Size.f k l0).bind fun t696 => (if t696 = 0 then (shalelaw15_MergeThree.j0 k l0 l1 l2 a3 true) else ((shalelaw09_Size.f k l1).bind fun t697 => (if t697 = 0 then (shalelaw15_MergeThree.j0 k l0 l1 l2 a3 true) else ((shalelaw09_Size.f k l2).bind fun t698 => (if t698 = 0 then (shalelaw15_MergeThree.j0 k l0 l1 l2 a3 true) else (shalelaw15_MergeThree.j0 k l0 l1 l2 a3 (decide ((wrap64 ((wrap64 ((l0.length : Int) + (l1.length : Int))) + (l2.length : Int))) > 64))))))))) else (shalelaw15_MergeThree.j0 k l0 l1 l2 a3 true))
theorem shalelaw15_MergeThree.mono_l : ∀ k, (∀ y0 y1 y2 y3 y4, LeO (shalelaw15_MergeThree.j0 k y0 y1 y2 y3 y4) (shalelaw15_MergeThree.j0 (k + 1) y0 y1 y2 y3 y4)) ∧ (∀ y0 y1 y2 y3 y4 y5 y6 y7, LeO (shalelaw15_MergeThree.j1 k y0 y1 y2 y3 y4 y5 y6 y7) (shalelaw15_MergeThree.j1 (k + 1) y0 y1 y2 y3 y4 y5 y6 y7)) ∧ (∀ y0 y1 y2 y3 y4 y5, LeO (shalelaw15_MergeThree.j2 k y0 y1 y2 y3 y4 y5) (shalelaw15_MergeThree.j2 (k + 1) y0 y1 y2 y3 y4 y5))
  | 0 => ⟨fun _ _ _ _ _ r h => by simp [shalelaw15_MergeThree.j0] at h, fun _ _ _ _ _ _ _ _ r h => by simp [shalelaw15_MergeThree.j1] at h, fun _ _ _ _ _ _ r h => by simp [shalelaw15_MergeThree.j2] at h⟩
  | k + 1 => by
    obtain ⟨ih0, ih1, ih2⟩ := shalelaw15_MergeThree.mono_l k
    refine ⟨?_, ?_, ?_⟩
    · intro y0 y1 y2 y3 y4
      unfold shalelaw15_MergeThree.j0
      repeat' first
      | (with_reducible exact ih0 _ _ _ _ _)
      | (with_reducible exact ih1 _ _ _ _ _ _ _ _)
      | (with_reducible exact ih2 _ _ _ _ _ _)
      | (with_reducible exact fold_Stack.mono _ _)
      | (with_reducible exact merge_Two.mono _ _ _ _)
      | (with_reducible exact shalelaw09_Same.mono _ _ _)
      | (with_reducible exact shalelaw09_Size.mono _ _)
      | (with_reducible exact shalelaw15_awake.mono _)
      | (with_reducible exact LeO.refl _)
      | (with_reducible exact LeO.none _)
      | (with_reducible refine LeO.ite ?_ ?_)
      | (with_reducible refine LeO.bind ?_ (fun _ => ?_))
      | exact ih0 _ _ _ _ _
      | exact ih1 _ _ _ _ _ _ _ _
      | exact ih2 _ _ _ _ _ _
      | exact fold_Stack.mono _ _
      | exact merge_Two.mono _ _ _ _
      | exact shalelaw09_Same.mono _ _ _
      | exact shalelaw09_Size.mono _ _
      | exact shalelaw15_awake.mono _
      | exact LeO.none _
      | refine LeO.ite ?_ ?_
      | refine LeO.bind ?_ (fun _ => ?_)
    · intro y0 y1 y2 y3 y4 y5 y6 y7
      unfold shalelaw15_MergeThree.j1
      repeat' first
      | (with_reducible exact ih0 _ _ _ _ _)
      | (with_reducible exact ih1 _ _ _ _ _ _ _ _)
      | (with_reducible exact ih2 _ _ _ _ _ _)
      | (with_reducible exact fold_Stack.mono _ _)
      | (with_reducible exact merge_Two.mono _ _ _ _)
      | (with_reducible exact shalelaw09_Same.mono _ _ _)
      | (with_reducible exact shalelaw09_Size.mono _ _)
      | (with_reducible exact shalelaw15_awake.mono _)
      | (with_reducible exact LeO.refl _)
      | (with_reducible exact LeO.none _)
      | (with_reducible refine LeO.ite ?_ ?_)
      | (with_reducible refine LeO.bind ?_ (fun _ => ?_))
      | exact ih0 _ _ _ _ _
      | exact ih1 _ _ _ _ _ _ _ _
      | exact ih2 _ _ _ _ _ _
      | exact fold_Stack.mono _ _
      | exact merge_Two.mono _ _ _ _
      | exact shalelaw09_Same.mono _ _ _
      | exact shalelaw09_Size.mono _ _
      | exact shalelaw15_awake.mono _
      | exact LeO.none _
      | refine LeO.ite ?_ ?_
      | refine LeO.bind ?_ (fun _ => ?_)
    · intro y0 y1 y2 y3 y4 y5
      unfold shalelaw15_MergeThree.j2
      repeat' first
      | (with_reducible exact ih0 _ _ _ _ _)
      | (with_reducible exact ih1 _ _ _ _ _ _ _ _)
      | (with_reducible exact ih2 _ _ _ _ _ _)
      | (with_reducible exact fold_Stack.mono _ _)
      | (with_reducible exact merge_Two.mono _ _ _ _)
      | (with_reducible exact shalelaw09_Same.mono _ _ _)
      | (with_reducible exact shalelaw09_Size.mono _ _)
      | (with_reducible exact shalelaw15_awake.mono _)
      | (with_reducible exact LeO.refl _)
      | (with_reducible exact LeO.none _)
      | (with_reducible refine LeO.ite ?_ ?_)
      | (with_reducible refine LeO.bind ?_ (fun _ => ?_))
      | exact ih0 _ _ _ _ _
      | exact ih1 _ _ _ _ _ _ _ _
      | exact ih2 _ _ _ _ _ _
      | exact fold_Stack.mono _ _
      | exact merge_Two.mono _ _ _ _
      | exact shalelaw09_Same.mono _ _ _
      | exact shalelaw09_Size.mono _ _
      | exact shalelaw15_awake.mono _
      | exact LeO.none _
      | refine LeO.ite ?_ ?_
      | refine LeO.bind ?_ (fun _ => ?_)
theorem shalelaw15_MergeThree.mono : ∀ a0 a1 a2 a3 k, LeO (shalelaw15_MergeThree.f k a0 a1 a2 a3) (shalelaw15_MergeThree.f (k + 1) a0 a1 a2 a3) := by
  intro a0 a1 a2 a3 k
  obtain ⟨ih0, ih1, ih2⟩ := shalelaw15_MergeThree.mono_l k
  unfold shalelaw15_MergeThree.f
  repeat' first
      | (with_reducible exact ih0 _ _ _ _ _)
      | (with_reducible exact ih1 _ _ _ _ _ _ _ _)
      | (with_reducible exact ih2 _ _ _ _ _ _)
      | (with_reducible exact fold_Stack.mono _ _)
      | (with_reducible exact merge_Two.mono _ _ _ _)
      | (with_reducible exact shalelaw09_Same.mono _ _ _)
      | (with_reducible exact shalelaw09_Size.mono _ _)
      | (with_reducible exact shalelaw15_awake.mono _)
      | (with_reducible exact LeO.refl _)
      | (with_reducible exact LeO.none _)
      | (with_reducible refine LeO.ite ?_ ?_)
      | (with_reducible refine LeO.bind ?_ (fun _ => ?_))
      | exact ih0 _ _ _ _ _
      | exact ih1 _ _ _ _ _ _ _ _
      | exact ih2 _ _ _ _ _ _
      | exact fold_Stack.mono _ _
      | exact merge_Two.mono _ _ _ _
      | exact shalelaw09_Same.mono _ _ _
      | exact shalelaw09_Size.mono _ _
      | exact shalelaw15_awake.mono _
      | exact LeO.none _
      | refine LeO.ite ?_ ?_
      | refine LeO.bind ?_ (fun _ => ?_)
set_option maxHeartbeats 8000000 in
set_option maxRecDepth 100000 in
theorem shalelaw15_MergeThree.calls (k : Nat) (A0 : Option Addr) (c0 : Nat) (l0 : List (S28)) (A1 : Option Addr) (c1 : Nat) (l1 : List (S28)) (A2 : Option Addr) (c2 : Nat) (l2 : List (S28)) (a3 : Bool) (r : Bool) (w : World) (hr0 : Kd.C k28 w A0 l0.length l0) (hc0 : l0.length ≤ c0) (hr1 : Kd.C k28 w A1 l1.length l1) (hc1 : l1.length ≤ c1) (hr2 : Kd.C k28 w A2 l2.length l2) (hc2 : l2.length ≤ c2) (hG : Gl w) (h : shalelaw15_MergeThree.f k l0 l1 l2 a3 = some r) (hr : r = true) :
    Calls Tryz.prog 18 #[.slice A0 l0.length c0, .slice A1 l1.length c1, .slice A2 l2.length c2, .bool a3] w fun e w' => e = .returned (.bool r) ∧ Below w.heap.size w w' := by
  have HR0 := Aside0.mk hr0
  have HC0 := Aside0.mk hc0
  clear hr0 hc0
  have HR1 := Aside0.mk hr1
  have HC1 := Aside0.mk hc1
  clear hr1 hc1
  have HR2 := Aside0.mk hr2
  have HC2 := Aside0.mk hc2
  clear hr2 hc2
  have HB := Aside0.mk (Below.refl w.heap.size w)
  have HG_ := Aside0.mk hG
  clear hG
  have H : ((shalelaw15_awake.f k).bind fun t695 => (if t695 = true then ((shalelaw09_Size.f k l0).bind fun t696 => (if t696 = 0 then (shalelaw15_MergeThree.j0 k l0 l1 l2 a3 true) else ((shalelaw09_Size.f k l1).bind fun t697 => (if t697 = 0 then (shalelaw15_MergeThree.j0 k l0 l1 l2 a3 true) else ((shalelaw09_Size.f k l2).bind fun t698 => (if t698 = 0 then (shalelaw15_MergeThree.j0 k l0 l1 l2 a3 true) else (shalelaw15_MergeThree.j0 k l0 l1 l2 a3 (decide ((wrap64 ((wrap64 ((l0.length : Int) + (l1.length : Int))) + (l2.length : Int))) > 64))))))))) else (shalelaw15_MergeThree.j0 k l0 l1 l2 a3 true))) = some r := h
  clear h
  have HRR_ := Aside0.mk hr
  clear hr
  have HC5 := Aside0.mk H
  clear H
  go_enter Tryz.func18, Tryz.ntmps18
  go_upto_region 1 with (fail)
  go_cut [44] (fun v44 wc => ∃ (kq : Nat) (x44_4 : Bool), v44 = .bool x44_4 ∧ Aside0 (shalelaw15_MergeThree.j0 kq l0 l1 l2 a3 x44_4 = some r) ∧ Aside0 (kq ≤ k) ∧ Aside0 (Below w.heap.size w wc))
  case first =>
    have H := HC5.out
    clear HC5
    replace H := Option.bind_eq_some_iff.mp H
    obtain ⟨t695, A60, H⟩ := H
    replace H : (if t695 = true then ((shalelaw09_Size.f k l0).bind fun t696 => (if t696 = 0 then (shalelaw15_MergeThree.j0 k l0 l1 l2 a3 true) else ((shalelaw09_Size.f k l1).bind fun t697 => (if t697 = 0 then (shalelaw15_MergeThree.j0 k l0 l1 l2 a3 true) else ((shalelaw09_Size.f k l2).bind fun t698 => (if t698 = 0 then (shalelaw15_MergeThree.j0 k l0 l1 l2 a3 true) else (shalelaw15_MergeThree.j0 k l0 l1 l2 a3 (decide ((wrap64 ((wrap64 ((l0.length : Int) + (l1.length : Int))) + (l2.length : Int))) > 64))))))))) else (shalelaw15_MergeThree.j0 k l0 l1 l2 a3 true)) = some r := H
    have A6 := Aside0.mk A60
    clear A60
    by_cases c7 : t695 = true
    · subst c7
      have H1 : ((shalelaw09_Size.f k l0).bind fun t696 => (if t696 = 0 then (shalelaw15_MergeThree.j0 k l0 l1 l2 a3 true) else ((shalelaw09_Size.f k l1).bind fun t697 => (if t697 = 0 then (shalelaw15_MergeThree.j0 k l0 l1 l2 a3 true) else ((shalelaw09_Size.f k l2).bind fun t698 => (if t698 = 0 then (shalelaw15_MergeThree.j0 k l0 l1 l2 a3 true) else (shalelaw15_MergeThree.j0 k l0 l1 l2 a3 (decide ((wrap64 ((wrap64 ((l0.length : Int) + (l1.length : Int))) + (l2.length : Int))) > 64))))))))) = some r := by rw [if_pos rfl] at H; exact H
      clear H
      have H := H1
      clear H1
      replace H := Option.bind_eq_some_iff.mp H
      obtain ⟨t696, A80, H⟩ := H
      replace H : (if t696 = 0 then (shalelaw15_MergeThree.j0 k l0 l1 l2 a3 true) else ((shalelaw09_Size.f k l1).bind fun t697 => (if t697 = 0 then (shalelaw15_MergeThree.j0 k l0 l1 l2 a3 true) else ((shalelaw09_Size.f k l2).bind fun t698 => (if t698 = 0 then (shalelaw15_MergeThree.j0 k l0 l1 l2 a3 true) else (shalelaw15_MergeThree.j0 k l0 l1 l2 a3 (decide ((wrap64 ((wrap64 ((l0.length : Int) + (l1.length : Int))) + (l2.length : Int))) > 64)))))))) = some r := H
      have A8 := Aside0.mk A80
      clear A80
      by_cases c9 : t696 = 0
      · rw [if_pos c9] at H
        have c9b0 : (t696 == 0) = true := beq_iff_eq.mpr c9
        have c9b1 : (t696 != 0) = false := bne_eq_false_iff_eq.mpr c9
        clear c9
        (first | rw [c9b0] | (simp only [i64_w, i32_w]; rw [c9b0]) | skip)
        have H' := Aside0.mk H
        clear H
        go_wp2_with (first | ((with_reducible refine gate_callee (f := 49) rfl ?_); refine goesL_ (some 17) rfl rfl Tryz.func49 (by kernel_rfl) rfl #[] rfl (by (try simp only [List.map_toArray, List.map_cons, List.map_nil]); first | done | rfl | (simp only [List.length_drop, List.length_take]; rfl)) ?_; (with_reducible refine (shalelaw15_awake.calls k  true _ ?side1 A6.out).mono ?_); (case side1 => exact Gl.below HG_.out (by repeat (first | (with_reducible first | exact HB.out | apply below_alloc | apply pw_below_drewN | apply below_drew1) | exact HB.out))); rintro e w10 ⟨rfl, hb⟩; refine ⟨_, rfl, ?_⟩; have n0_ := Aside0.mk (below_step (by repeat (first | (with_reducible first | exact HB.out | apply below_alloc | apply pw_below_drewN | apply below_drew1) | exact HB.out)) hb); clear HB; have HB := n0_; clear n0_; (try clear hb); (try clear hb2); (try clear hk); (try clear hi)) | (go_at_call 24; (with_reducible refine (shalelaw09_Size.calls k _ _ l0 t696 _ ?side1 ?side2 A8.out).mono ?_); (case side1 => repeat (first | exact (Kd.C_below HR0.out HB.out) | (with_reducible refine Kd.C_alloc ?_ _) | (with_reducible refine Kd.C_drewN ?_ _) | (with_reducible refine Kd.C_drew ?_))); (case side2 => exact HC0.out); rintro e w' ⟨rfl, ⟨nd, rfl⟩⟩))
        go_meet
        case rel => exact ⟨_, (true), (by first | rfl | (simp; done) | (simp [*]; done)), H', ⟨by first | omega | exact Nat.le_refl _⟩, ⟨by repeat (first | (with_reducible first | exact HB.out | apply below_alloc | apply pw_below_drewN | apply below_drew1) | exact HB.out)⟩⟩
      · rw [if_neg c9] at H
        have c9b0 : (t696 == 0) = false := beq_eq_false_iff_ne.mpr c9
        have c9b1 : (t696 != 0) = true := bne_iff_ne.mpr c9
        (first | rw [c9b0] | (simp only [i64_w, i32_w]; rw [c9b0]) | skip)
        replace H := Option.bind_eq_some_iff.mp H
        obtain ⟨t697, A110, H⟩ := H
        replace H : (if t697 = 0 then (shalelaw15_MergeThree.j0 k l0 l1 l2 a3 true) else ((shalelaw09_Size.f k l2).bind fun t698 => (if t698 = 0 then (shalelaw15_MergeThree.j0 k l0 l1 l2 a3 true) else (shalelaw15_MergeThree.j0 k l0 l1 l2 a3 (decide ((wrap64 ((wrap64 ((l0.length : Int) + (l1.length : Int))) + (l2.length : Int))) > 64)))))) = some r := H
        have A11 := Aside0.mk A110
        clear A110
        by_cases c12 : t697 = 0
        · rw [if_pos c12] at H
          have c12b0 : (t697 == 0) = true := beq_iff_eq.mpr c12
          have c12b1 : (t697 != 0) = false := bne_eq_false_iff_eq.mpr c12
          clear c12
          have H' := Aside0.mk H
          clear H
          go_wp2_with (first | ((with_reducible refine gate_callee (f := 49) rfl ?_); refine goesL_ (some 17) rfl rfl Tryz.func49 (by kernel_rfl) rfl #[] rfl (by (try simp only [List.map_toArray, List.map_cons, List.map_nil]); first | done | rfl | (simp only [List.length_drop, List.length_take]; rfl)) ?_; (with_reducible refine (shalelaw15_awake.calls k  true _ ?side1 A6.out).mono ?_); (case side1 => exact Gl.below HG_.out (by repeat (first | (with_reducible first | exact HB.out | apply below_alloc | apply pw_below_drewN | apply below_drew1) | exact HB.out))); rintro e w13 ⟨rfl, hb⟩; refine ⟨_, rfl, ?_⟩; have n0_ := Aside0.mk (below_step (by repeat (first | (with_reducible first | exact HB.out | apply below_alloc | apply pw_below_drewN | apply below_drew1) | exact HB.out)) hb); clear HB; have HB := n0_; clear n0_; (try clear hb); (try clear hb2); (try clear hk); (try clear hi)) | (go_at_call 24; (with_reducible refine (shalelaw09_Size.calls k _ _ l0 t696 _ ?side1 ?side2 A8.out).mono ?_); (case side1 => repeat (first | exact (Kd.C_below HR0.out HB.out) | (with_reducible refine Kd.C_alloc ?_ _) | (with_reducible refine Kd.C_drewN ?_ _) | (with_reducible refine Kd.C_drew ?_))); (case side2 => exact HC0.out); rintro e w' ⟨rfl, ⟨nd, rfl⟩⟩) | (go_at_call 24; (with_reducible refine (shalelaw09_Size.calls k _ _ l1 t697 _ ?side1 ?side2 A11.out).mono ?_); (case side1 => repeat (first | exact (Kd.C_below HR1.out (by repeat (first | (with_reducible first | exact HB.out | apply below_alloc | apply pw_below_drewN | apply below_drew1) | exact HB.out))) | (with_reducible refine Kd.C_alloc ?_ _) | (with_reducible refine Kd.C_drewN ?_ _) | (with_reducible refine Kd.C_drew ?_))); (case side2 => exact HC1.out); rintro e w' ⟨rfl, ⟨nd, rfl⟩⟩))
          go_meet
          case rel => exact ⟨_, (true), (by first | rfl | (simp; done) | (simp [*]; done)), H', ⟨by first | omega | exact Nat.le_refl _⟩, ⟨by repeat (first | (with_reducible first | exact HB.out | apply below_alloc | apply pw_below_drewN | apply below_drew1) | exact HB.out)⟩⟩
        · rw [if_neg c12] at H
          have c12b0 : (t697 == 0) = false := beq_eq_false_iff_ne.mpr c12
          have c12b1 : (t697 != 0) = true := bne_iff_ne.mpr c12
          replace H := Option.bind_eq_some_iff.mp H
          obtain ⟨t698, A140, H⟩ := H
          replace H : (if t698 = 0 then (shalelaw15_MergeThree.j0 k l0 l1 l2 a3 true) else (shalelaw15_MergeThree.j0 k l0 l1 l2 a3 (decide ((wrap64 ((wrap64 ((l0.length : Int) + (l1.length : Int))) + (l2.length : Int))) > 64)))) = some r := H
          have A14 := Aside0.mk A140
          clear A140
          by_cases c15 : t698 = 0
          · rw [if_pos c15] at H
            have c15b0 : (t698 == 0) = true := beq_iff_eq.mpr c15
            have c15b1 : (t698 != 0) = false := bne_eq_false_iff_eq.mpr c15
            clear c15
            have H' := Aside0.mk H
            clear H
            go_wp2_with (first | ((with_reducible refine gate_callee (f := 49) rfl ?_); refine goesL_ (some 17) rfl rfl Tryz.func49 (by kernel_rfl) rfl #[] rfl (by (try simp only [List.map_toArray, List.map_cons, List.map_nil]); first | done | rfl | (simp only [List.length_drop, List.length_take]; rfl)) ?_; (with_reducible refine (shalelaw15_awake.calls k  true _ ?side1 A6.out).mono ?_); (case side1 => exact Gl.below HG_.out (by repeat (first | (with_reducible first | exact HB.out | apply below_alloc | apply pw_below_drewN | apply below_drew1) | exact HB.out))); rintro e w16 ⟨rfl, hb⟩; refine ⟨_, rfl, ?_⟩; have n0_ := Aside0.mk (below_step (by repeat (first | (with_reducible first | exact HB.out | apply below_alloc | apply pw_below_drewN | apply below_drew1) | exact HB.out)) hb); clear HB; have HB := n0_; clear n0_; (try clear hb); (try clear hb2); (try clear hk); (try clear hi)) | (go_at_call 24; (with_reducible refine (shalelaw09_Size.calls k _ _ l0 t696 _ ?side1 ?side2 A8.out).mono ?_); (case side1 => repeat (first | exact (Kd.C_below HR0.out HB.out) | (with_reducible refine Kd.C_alloc ?_ _) | (with_reducible refine Kd.C_drewN ?_ _) | (with_reducible refine Kd.C_drew ?_))); (case side2 => exact HC0.out); rintro e w' ⟨rfl, ⟨nd, rfl⟩⟩) | (go_at_call 24; (with_reducible refine (shalelaw09_Size.calls k _ _ l1 t697 _ ?side1 ?side2 A11.out).mono ?_); (case side1 => repeat (first | exact (Kd.C_below HR1.out (by repeat (first | (with_reducible first | exact HB.out | apply below_alloc | apply pw_below_drewN | apply below_drew1) | exact HB.out))) | (with_reducible refine Kd.C_alloc ?_ _) | (with_reducible refine Kd.C_drewN ?_ _) | (with_reducible refine Kd.C_drew ?_))); (case side2 => exact HC1.out); rintro e w' ⟨rfl, ⟨nd, rfl⟩⟩) | (go_at_call 24; (with_reducible refine (shalelaw09_Size.calls k _ _ l2 t698 _ ?side1 ?side2 A14.out).mono ?_); (case side1 => repeat (first | exact (Kd.C_below HR2.out (by repeat (first | (with_reducible first | exact HB.out | apply below_alloc | apply pw_below_drewN | apply below_drew1) | exact HB.out))) | (with_reducible refine Kd.C_alloc ?_ _) | (with_reducible refine Kd.C_drewN ?_ _) | (with_reducible refine Kd.C_drew ?_))); (case side2 => exact HC2.out); rintro e w' ⟨rfl, ⟨nd, rfl⟩⟩))
            go_meet
            case rel => exact ⟨_, (true), (by first | rfl | (simp; done) | (simp [*]; done)), H', ⟨by first | omega | exact Nat.le_refl _⟩, ⟨by repeat (first | (with_reducible first | exact HB.out | apply below_alloc | apply pw_below_drewN | apply below_drew1) | exact HB.out)⟩⟩
          · rw [if_neg c15] at H
            have c15b0 : (t698 == 0) = false := beq_eq_false_iff_ne.mpr c15
            have c15b1 : (t698 != 0) = true := bne_iff_ne.mpr c15
            have H' := Aside0.mk H
            clear H
            go_wp2_with (first | ((with_reducible refine gate_callee (f := 49) rfl ?_); refine goesL_ (some 17) rfl rfl Tryz.func49 (by kernel_rfl) rfl #[] rfl (by (try simp only [List.map_toArray, List.map_cons, List.map_nil]); first | done | rfl | (simp only [List.length_drop, List.length_take]; rfl)) ?_; (with_reducible refine (shalelaw15_awake.calls k  true _ ?side1 A6.out).mono ?_); (case side1 => exact Gl.below HG_.out (by repeat (first | (with_reducible first | exact HB.out | apply below_alloc | apply pw_below_drewN | apply below_drew1) | exact HB.out))); rintro e w17 ⟨rfl, hb⟩; refine ⟨_, rfl, ?_⟩; have n0_ := Aside0.mk (below_step (by repeat (first | (with_reducible first | exact HB.out | apply below_alloc | apply pw_below_drewN | apply below_drew1) | exact HB.out)) hb); clear HB; have HB := n0_; clear n0_; (try clear hb); (try clear hb2); (try clear hk); (try clear hi)) | (go_at_call 24; (with_reducible refine (shalelaw09_Size.calls k _ _ l0 t696 _ ?side1 ?side2 A8.out).mono ?_); (case side1 => repeat (first | exact (Kd.C_below HR0.out HB.out) | (with_reducible refine Kd.C_alloc ?_ _) | (with_reducible refine Kd.C_drewN ?_ _) | (with_reducible refine Kd.C_drew ?_))); (case side2 => exact HC0.out); rintro e w' ⟨rfl, ⟨nd, rfl⟩⟩) | (go_at_call 24; (with_reducible refine (shalelaw09_Size.calls k _ _ l1 t697 _ ?side1 ?side2 A11.out).mono ?_); (case side1 => repeat (first | exact (Kd.C_below HR1.out (by repeat (first | (with_reducible first | exact HB.out | apply below_alloc | apply pw_below_drewN | apply below_drew1) | exact HB.out))) | (with_reducible refine Kd.C_alloc ?_ _) | (with_reducible refine Kd.C_drewN ?_ _) | (with_reducible refine Kd.C_drew ?_))); (case side2 => exact HC1.out); rintro e w' ⟨rfl, ⟨nd, rfl⟩⟩) | (go_at_call 24; (with_reducible refine (shalelaw09_Size.calls k _ _ l2 t698 _ ?side1 ?side2 A14.out).mono ?_); (case side1 => repeat (first | exact (Kd.C_below HR2.out (by repeat (first | (with_reducible first | exact HB.out | apply below_alloc | apply pw_below_drewN | apply below_drew1) | exact HB.out))) | (with_reducible refine Kd.C_alloc ?_ _) | (with_reducible refine Kd.C_drewN ?_ _) | (with_reducible refine Kd.C_drew ?_))); (case side2 => exact HC2.out); rintro e w' ⟨rfl, ⟨nd, rfl⟩⟩))
            go_meet
            case rel => exact ⟨_, (decide ((wrap64 ((wrap64 ((l0.length : Int) + (l1.length : Int))) + (l2.length : Int))) > 64)), (by first | rfl | (simp; done) | (simp [*]; done)), H', ⟨by first | omega | exact Nat.le_refl _⟩, ⟨by repeat (first | (with_reducible first | exact HB.out | apply below_alloc | apply pw_below_drewN | apply below_drew1) | exact HB.out)⟩⟩
    · replace c7 := Bool.eq_false_iff.mpr c7
      subst c7
      have H1 : (shalelaw15_MergeThree.j0 k l0 l1 l2 a3 true) = some r := by rw [if_neg (show ¬ (false = true) by decide)] at H; exact H
      clear H
      have H := H1
      clear H1
      have H' := Aside0.mk H
      clear H
      go_wp2_with (first | ((with_reducible refine gate_callee (f := 49) rfl ?_); refine goesL_ (some 17) rfl rfl Tryz.func49 (by kernel_rfl) rfl #[] rfl (by (try simp only [List.map_toArray, List.map_cons, List.map_nil]); first | done | rfl | (simp only [List.length_drop, List.length_take]; rfl)) ?_; (with_reducible refine (shalelaw15_awake.calls k  false _ ?side1 A6.out).mono ?_); (case side1 => exact Gl.below HG_.out (by repeat (first | (with_reducible first | exact HB.out | apply below_alloc | apply pw_below_drewN | apply below_drew1) | exact HB.out))); rintro e w18 ⟨rfl, hb⟩; refine ⟨_, rfl, ?_⟩; have n0_ := Aside0.mk (below_step (by repeat (first | (with_reducible first | exact HB.out | apply below_alloc | apply pw_below_drewN | apply below_drew1) | exact HB.out)) hb); clear HB; have HB := n0_; clear n0_; (try clear hb); (try clear hb2); (try clear hk); (try clear hi)))
      go_meet
      case rel => exact ⟨_, (true), (by first | rfl | (simp; done) | (simp [*]; done)), H', ⟨by first | omega | exact Nat.le_refl _⟩, ⟨by repeat (first | (with_reducible first | exact HB.out | apply below_alloc | apply pw_below_drewN | apply below_drew1) | exact HB.out)⟩⟩
  case rest =>
    clear HC5
    try clear c1
    try clear c2
    try clear p2
    try clear c4
    try clear p6
    try clear c7
    try clear c9
    try clear c9b0
    try clear c9b1
    try clear c12
    try clear c12b0
    try clear c12b1
    try clear c15
    try clear c15b0
    try clear c15b1
    try clear c18
    obtain ⟨kq, x44_4, rfl, HA, HJ4, HB⟩ := hcut
    cases kq with
    | zero => exact absurd HA.out (by simp [shalelaw15_MergeThree.j0])
    | succ kj4 =>
      have H := HA.out
      clear HA
      simp only [shalelaw15_MergeThree.j0] at H
      by_cases c19 : x44_4 = true
      · subst c19
        have H1 : ((shalelaw15_awake.f kj4).bind fun t699 => (some t699)) = some r := by rw [if_pos rfl] at H; exact H
        clear H
        have H := H1
        clear H1
        replace H := Option.bind_eq_some_iff.mp H
        obtain ⟨t699, A200, H⟩ := H
        replace H : (some t699) = some r := H
        have A20 := Aside0.mk A200
        clear A200
        obtain rfl := Option.some.inj H
        go_wp2_with (first | ((with_reducible refine gate_callee (f := 49) rfl ?_); refine goesL_ (some 45) rfl rfl Tryz.func49 (by kernel_rfl) rfl #[] rfl (by (try simp only [List.map_toArray, List.map_cons, List.map_nil]); first | done | rfl | (simp only [List.length_drop, List.length_take]; rfl)) ?_; (with_reducible refine (shalelaw15_awake.calls kj4  t699 _ ?side1 A20.out).mono ?_); (case side1 => exact Gl.below HG_.out (by repeat (first | (with_reducible first | exact HB.out | apply below_alloc | apply pw_below_drewN | apply below_drew1) | exact HB.out))); rintro e w21 ⟨rfl, hb⟩; refine ⟨_, rfl, ?_⟩; have n0_ := Aside0.mk (below_step (by repeat (first | (with_reducible first | exact HB.out | apply below_alloc | apply pw_below_drewN | apply below_drew1) | exact HB.out)) hb); clear HB; have HB := n0_; clear n0_; (try clear hb); (try clear hb2); (try clear hk); (try clear hi)))
        go_ret
        exact ⟨by first | rfl | (simp [errW_none, errW_some] <;> rfl) | (simp [*, errW_none, errW_some] <;> rfl), by repeat (first | (with_reducible first | exact HB.out | apply below_alloc | apply pw_below_drewN | apply below_drew1) | exact HB.out)⟩
      · replace c19 := Bool.eq_false_iff.mpr c19
        subst c19
        have H1 : ((merge_Two.f kj4 l0 l1 a3).bind fun bt700 => ((merge_Two.f kj4 l1 l2 false).bind fun bt706 => ((fail_Code.f bt700.2).bind fun t712 => (if t712 = 0 then ((fail_Code.f bt706.2).bind fun t713 => (shalelaw15_MergeThree.j1 kj4 l0 l2 a3 bt700.1 bt700.2 bt706.1 bt706.2 (t713 != 0))) else (shalelaw15_MergeThree.j1 kj4 l0 l2 a3 bt700.1 bt700.2 bt706.1 bt706.2 true))))) = some r := by rw [if_neg (show ¬ (false = true) by decide)] at H; exact H
        clear H
        have H := H1
        clear H1
        replace H := Option.bind_eq_some_iff.mp H
        obtain ⟨⟨t700, t703⟩, A220, H⟩ := H
        replace H : ((merge_Two.f kj4 l1 l2 false).bind fun bt706 => ((fail_Code.f t703).bind fun t712 => (if t712 = 0 then ((fail_Code.f bt706.2).bind fun t713 => (shalelaw15_MergeThree.j1 kj4 l0 l2 a3 t700 t703 bt706.1 bt706.2 (t713 != 0))) else (shalelaw15_MergeThree.j1 kj4 l0 l2 a3 t700 t703 bt706.1 bt706.2 true)))) = some r := H
        have A22 := Aside0.mk A220
        clear A220
        replace H := Option.bind_eq_some_iff.mp H
        obtain ⟨⟨t706, t709⟩, A230, H⟩ := H
        replace H : ((fail_Code.f t703).bind fun t712 => (if t712 = 0 then ((fail_Code.f t709).bind fun t713 => (shalelaw15_MergeThree.j1 kj4 l0 l2 a3 t700 t703 t706 t709 (t713 != 0))) else (shalelaw15_MergeThree.j1 kj4 l0 l2 a3 t700 t703 t706 t709 true))) = some r := H
        have A23 := Aside0.mk A230
        clear A230
        have HC24 := Aside0.mk H
        clear H
        go_upto_region 5 with (first | ((with_reducible refine gate_callee (f := 50) rfl ?_); refine goesL_ (some 50) rfl rfl Tryz.func50 (by kernel_rfl) rfl #[.slice A0 l0.length c0, .slice A1 l1.length c1, .bool a3] rfl (by (try simp only [List.map_toArray, List.map_cons, List.map_nil]); first | done | rfl | (simp only [List.length_drop, List.length_take]; rfl)) ?_; (with_reducible refine (merge_Two.calls kj4 (fun k_ => k_ < w.heap.size) _ _ l0 _ _ l1 a3 t700 t703 _ ?side1 ?side2 ?side3 A22.out).mono ?_); (case side1 => exact Kd.V_mk HC0.out (Kd.F_below (Kd.C_F k28_heap HR0.out) (by repeat (first | (with_reducible first | exact HB.out | apply below_alloc | apply pw_below_drewN | apply below_drew1) | exact HB.out)))); (case side2 => repeat (first | exact (Kd.C_below HR1.out HB.out) | (with_reducible refine Kd.C_alloc ?_ _) | (with_reducible refine Kd.C_drewN ?_ _) | (with_reducible refine Kd.C_drew ?_))); (case side3 => exact HC1.out); rintro e w25 ⟨v701, v704, rfl, ho0, ho1, hb⟩; refine ⟨_, rfl, ?_⟩; have n0_ := Aside0.mk (Kd.R_lower (Kd.R_mono (ok' := fun k_ => True) ho0 (fun _ hk_ => trivial)) (below_size (by repeat (first | (with_reducible first | exact HB.out | apply below_alloc | apply pw_below_drewN | apply below_drew1) | exact HB.out)))); have n1_ := Aside0.mk (Kd.R_lower (Kd.R_mono (ok' := fun k_ => True) ho1 (fun _ hk_ => trivial)) (below_size (by repeat (first | (with_reducible first | exact HB.out | apply below_alloc | apply pw_below_drewN | apply below_drew1) | exact HB.out)))); have n2_ := Aside0.mk (below_step (by repeat (first | (with_reducible first | exact HB.out | apply below_alloc | apply pw_below_drewN | apply below_drew1) | exact HB.out)) hb); clear HB; have HO702 := n0_; have HO705 := n1_; have HB := n2_; clear n0_ n1_ n2_; (try clear hb); (try clear hb2); (try clear hk); (try clear hi); (try clear ho0); (try clear ho1); have hE_v704 := errNil_of HO705.out) | ((with_reducible refine gate_callee (f := 50) rfl ?_); refine goesL_ (some 56) rfl rfl Tryz.func50 (by kernel_rfl) rfl #[.slice A1 l1.length c1, .slice A2 l2.length c2, .bool false] rfl (by (try simp only [List.map_toArray, List.map_cons, List.map_nil]); first | done | rfl | (simp only [List.length_drop, List.length_take]; rfl)) ?_; (with_reducible refine (merge_Two.calls kj4 (fun k_ => k_ < w.heap.size) _ _ l1 _ _ l2 false t706 t709 _ ?side1 ?side2 ?side3 A23.out).mono ?_); (case side1 => exact Kd.V_mk HC1.out (Kd.F_below (Kd.C_F k28_heap HR1.out) (by repeat (first | (with_reducible first | exact HB.out | apply below_alloc | apply pw_below_drewN | apply below_drew1) | exact HB.out)))); (case side2 => repeat (first | exact (Kd.C_below HR2.out HB.out) | (with_reducible refine Kd.C_alloc ?_ _) | (with_reducible refine Kd.C_drewN ?_ _) | (with_reducible refine Kd.C_drew ?_))); (case side3 => exact HC2.out); rintro e w26 ⟨v707, v710, rfl, ho0, ho1, hb⟩; refine ⟨_, rfl, ?_⟩; have n0_ := Aside0.mk (Kd.R_elder' (by (with_reducible repeat (first | apply Kd.R_alloc | apply Kd.R_drewN | apply Kd.R_drew)); exact HO702.out) (Kd.R_base ho0) hb); have n1_ := Aside0.mk (Kd.R_elder' (by (with_reducible repeat (first | apply Kd.R_alloc | apply Kd.R_drewN | apply Kd.R_drew)); exact HO705.out) (Kd.R_base ho1) hb); have n2_ := Aside0.mk (Kd.R_lower (Kd.R_new' (Kd.R_mono (ok' := fun k_ => True) ho0 (fun _ hk_ => trivial)) (Kd.R_lt (by (with_reducible repeat (first | apply Kd.R_alloc | apply Kd.R_drewN | apply Kd.R_drew)); exact HO702.out))) (below_size (by repeat (first | (with_reducible first | exact HB.out | apply below_alloc | apply pw_below_drewN | apply below_drew1) | exact HB.out)))); have n3_ := Aside0.mk (Kd.R_lower (Kd.R_new' (Kd.R_mono (ok' := fun k_ => True) ho1 (fun _ hk_ => trivial)) (Kd.R_lt (by (with_reducible repeat (first | apply Kd.R_alloc | apply Kd.R_drewN | apply Kd.R_drew)); exact HO705.out))) (below_size (by repeat (first | (with_reducible first | exact HB.out | apply below_alloc | apply pw_below_drewN | apply below_drew1) | exact HB.out)))); have n4_ := Aside0.mk (below_step (by repeat (first | (with_reducible first | exact HB.out | apply below_alloc | apply pw_below_drewN | apply below_drew1) | exact HB.out)) hb); clear HO702; clear HO705; clear HB; have HO702 := n0_; have HO705 := n1_; have HO708 := n2_; have HO711 := n3_; have HB := n4_; clear n0_ n1_ n2_ n3_ n4_; (try clear hb); (try clear hb2); (try clear hk); (try clear hi); (try clear ho0); (try clear ho1); have hE_v710 := errNil_of HO711.out))
        (try simp only [Act.put, List.setIfInBounds_toArray, List.set_cons_zero, List.set_cons_succ])
        go_cut [66] (fun v66 wc => ∃ (kq : Nat) (x66_23 : Bool), v66 = .bool x66_23 ∧ Aside0 (shalelaw15_MergeThree.j1 kq l0 l2 a3 t700 t703 t706 t709 x66_23 = some r) ∧ Aside0 (kq ≤ kj4) ∧ Aside0 (Kd.R k28 28 wc w.heap.size (fun k_ => some k_ ≠ (v707 : Value).ownBlock) v701 t700) ∧ Aside0 (Kd.R kdF 136 wc w.heap.size (fun k_ => some k_ ≠ (v710 : Value).ownBlock) v704 t703) ∧ Aside0 (Kd.R k28 28 wc w.heap.size (fun k_ => some k_ ≠ (v701 : Value).ownBlock) v707 t706) ∧ Aside0 (Kd.R kdF 136 wc w.heap.size (fun k_ => some k_ ≠ (v704 : Value).ownBlock) v710 t709) ∧ Aside0 (Below w.heap.size w wc))
        case first =>
          have H := HC24.out
          clear HC24
          replace H := Option.bind_eq_some_iff.mp H
          obtain ⟨t712, A270, H⟩ := H
          replace H : (if t712 = 0 then ((fail_Code.f t709).bind fun t713 => (shalelaw15_MergeThree.j1 kj4 l0 l2 a3 t700 t703 t706 t709 (t713 != 0))) else (shalelaw15_MergeThree.j1 kj4 l0 l2 a3 t700 t703 t706 t709 true)) = some r := H
          have A27 := Aside0.mk A270
          clear A270
          by_cases c28 : t712 = 0
          · rw [if_pos c28] at H
            have c28b0 : (t712 == 0) = true := beq_iff_eq.mpr c28
            have c28b1 : (t712 != 0) = false := bne_eq_false_iff_eq.mpr c28
            clear c28
            (first | rw [c28b0] | (simp only [i64_w, i32_w]; rw [c28b0]) | skip)
            replace H := Option.bind_eq_some_iff.mp H
            obtain ⟨t713, A290, H⟩ := H
            replace H : (shalelaw15_MergeThree.j1 kj4 l0 l2 a3 t700 t703 t706 t709 (t713 != 0)) = some r := H
            have A29 := Aside0.mk A290
            clear A290
            have H' := Aside0.mk H
            clear H
            obtain ⟨Ao30, co30, eo30⟩ := Kd.R_slice HO705.out
            subst eo30
            go_wp2_with (first | ((with_reducible refine gate_callee (f := 31) rfl ?_); refine goesL_ (some 60) rfl rfl Tryz.func31 (by kernel_rfl) rfl #[(errV (.slice Ao30 t703.length co30))] rfl (by (try simp only [List.map_toArray, List.map_cons, List.map_nil]); first | done | rfl | (simp only [List.length_drop, List.length_take]; rfl)) ?_; (with_reducible refine (fail_Code.calls _ _ t703 t712 _ ?side1 ?side2 ?side3 A27.out).mono ?_); (case side1 => repeat (first | exact (Kd.R_reads' HO705.out).2.2 | (with_reducible refine Kd.C_alloc ?_ _) | (with_reducible refine Kd.C_drewN ?_ _) | (with_reducible refine Kd.C_drew ?_))); (case side2 => exact (Kd.R_reads' HO705.out).2.1); (case side3 => exact Gl.below HG_.out (by repeat (first | (with_reducible first | exact HB.out | apply below_alloc | apply pw_below_drewN | apply below_drew1) | exact HB.out))); rintro e w31 ⟨rfl, hb⟩; refine ⟨_, rfl, ?_⟩; have n0_ := Aside0.mk (Kd.R_below (by (with_reducible repeat (first | apply Kd.R_alloc | apply Kd.R_drewN | apply Kd.R_drew)); exact HO702.out) hb); have n1_ := Aside0.mk (Kd.R_below (by (with_reducible repeat (first | apply Kd.R_alloc | apply Kd.R_drewN | apply Kd.R_drew)); exact HO705.out) hb); have n2_ := Aside0.mk (Kd.R_below (by (with_reducible repeat (first | apply Kd.R_alloc | apply Kd.R_drewN | apply Kd.R_drew)); exact HO708.out) hb); have n3_ := Aside0.mk (Kd.R_below (by (with_reducible repeat (first | apply Kd.R_alloc | apply Kd.R_drewN | apply Kd.R_drew)); exact HO711.out) hb); have n4_ := Aside0.mk (below_step (by repeat (first | (with_reducible first | exact HB.out | apply below_alloc | apply pw_below_drewN | apply below_drew1) | exact HB.out)) hb); clear HO702; clear HO705; clear HO708; clear HO711; clear HB; have HO702 := n0_; have HO705 := n1_; have HO708 := n2_; have HO711 := n3_; have HB := n4_; clear n0_ n1_ n2_ n3_ n4_; (try clear hb); (try clear hb2); (try clear hk); (try clear hi); obtain ⟨Ao32, co32, eo32⟩ := Kd.R_slice HO711.out; subst eo32) | (go_at_call 31; (with_reducible refine (fail_Code.calls _ _ t709 t713 _ ?side1 ?side2 ?side3 A29.out).mono ?_); (case side1 => repeat (first | exact (Kd.R_reads' HO711.out).2.2 | (with_reducible refine Kd.C_alloc ?_ _) | (with_reducible refine Kd.C_drewN ?_ _) | (with_reducible refine Kd.C_drew ?_))); (case side2 => exact (Kd.R_reads' HO711.out).2.1); (case side3 => exact Gl.below HG_.out (by repeat (first | (with_reducible first | exact HB.out | apply below_alloc | apply pw_below_drewN | apply below_drew1) | exact HB.out))); rintro e w33 ⟨rfl, hb⟩; have n0_ := Aside0.mk (Kd.R_below (by (with_reducible repeat (first | apply Kd.R_alloc | apply Kd.R_drewN | apply Kd.R_drew)); exact HO702.out) hb); have n1_ := Aside0.mk (Kd.R_below (by (with_reducible repeat (first | apply Kd.R_alloc | apply Kd.R_drewN | apply Kd.R_drew)); exact HO705.out) hb); have n2_ := Aside0.mk (Kd.R_below (by (with_reducible repeat (first | apply Kd.R_alloc | apply Kd.R_drewN | apply Kd.R_drew)); exact HO708.out) hb); have n3_ := Aside0.mk (Kd.R_below (by (with_reducible repeat (first | apply Kd.R_alloc | apply Kd.R_drewN | apply Kd.R_drew)); exact HO711.out) hb); have n4_ := Aside0.mk (below_step (by repeat (first | (with_reducible first | exact HB.out | apply below_alloc | apply pw_below_drewN | apply below_drew1) | exact HB.out)) hb); clear HO702; clear HO705; clear HO708; clear HO711; clear HB; have HO702 := n0_; have HO705 := n1_; have HO708 := n2_; have HO711 := n3_; have HB := n4_; clear n0_ n1_ n2_ n3_ n4_; (try clear hb); (try clear hb2); (try clear hk); (try clear hi)))
            go_meet
            case rel => exact ⟨_, ((t713 != 0)), (by first | rfl | (simp; done) | (simp [*]; done)), H', ⟨by have := HJ4.out; first | omega | exact Nat.le_refl _⟩, ⟨by (with_reducible repeat (first | apply Kd.R_alloc | apply Kd.R_drewN | apply Kd.R_drew)); exact Kd.R_mono HO702.out (fun _ hk => hk.2)⟩, ⟨by (with_reducible repeat (first | apply Kd.R_alloc | apply Kd.R_drewN | apply Kd.R_drew)); exact Kd.R_mono HO705.out (fun _ hk => hk.2)⟩, ⟨by (with_reducible repeat (first | apply Kd.R_alloc | apply Kd.R_drewN | apply Kd.R_drew)); exact Kd.R_mono HO708.out (fun _ hk => hk.2)⟩, ⟨by (with_reducible repeat (first | apply Kd.R_alloc | apply Kd.R_drewN | apply Kd.R_drew)); exact Kd.R_mono HO711.out (fun _ hk => hk.2)⟩, ⟨by repeat (first | (with_reducible first | exact HB.out | apply below_alloc | apply pw_below_drewN | apply below_drew1) | exact HB.out)⟩⟩
          · rw [if_neg c28] at H
            have c28b0 : (t712 == 0) = false := beq_eq_false_iff_ne.mpr c28
            have c28b1 : (t712 != 0) = true := bne_iff_ne.mpr c28
            (first | rw [c28b0] | (simp only [i64_w, i32_w]; rw [c28b0]) | skip)
            have H' := Aside0.mk H
            clear H
            obtain ⟨Ao34, co34, eo34⟩ := Kd.R_slice HO705.out
            subst eo34
            go_wp2_with (first | ((with_reducible refine gate_callee (f := 31) rfl ?_); refine goesL_ (some 60) rfl rfl Tryz.func31 (by kernel_rfl) rfl #[(errV (.slice Ao34 t703.length co34))] rfl (by (try simp only [List.map_toArray, List.map_cons, List.map_nil]); first | done | rfl | (simp only [List.length_drop, List.length_take]; rfl)) ?_; (with_reducible refine (fail_Code.calls _ _ t703 t712 _ ?side1 ?side2 ?side3 A27.out).mono ?_); (case side1 => repeat (first | exact (Kd.R_reads' HO705.out).2.2 | (with_reducible refine Kd.C_alloc ?_ _) | (with_reducible refine Kd.C_drewN ?_ _) | (with_reducible refine Kd.C_drew ?_))); (case side2 => exact (Kd.R_reads' HO705.out).2.1); (case side3 => exact Gl.below HG_.out (by repeat (first | (with_reducible first | exact HB.out | apply below_alloc | apply pw_below_drewN | apply below_drew1) | exact HB.out))); rintro e w35 ⟨rfl, hb⟩; refine ⟨_, rfl, ?_⟩; have n0_ := Aside0.mk (Kd.R_below (by (with_reducible repeat (first | apply Kd.R_alloc | apply Kd.R_drewN | apply Kd.R_drew)); exact HO702.out) hb); have n1_ := Aside0.mk (Kd.R_below (by (with_reducible repeat (first | apply Kd.R_alloc | apply Kd.R_drewN | apply Kd.R_drew)); exact HO705.out) hb); have n2_ := Aside0.mk (Kd.R_below (by (with_reducible repeat (first | apply Kd.R_alloc | apply Kd.R_drewN | apply Kd.R_drew)); exact HO708.out) hb); have n3_ := Aside0.mk (Kd.R_below (by (with_reducible repeat (first | apply Kd.R_alloc | apply Kd.R_drewN | apply Kd.R_drew)); exact HO711.out) hb); have n4_ := Aside0.mk (below_step (by repeat (first | (with_reducible first | exact HB.out | apply below_alloc | apply pw_below_drewN | apply below_drew1) | exact HB.out)) hb); clear HO702; clear HO705; clear HO708; clear HO711; clear HB; have HO702 := n0_; have HO705 := n1_; have HO708 := n2_; have HO711 := n3_; have HB := n4_; clear n0_ n1_ n2_ n3_ n4_; (try clear hb); (try clear hb2); (try clear hk); (try clear hi)))
            go_meet
            case rel => exact ⟨_, (true), (by first | rfl | (simp; done) | (simp [*]; done)), H', ⟨by have := HJ4.out; first | omega | exact Nat.le_refl _⟩, ⟨by (with_reducible repeat (first | apply Kd.R_alloc | apply Kd.R_drewN | apply Kd.R_drew)); exact Kd.R_mono HO702.out (fun _ hk => hk.2)⟩, ⟨by (with_reducible repeat (first | apply Kd.R_alloc | apply Kd.R_drewN | apply Kd.R_drew)); exact Kd.R_mono HO705.out (fun _ hk => hk.2)⟩, ⟨by (with_reducible repeat (first | apply Kd.R_alloc | apply Kd.R_drewN | apply Kd.R_drew)); exact Kd.R_mono HO708.out (fun _ hk => hk.2)⟩, ⟨by (with_reducible repeat (first | apply Kd.R_alloc | apply Kd.R_drewN | apply Kd.R_drew)); exact Kd.R_mono HO711.out (fun _ hk => hk.2)⟩, ⟨by repeat (first | (with_reducible first | exact HB.out | apply below_alloc | apply pw_below_drewN | apply below_drew1) | exact HB.out)⟩⟩
        case rest =>
          clear HC24
          try clear c1
          try clear c2
          try clear p2
          try clear c3
          try clear c4
          try clear c5
          try clear p6
          try clear c7
          try clear c9
          try clear c9b0
          try clear c9b1
          try clear c12
          try clear c12b0
          try clear c12b1
          try clear c15
          try clear c15b0
          try clear c15b1
          try clear c18
          try clear c19
          try clear c28
          try clear c28b0
          try clear c28b1
          try clear c31
          try clear p2
          try clear p6
          obtain ⟨kq, x66_23, rfl, HA, HJ23, HO_9, HO_10, HO_11, HO_12, HB⟩ := hcut
          cases kq with
          | zero => exact absurd HA.out (by simp [shalelaw15_MergeThree.j1])
          | succ kj23 =>
            have H := HA.out
            clear HA
            simp only [shalelaw15_MergeThree.j1] at H
            by_cases c36 : x66_23 = true
            · subst c36
              have H1 : ((fail_Code.f t703).bind fun t714 => (if t714 = 16 then (some true) else ((fail_Code.f t709).bind fun t715 => (some (t715 == 16))))) = some r := by rw [if_pos rfl] at H; exact H
              clear H
              have H := H1
              clear H1
              replace H := Option.bind_eq_some_iff.mp H
              obtain ⟨t714, A370, H⟩ := H
              replace H : (if t714 = 16 then (some true) else ((fail_Code.f t709).bind fun t715 => (some (t715 == 16)))) = some r := H
              have A37 := Aside0.mk A370
              clear A370
              by_cases c38 : t714 = 16
              · rw [if_pos c38] at H
                have c38b0 : (t714 == 16) = true := beq_iff_eq.mpr c38
                have c38b1 : (t714 != 16) = false := bne_eq_false_iff_eq.mpr c38
                clear c38
                obtain rfl := Option.some.inj H
                obtain ⟨Ao39, co39, eo39⟩ := Kd.R_slice HO_10.out
                subst eo39
                go_wp2_with (first | ((with_reducible refine gate_callee (f := 31) rfl ?_); refine goesL_ (some 68) rfl rfl Tryz.func31 (by kernel_rfl) rfl #[(errV (.slice Ao39 t703.length co39))] rfl (by (try simp only [List.map_toArray, List.map_cons, List.map_nil]); first | done | rfl | (simp only [List.length_drop, List.length_take]; rfl)) ?_; (with_reducible refine (fail_Code.calls _ _ t703 t714 _ ?side1 ?side2 ?side3 A37.out).mono ?_); (case side1 => repeat (first | exact (Kd.R_reads' HO_10.out).2.2 | (with_reducible refine Kd.C_alloc ?_ _) | (with_reducible refine Kd.C_drewN ?_ _) | (with_reducible refine Kd.C_drew ?_))); (case side2 => exact (Kd.R_reads' HO_10.out).2.1); (case side3 => exact Gl.below HG_.out (by repeat (first | (with_reducible first | exact HB.out | apply below_alloc | apply pw_below_drewN | apply below_drew1) | exact HB.out))); rintro e w40 ⟨rfl, hb⟩; refine ⟨_, rfl, ?_⟩; have n0_ := Aside0.mk (Kd.R_below (by (with_reducible repeat (first | apply Kd.R_alloc | apply Kd.R_drewN | apply Kd.R_drew)); exact HO_9.out) hb); have n1_ := Aside0.mk (Kd.R_below (by (with_reducible repeat (first | apply Kd.R_alloc | apply Kd.R_drewN | apply Kd.R_drew)); exact HO_10.out) hb); have n2_ := Aside0.mk (Kd.R_below (by (with_reducible repeat (first | apply Kd.R_alloc | apply Kd.R_drewN | apply Kd.R_drew)); exact HO_11.out) hb); have n3_ := Aside0.mk (Kd.R_below (by (with_reducible repeat (first | apply Kd.R_alloc | apply Kd.R_drewN | apply Kd.R_drew)); exact HO_12.out) hb); have n4_ := Aside0.mk (below_step (by repeat (first | (with_reducible first | exact HB.out | apply below_alloc | apply pw_below_drewN | apply below_drew1) | exact HB.out)) hb); clear HO_9; clear HO_10; clear HO_11; clear HO_12; clear HB; have HO_9 := n0_; have HO_10 := n1_; have HO_11 := n2_; have HO_12 := n3_; have HB := n4_; clear n0_ n1_ n2_ n3_ n4_; (try clear hb); (try clear hb2); (try clear hk); (try clear hi)))
                go_ret
                exact ⟨by first | rfl | (simp [errW_none, errW_some] <;> rfl) | (simp [*, errW_none, errW_some] <;> rfl), by repeat (first | (with_reducible first | exact HB.out | apply below_alloc | apply pw_below_drewN | apply below_drew1) | exact HB.out)⟩
              · rw [if_neg c38] at H
                have c38b0 : (t714 == 16) = false := beq_eq_false_iff_ne.mpr c38
                have c38b1 : (t714 != 16) = true := bne_iff_ne.mpr c38
                replace H := Option.bind_eq_some_iff.mp H
                obtain ⟨t715, A410, H⟩ := H
                replace H : (some (t715 == 16)) = some r := H
                have A41 := Aside0.mk A410
                clear A410
                obtain rfl := Option.some.inj H
                obtain ⟨Ao42, co42, eo42⟩ := Kd.R_slice HO_10.out
                subst eo42
                go_wp2_with (first | ((with_reducible refine gate_callee (f := 31) rfl ?_); refine goesL_ (some 68) rfl rfl Tryz.func31 (by kernel_rfl) rfl #[(errV (.slice Ao42 t703.length co42))] rfl (by (try simp only [List.map_toArray, List.map_cons, List.map_nil]); first | done | rfl | (simp only [List.length_drop, List.length_take]; rfl)) ?_; (with_reducible refine (fail_Code.calls _ _ t703 t714 _ ?side1 ?side2 ?side3 A37.out).mono ?_); (case side1 => repeat (first | exact (Kd.R_reads' HO_10.out).2.2 | (with_reducible refine Kd.C_alloc ?_ _) | (with_reducible refine Kd.C_drewN ?_ _) | (with_reducible refine Kd.C_drew ?_))); (case side2 => exact (Kd.R_reads' HO_10.out).2.1); (case side3 => exact Gl.below HG_.out (by repeat (first | (with_reducible first | exact HB.out | apply below_alloc | apply pw_below_drewN | apply below_drew1) | exact HB.out))); rintro e w43 ⟨rfl, hb⟩; refine ⟨_, rfl, ?_⟩; have n0_ := Aside0.mk (Kd.R_below (by (with_reducible repeat (first | apply Kd.R_alloc | apply Kd.R_drewN | apply Kd.R_drew)); exact HO_9.out) hb); have n1_ := Aside0.mk (Kd.R_below (by (with_reducible repeat (first | apply Kd.R_alloc | apply Kd.R_drewN | apply Kd.R_drew)); exact HO_10.out) hb); have n2_ := Aside0.mk (Kd.R_below (by (with_reducible repeat (first | apply Kd.R_alloc | apply Kd.R_drewN | apply Kd.R_drew)); exact HO_11.out) hb); have n3_ := Aside0.mk (Kd.R_below (by (with_reducible repeat (first | apply Kd.R_alloc | apply Kd.R_drewN | apply Kd.R_drew)); exact HO_12.out) hb); have n4_ := Aside0.mk (below_step (by repeat (first | (with_reducible first | exact HB.out | apply below_alloc | apply pw_below_drewN | apply below_drew1) | exact HB.out)) hb); clear HO_9; clear HO_10; clear HO_11; clear HO_12; clear HB; have HO_9 := n0_; have HO_10 := n1_; have HO_11 := n2_; have HO_12 := n3_; have HB := n4_; clear n0_ n1_ n2_ n3_ n4_; (try clear hb); (try clear hb2); (try clear hk); (try clear hi); obtain ⟨Ao44, co44, eo44⟩ := Kd.R_slice HO_12.out; subst eo44) | (go_at_call 31; (with_reducible refine (fail_Code.calls _ _ t709 t715 _ ?side1 ?side2 ?side3 A41.out).mono ?_); (case side1 => repeat (first | exact (Kd.R_reads' HO_12.out).2.2 | (with_reducible refine Kd.C_alloc ?_ _) | (with_reducible refine Kd.C_drewN ?_ _) | (with_reducible refine Kd.C_drew ?_))); (case side2 => exact (Kd.R_reads' HO_12.out).2.1); (case side3 => exact Gl.below HG_.out (by repeat (first | (with_reducible first | exact HB.out | apply below_alloc | apply pw_below_drewN | apply below_drew1) | exact HB.out))); rintro e w45 ⟨rfl, hb⟩; have n0_ := Aside0.mk (Kd.R_below (by (with_reducible repeat (first | apply Kd.R_alloc | apply Kd.R_drewN | apply Kd.R_drew)); exact HO_9.out) hb); have n1_ := Aside0.mk (Kd.R_below (by (with_reducible repeat (first | apply Kd.R_alloc | apply Kd.R_drewN | apply Kd.R_drew)); exact HO_10.out) hb); have n2_ := Aside0.mk (Kd.R_below (by (with_reducible repeat (first | apply Kd.R_alloc | apply Kd.R_drewN | apply Kd.R_drew)); exact HO_11.out) hb); have n3_ := Aside0.mk (Kd.R_below (by (with_reducible repeat (first | apply Kd.R_alloc | apply Kd.R_drewN | apply Kd.R_drew)); exact HO_12.out) hb); have n4_ := Aside0.mk (below_step (by repeat (first | (with_reducible first | exact HB.out | apply below_alloc | apply pw_below_drewN | apply below_drew1) | exact HB.out)) hb); clear HO_9; clear HO_10; clear HO_11; clear HO_12; clear HB; have HO_9 := n0_; have HO_10 := n1_; have HO_11 := n2_; have HO_12 := n3_; have HB := n4_; clear n0_ n1_ n2_ n3_ n4_; (try clear hb); (try clear hb2); (try clear hk); (try clear hi)))
                go_ret
                exact ⟨by first | rfl | (simp [errW_none, errW_some] <;> rfl) | (simp [*, errW_none, errW_some] <;> rfl), by repeat (first | (with_reducible first | exact HB.out | apply below_alloc | apply pw_below_drewN | apply below_drew1) | exact HB.out)⟩
            · replace c36 := Bool.eq_false_iff.mpr c36
              subst c36
              have H1 : ((merge_Two.f kj23 t700 l2 a3).bind fun bt716 => ((merge_Two.f kj23 l0 t706 a3).bind fun bt722 => ((fail_Code.f bt716.2).bind fun t728 => (if t728 = 0 then ((fail_Code.f bt722.2).bind fun t729 => (shalelaw15_MergeThree.j2 kj23 a3 bt716.1 bt716.2 bt722.1 bt722.2 (t729 != 0))) else (shalelaw15_MergeThree.j2 kj23 a3 bt716.1 bt716.2 bt722.1 bt722.2 true))))) = some r := by rw [if_neg (show ¬ (false = true) by decide)] at H; exact H
              clear H
              have H := H1
              clear H1
              replace H := Option.bind_eq_some_iff.mp H
              obtain ⟨⟨t716, t719⟩, A460, H⟩ := H
              replace H : ((merge_Two.f kj23 l0 t706 a3).bind fun bt722 => ((fail_Code.f t719).bind fun t728 => (if t728 = 0 then ((fail_Code.f bt722.2).bind fun t729 => (shalelaw15_MergeThree.j2 kj23 a3 t716 t719 bt722.1 bt722.2 (t729 != 0))) else (shalelaw15_MergeThree.j2 kj23 a3 t716 t719 bt722.1 bt722.2 true)))) = some r := H
              have A46 := Aside0.mk A460
              clear A460
              replace H := Option.bind_eq_some_iff.mp H
              obtain ⟨⟨t722, t725⟩, A470, H⟩ := H
              replace H : ((fail_Code.f t719).bind fun t728 => (if t728 = 0 then ((fail_Code.f t725).bind fun t729 => (shalelaw15_MergeThree.j2 kj23 a3 t716 t719 t722 t725 (t729 != 0))) else (shalelaw15_MergeThree.j2 kj23 a3 t716 t719 t722 t725 true))) = some r := H
              have A47 := Aside0.mk A470
              clear A470
              have HC48 := Aside0.mk H
              clear H
              obtain ⟨Ao49, co49, eo49⟩ := Kd.R_slice HO_9.out
              subst eo49
              go_upto_region 9 with (first | ((with_reducible refine gate_callee (f := 50) rfl ?_); refine goesL_ (some 79) rfl rfl Tryz.func50 (by kernel_rfl) rfl #[.slice Ao49 t700.length co49, .slice A2 l2.length c2, .bool a3] rfl (by (try simp only [List.map_toArray, List.map_cons, List.map_nil]); first | done | rfl | (simp only [List.length_drop, List.length_take]; rfl)) ?_; (with_reducible refine (merge_Two.calls kj23 (fun k_ => some k_ = (.slice Ao49 t700.length co49 : Value).ownBlock) _ _ t700 _ _ l2 a3 t716 t719 _ ?side1 ?side2 ?side3 A46.out).mono ?_); (case side1 => exact Kd.R_V (Kd.R_tight rfl (Kd.R_apart' (Kd.R_apart' (HO_9.out) (Kd.R_typed HO_10.out) (by decide)) (Kd.R_typed HO_12.out) (by decide)))); (case side2 => repeat (first | exact (Kd.C_below HR2.out HB.out) | (with_reducible refine Kd.C_alloc ?_ _) | (with_reducible refine Kd.C_drewN ?_ _) | (with_reducible refine Kd.C_drew ?_))); (case side3 => exact HC2.out); rintro e w50 ⟨v717, v720, rfl, ho0, ho1, hb⟩; refine ⟨_, rfl, ?_⟩; have n0_ := Aside0.mk (Kd.R_elder' (by (with_reducible repeat (first | apply Kd.R_alloc | apply Kd.R_drewN | apply Kd.R_drew)); exact HO_9.out) (Kd.R_base ho0) hb); have n1_ := Aside0.mk (Kd.R_elder' (by (with_reducible repeat (first | apply Kd.R_alloc | apply Kd.R_drewN | apply Kd.R_drew)); exact HO_10.out) (Kd.R_base ho1) hb); have n2_ := Aside0.mk (Kd.R_elder' (by (with_reducible repeat (first | apply Kd.R_alloc | apply Kd.R_drewN | apply Kd.R_drew)); exact HO_11.out) (Kd.R_base ho0) hb); have n3_ := Aside0.mk (Kd.R_elder' (by (with_reducible repeat (first | apply Kd.R_alloc | apply Kd.R_drewN | apply Kd.R_drew)); exact HO_12.out) (Kd.R_base ho1) hb); have n4_ := Aside0.mk (Kd.R_lower (Kd.R_new' (Kd.R_new' (Kd.R_mono (ok' := fun k_ => True) ho0 (fun _ hk_ => trivial)) (Kd.R_lt (by (with_reducible repeat (first | apply Kd.R_alloc | apply Kd.R_drewN | apply Kd.R_drew)); exact HO_9.out))) (Kd.R_lt (by (with_reducible repeat (first | apply Kd.R_alloc | apply Kd.R_drewN | apply Kd.R_drew)); exact HO_11.out))) (below_size (by repeat (first | (with_reducible first | exact HB.out | apply below_alloc | apply pw_below_drewN | apply below_drew1) | exact HB.out)))); have n5_ := Aside0.mk (Kd.R_lower (Kd.R_new' (Kd.R_new' (Kd.R_mono (ok' := fun k_ => True) ho1 (fun _ hk_ => trivial)) (Kd.R_lt (by (with_reducible repeat (first | apply Kd.R_alloc | apply Kd.R_drewN | apply Kd.R_drew)); exact HO_10.out))) (Kd.R_lt (by (with_reducible repeat (first | apply Kd.R_alloc | apply Kd.R_drewN | apply Kd.R_drew)); exact HO_12.out))) (below_size (by repeat (first | (with_reducible first | exact HB.out | apply below_alloc | apply pw_below_drewN | apply below_drew1) | exact HB.out)))); have n6_ := Aside0.mk (below_step (by repeat (first | (with_reducible first | exact HB.out | apply below_alloc | apply pw_below_drewN | apply below_drew1) | exact HB.out)) hb); clear HO_9; clear HO_10; clear HO_11; clear HO_12; clear HB; have HO_9 := n0_; have HO_10 := n1_; have HO_11 := n2_; have HO_12 := n3_; have HO718 := n4_; have HO721 := n5_; have HB := n6_; clear n0_ n1_ n2_ n3_ n4_ n5_ n6_; (try clear hb); (try clear hb2); (try clear hk); (try clear hi); (try clear ho0); (try clear ho1); have hE_v720 := errNil_of HO721.out; obtain ⟨Ao51, co51, eo51⟩ := Kd.R_slice HO_11.out; subst eo51) | ((with_reducible refine gate_callee (f := 50) rfl ?_); refine goesL_ (some 86) rfl rfl Tryz.func50 (by kernel_rfl) rfl #[.slice A0 l0.length c0, .slice Ao51 t706.length co51, .bool a3] rfl (by (try simp only [List.map_toArray, List.map_cons, List.map_nil]); first | done | rfl | (simp only [List.length_drop, List.length_take]; rfl)) ?_; (with_reducible refine (merge_Two.calls kj23 (fun k_ => k_ < w.heap.size) _ _ l0 _ _ t706 a3 t722 t725 _ ?side1 ?side2 ?side3 A47.out).mono ?_); (case side1 => exact Kd.V_mk HC0.out (Kd.F_below (Kd.C_F k28_heap HR0.out) (by repeat (first | (with_reducible first | exact HB.out | apply below_alloc | apply pw_below_drewN | apply below_drew1) | exact HB.out)))); (case side2 => repeat (first | exact (Kd.R_reads' HO_11.out).2.2 | (with_reducible refine Kd.C_alloc ?_ _) | (with_reducible refine Kd.C_drewN ?_ _) | (with_reducible refine Kd.C_drew ?_))); (case side3 => exact (Kd.R_reads' HO_11.out).2.1); rintro e w52 ⟨v723, v726, rfl, ho0, ho1, hb⟩; refine ⟨_, rfl, ?_⟩; have n0_ := Aside0.mk (Kd.R_elder' (by (with_reducible repeat (first | apply Kd.R_alloc | apply Kd.R_drewN | apply Kd.R_drew)); exact HO_9.out) (Kd.R_base ho0) hb); have n1_ := Aside0.mk (Kd.R_elder' (by (with_reducible repeat (first | apply Kd.R_alloc | apply Kd.R_drewN | apply Kd.R_drew)); exact HO_10.out) (Kd.R_base ho1) hb); have n2_ := Aside0.mk (Kd.R_elder' (by (with_reducible repeat (first | apply Kd.R_alloc | apply Kd.R_drewN | apply Kd.R_drew)); exact HO_11.out) (Kd.R_base ho0) hb); have n3_ := Aside0.mk (Kd.R_elder' (by (with_reducible repeat (first | apply Kd.R_alloc | apply Kd.R_drewN | apply Kd.R_drew)); exact HO_12.out) (Kd.R_base ho1) hb); have n4_ := Aside0.mk (Kd.R_elder' (by (with_reducible repeat (first | apply Kd.R_alloc | apply Kd.R_drewN | apply Kd.R_drew)); exact HO718.out) (Kd.R_base ho0) hb); have n5_ := Aside0.mk (Kd.R_elder' (by (with_reducible repeat (first | apply Kd.R_alloc | apply Kd.R_drewN | apply Kd.R_drew)); exact HO721.out) (Kd.R_base ho1) hb); have n6_ := Aside0.mk (Kd.R_lower (Kd.R_new' (Kd.R_new' (Kd.R_new' (Kd.R_mono (ok' := fun k_ => True) ho0 (fun _ hk_ => trivial)) (Kd.R_lt (by (with_reducible repeat (first | apply Kd.R_alloc | apply Kd.R_drewN | apply Kd.R_drew)); exact HO_9.out))) (Kd.R_lt (by (with_reducible repeat (first | apply Kd.R_alloc | apply Kd.R_drewN | apply Kd.R_drew)); exact HO_11.out))) (Kd.R_lt (by (with_reducible repeat (first | apply Kd.R_alloc | apply Kd.R_drewN | apply Kd.R_drew)); exact HO718.out))) (below_size (by repeat (first | (with_reducible first | exact HB.out | apply below_alloc | apply pw_below_drewN | apply below_drew1) | exact HB.out)))); have n7_ := Aside0.mk (Kd.R_lower (Kd.R_new' (Kd.R_new' (Kd.R_new' (Kd.R_mono (ok' := fun k_ => True) ho1 (fun _ hk_ => trivial)) (Kd.R_lt (by (with_reducible repeat (first | apply Kd.R_alloc | apply Kd.R_drewN | apply Kd.R_drew)); exact HO_10.out))) (Kd.R_lt (by (with_reducible repeat (first | apply Kd.R_alloc | apply Kd.R_drewN | apply Kd.R_drew)); exact HO_12.out))) (Kd.R_lt (by (with_reducible repeat (first | apply Kd.R_alloc | apply Kd.R_drewN | apply Kd.R_drew)); exact HO721.out))) (below_size (by repeat (first | (with_reducible first | exact HB.out | apply below_alloc | apply pw_below_drewN | apply below_drew1) | exact HB.out)))); have n8_ := Aside0.mk (below_step (by repeat (first | (with_reducible first | exact HB.out | apply below_alloc | apply pw_below_drewN | apply below_drew1) | exact HB.out)) hb); clear HO_9; clear HO_10; clear HO_11; clear HO_12; clear HO718; clear HO721; clear HB; have HO_9 := n0_; have HO_10 := n1_; have HO_11 := n2_; have HO_12 := n3_; have HO718 := n4_; have HO721 := n5_; have HO724 := n6_; have HO727 := n7_; have HB := n8_; clear n0_ n1_ n2_ n3_ n4_ n5_ n6_ n7_ n8_; (try clear hb); (try clear hb2); (try clear hk); (try clear hi); (try clear ho0); (try clear ho1); have hE_v726 := errNil_of HO727.out))
              (try simp only [Act.put, List.setIfInBounds_toArray, List.set_cons_zero, List.set_cons_succ])
              go_cut [96] (fun v96 wc => ∃ (kq : Nat) (x96_47 : Bool), v96 = .bool x96_47 ∧ Aside0 (shalelaw15_MergeThree.j2 kq a3 t716 t719 t722 t725 x96_47 = some r) ∧ Aside0 (kq ≤ kj23) ∧ Aside0 (Kd.R k28 28 wc w.heap.size (fun k_ => some k_ ≠ (v723 : Value).ownBlock) v717 t716) ∧ Aside0 (Kd.R kdF 136 wc w.heap.size (fun k_ => some k_ ≠ (v726 : Value).ownBlock) v720 t719) ∧ Aside0 (Kd.R k28 28 wc w.heap.size (fun k_ => some k_ ≠ (v717 : Value).ownBlock) v723 t722) ∧ Aside0 (Kd.R kdF 136 wc w.heap.size (fun k_ => some k_ ≠ (v720 : Value).ownBlock) v726 t725) ∧ Aside0 (Below w.heap.size w wc))
              case first =>
                have H := HC48.out
                clear HC48
                replace H := Option.bind_eq_some_iff.mp H
                obtain ⟨t728, A530, H⟩ := H
                replace H : (if t728 = 0 then ((fail_Code.f t725).bind fun t729 => (shalelaw15_MergeThree.j2 kj23 a3 t716 t719 t722 t725 (t729 != 0))) else (shalelaw15_MergeThree.j2 kj23 a3 t716 t719 t722 t725 true)) = some r := H
                have A53 := Aside0.mk A530
                clear A530
                by_cases c54 : t728 = 0
                · rw [if_pos c54] at H
                  have c54b0 : (t728 == 0) = true := beq_iff_eq.mpr c54
                  have c54b1 : (t728 != 0) = false := bne_eq_false_iff_eq.mpr c54
                  clear c54
                  (first | rw [c54b0] | (simp only [i64_w, i32_w]; rw [c54b0]) | skip)
                  replace H := Option.bind_eq_some_iff.mp H
                  obtain ⟨t729, A550, H⟩ := H
                  replace H : (shalelaw15_MergeThree.j2 kj23 a3 t716 t719 t722 t725 (t729 != 0)) = some r := H
                  have A55 := Aside0.mk A550
                  clear A550
                  have H' := Aside0.mk H
                  clear H
                  obtain ⟨Ao56, co56, eo56⟩ := Kd.R_slice HO721.out
                  subst eo56
                  go_wp2_with (first | ((with_reducible refine gate_callee (f := 31) rfl ?_); refine goesL_ (some 90) rfl rfl Tryz.func31 (by kernel_rfl) rfl #[(errV (.slice Ao56 t719.length co56))] rfl (by (try simp only [List.map_toArray, List.map_cons, List.map_nil]); first | done | rfl | (simp only [List.length_drop, List.length_take]; rfl)) ?_; (with_reducible refine (fail_Code.calls _ _ t719 t728 _ ?side1 ?side2 ?side3 A53.out).mono ?_); (case side1 => repeat (first | exact (Kd.R_reads' HO721.out).2.2 | (with_reducible refine Kd.C_alloc ?_ _) | (with_reducible refine Kd.C_drewN ?_ _) | (with_reducible refine Kd.C_drew ?_))); (case side2 => exact (Kd.R_reads' HO721.out).2.1); (case side3 => exact Gl.below HG_.out (by repeat (first | (with_reducible first | exact HB.out | apply below_alloc | apply pw_below_drewN | apply below_drew1) | exact HB.out))); rintro e w57 ⟨rfl, hb⟩; refine ⟨_, rfl, ?_⟩; have n0_ := Aside0.mk (Kd.R_below (by (with_reducible repeat (first | apply Kd.R_alloc | apply Kd.R_drewN | apply Kd.R_drew)); exact HO_9.out) hb); have n1_ := Aside0.mk (Kd.R_below (by (with_reducible repeat (first | apply Kd.R_alloc | apply Kd.R_drewN | apply Kd.R_drew)); exact HO_10.out) hb); have n2_ := Aside0.mk (Kd.R_below (by (with_reducible repeat (first | apply Kd.R_alloc | apply Kd.R_drewN | apply Kd.R_drew)); exact HO_11.out) hb); have n3_ := Aside0.mk (Kd.R_below (by (with_reducible repeat (first | apply Kd.R_alloc | apply Kd.R_drewN | apply Kd.R_drew)); exact HO_12.out) hb); have n4_ := Aside0.mk (Kd.R_below (by (with_reducible repeat (first | apply Kd.R_alloc | apply Kd.R_drewN | apply Kd.R_drew)); exact HO718.out) hb); have n5_ := Aside0.mk (Kd.R_below (by (with_reducible repeat (first | apply Kd.R_alloc | apply Kd.R_drewN | apply Kd.R_drew)); exact HO721.out) hb); have n6_ := Aside0.mk (Kd.R_below (by (with_reducible repeat (first | apply Kd.R_alloc | apply Kd.R_drewN | apply Kd.R_drew)); exact HO724.out) hb); have n7_ := Aside0.mk (Kd.R_below (by (with_reducible repeat (first | apply Kd.R_alloc | apply Kd.R_drewN | apply Kd.R_drew)); exact HO727.out) hb); have n8_ := Aside0.mk (below_step (by repeat (first | (with_reducible first | exact HB.out | apply below_alloc | apply pw_below_drewN | apply below_drew1) | exact HB.out)) hb); clear HO_9; clear HO_10; clear HO_11; clear HO_12; clear HO718; clear HO721; clear HO724; clear HO727; clear HB; have HO_9 := n0_; have HO_10 := n1_; have HO_11 := n2_; have HO_12 := n3_; have HO718 := n4_; have HO721 := n5_; have HO724 := n6_; have HO727 := n7_; have HB := n8_; clear n0_ n1_ n2_ n3_ n4_ n5_ n6_ n7_ n8_; (try clear hb); (try clear hb2); (try clear hk); (try clear hi); obtain ⟨Ao58, co58, eo58⟩ := Kd.R_slice HO727.out; subst eo58) | (go_at_call 31; (with_reducible refine (fail_Code.calls _ _ t725 t729 _ ?side1 ?side2 ?side3 A55.out).mono ?_); (case side1 => repeat (first | exact (Kd.R_reads' HO727.out).2.2 | (with_reducible refine Kd.C_alloc ?_ _) | (with_reducible refine Kd.C_drewN ?_ _) | (with_reducible refine Kd.C_drew ?_))); (case side2 => exact (Kd.R_reads' HO727.out).2.1); (case side3 => exact Gl.below HG_.out (by repeat (first | (with_reducible first | exact HB.out | apply below_alloc | apply pw_below_drewN | apply below_drew1) | exact HB.out))); rintro e w59 ⟨rfl, hb⟩; have n0_ := Aside0.mk (Kd.R_below (by (with_reducible repeat (first | apply Kd.R_alloc | apply Kd.R_drewN | apply Kd.R_drew)); exact HO_9.out) hb); have n1_ := Aside0.mk (Kd.R_below (by (with_reducible repeat (first | apply Kd.R_alloc | apply Kd.R_drewN | apply Kd.R_drew)); exact HO_10.out) hb); have n2_ := Aside0.mk (Kd.R_below (by (with_reducible repeat (first | apply Kd.R_alloc | apply Kd.R_drewN | apply Kd.R_drew)); exact HO_11.out) hb); have n3_ := Aside0.mk (Kd.R_below (by (with_reducible repeat (first | apply Kd.R_alloc | apply Kd.R_drewN | apply Kd.R_drew)); exact HO_12.out) hb); have n4_ := Aside0.mk (Kd.R_below (by (with_reducible repeat (first | apply Kd.R_alloc | apply Kd.R_drewN | apply Kd.R_drew)); exact HO718.out) hb); have n5_ := Aside0.mk (Kd.R_below (by (with_reducible repeat (first | apply Kd.R_alloc | apply Kd.R_drewN | apply Kd.R_drew)); exact HO721.out) hb); have n6_ := Aside0.mk (Kd.R_below (by (with_reducible repeat (first | apply Kd.R_alloc | apply Kd.R_drewN | apply Kd.R_drew)); exact HO724.out) hb); have n7_ := Aside0.mk (Kd.R_below (by (with_reducible repeat (first | apply Kd.R_alloc | apply Kd.R_drewN | apply Kd.R_drew)); exact HO727.out) hb); have n8_ := Aside0.mk (below_step (by repeat (first | (with_reducible first | exact HB.out | apply below_alloc | apply pw_below_drewN | apply below_drew1) | exact HB.out)) hb); clear HO_9; clear HO_10; clear HO_11; clear HO_12; clear HO718; clear HO721; clear HO724; clear HO727; clear HB; have HO_9 := n0_; have HO_10 := n1_; have HO_11 := n2_; have HO_12 := n3_; have HO718 := n4_; have HO721 := n5_; have HO724 := n6_; have HO727 := n7_; have HB := n8_; clear n0_ n1_ n2_ n3_ n4_ n5_ n6_ n7_ n8_; (try clear hb); (try clear hb2); (try clear hk); (try clear hi)))
                  go_meet
                  case rel => exact ⟨_, ((t729 != 0)), (by first | rfl | (simp; done) | (simp [*]; done)), H', ⟨by have := HJ4.out; have := HJ23.out; first | omega | exact Nat.le_refl _⟩, ⟨by (with_reducible repeat (first | apply Kd.R_alloc | apply Kd.R_drewN | apply Kd.R_drew)); exact Kd.R_mono HO718.out (fun _ hk => hk.2)⟩, ⟨by (with_reducible repeat (first | apply Kd.R_alloc | apply Kd.R_drewN | apply Kd.R_drew)); exact Kd.R_mono HO721.out (fun _ hk => hk.2)⟩, ⟨by (with_reducible repeat (first | apply Kd.R_alloc | apply Kd.R_drewN | apply Kd.R_drew)); exact Kd.R_mono HO724.out (fun _ hk => hk.2)⟩, ⟨by (with_reducible repeat (first | apply Kd.R_alloc | apply Kd.R_drewN | apply Kd.R_drew)); exact Kd.R_mono HO727.out (fun _ hk => hk.2)⟩, ⟨by repeat (first | (with_reducible first | exact HB.out | apply below_alloc | apply pw_below_drewN | apply below_drew1) | exact HB.out)⟩⟩
                · rw [if_neg c54] at H
                  have c54b0 : (t728 == 0) = false := beq_eq_false_iff_ne.mpr c54
                  have c54b1 : (t728 != 0) = true := bne_iff_ne.mpr c54
                  (first | rw [c54b0] | (simp only [i64_w, i32_w]; rw [c54b0]) | skip)
                  have H' := Aside0.mk H
                  clear H
                  obtain ⟨Ao60, co60, eo60⟩ := Kd.R_slice HO721.out
                  subst eo60
                  go_wp2_with (first | ((with_reducible refine gate_callee (f := 31) rfl ?_); refine goesL_ (some 90) rfl rfl Tryz.func31 (by kernel_rfl) rfl #[(errV (.slice Ao60 t719.length co60))] rfl (by (try simp only [List.map_toArray, List.map_cons, List.map_nil]); first | done | rfl | (simp only [List.length_drop, List.length_take]; rfl)) ?_; (with_reducible refine (fail_Code.calls _ _ t719 t728 _ ?side1 ?side2 ?side3 A53.out).mono ?_); (case side1 => repeat (first | exact (Kd.R_reads' HO721.out).2.2 | (with_reducible refine Kd.C_alloc ?_ _) | (with_reducible refine Kd.C_drewN ?_ _) | (with_reducible refine Kd.C_drew ?_))); (case side2 => exact (Kd.R_reads' HO721.out).2.1); (case side3 => exact Gl.below HG_.out (by repeat (first | (with_reducible first | exact HB.out | apply below_alloc | apply pw_below_drewN | apply below_drew1) | exact HB.out))); rintro e w61 ⟨rfl, hb⟩; refine ⟨_, rfl, ?_⟩; have n0_ := Aside0.mk (Kd.R_below (by (with_reducible repeat (first | apply Kd.R_alloc | apply Kd.R_drewN | apply Kd.R_drew)); exact HO_9.out) hb); have n1_ := Aside0.mk (Kd.R_below (by (with_reducible repeat (first | apply Kd.R_alloc | apply Kd.R_drewN | apply Kd.R_drew)); exact HO_10.out) hb); have n2_ := Aside0.mk (Kd.R_below (by (with_reducible repeat (first | apply Kd.R_alloc | apply Kd.R_drewN | apply Kd.R_drew)); exact HO_11.out) hb); have n3_ := Aside0.mk (Kd.R_below (by (with_reducible repeat (first | apply Kd.R_alloc | apply Kd.R_drewN | apply Kd.R_drew)); exact HO_12.out) hb); have n4_ := Aside0.mk (Kd.R_below (by (with_reducible repeat (first | apply Kd.R_alloc | apply Kd.R_drewN | apply Kd.R_drew)); exact HO718.out) hb); have n5_ := Aside0.mk (Kd.R_below (by (with_reducible repeat (first | apply Kd.R_alloc | apply Kd.R_drewN | apply Kd.R_drew)); exact HO721.out) hb); have n6_ := Aside0.mk (Kd.R_below (by (with_reducible repeat (first | apply Kd.R_alloc | apply Kd.R_drewN | apply Kd.R_drew)); exact HO724.out) hb); have n7_ := Aside0.mk (Kd.R_below (by (with_reducible repeat (first | apply Kd.R_alloc | apply Kd.R_drewN | apply Kd.R_drew)); exact HO727.out) hb); have n8_ := Aside0.mk (below_step (by repeat (first | (with_reducible first | exact HB.out | apply below_alloc | apply pw_below_drewN | apply below_drew1) | exact HB.out)) hb); clear HO_9; clear HO_10; clear HO_11; clear HO_12; clear HO718; clear HO721; clear HO724; clear HO727; clear HB; have HO_9 := n0_; have HO_10 := n1_; have HO_11 := n2_; have HO_12 := n3_; have HO718 := n4_; have HO721 := n5_; have HO724 := n6_; have HO727 := n7_; have HB := n8_; clear n0_ n1_ n2_ n3_ n4_ n5_ n6_ n7_ n8_; (try clear hb); (try clear hb2); (try clear hk); (try clear hi)))
                  go_meet
                  case rel => exact ⟨_, (true), (by first | rfl | (simp; done) | (simp [*]; done)), H', ⟨by have := HJ4.out; have := HJ23.out; first | omega | exact Nat.le_refl _⟩, ⟨by (with_reducible repeat (first | apply Kd.R_alloc | apply Kd.R_drewN | apply Kd.R_drew)); exact Kd.R_mono HO718.out (fun _ hk => hk.2)⟩, ⟨by (with_reducible repeat (first | apply Kd.R_alloc | apply Kd.R_drewN | apply Kd.R_drew)); exact Kd.R_mono HO721.out (fun _ hk => hk.2)⟩, ⟨by (with_reducible repeat (first | apply Kd.R_alloc | apply Kd.R_drewN | apply Kd.R_drew)); exact Kd.R_mono HO724.out (fun _ hk => hk.2)⟩, ⟨by (with_reducible repeat (first | apply Kd.R_alloc | apply Kd.R_drewN | apply Kd.R_drew)); exact Kd.R_mono HO727.out (fun _ hk => hk.2)⟩, ⟨by repeat (first | (with_reducible first | exact HB.out | apply below_alloc | apply pw_below_drewN | apply below_drew1) | exact HB.out)⟩⟩
              case rest =>
                clear HC48
                try clear c1
                try clear c2
                try clear p2
                try clear c3
                try clear c4
                try clear c5
                try clear p6
                try clear c7
                try clear c9
                try clear c9b0
                try clear c9b1
                try clear c12
                try clear c12b0
                try clear c12b1
                try clear c15
                try clear c15b0
                try clear c15b1
                try clear c18
                try clear c19
                try clear c28
                try clear c28b0
                try clear c28b1
                try clear c31
                try clear c36
                try clear c38
                try clear c38b0
                try clear c38b1
                try clear c49
                try clear c50
                try clear c54
                try clear c54b0
                try clear c54b1
                try clear p2
                try clear p6
                obtain ⟨kq, x96_47, rfl, HA, HJ47, HO_13, HO_14, HO_15, HO_16, HB⟩ := hcut
                cases kq with
                | zero => exact absurd HA.out (by simp [shalelaw15_MergeThree.j2])
                | succ kj47 =>
                  have H := HA.out
                  clear HA
                  simp only [shalelaw15_MergeThree.j2] at H
                  by_cases c62 : x96_47 = true
                  · subst c62
                    have H1 : ((fail_Code.f t719).bind fun t730 => ((fail_Code.f t725).bind fun t731 => (some (t730 == t731)))) = some r := by rw [if_pos rfl] at H; exact H
                    clear H
                    have H := H1
                    clear H1
                    replace H := Option.bind_eq_some_iff.mp H
                    obtain ⟨t730, A630, H⟩ := H
                    replace H : ((fail_Code.f t725).bind fun t731 => (some (t730 == t731))) = some r := H
                    have A63 := Aside0.mk A630
                    clear A630
                    replace H := Option.bind_eq_some_iff.mp H
                    obtain ⟨t731, A640, H⟩ := H
                    replace H : (some (t730 == t731)) = some r := H
                    have A64 := Aside0.mk A640
                    clear A640
                    obtain rfl := Option.some.inj H
                    obtain ⟨Ao65, co65, eo65⟩ := Kd.R_slice HO_14.out
                    subst eo65
                    go_wp2_with (first | ((with_reducible refine gate_callee (f := 31) rfl ?_); refine goesL_ (some 98) rfl rfl Tryz.func31 (by kernel_rfl) rfl #[(errV (.slice Ao65 t719.length co65))] rfl (by (try simp only [List.map_toArray, List.map_cons, List.map_nil]); first | done | rfl | (simp only [List.length_drop, List.length_take]; rfl)) ?_; (with_reducible refine (fail_Code.calls _ _ t719 t730 _ ?side1 ?side2 ?side3 A63.out).mono ?_); (case side1 => repeat (first | exact (Kd.R_reads' HO_14.out).2.2 | (with_reducible refine Kd.C_alloc ?_ _) | (with_reducible refine Kd.C_drewN ?_ _) | (with_reducible refine Kd.C_drew ?_))); (case side2 => exact (Kd.R_reads' HO_14.out).2.1); (case side3 => exact Gl.below HG_.out (by repeat (first | (with_reducible first | exact HB.out | apply below_alloc | apply pw_below_drewN | apply below_drew1) | exact HB.out))); rintro e w66 ⟨rfl, hb⟩; refine ⟨_, rfl, ?_⟩; have n0_ := Aside0.mk (Kd.R_below (by (with_reducible repeat (first | apply Kd.R_alloc | apply Kd.R_drewN | apply Kd.R_drew)); exact HO_13.out) hb); have n1_ := Aside0.mk (Kd.R_below (by (with_reducible repeat (first | apply Kd.R_alloc | apply Kd.R_drewN | apply Kd.R_drew)); exact HO_14.out) hb); have n2_ := Aside0.mk (Kd.R_below (by (with_reducible repeat (first | apply Kd.R_alloc | apply Kd.R_drewN | apply Kd.R_drew)); exact HO_15.out) hb); have n3_ := Aside0.mk (Kd.R_below (by (with_reducible repeat (first | apply Kd.R_alloc | apply Kd.R_drewN | apply Kd.R_drew)); exact HO_16.out) hb); have n4_ := Aside0.mk (below_step (by repeat (first | (with_reducible first | exact HB.out | apply below_alloc | apply pw_below_drewN | apply below_drew1) | exact HB.out)) hb); clear HO_13; clear HO_14; clear HO_15; clear HO_16; clear HB; have HO_13 := n0_; have HO_14 := n1_; have HO_15 := n2_; have HO_16 := n3_; have HB := n4_; clear n0_ n1_ n2_ n3_ n4_; (try clear hb); (try clear hb2); (try clear hk); (try clear hi); obtain ⟨Ao67, co67, eo67⟩ := Kd.R_slice HO_16.out; subst eo67) | ((with_reducible refine gate_callee (f := 31) rfl ?_); refine goesL_ (some 100) rfl rfl Tryz.func31 (by kernel_rfl) rfl #[(errV (.slice Ao67 t725.length co67))] rfl (by (try simp only [List.map_toArray, List.map_cons, List.map_nil]); first | done | rfl | (simp only [List.length_drop, List.length_take]; rfl)) ?_; (with_reducible refine (fail_Code.calls _ _ t725 t731 _ ?side1 ?side2 ?side3 A64.out).mono ?_); (case side1 => repeat (first | exact (Kd.R_reads' HO_16.out).2.2 | (with_reducible refine Kd.C_alloc ?_ _) | (with_reducible refine Kd.C_drewN ?_ _) | (with_reducible refine Kd.C_drew ?_))); (case side2 => exact (Kd.R_reads' HO_16.out).2.1); (case side3 => exact Gl.below HG_.out (by repeat (first | (with_reducible first | exact HB.out | apply below_alloc | apply pw_below_drewN | apply below_drew1) | exact HB.out))); rintro e w68 ⟨rfl, hb⟩; refine ⟨_, rfl, ?_⟩; have n0_ := Aside0.mk (Kd.R_below (by (with_reducible repeat (first | apply Kd.R_alloc | apply Kd.R_drewN | apply Kd.R_drew)); exact HO_13.out) hb); have n1_ := Aside0.mk (Kd.R_below (by (with_reducible repeat (first | apply Kd.R_alloc | apply Kd.R_drewN | apply Kd.R_drew)); exact HO_14.out) hb); have n2_ := Aside0.mk (Kd.R_below (by (with_reducible repeat (first | apply Kd.R_alloc | apply Kd.R_drewN | apply Kd.R_drew)); exact HO_15.out) hb); have n3_ := Aside0.mk (Kd.R_below (by (with_reducible repeat (first | apply Kd.R_alloc | apply Kd.R_drewN | apply Kd.R_drew)); exact HO_16.out) hb); have n4_ := Aside0.mk (below_step (by repeat (first | (with_reducible first | exact HB.out | apply below_alloc | apply pw_below_drewN | apply below_drew1) | exact HB.out)) hb); clear HO_13; clear HO_14; clear HO_15; clear HO_16; clear HB; have HO_13 := n0_; have HO_14 := n1_; have HO_15 := n2_; have HO_16 := n3_; have HB := n4_; clear n0_ n1_ n2_ n3_ n4_; (try clear hb); (try clear hb2); (try clear hk); (try clear hi)))
                    go_ret
                    exact ⟨by first | rfl | (simp [errW_none, errW_some] <;> rfl) | (simp [*, errW_none, errW_some] <;> rfl), by repeat (first | (with_reducible first | exact HB.out | apply below_alloc | apply pw_below_drewN | apply below_drew1) | exact HB.out)⟩
                  · replace c62 := Bool.eq_false_iff.mpr c62
                    subst c62
                    have H1 : ((fold_Stack.f kj47 (([t716] : List (List (S28))))).bind fun t735 => ((fold_Stack.f kj47 (([t722] : List (List (S28))))).bind fun t741 => ((shalelaw09_Same.f kj47 t735 t741).bind fun t744 => (if t744 = 1 then (if a3 = true then ((shalelaw09_Same.f kj47 t716 t722).bind fun t745 => (if t745 = 1 then (some true) else (some false))) else (some ((t716.length : Int) == (t722.length : Int)))) else (some false))))) = some r := by rw [if_neg (show ¬ (false = true) by decide)] at H; exact H
                    clear H
                    have H := H1
                    clear H1
                    obtain ⟨y732, hy732⟩ : ∃ y_ : List (List (S28)), y_ = (([t716] : List (List (S28)))) := ⟨_, rfl⟩
                    replace H : ((fold_Stack.f kj47 y732).bind fun t735 => ((fold_Stack.f kj47 (([t722] : List (List (S28))))).bind fun t741 => ((shalelaw09_Same.f kj47 t735 t741).bind fun t744 => (if t744 = 1 then (if a3 = true then ((shalelaw09_Same.f kj47 t716 t722).bind fun t745 => (if t745 = 1 then (some true) else (some false))) else (some ((t716.length : Int) == (t722.length : Int)))) else (some false))))) = some r := by first | (rw [hy732]; with_reducible exact H) | (have H2_ := (Option.bind_some _ _).symm.trans H; rw [hy732]; with_reducible exact H2_) | (have H2_ := (Option.bind_some _ _).symm.trans H; with_reducible exact H2_) | with_reducible exact H | (rw [hy732]; exact H) | exact H
                    have Ny732 := Aside0.mk hy732
                    clear hy732
                    replace H := Option.bind_eq_some_iff.mp H
                    obtain ⟨t735, A690, H⟩ := H
                    replace H : ((fold_Stack.f kj47 (([t722] : List (List (S28))))).bind fun t741 => ((shalelaw09_Same.f kj47 t735 t741).bind fun t744 => (if t744 = 1 then (if a3 = true then ((shalelaw09_Same.f kj47 t716 t722).bind fun t745 => (if t745 = 1 then (some true) else (some false))) else (some ((t716.length : Int) == (t722.length : Int)))) else (some false)))) = some r := H
                    have A69 := Aside0.mk A690
                    clear A690
                    obtain ⟨y738, hy738⟩ : ∃ y_ : List (List (S28)), y_ = (([t722] : List (List (S28)))) := ⟨_, rfl⟩
                    replace H : ((fold_Stack.f kj47 y738).bind fun t741 => ((shalelaw09_Same.f kj47 t735 t741).bind fun t744 => (if t744 = 1 then (if a3 = true then ((shalelaw09_Same.f kj47 t716 t722).bind fun t745 => (if t745 = 1 then (some true) else (some false))) else (some ((t716.length : Int) == (t722.length : Int)))) else (some false)))) = some r := by first | (rw [hy738]; with_reducible exact H) | (have H2_ := (Option.bind_some _ _).symm.trans H; rw [hy738]; with_reducible exact H2_) | (have H2_ := (Option.bind_some _ _).symm.trans H; with_reducible exact H2_) | with_reducible exact H | (rw [hy738]; exact H) | exact H
                    have Ny738 := Aside0.mk hy738
                    clear hy738
                    replace H := Option.bind_eq_some_iff.mp H
                    obtain ⟨t741, A700, H⟩ := H
                    replace H : ((shalelaw09_Same.f kj47 t735 t741).bind fun t744 => (if t744 = 1 then (if a3 = true then ((shalelaw09_Same.f kj47 t716 t722).bind fun t745 => (if t745 = 1 then (some true) else (some false))) else (some ((t716.length : Int) == (t722.length : Int)))) else (some false))) = some r := H
                    have A70 := Aside0.mk A700
                    clear A700
                    replace H := Option.bind_eq_some_iff.mp H
                    obtain ⟨t744, A710, H⟩ := H
                    replace H : (if t744 = 1 then (if a3 = true then ((shalelaw09_Same.f kj47 t716 t722).bind fun t745 => (if t745 = 1 then (some true) else (some false))) else (some ((t716.length : Int) == (t722.length : Int)))) else (some false)) = some r := H
                    have A71 := Aside0.mk A710
                    clear A710
                    by_cases c72 : t744 = 1
                    · rw [if_pos c72] at H
                      have c72b0 : (t744 == 1) = true := beq_iff_eq.mpr c72
                      have c72b1 : (t744 != 1) = false := bne_eq_false_iff_eq.mpr c72
                      clear c72
                      by_cases c73 : a3 = true
                      · subst c73
                        have H1 : ((shalelaw09_Same.f kj47 t716 t722).bind fun t745 => (if t745 = 1 then (some true) else (some false))) = some r := by rw [if_pos rfl] at H; exact H
                        clear H
                        have H := H1
                        clear H1
                        replace H := Option.bind_eq_some_iff.mp H
                        obtain ⟨t745, A740, H⟩ := H
                        replace H : (if t745 = 1 then (some true) else (some false)) = some r := H
                        have A74 := Aside0.mk A740
                        clear A740
                        by_cases c75 : t745 = 1
                        · rw [if_pos c75] at H
                          have c75b0 : (t745 == 1) = true := beq_iff_eq.mpr c75
                          have c75b1 : (t745 != 1) = false := bne_eq_false_iff_eq.mpr c75
                          clear c75
                          obtain rfl := Option.some.inj H
                          obtain ⟨Ao76, co76, eo76⟩ := Kd.R_slice HO_13.out
                          subst eo76
                          have HZ := Aside0.mk (Kd.R_reads' HO_13.out).2.2
                          have HZc := Aside0.mk (Kd.R_reads' HO_13.out).2.1
                          go_wp2_with (first | ((with_reducible refine gate_dst (N := 103) rfl ?_); (try (refine gate_guard (by rfl) ?_; dsimp only)); refine Kd.N_lit (Kd.slice 28 k28) _ 22 ?hg (N' := 103) ?hd (xs := ([t716] : List (List (S28)))) (inner := [.slice Ao76 t716.length co76]) (ok := (fun k_ => some k_ ≠ (v720 : Value).ownBlock ∧ some k_ ≠ (v723 : Value).ownBlock ∧ some k_ ≠ (v726 : Value).ownBlock)) (okp := (fun k_ => some k_ ≠ (v720 : Value).ownBlock ∧ some k_ ≠ (v723 : Value).ownBlock ∧ some k_ ≠ (v726 : Value).ownBlock)) ?hr ?hp (fun _ hk => hk) ((show ∀ k_, wc.heap.size ≤ k_ → (fun k_ => some k_ ≠ (v720 : Value).ownBlock ∧ some k_ ≠ (v723 : Value).ownBlock ∧ some k_ ≠ (v726 : Value).ownBlock) k_ from fun k_ hk => ⟨Kd.fresh' (Kd.R_lt (by (with_reducible repeat (first | apply Kd.R_alloc | apply Kd.R_drewN | apply Kd.R_drew)); exact HO_14.out)) k_ hk, Kd.fresh' (Kd.R_lt (by (with_reducible repeat (first | apply Kd.R_alloc | apply Kd.R_drewN | apply Kd.R_drew)); exact HO_15.out)) k_ hk, Kd.fresh' (Kd.R_lt (by (with_reducible repeat (first | apply Kd.R_alloc | apply Kd.R_drewN | apply Kd.R_drew)); exact HO_16.out)) k_ hk⟩) _ (Nat.le_refl _)) (Below.refl _ _) (Nat.le_refl _) (by simp) ?_; (case hd => rfl); (case hg => rfl); (case hr => first | (go_simp; done) | (go_simp; rfl)); (case hp => exact (Reps.one (show Kd.FK (Kd.slice 28 k28) _ _ t716 [.slice Ao76 t716.length co76] from (Kd.FK_slice_mk (Kd.R_reads' (Kd.R_mono (ok' := (fun k_ => some k_ ≠ (v720 : Value).ownBlock ∧ some k_ ≠ (v723 : Value).ownBlock ∧ some k_ ≠ (v726 : Value).ownBlock)) (Kd.R_apart' (Kd.R_apart' (HO_13.out) (Kd.R_typed HO_14.out) (by decide)) (Kd.R_typed HO_16.out) (by decide)) (fun k_ hk => ⟨hk.1.2, ⟨hk.1.1, hk.2⟩⟩))).2.1 (Kd.R_F (Kd.R_mono (ok' := (fun k_ => some k_ ≠ (v720 : Value).ownBlock ∧ some k_ ≠ (v723 : Value).ownBlock ∧ some k_ ≠ (v726 : Value).ownBlock)) (Kd.R_apart' (Kd.R_apart' (HO_13.out) (Kd.R_typed HO_14.out) (by decide)) (Kd.R_typed HO_16.out) (by decide)) (fun k_ hk => ⟨hk.1.2, ⟨hk.1.1, hk.2⟩⟩))))) (Reps.none _ _))); intro v733 w77 ho78 hb hg_ hnew_; clear hg_ hnew_; have nz_ := Aside0.mk (Kd.C_below (by repeat (first | exact HZ.out | (with_reducible refine Kd.C_alloc ?_ _) | (with_reducible refine Kd.C_drewN ?_ _) | (with_reducible refine Kd.C_drew ?_))) hb); clear HZ; have HZ := nz_; clear nz_; (first | rw [← Ny732.out] at ho78 | (simp only [Int.reduceToNat] at ho78; rw [← Ny732.out] at ho78)); have n0_ := Aside0.mk (Kd.R_below (by (with_reducible repeat (first | apply Kd.R_alloc | apply Kd.R_drewN | apply Kd.R_drew)); exact HO_14.out) hb); have n1_ := Aside0.mk (Kd.R_below (by (with_reducible repeat (first | apply Kd.R_alloc | apply Kd.R_drewN | apply Kd.R_drew)); exact HO_15.out) hb); have n2_ := Aside0.mk (Kd.R_below (by (with_reducible repeat (first | apply Kd.R_alloc | apply Kd.R_drewN | apply Kd.R_drew)); exact HO_16.out) hb); have n3_ := Aside0.mk (Kd.N_lower ho78 (below_size (by repeat (first | (with_reducible first | exact HB.out | apply below_alloc | apply pw_below_drewN | apply below_drew1) | exact HB.out)))); have n4_ := Aside0.mk (below_step (by repeat (first | (with_reducible first | exact HB.out | apply below_alloc | apply pw_below_drewN | apply below_drew1) | exact HB.out)) hb); clear HO_14; clear HO_15; clear HO_16; clear HB; clear HO_13; have HO_14 := n0_; have HO_15 := n1_; have HO_16 := n2_; have HO734 := n3_; have HB := n4_; clear n0_ n1_ n2_ n3_ n4_; clear hb ho78; obtain ⟨Ao79, co79, eo79⟩ := Kd.N_slice HO734.out; subst eo79) | ((with_reducible refine gate_callee (f := 41) rfl ?_); refine goesL_ (some 104) rfl rfl Tryz.func41 (by kernel_rfl) rfl #[.slice Ao79 y732.length co79] rfl (by (try simp only [List.map_toArray, List.map_cons, List.map_nil]); first | done | rfl | (simp only [List.length_drop, List.length_take]; rfl)) ?_; (with_reducible refine (fold_Stack.calls kj47 _ _ y732 t735 _ ?side1 ?side2 A69.out).mono ?_); (case side1 => repeat (first | exact (Kd.N_reads' HO734.out).2.2 | (with_reducible refine Kd.C_alloc ?_ _) | (with_reducible refine Kd.C_drewN ?_ _) | (with_reducible refine Kd.C_drew ?_))); (case side2 => exact (Kd.N_reads' HO734.out).2.1); rintro e w80 ⟨v736, rfl, ho0, hb⟩; refine ⟨_, rfl, ?_⟩; have nz_ := Aside0.mk (Kd.C_below (by repeat (first | exact HZ.out | (with_reducible refine Kd.C_alloc ?_ _) | (with_reducible refine Kd.C_drewN ?_ _) | (with_reducible refine Kd.C_drew ?_))) hb); clear HZ; have HZ := nz_; clear nz_; have n0_ := Aside0.mk (Kd.R_below (by (with_reducible repeat (first | apply Kd.R_alloc | apply Kd.R_drewN | apply Kd.R_drew)); exact HO_14.out) hb); have n1_ := Aside0.mk (Kd.R_elder' (by (with_reducible repeat (first | apply Kd.R_alloc | apply Kd.R_drewN | apply Kd.R_drew)); exact HO_15.out) (Kd.R_base ho0) hb); have n2_ := Aside0.mk (Kd.R_below (by (with_reducible repeat (first | apply Kd.R_alloc | apply Kd.R_drewN | apply Kd.R_drew)); exact HO_16.out) hb); have n3_ := Aside0.mk (Kd.N_elder' (by (with_reducible repeat (first | apply Kd.N_alloc | apply Kd.N_drewN | apply Kd.N_drew)); exact HO734.out) (Kd.R_base ho0) hb); have n4_ := Aside0.mk (Kd.R_lower (Kd.R_new' ho0 (Kd.R_lt (by (with_reducible repeat (first | apply Kd.R_alloc | apply Kd.R_drewN | apply Kd.R_drew)); exact HO_15.out))) (below_size (by repeat (first | (with_reducible first | exact HB.out | apply below_alloc | apply pw_below_drewN | apply below_drew1) | exact HB.out)))); have n5_ := Aside0.mk (below_step (by repeat (first | (with_reducible first | exact HB.out | apply below_alloc | apply pw_below_drewN | apply below_drew1) | exact HB.out)) hb); clear HO_14; clear HO_15; clear HO_16; clear HO734; clear HB; have HO_14 := n0_; have HO_15 := n1_; have HO_16 := n2_; have HO734 := n3_; have HO737 := n4_; have HB := n5_; clear n0_ n1_ n2_ n3_ n4_ n5_; (try clear hb); (try clear hb2); (try clear hk); (try clear hi); (try clear ho0); obtain ⟨Ao81, co81, eo81⟩ := Kd.R_slice HO_15.out; subst eo81; have HY := Aside0.mk (Kd.R_reads' HO_15.out).2.2; have HYc := Aside0.mk (Kd.R_reads' HO_15.out).2.1) | ((with_reducible refine gate_dst (N := 106) rfl ?_); (try (refine gate_guard (by rfl) ?_; dsimp only)); refine Kd.N_lit (Kd.slice 28 k28) _ 22 ?hg (N' := 106) ?hd (xs := ([t722] : List (List (S28)))) (inner := [.slice Ao81 t722.length co81]) (ok := (fun k_ => some k_ ≠ (v720 : Value).ownBlock ∧ some k_ ≠ (v726 : Value).ownBlock ∧ some k_ ≠ (.slice Ao79 y732.length co79 : Value).ownBlock ∧ some k_ ≠ (v736 : Value).ownBlock)) (okp := (fun k_ => some k_ ≠ (v720 : Value).ownBlock ∧ some k_ ≠ (v726 : Value).ownBlock ∧ some k_ ≠ (.slice Ao79 y732.length co79 : Value).ownBlock ∧ some k_ ≠ (v736 : Value).ownBlock)) ?hr ?hp (fun _ hk => hk) ((show ∀ k_, w80.heap.size ≤ k_ → (fun k_ => some k_ ≠ (v720 : Value).ownBlock ∧ some k_ ≠ (v726 : Value).ownBlock ∧ some k_ ≠ (.slice Ao79 y732.length co79 : Value).ownBlock ∧ some k_ ≠ (v736 : Value).ownBlock) k_ from fun k_ hk => ⟨Kd.fresh' (Kd.R_lt (by (with_reducible repeat (first | apply Kd.R_alloc | apply Kd.R_drewN | apply Kd.R_drew)); exact HO_14.out)) k_ hk, Kd.fresh' (Kd.R_lt (by (with_reducible repeat (first | apply Kd.R_alloc | apply Kd.R_drewN | apply Kd.R_drew)); exact HO_16.out)) k_ hk, Kd.fresh' (Kd.N_lt (by (with_reducible repeat (first | apply Kd.N_alloc | apply Kd.N_drewN | apply Kd.N_drew)); exact HO734.out)) k_ hk, Kd.fresh' (Kd.R_lt (by (with_reducible repeat (first | apply Kd.R_alloc | apply Kd.R_drewN | apply Kd.R_drew)); exact HO737.out)) k_ hk⟩) _ (Nat.le_refl _)) (Below.refl _ _) (Nat.le_refl _) (by simp) ?_; (case hd => rfl); (case hg => rfl); (case hr => first | (go_simp; done) | (go_simp; rfl)); (case hp => exact (Reps.one (show Kd.FK (Kd.slice 28 k28) _ _ t722 [.slice Ao81 t722.length co81] from (Kd.FK_slice_mk (Kd.R_reads' (Kd.R_mono (ok' := (fun k_ => some k_ ≠ (v720 : Value).ownBlock ∧ some k_ ≠ (v726 : Value).ownBlock ∧ some k_ ≠ (.slice Ao79 y732.length co79 : Value).ownBlock ∧ some k_ ≠ (v736 : Value).ownBlock)) (Kd.R_apart' (Kd.R_apart' (Kd.R_apart' (HO_15.out) (Kd.R_typed HO_14.out) (by decide)) (Kd.R_typed HO_16.out) (by decide)) (Kd.N_typed HO734.out) (by decide)) (fun k_ hk => ⟨hk.1.1.2, ⟨hk.1.2, ⟨hk.2, hk.1.1.1.2⟩⟩⟩))).2.1 (Kd.R_F (Kd.R_mono (ok' := (fun k_ => some k_ ≠ (v720 : Value).ownBlock ∧ some k_ ≠ (v726 : Value).ownBlock ∧ some k_ ≠ (.slice Ao79 y732.length co79 : Value).ownBlock ∧ some k_ ≠ (v736 : Value).ownBlock)) (Kd.R_apart' (Kd.R_apart' (Kd.R_apart' (HO_15.out) (Kd.R_typed HO_14.out) (by decide)) (Kd.R_typed HO_16.out) (by decide)) (Kd.N_typed HO734.out) (by decide)) (fun k_ hk => ⟨hk.1.1.2, ⟨hk.1.2, ⟨hk.2, hk.1.1.1.2⟩⟩⟩))))) (Reps.none _ _))); intro v739 w82 ho83 hb hg_ hnew_; clear hg_ hnew_; have nz_ := Aside0.mk (Kd.C_below (by repeat (first | exact HZ.out | (with_reducible refine Kd.C_alloc ?_ _) | (with_reducible refine Kd.C_drewN ?_ _) | (with_reducible refine Kd.C_drew ?_))) hb); clear HZ; have HZ := nz_; clear nz_; have nz_ := Aside0.mk (Kd.C_below (by repeat (first | exact HY.out | (with_reducible refine Kd.C_alloc ?_ _) | (with_reducible refine Kd.C_drewN ?_ _) | (with_reducible refine Kd.C_drew ?_))) hb); clear HY; have HY := nz_; clear nz_; (first | rw [← Ny738.out] at ho83 | (simp only [Int.reduceToNat] at ho83; rw [← Ny738.out] at ho83)); have n0_ := Aside0.mk (Kd.R_below (by (with_reducible repeat (first | apply Kd.R_alloc | apply Kd.R_drewN | apply Kd.R_drew)); exact HO_14.out) hb); have n1_ := Aside0.mk (Kd.R_below (by (with_reducible repeat (first | apply Kd.R_alloc | apply Kd.R_drewN | apply Kd.R_drew)); exact HO_16.out) hb); have n2_ := Aside0.mk (Kd.N_elder' (by (with_reducible repeat (first | apply Kd.N_alloc | apply Kd.N_drewN | apply Kd.N_drew)); exact HO734.out) (Kd.N_base ho83) hb); have n3_ := Aside0.mk (Kd.R_below (by (with_reducible repeat (first | apply Kd.R_alloc | apply Kd.R_drewN | apply Kd.R_drew)); exact HO737.out) hb); have n4_ := Aside0.mk (Kd.N_lower ho83 (below_size (by repeat (first | (with_reducible first | exact HB.out | apply below_alloc | apply pw_below_drewN | apply below_drew1) | exact HB.out)))); have n5_ := Aside0.mk (below_step (by repeat (first | (with_reducible first | exact HB.out | apply below_alloc | apply pw_below_drewN | apply below_drew1) | exact HB.out)) hb); clear HO_14; clear HO_16; clear HO734; clear HO737; clear HB; clear HO_15; have HO_14 := n0_; have HO_16 := n1_; have HO734 := n2_; have HO737 := n3_; have HO740 := n4_; have HB := n5_; clear n0_ n1_ n2_ n3_ n4_ n5_; clear hb ho83; obtain ⟨Ao84, co84, eo84⟩ := Kd.N_slice HO740.out; subst eo84) | ((with_reducible refine gate_callee (f := 41) rfl ?_); refine goesL_ (some 107) rfl rfl Tryz.func41 (by kernel_rfl) rfl #[.slice Ao84 y738.length co84] rfl (by (try simp only [List.map_toArray, List.map_cons, List.map_nil]); first | done | rfl | (simp only [List.length_drop, List.length_take]; rfl)) ?_; (with_reducible refine (fold_Stack.calls kj47 _ _ y738 t741 _ ?side1 ?side2 A70.out).mono ?_); (case side1 => repeat (first | exact (Kd.N_reads' HO740.out).2.2 | (with_reducible refine Kd.C_alloc ?_ _) | (with_reducible refine Kd.C_drewN ?_ _) | (with_reducible refine Kd.C_drew ?_))); (case side2 => exact (Kd.N_reads' HO740.out).2.1); rintro e w85 ⟨v742, rfl, ho0, hb⟩; refine ⟨_, rfl, ?_⟩; have nz_ := Aside0.mk (Kd.C_below (by repeat (first | exact HZ.out | (with_reducible refine Kd.C_alloc ?_ _) | (with_reducible refine Kd.C_drewN ?_ _) | (with_reducible refine Kd.C_drew ?_))) hb); clear HZ; have HZ := nz_; clear nz_; have nz_ := Aside0.mk (Kd.C_below (by repeat (first | exact HY.out | (with_reducible refine Kd.C_alloc ?_ _) | (with_reducible refine Kd.C_drewN ?_ _) | (with_reducible refine Kd.C_drew ?_))) hb); clear HY; have HY := nz_; clear nz_; have n0_ := Aside0.mk (Kd.R_below (by (with_reducible repeat (first | apply Kd.R_alloc | apply Kd.R_drewN | apply Kd.R_drew)); exact HO_14.out) hb); have n1_ := Aside0.mk (Kd.R_below (by (with_reducible repeat (first | apply Kd.R_alloc | apply Kd.R_drewN | apply Kd.R_drew)); exact HO_16.out) hb); have n2_ := Aside0.mk (Kd.N_elder' (by (with_reducible repeat (first | apply Kd.N_alloc | apply Kd.N_drewN | apply Kd.N_drew)); exact HO734.out) (Kd.R_base ho0) hb); have n3_ := Aside0.mk (Kd.R_elder' (by (with_reducible repeat (first | apply Kd.R_alloc | apply Kd.R_drewN | apply Kd.R_drew)); exact HO737.out) (Kd.R_base ho0) hb); have n4_ := Aside0.mk (Kd.N_elder' (by (with_reducible repeat (first | apply Kd.N_alloc | apply Kd.N_drewN | apply Kd.N_drew)); exact HO740.out) (Kd.R_base ho0) hb); have n5_ := Aside0.mk (Kd.R_lower (Kd.R_new' ho0 (Kd.R_lt (by (with_reducible repeat (first | apply Kd.R_alloc | apply Kd.R_drewN | apply Kd.R_drew)); exact HO737.out))) (below_size (by repeat (first | (with_reducible first | exact HB.out | apply below_alloc | apply pw_below_drewN | apply below_drew1) | exact HB.out)))); have n6_ := Aside0.mk (below_step (by repeat (first | (with_reducible first | exact HB.out | apply below_alloc | apply pw_below_drewN | apply below_drew1) | exact HB.out)) hb); clear HO_14; clear HO_16; clear HO734; clear HO737; clear HO740; clear HB; have HO_14 := n0_; have HO_16 := n1_; have HO734 := n2_; have HO737 := n3_; have HO740 := n4_; have HO743 := n5_; have HB := n6_; clear n0_ n1_ n2_ n3_ n4_ n5_ n6_; (try clear hb); (try clear hb2); (try clear hk); (try clear hi); (try clear ho0); obtain ⟨Ao86, co86, eo86⟩ := Kd.R_slice HO737.out; subst eo86; obtain ⟨Ao87, co87, eo87⟩ := Kd.R_slice HO743.out; subst eo87) | ((with_reducible refine gate_callee (f := 40) rfl ?_); refine goesL_ (some 108) rfl rfl Tryz.func40 (by kernel_rfl) rfl #[.slice Ao86 t735.length co86, .slice Ao87 t741.length co87] rfl (by (try simp only [List.map_toArray, List.map_cons, List.map_nil]); first | done | rfl | (simp only [List.length_drop, List.length_take]; rfl)) ?_; (with_reducible refine (shalelaw09_Same.calls kj47 _ _ t735 _ _ t741 t744 _ ?side1 ?side2 ?side3 ?side4 A71.out).mono ?_); (case side1 => repeat (first | exact (Kd.R_reads' HO737.out).2.2 | (with_reducible refine Kd.C_alloc ?_ _) | (with_reducible refine Kd.C_drewN ?_ _) | (with_reducible refine Kd.C_drew ?_))); (case side2 => exact (Kd.R_reads' HO737.out).2.1); (case side3 => repeat (first | exact (Kd.R_reads' HO743.out).2.2 | (with_reducible refine Kd.C_alloc ?_ _) | (with_reducible refine Kd.C_drewN ?_ _) | (with_reducible refine Kd.C_drew ?_))); (case side4 => exact (Kd.R_reads' HO743.out).2.1); rintro e w' ⟨rfl, ⟨nd, rfl⟩⟩; refine ⟨_, rfl, ?_⟩) | (go_at_call 40; (with_reducible refine (shalelaw09_Same.calls kj47 _ _ t716 _ _ t722 t745 _ ?side1 ?side2 ?side3 ?side4 A74.out).mono ?_); (case side1 => repeat (first | exact HZ.out | (with_reducible refine Kd.C_alloc ?_ _) | (with_reducible refine Kd.C_drewN ?_ _) | (with_reducible refine Kd.C_drew ?_))); (case side2 => exact HZc.out); (case side3 => repeat (first | exact HY.out | (with_reducible refine Kd.C_alloc ?_ _) | (with_reducible refine Kd.C_drewN ?_ _) | (with_reducible refine Kd.C_drew ?_))); (case side4 => exact HYc.out); rintro e w' ⟨rfl, ⟨nd, rfl⟩⟩))
                          go_ret
                          exact ⟨by first | rfl | (simp [errW_none, errW_some] <;> rfl) | (simp [*, errW_none, errW_some] <;> rfl), by repeat (first | (with_reducible first | exact HB.out | apply below_alloc | apply pw_below_drewN | apply below_drew1) | exact HB.out)⟩
                        · rw [if_neg c75] at H
                          have c75b0 : (t745 == 1) = false := beq_eq_false_iff_ne.mpr c75
                          have c75b1 : (t745 != 1) = true := bne_iff_ne.mpr c75
                          exact Bool.noConfusion ((Option.some.inj H).trans HRR_.out)
                      · replace c73 := Bool.eq_false_iff.mpr c73
                        subst c73
                        have H1 : (some ((t716.length : Int) == (t722.length : Int))) = some r := by rw [if_neg (show ¬ (false = true) by decide)] at H; exact H
                        clear H
                        have H := H1
                        clear H1
                        obtain rfl := Option.some.inj H
                        obtain ⟨Ao88, co88, eo88⟩ := Kd.R_slice HO_13.out
                        subst eo88
                        go_wp2_with (first | ((with_reducible refine gate_dst (N := 103) rfl ?_); (try (refine gate_guard (by rfl) ?_; dsimp only)); refine Kd.N_lit (Kd.slice 28 k28) _ 22 ?hg (N' := 103) ?hd (xs := ([t716] : List (List (S28)))) (inner := [.slice Ao88 t716.length co88]) (ok := (fun k_ => some k_ ≠ (v720 : Value).ownBlock ∧ some k_ ≠ (v723 : Value).ownBlock ∧ some k_ ≠ (v726 : Value).ownBlock)) (okp := (fun k_ => some k_ ≠ (v720 : Value).ownBlock ∧ some k_ ≠ (v723 : Value).ownBlock ∧ some k_ ≠ (v726 : Value).ownBlock)) ?hr ?hp (fun _ hk => hk) ((show ∀ k_, wc.heap.size ≤ k_ → (fun k_ => some k_ ≠ (v720 : Value).ownBlock ∧ some k_ ≠ (v723 : Value).ownBlock ∧ some k_ ≠ (v726 : Value).ownBlock) k_ from fun k_ hk => ⟨Kd.fresh' (Kd.R_lt (by (with_reducible repeat (first | apply Kd.R_alloc | apply Kd.R_drewN | apply Kd.R_drew)); exact HO_14.out)) k_ hk, Kd.fresh' (Kd.R_lt (by (with_reducible repeat (first | apply Kd.R_alloc | apply Kd.R_drewN | apply Kd.R_drew)); exact HO_15.out)) k_ hk, Kd.fresh' (Kd.R_lt (by (with_reducible repeat (first | apply Kd.R_alloc | apply Kd.R_drewN | apply Kd.R_drew)); exact HO_16.out)) k_ hk⟩) _ (Nat.le_refl _)) (Below.refl _ _) (Nat.le_refl _) (by simp) ?_; (case hd => rfl); (case hg => rfl); (case hr => first | (go_simp; done) | (go_simp; rfl)); (case hp => exact (Reps.one (show Kd.FK (Kd.slice 28 k28) _ _ t716 [.slice Ao88 t716.length co88] from (Kd.FK_slice_mk (Kd.R_reads' (Kd.R_mono (ok' := (fun k_ => some k_ ≠ (v720 : Value).ownBlock ∧ some k_ ≠ (v723 : Value).ownBlock ∧ some k_ ≠ (v726 : Value).ownBlock)) (Kd.R_apart' (Kd.R_apart' (HO_13.out) (Kd.R_typed HO_14.out) (by decide)) (Kd.R_typed HO_16.out) (by decide)) (fun k_ hk => ⟨hk.1.2, ⟨hk.1.1, hk.2⟩⟩))).2.1 (Kd.R_F (Kd.R_mono (ok' := (fun k_ => some k_ ≠ (v720 : Value).ownBlock ∧ some k_ ≠ (v723 : Value).ownBlock ∧ some k_ ≠ (v726 : Value).ownBlock)) (Kd.R_apart' (Kd.R_apart' (HO_13.out) (Kd.R_typed HO_14.out) (by decide)) (Kd.R_typed HO_16.out) (by decide)) (fun k_ hk => ⟨hk.1.2, ⟨hk.1.1, hk.2⟩⟩))))) (Reps.none _ _))); intro v733 w89 ho90 hb hg_ hnew_; clear hg_ hnew_; (first | rw [← Ny732.out] at ho90 | (simp only [Int.reduceToNat] at ho90; rw [← Ny732.out] at ho90)); have n0_ := Aside0.mk (Kd.R_below (by (with_reducible repeat (first | apply Kd.R_alloc | apply Kd.R_drewN | apply Kd.R_drew)); exact HO_14.out) hb); have n1_ := Aside0.mk (Kd.R_below (by (with_reducible repeat (first | apply Kd.R_alloc | apply Kd.R_drewN | apply Kd.R_drew)); exact HO_15.out) hb); have n2_ := Aside0.mk (Kd.R_below (by (with_reducible repeat (first | apply Kd.R_alloc | apply Kd.R_drewN | apply Kd.R_drew)); exact HO_16.out) hb); have n3_ := Aside0.mk (Kd.N_lower ho90 (below_size (by repeat (first | (with_reducible first | exact HB.out | apply below_alloc | apply pw_below_drewN | apply below_drew1) | exact HB.out)))); have n4_ := Aside0.mk (below_step (by repeat (first | (with_reducible first | exact HB.out | apply below_alloc | apply pw_below_drewN | apply below_drew1) | exact HB.out)) hb); clear HO_14; clear HO_15; clear HO_16; clear HB; clear HO_13; have HO_14 := n0_; have HO_15 := n1_; have HO_16 := n2_; have HO734 := n3_; have HB := n4_; clear n0_ n1_ n2_ n3_ n4_; clear hb ho90; obtain ⟨Ao91, co91, eo91⟩ := Kd.N_slice HO734.out; subst eo91) | ((with_reducible refine gate_callee (f := 41) rfl ?_); refine goesL_ (some 104) rfl rfl Tryz.func41 (by kernel_rfl) rfl #[.slice Ao91 y732.length co91] rfl (by (try simp only [List.map_toArray, List.map_cons, List.map_nil]); first | done | rfl | (simp only [List.length_drop, List.length_take]; rfl)) ?_; (with_reducible refine (fold_Stack.calls kj47 _ _ y732 t735 _ ?side1 ?side2 A69.out).mono ?_); (case side1 => repeat (first | exact (Kd.N_reads' HO734.out).2.2 | (with_reducible refine Kd.C_alloc ?_ _) | (with_reducible refine Kd.C_drewN ?_ _) | (with_reducible refine Kd.C_drew ?_))); (case side2 => exact (Kd.N_reads' HO734.out).2.1); rintro e w92 ⟨v736, rfl, ho0, hb⟩; refine ⟨_, rfl, ?_⟩; have n0_ := Aside0.mk (Kd.R_below (by (with_reducible repeat (first | apply Kd.R_alloc | apply Kd.R_drewN | apply Kd.R_drew)); exact HO_14.out) hb); have n1_ := Aside0.mk (Kd.R_elder' (by (with_reducible repeat (first | apply Kd.R_alloc | apply Kd.R_drewN | apply Kd.R_drew)); exact HO_15.out) (Kd.R_base ho0) hb); have n2_ := Aside0.mk (Kd.R_below (by (with_reducible repeat (first | apply Kd.R_alloc | apply Kd.R_drewN | apply Kd.R_drew)); exact HO_16.out) hb); have n3_ := Aside0.mk (Kd.N_elder' (by (with_reducible repeat (first | apply Kd.N_alloc | apply Kd.N_drewN | apply Kd.N_drew)); exact HO734.out) (Kd.R_base ho0) hb); have n4_ := Aside0.mk (Kd.R_lower (Kd.R_new' ho0 (Kd.R_lt (by (with_reducible repeat (first | apply Kd.R_alloc | apply Kd.R_drewN | apply Kd.R_drew)); exact HO_15.out))) (below_size (by repeat (first | (with_reducible first | exact HB.out | apply below_alloc | apply pw_below_drewN | apply below_drew1) | exact HB.out)))); have n5_ := Aside0.mk (below_step (by repeat (first | (with_reducible first | exact HB.out | apply below_alloc | apply pw_below_drewN | apply below_drew1) | exact HB.out)) hb); clear HO_14; clear HO_15; clear HO_16; clear HO734; clear HB; have HO_14 := n0_; have HO_15 := n1_; have HO_16 := n2_; have HO734 := n3_; have HO737 := n4_; have HB := n5_; clear n0_ n1_ n2_ n3_ n4_ n5_; (try clear hb); (try clear hb2); (try clear hk); (try clear hi); (try clear ho0); obtain ⟨Ao93, co93, eo93⟩ := Kd.R_slice HO_15.out; subst eo93) | ((with_reducible refine gate_dst (N := 106) rfl ?_); (try (refine gate_guard (by rfl) ?_; dsimp only)); refine Kd.N_lit (Kd.slice 28 k28) _ 22 ?hg (N' := 106) ?hd (xs := ([t722] : List (List (S28)))) (inner := [.slice Ao93 t722.length co93]) (ok := (fun k_ => some k_ ≠ (v720 : Value).ownBlock ∧ some k_ ≠ (v726 : Value).ownBlock ∧ some k_ ≠ (.slice Ao91 y732.length co91 : Value).ownBlock ∧ some k_ ≠ (v736 : Value).ownBlock)) (okp := (fun k_ => some k_ ≠ (v720 : Value).ownBlock ∧ some k_ ≠ (v726 : Value).ownBlock ∧ some k_ ≠ (.slice Ao91 y732.length co91 : Value).ownBlock ∧ some k_ ≠ (v736 : Value).ownBlock)) ?hr ?hp (fun _ hk => hk) ((show ∀ k_, w92.heap.size ≤ k_ → (fun k_ => some k_ ≠ (v720 : Value).ownBlock ∧ some k_ ≠ (v726 : Value).ownBlock ∧ some k_ ≠ (.slice Ao91 y732.length co91 : Value).ownBlock ∧ some k_ ≠ (v736 : Value).ownBlock) k_ from fun k_ hk => ⟨Kd.fresh' (Kd.R_lt (by (with_reducible repeat (first | apply Kd.R_alloc | apply Kd.R_drewN | apply Kd.R_drew)); exact HO_14.out)) k_ hk, Kd.fresh' (Kd.R_lt (by (with_reducible repeat (first | apply Kd.R_alloc | apply Kd.R_drewN | apply Kd.R_drew)); exact HO_16.out)) k_ hk, Kd.fresh' (Kd.N_lt (by (with_reducible repeat (first | apply Kd.N_alloc | apply Kd.N_drewN | apply Kd.N_drew)); exact HO734.out)) k_ hk, Kd.fresh' (Kd.R_lt (by (with_reducible repeat (first | apply Kd.R_alloc | apply Kd.R_drewN | apply Kd.R_drew)); exact HO737.out)) k_ hk⟩) _ (Nat.le_refl _)) (Below.refl _ _) (Nat.le_refl _) (by simp) ?_; (case hd => rfl); (case hg => rfl); (case hr => first | (go_simp; done) | (go_simp; rfl)); (case hp => exact (Reps.one (show Kd.FK (Kd.slice 28 k28) _ _ t722 [.slice Ao93 t722.length co93] from (Kd.FK_slice_mk (Kd.R_reads' (Kd.R_mono (ok' := (fun k_ => some k_ ≠ (v720 : Value).ownBlock ∧ some k_ ≠ (v726 : Value).ownBlock ∧ some k_ ≠ (.slice Ao91 y732.length co91 : Value).ownBlock ∧ some k_ ≠ (v736 : Value).ownBlock)) (Kd.R_apart' (Kd.R_apart' (Kd.R_apart' (HO_15.out) (Kd.R_typed HO_14.out) (by decide)) (Kd.R_typed HO_16.out) (by decide)) (Kd.N_typed HO734.out) (by decide)) (fun k_ hk => ⟨hk.1.1.2, ⟨hk.1.2, ⟨hk.2, hk.1.1.1.2⟩⟩⟩))).2.1 (Kd.R_F (Kd.R_mono (ok' := (fun k_ => some k_ ≠ (v720 : Value).ownBlock ∧ some k_ ≠ (v726 : Value).ownBlock ∧ some k_ ≠ (.slice Ao91 y732.length co91 : Value).ownBlock ∧ some k_ ≠ (v736 : Value).ownBlock)) (Kd.R_apart' (Kd.R_apart' (Kd.R_apart' (HO_15.out) (Kd.R_typed HO_14.out) (by decide)) (Kd.R_typed HO_16.out) (by decide)) (Kd.N_typed HO734.out) (by decide)) (fun k_ hk => ⟨hk.1.1.2, ⟨hk.1.2, ⟨hk.2, hk.1.1.1.2⟩⟩⟩))))) (Reps.none _ _))); intro v739 w94 ho95 hb hg_ hnew_; clear hg_ hnew_; (first | rw [← Ny738.out] at ho95 | (simp only [Int.reduceToNat] at ho95; rw [← Ny738.out] at ho95)); have n0_ := Aside0.mk (Kd.R_below (by (with_reducible repeat (first | apply Kd.R_alloc | apply Kd.R_drewN | apply Kd.R_drew)); exact HO_14.out) hb); have n1_ := Aside0.mk (Kd.R_below (by (with_reducible repeat (first | apply Kd.R_alloc | apply Kd.R_drewN | apply Kd.R_drew)); exact HO_16.out) hb); have n2_ := Aside0.mk (Kd.N_elder' (by (with_reducible repeat (first | apply Kd.N_alloc | apply Kd.N_drewN | apply Kd.N_drew)); exact HO734.out) (Kd.N_base ho95) hb); have n3_ := Aside0.mk (Kd.R_below (by (with_reducible repeat (first | apply Kd.R_alloc | apply Kd.R_drewN | apply Kd.R_drew)); exact HO737.out) hb); have n4_ := Aside0.mk (Kd.N_lower ho95 (below_size (by repeat (first | (with_reducible first | exact HB.out | apply below_alloc | apply pw_below_drewN | apply below_drew1) | exact HB.out)))); have n5_ := Aside0.mk (below_step (by repeat (first | (with_reducible first | exact HB.out | apply below_alloc | apply pw_below_drewN | apply below_drew1) | exact HB.out)) hb); clear HO_14; clear HO_16; clear HO734; clear HO737; clear HB; clear HO_15; have HO_14 := n0_; have HO_16 := n1_; have HO734 := n2_; have HO737 := n3_; have HO740 := n4_; have HB := n5_; clear n0_ n1_ n2_ n3_ n4_ n5_; clear hb ho95; obtain ⟨Ao96, co96, eo96⟩ := Kd.N_slice HO740.out; subst eo96) | ((with_reducible refine gate_callee (f := 41) rfl ?_); refine goesL_ (some 107) rfl rfl Tryz.func41 (by kernel_rfl) rfl #[.slice Ao96 y738.length co96] rfl (by (try simp only [List.map_toArray, List.map_cons, List.map_nil]); first | done | rfl | (simp only [List.length_drop, List.length_take]; rfl)) ?_; (with_reducible refine (fold_Stack.calls kj47 _ _ y738 t741 _ ?side1 ?side2 A70.out).mono ?_); (case side1 => repeat (first | exact (Kd.N_reads' HO740.out).2.2 | (with_reducible refine Kd.C_alloc ?_ _) | (with_reducible refine Kd.C_drewN ?_ _) | (with_reducible refine Kd.C_drew ?_))); (case side2 => exact (Kd.N_reads' HO740.out).2.1); rintro e w97 ⟨v742, rfl, ho0, hb⟩; refine ⟨_, rfl, ?_⟩; have n0_ := Aside0.mk (Kd.R_below (by (with_reducible repeat (first | apply Kd.R_alloc | apply Kd.R_drewN | apply Kd.R_drew)); exact HO_14.out) hb); have n1_ := Aside0.mk (Kd.R_below (by (with_reducible repeat (first | apply Kd.R_alloc | apply Kd.R_drewN | apply Kd.R_drew)); exact HO_16.out) hb); have n2_ := Aside0.mk (Kd.N_elder' (by (with_reducible repeat (first | apply Kd.N_alloc | apply Kd.N_drewN | apply Kd.N_drew)); exact HO734.out) (Kd.R_base ho0) hb); have n3_ := Aside0.mk (Kd.R_elder' (by (with_reducible repeat (first | apply Kd.R_alloc | apply Kd.R_drewN | apply Kd.R_drew)); exact HO737.out) (Kd.R_base ho0) hb); have n4_ := Aside0.mk (Kd.N_elder' (by (with_reducible repeat (first | apply Kd.N_alloc | apply Kd.N_drewN | apply Kd.N_drew)); exact HO740.out) (Kd.R_base ho0) hb); have n5_ := Aside0.mk (Kd.R_lower (Kd.R_new' ho0 (Kd.R_lt (by (with_reducible repeat (first | apply Kd.R_alloc | apply Kd.R_drewN | apply Kd.R_drew)); exact HO737.out))) (below_size (by repeat (first | (with_reducible first | exact HB.out | apply below_alloc | apply pw_below_drewN | apply below_drew1) | exact HB.out)))); have n6_ := Aside0.mk (below_step (by repeat (first | (with_reducible first | exact HB.out | apply below_alloc | apply pw_below_drewN | apply below_drew1) | exact HB.out)) hb); clear HO_14; clear HO_16; clear HO734; clear HO737; clear HO740; clear HB; have HO_14 := n0_; have HO_16 := n1_; have HO734 := n2_; have HO737 := n3_; have HO740 := n4_; have HO743 := n5_; have HB := n6_; clear n0_ n1_ n2_ n3_ n4_ n5_ n6_; (try clear hb); (try clear hb2); (try clear hk); (try clear hi); (try clear ho0); obtain ⟨Ao98, co98, eo98⟩ := Kd.R_slice HO737.out; subst eo98; obtain ⟨Ao99, co99, eo99⟩ := Kd.R_slice HO743.out; subst eo99) | ((with_reducible refine gate_callee (f := 40) rfl ?_); refine goesL_ (some 108) rfl rfl Tryz.func40 (by kernel_rfl) rfl #[.slice Ao98 t735.length co98, .slice Ao99 t741.length co99] rfl (by (try simp only [List.map_toArray, List.map_cons, List.map_nil]); first | done | rfl | (simp only [List.length_drop, List.length_take]; rfl)) ?_; (with_reducible refine (shalelaw09_Same.calls kj47 _ _ t735 _ _ t741 t744 _ ?side1 ?side2 ?side3 ?side4 A71.out).mono ?_); (case side1 => repeat (first | exact (Kd.R_reads' HO737.out).2.2 | (with_reducible refine Kd.C_alloc ?_ _) | (with_reducible refine Kd.C_drewN ?_ _) | (with_reducible refine Kd.C_drew ?_))); (case side2 => exact (Kd.R_reads' HO737.out).2.1); (case side3 => repeat (first | exact (Kd.R_reads' HO743.out).2.2 | (with_reducible refine Kd.C_alloc ?_ _) | (with_reducible refine Kd.C_drewN ?_ _) | (with_reducible refine Kd.C_drew ?_))); (case side4 => exact (Kd.R_reads' HO743.out).2.1); rintro e w' ⟨rfl, ⟨nd, rfl⟩⟩; refine ⟨_, rfl, ?_⟩))
                        go_ret
                        exact ⟨by first | rfl | (simp [errW_none, errW_some] <;> rfl) | (simp [*, errW_none, errW_some] <;> rfl), by repeat (first | (with_reducible first | exact HB.out | apply below_alloc | apply pw_below_drewN | apply below_drew1) | exact HB.out)⟩
                    · rw [if_neg c72] at H
                      have c72b0 : (t744 == 1) = false := beq_eq_false_iff_ne.mpr c72
                      have c72b1 : (t744 != 1) = true := bne_iff_ne.mpr c72
                      exact Bool.noConfusion ((Option.some.inj H).trans HRR_.out)

end Go.Proofs.YtdmnpofodechpaaGreatDoor.Print
