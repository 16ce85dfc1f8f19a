import Derived.Test.YtdmnpofodechpaaGreatDoorPrint0
import Derived.Test.YtdmnpofodechpaaGreatDoorPrint1
import Derived.Test.YtdmnpofodechpaaGreatDoorPrint5
import Derived.Test.YtdmnpofodechpaaGreatDoorPrintAw12
import Derived.Test.YtdmnpofodechpaaGreatDoorPrintF
import Derived.Test.YtdmnpofodechpaaGreatDoorPrintFo
import Derived.Test.YtdmnpofodechpaaGreatDoorPrintR12
namespace Go.Proofs.YtdmnpofodechpaaGreatDoor.Print
open Go.RowKit Go.Proofs.YtdmnpofodechpaaGreatDoorW.PrintWords Go.Proofs.YtdmnpofodechpaaGreatDoorW.PrintLast Go.Proofs.YtdmnpofodechpaaGreatDoorW.PrintMore
attribute [local go_sem] max2_int min2_int max_two min_two max_three min_three max_four min_four   -- for this text's walks alone
set_option linter.unusedVariables false
set_option linter.unusedSimpArgs false
attribute [local go_sem high] eqA28
mutual
def shalelaw12_LookAll.j0 : Nat → List (List (S28)) → Bool → Option (Bool)
 | 0, _, _ => none
 | k + 1, x0, x18 => if x18 = true then ((shalelaw12_awake.f k).bind fun t289 => (some t289)) else ((fold_Stack.f k x0).bind fun t290 => (shalelaw12_LookAll.l0 k x0 t290 0))
def shalelaw12_LookAll.l0 : Nat → List (List (S28)) → List (S28) → Int → Option (Bool)
 | 0, _, _, _ => none
 | k + 1, x0, x3, x4 => if x4 < (x3.length : Int) then (if 0 ≤ x4 then ((look_At.f k x0 ((rd_T28 x3 x4).f0)).bind fun bt294 => ((fail_Code.f bt294.2.2.2.2).bind fun t302 => (if t302 = 0 then (if (!(bt294.1.toList == (((rd_T28 x3 x4).f0).toList)) || (!(bt294.2.1 == ((rd_T28 x3 x4).f1)) || (!(bt294.2.2.1.toList == (((rd_T28 x3 x4).f2).toList))))) = true then (some false) else (shalelaw12_LookAll.l0 k x0 x3 (wrap64 (x4 + 1)))) else (some false)))) else (none)) else (some true)
end
def shalelaw12_LookAll.f (k : Nat) (l0 : List (List (S28))) : Option (Bool) := (shalelaw12_awake.f k).bind fun t286 => (if t286 = true then ((shalelaw10_Few.f k l0).bind fun t287 => (if t287 = 0 then (shalelaw12_LookAll.j0 k l0 true) else ((shaleref12_Right.f k l0).bind fun t288 => (shalelaw12_LookAll.j0 k l0 (!t288))))) else (shalelaw12_LookAll.j0 k l0 true))
theorem shalelaw12_LookAll.mono_l : ∀ k, (∀ y0 y1, LeO (shalelaw12_LookAll.j0 k y0 y1) (shalelaw12_LookAll.j0 (k + 1) y0 y1)) ∧ (∀ y0 y1 y2, LeO (shalelaw12_LookAll.l0 k y0 y1 y2) (shalelaw12_LookAll.l0 (k + 1) y0 y1 y2))
 | 0 => ⟨fun _ _ r h => by simp [shalelaw12_LookAll.j0] at h, fun _ _ _ r h => by simp [shalelaw12_LookAll.l0] at h⟩
 | k + 1 => by
  obtain ⟨ih0, ih1⟩ := shalelaw12_LookAll.mono_l k
  refine ⟨?_, ?_⟩
  ·intro y0 y1
   unfold shalelaw12_LookAll.j0
   repeat' first
   | (with_reducible exact ih0 _ _)
   | (with_reducible exact ih1 _ _ _)
   | (with_reducible exact fold_Stack.mono _ _)
   | (with_reducible exact look_At.mono _ _ _)
   | (with_reducible exact shalelaw10_Few.mono _ _)
   | (with_reducible exact shalelaw12_awake.mono _)
   | (with_reducible exact shaleref12_Right.mono _ _)
   | (with_reducible exact LeO.refl _)
   | (with_reducible exact LeO.none _)
   | (with_reducible refine LeO.ite ?_ ?_)
   | (with_reducible refine LeO.bind ?_ (fun _ => ?_))
   | exact ih0 _ _
   | exact ih1 _ _ _
   | exact fold_Stack.mono _ _
   | exact look_At.mono _ _ _
   | exact shalelaw10_Few.mono _ _
   | exact shalelaw12_awake.mono _
   | exact shaleref12_Right.mono _ _
   | exact LeO.none _
   | refine LeO.ite ?_ ?_
   | refine LeO.bind ?_ (fun _ => ?_)
  ·intro y0 y1 y2
   unfold shalelaw12_LookAll.l0
   repeat' first
   | (with_reducible exact ih0 _ _)
   | (with_reducible exact ih1 _ _ _)
   | (with_reducible exact fold_Stack.mono _ _)
   | (with_reducible exact look_At.mono _ _ _)
   | (with_reducible exact shalelaw10_Few.mono _ _)
   | (with_reducible exact shalelaw12_awake.mono _)
   | (with_reducible exact shaleref12_Right.mono _ _)
   | (with_reducible exact LeO.refl _)
   | (with_reducible exact LeO.none _)
   | (with_reducible refine LeO.ite ?_ ?_)
   | (with_reducible refine LeO.bind ?_ (fun _ => ?_))
   | exact ih0 _ _
   | exact ih1 _ _ _
   | exact fold_Stack.mono _ _
   | exact look_At.mono _ _ _
   | exact shalelaw10_Few.mono _ _
   | exact shalelaw12_awake.mono _
   | exact shaleref12_Right.mono _ _
   | exact LeO.none _
   | refine LeO.ite ?_ ?_
   | refine LeO.bind ?_ (fun _ => ?_)
theorem shalelaw12_LookAll.mono : ∀ a0 k, LeO (shalelaw12_LookAll.f k a0) (shalelaw12_LookAll.f (k + 1) a0) := by
 intro a0 k
 obtain ⟨ih0, ih1⟩ := shalelaw12_LookAll.mono_l k
 unfold shalelaw12_LookAll.f
 repeat' first
   | (with_reducible exact ih0 _ _)
   | (with_reducible exact ih1 _ _ _)
   | (with_reducible exact fold_Stack.mono _ _)
   | (with_reducible exact look_At.mono _ _ _)
   | (with_reducible exact shalelaw10_Few.mono _ _)
   | (with_reducible exact shalelaw12_awake.mono _)
   | (with_reducible exact shaleref12_Right.mono _ _)
   | (with_reducible exact LeO.refl _)
   | (with_reducible exact LeO.none _)
   | (with_reducible refine LeO.ite ?_ ?_)
   | (with_reducible refine LeO.bind ?_ (fun _ => ?_))
   | exact ih0 _ _
   | exact ih1 _ _ _
   | exact fold_Stack.mono _ _
   | exact look_At.mono _ _ _
   | exact shalelaw10_Few.mono _ _
   | exact shalelaw12_awake.mono _
   | exact shaleref12_Right.mono _ _
   | exact LeO.none _
   | refine LeO.ite ?_ ?_
   | refine LeO.bind ?_ (fun _ => ?_)
def shalelaw12_LookAll.T8 : Bool × List (List Nat × List Nat) := (true, [([], []), ([0], [0]), ([1], [1]), ([2, 1], [2]), ([3], [3]), ([4, 3], [3, 4]), ([3], [3]), ([3], [3]), ([6, 7, 3], [3, 6, 7]), ([8, 3], [3, 8]), ([5, 9, 3], [3, 5, 9]), ([3, 10], [3, 10])])
def shalelaw12_LookAll.B8 : List Nat := [0, 1, 3, 7, 15, 31, 15, 15, 207, 463, 1023, 2047]
theorem shalelaw12_LookAll.tab8 : rtab .any (opsOf Tryz.f20 8) = shalelaw12_LookAll.T8 := by kernel_rfl
theorem shalelaw12_LookAll.bits8 : waitsOk shalelaw12_LookAll.T8.2 shalelaw12_LookAll.B8 = true := by kernel_rfl
set_option maxHeartbeats 8000000 in
set_option maxRecDepth 100000 in
theorem shalelaw12_LookAll.calls (k : Nat) (A0 : Option Addr) (c0 : Nat) (l0 : List (List (S28))) (r : Bool) (w : World) (hr0 : Kd.C (Kd.slice 28 k28) w A0 l0.length l0) (hc0 : l0.length ≤ c0) (hG : Gl w) (h : shalelaw12_LookAll.f k l0 = some r) (hr : r = true) :
  Calls Tryz.prog 20 #[.slice A0 l0.length c0] w fun e w' => e = .returned (.bool r) ∧ Below w.heap.size w w' := by
 have hu34 := Tryz.underlying34
 have hu28 := Tryz.underlying28
 have HR0 := Aside0.mk hr0
 have HC0 := Aside0.mk hc0
 clear hr0 hc0
 have HB := Aside0.mk (Below.refl w.heap.size w)
 have HG_ := Aside0.mk hG
 clear hG
 have H : ((shalelaw12_awake.f k).bind fun t286 => (if t286 = true then ((shalelaw10_Few.f k l0).bind fun t287 => (if t287 = 0 then (shalelaw12_LookAll.j0 k l0 true) else ((shaleref12_Right.f k l0).bind fun t288 => (shalelaw12_LookAll.j0 k l0 (!t288))))) else (shalelaw12_LookAll.j0 k l0 true))) = some r := h
 clear h
 have HRR_ := Aside0.mk hr
 clear hr
 have HC2 := Aside0.mk H
 clear H
 go_enter Tryz.func20, Tryz.ntmps20
 go_upto_region 1 with (fail)
 go_cut [18] (fun v18 wc => ∃ (kq : Nat) (x18_1 : Bool), v18 = .bool x18_1 ∧ Aside0 (shalelaw12_LookAll.j0 kq l0 x18_1 = some r) ∧ Aside0 (kq ≤ k) ∧ Aside0 (Below w.heap.size w wc))
 case first =>
  have H := HC2.out
  clear HC2
  replace H := Option.bind_eq_some_iff.mp H
  obtain ⟨t286, A30, H⟩ := H
  replace H : (if t286 = true then ((shalelaw10_Few.f k l0).bind fun t287 => (if t287 = 0 then (shalelaw12_LookAll.j0 k l0 true) else ((shaleref12_Right.f k l0).bind fun t288 => (shalelaw12_LookAll.j0 k l0 (!t288))))) else (shalelaw12_LookAll.j0 k l0 true)) = some r := H
  have A3 := Aside0.mk A30
  clear A30
  by_cases c4 : t286 = true
  ·subst c4
   have H1 : ((shalelaw10_Few.f k l0).bind fun t287 => (if t287 = 0 then (shalelaw12_LookAll.j0 k l0 true) else ((shaleref12_Right.f k l0).bind fun t288 => (shalelaw12_LookAll.j0 k l0 (!t288))))) = some r := by rw [if_pos rfl] at H; exact H
   clear H
   have H := H1
   clear H1
   replace H := Option.bind_eq_some_iff.mp H
   obtain ⟨t287, A50, H⟩ := H
   replace H : (if t287 = 0 then (shalelaw12_LookAll.j0 k l0 true) else ((shaleref12_Right.f k l0).bind fun t288 => (shalelaw12_LookAll.j0 k l0 (!t288)))) = some r := H
   have A5 := Aside0.mk A50
   clear A50
   by_cases c6 : t287 = 0
   ·rw [if_pos c6] at H
    have c6b0 : (t287 == 0) = true := beq_iff_eq.mpr c6
    have c6b1 : (t287 != 0) = false := bne_eq_false_iff_eq.mpr c6
    clear c6
    (first | rw [c6b0] | (simp only [i64_w, i32_w]; rw [c6b0]) | skip)
    have H' := Aside0.mk H
    clear H
    go_wp2_with (first | ((with_reducible refine gate_callee (f := 27) rfl ?_); refine goesL_ (some 7) rfl rfl Tryz.func27 (by kernel_rfl) rfl #[] rfl (by (try simp only [List.map_toArray, List.map_cons, List.map_nil]); first | done | rfl | (simp only [List.length_drop, List.length_take]; rfl)) ?_; (with_reducible refine (shalelaw12_awake.calls k  true _ ?side1 A3.out).mono ?_); (case side1 => exact Gl.below HG_.out (by repeat (first | (with_reducible first | exact HB.out | apply below_alloc | apply pw_below_drewN | apply below_drew1) | exact HB.out))); rintro e w7 ⟨rfl, hb⟩; refine ⟨_, rfl, ?_⟩; have n0_ := Aside0.mk (below_step (by repeat (first | (with_reducible first | exact HB.out | apply below_alloc | apply pw_below_drewN | apply below_drew1) | exact HB.out)) hb); clear HB; have HB := n0_; clear n0_; (try clear hb); (try clear hb2); (try clear hk); (try clear hi)) | (go_at_call 28; (with_reducible refine (shalelaw10_Few.calls k _ _ l0 t287 _ ?side1 ?side2 A5.out).mono ?_); (case side1 => repeat (first | exact (Kd.C_below HR0.out HB.out) | (with_reducible refine Kd.C_alloc ?_ _) | (with_reducible refine Kd.C_drewN ?_ _) | (with_reducible refine Kd.C_drew ?_))); (case side2 => exact HC0.out); rintro e w' ⟨rfl, ⟨nd, rfl⟩⟩))
    go_meet
    case rel => exact ⟨_, (true), (by first | rfl | (simp; done) | (simp [*]; done)), H', ⟨by first | omega | exact Nat.le_refl _⟩, ⟨by repeat (first | (with_reducible first | exact HB.out | apply below_alloc | apply pw_below_drewN | apply below_drew1) | exact HB.out)⟩⟩
   ·rw [if_neg c6] at H
    have c6b0 : (t287 == 0) = false := beq_eq_false_iff_ne.mpr c6
    have c6b1 : (t287 != 0) = true := bne_iff_ne.mpr c6
    (first | rw [c6b0] | (simp only [i64_w, i32_w]; rw [c6b0]) | skip)
    replace H := Option.bind_eq_some_iff.mp H
    obtain ⟨t288, A80, H⟩ := H
    replace H : (shalelaw12_LookAll.j0 k l0 (!t288)) = some r := H
    have A8 := Aside0.mk A80
    clear A80
    have H' := Aside0.mk H
    clear H
    go_wp2_with (first | ((with_reducible refine gate_callee (f := 27) rfl ?_); refine goesL_ (some 7) rfl rfl Tryz.func27 (by kernel_rfl) rfl #[] rfl (by (try simp only [List.map_toArray, List.map_cons, List.map_nil]); first | done | rfl | (simp only [List.length_drop, List.length_take]; rfl)) ?_; (with_reducible refine (shalelaw12_awake.calls k  true _ ?side1 A3.out).mono ?_); (case side1 => exact Gl.below HG_.out (by repeat (first | (with_reducible first | exact HB.out | apply below_alloc | apply pw_below_drewN | apply below_drew1) | exact HB.out))); rintro e w9 ⟨rfl, hb⟩; refine ⟨_, rfl, ?_⟩; have n0_ := Aside0.mk (below_step (by repeat (first | (with_reducible first | exact HB.out | apply below_alloc | apply pw_below_drewN | apply below_drew1) | exact HB.out)) hb); clear HB; have HB := n0_; clear n0_; (try clear hb); (try clear hb2); (try clear hk); (try clear hi)) | (go_at_call 28; (with_reducible refine (shalelaw10_Few.calls k _ _ l0 t287 _ ?side1 ?side2 A5.out).mono ?_); (case side1 => repeat (first | exact (Kd.C_below HR0.out HB.out) | (with_reducible refine Kd.C_alloc ?_ _) | (with_reducible refine Kd.C_drewN ?_ _) | (with_reducible refine Kd.C_drew ?_))); (case side2 => exact HC0.out); rintro e w' ⟨rfl, ⟨nd, rfl⟩⟩) | (go_at_call 29; (with_reducible refine (shaleref12_Right.calls k _ _ l0 t288 _ ?side1 ?side2 A8.out).mono ?_); (case side1 => repeat (first | exact (Kd.C_below HR0.out (by repeat (first | (with_reducible first | exact HB.out | apply below_alloc | apply pw_below_drewN | apply below_drew1) | exact HB.out))) | (with_reducible refine Kd.C_alloc ?_ _) | (with_reducible refine Kd.C_drewN ?_ _) | (with_reducible refine Kd.C_drew ?_))); (case side2 => exact HC0.out); rintro e w10 ⟨rfl, hb⟩; have n0_ := Aside0.mk (below_step (by repeat (first | (with_reducible first | exact HB.out | apply below_alloc | apply pw_below_drewN | apply below_drew1) | exact HB.out)) hb); clear HB; have HB := n0_; clear n0_; (try clear hb); (try clear hb2); (try clear hk); (try clear hi)))
    go_meet
    case rel => exact ⟨_, (!t288), (by first | rfl | (simp; done) | (simp [*]; done)), H', ⟨by first | omega | exact Nat.le_refl _⟩, ⟨by repeat (first | (with_reducible first | exact HB.out | apply below_alloc | apply pw_below_drewN | apply below_drew1) | exact HB.out)⟩⟩
  ·replace c4 := Bool.eq_false_iff.mpr c4
   subst c4
   have H1 : (shalelaw12_LookAll.j0 k l0 true) = some r := by rw [if_neg (show ¬ (false = true) by decide)] at H; exact H
   clear H
   have H := H1
   clear H1
   have H' := Aside0.mk H
   clear H
   go_wp2_with (first | ((with_reducible refine gate_callee (f := 27) rfl ?_); refine goesL_ (some 7) rfl rfl Tryz.func27 (by kernel_rfl) rfl #[] rfl (by (try simp only [List.map_toArray, List.map_cons, List.map_nil]); first | done | rfl | (simp only [List.length_drop, List.length_take]; rfl)) ?_; (with_reducible refine (shalelaw12_awake.calls k  false _ ?side1 A3.out).mono ?_); (case side1 => exact Gl.below HG_.out (by repeat (first | (with_reducible first | exact HB.out | apply below_alloc | apply pw_below_drewN | apply below_drew1) | exact HB.out))); rintro e w11 ⟨rfl, hb⟩; refine ⟨_, rfl, ?_⟩; have n0_ := Aside0.mk (below_step (by repeat (first | (with_reducible first | exact HB.out | apply below_alloc | apply pw_below_drewN | apply below_drew1) | exact HB.out)) hb); clear HB; have HB := n0_; clear n0_; (try clear hb); (try clear hb2); (try clear hk); (try clear hi)))
   go_meet
   case rel => exact ⟨_, (true), (by first | rfl | (simp; done) | (simp [*]; done)), H', ⟨by first | omega | exact Nat.le_refl _⟩, ⟨by repeat (first | (with_reducible first | exact HB.out | apply below_alloc | apply pw_below_drewN | apply below_drew1) | exact HB.out)⟩⟩
 case rest =>
  clear HC2
  try clear c2
  try clear p2
  try clear c4
  try clear c6
  try clear c6b0
  try clear c6b1
  obtain ⟨kq, x18_1, rfl, HA, HJ1, HB⟩ := hcut
  cases kq with
  | zero => exact absurd HA.out (by simp [shalelaw12_LookAll.j0])
  | succ kj1 =>
   have H := HA.out
   clear HA
   simp only [shalelaw12_LookAll.j0] at H
   by_cases c12 : x18_1 = true
   ·subst c12
    have H1 : ((shalelaw12_awake.f kj1).bind fun t289 => (some t289)) = some r := by rw [if_pos rfl] at H; exact H
    clear H
    have H := H1
    clear H1
    replace H := Option.bind_eq_some_iff.mp H
    obtain ⟨t289, A130, H⟩ := H
    replace H : (some t289) = some r := H
    have A13 := Aside0.mk A130
    clear A130
    obtain rfl := Option.some.inj H
    go_wp2_with (first | ((with_reducible refine gate_callee (f := 27) rfl ?_); refine goesL_ (some 19) rfl rfl Tryz.func27 (by kernel_rfl) rfl #[] rfl (by (try simp only [List.map_toArray, List.map_cons, List.map_nil]); first | done | rfl | (simp only [List.length_drop, List.length_take]; rfl)) ?_; (with_reducible refine (shalelaw12_awake.calls kj1  t289 _ ?side1 A13.out).mono ?_); (case side1 => exact Gl.below HG_.out (by repeat (first | (with_reducible first | exact HB.out | apply below_alloc | apply pw_below_drewN | apply below_drew1) | exact HB.out))); rintro e w14 ⟨rfl, hb⟩; refine ⟨_, rfl, ?_⟩; have n0_ := Aside0.mk (below_step (by repeat (first | (with_reducible first | exact HB.out | apply below_alloc | apply pw_below_drewN | apply below_drew1) | exact HB.out)) hb); clear HB; have HB := n0_; clear n0_; (try clear hb); (try clear hb2); (try clear hk); (try clear hi)))
    go_ret
    exact ⟨by first | rfl | (simp [errW_none, errW_some] <;> rfl) | (simp [*, errW_none, errW_some] <;> rfl), by repeat (first | (with_reducible first | exact HB.out | apply below_alloc | apply pw_below_drewN | apply below_drew1) | exact HB.out)⟩
   ·replace c12 := Bool.eq_false_iff.mpr c12
    subst c12
    have H1 : ((fold_Stack.f kj1 l0).bind fun t290 => (shalelaw12_LookAll.l0 kj1 l0 t290 0)) = some r := by rw [if_neg (show ¬ (false = true) by decide)] at H; exact H
    clear H
    have H := H1
    clear H1
    replace H := Option.bind_eq_some_iff.mp H
    obtain ⟨t290, A150, H⟩ := H
    replace H : (shalelaw12_LookAll.l0 kj1 l0 t290 0) = some r := H
    have A15 := Aside0.mk A150
    clear A150
    have H' := Aside0.mk H
    clear H
    go_wp2_with (first | ((with_reducible refine gate_callee (f := 41) rfl ?_); refine goesL_ (some 21) rfl rfl Tryz.func41 (by kernel_rfl) rfl #[.slice A0 l0.length c0] rfl (by (try simp only [List.map_toArray, List.map_cons, List.map_nil]); first | done | rfl | (simp only [List.length_drop, List.length_take]; rfl)) ?_; (with_reducible refine (fold_Stack.calls kj1 _ _ l0 t290 _ ?side1 ?side2 A15.out).mono ?_); (case side1 => repeat (first | exact (Kd.C_below HR0.out HB.out) | (with_reducible refine Kd.C_alloc ?_ _) | (with_reducible refine Kd.C_drewN ?_ _) | (with_reducible refine Kd.C_drew ?_))); (case side2 => exact HC0.out); rintro e w16 ⟨v291, rfl, ho0, hb⟩; refine ⟨_, rfl, ?_⟩; have n0_ := Aside0.mk (Kd.R_lower ho0 (below_size (by repeat (first | (with_reducible first | exact HB.out | apply below_alloc | apply pw_below_drewN | apply below_drew1) | exact HB.out)))); have n1_ := Aside0.mk (below_step (by repeat (first | (with_reducible first | exact HB.out | apply below_alloc | apply pw_below_drewN | apply below_drew1) | exact HB.out)) hb); clear HB; have HO292 := n0_; have HB := n1_; clear n0_ n1_; (try clear hb); (try clear hb2); (try clear hk); (try clear hi); (try clear ho0)))
    go_loopg [4] kj1 (fun kq v4 w' => ∃ (x4_2 : Int), v4 = .int .i64 x4_2 ∧ Aside0 (shalelaw12_LookAll.l0 kq l0 t290 x4_2 = some r) ∧ Aside0 (kq ≤ kj1) ∧ Aside0 (Kd.R k28 28 w' w.heap.size (fun _ => True) v291 t290) ∧ Aside0 (Below w.heap.size w w'))
    case atStart => exact ⟨(0), (by first | rfl | (simp; done) | (simp [*]; done)), H', ⟨Nat.le_refl _⟩, ⟨by (with_reducible repeat (first | apply Kd.R_alloc | apply Kd.R_drewN | apply Kd.R_drew)); exact HO292.out⟩, ⟨by repeat (first | (with_reducible first | exact HB.out | apply below_alloc | apply pw_below_drewN | apply below_drew1) | exact HB.out)⟩⟩
    case round =>
     clear H'
     try clear c1
     try clear c2
     try clear p2
     try clear c4
     try clear c6
     try clear c6b0
     try clear c6b1
     try clear c12
     try clear p2
     obtain ⟨x4_2, rfl, HA, HK2, HO_3, HB⟩ := hrel
     cases gk with
     | zero => exact absurd HA.out (by simp [shalelaw12_LookAll.l0])
     | succ k2 =>
      have H := HA.out
      clear HA
      simp only [shalelaw12_LookAll.l0] at H
      by_cases c17 : x4_2 < (t290.length : Int)
      ·rw [if_pos c17] at H
       have c17b0 : decide (x4_2 < (t290.length : Int)) = true := decide_eq_true c17
       clear c17
       by_cases c18 : 0 ≤ x4_2
       ·rw [if_pos c18] at H
        have c18b0 : decide (0 ≤ x4_2) = true := decide_eq_true c18
        clear c18
        replace H := Option.bind_eq_some_iff.mp H
        obtain ⟨⟨t294, t295, t296, t297, t298⟩, A190, H⟩ := H
        replace H : ((fail_Code.f t298).bind fun t302 => (if t302 = 0 then (if (!(t294.toList == (((rd_T28 t290 x4_2).f0).toList)) || (!(t295 == ((rd_T28 t290 x4_2).f1)) || (!(t296.toList == (((rd_T28 t290 x4_2).f2).toList))))) = true then (some false) else (shalelaw12_LookAll.l0 k2 l0 t290 (wrap64 (x4_2 + 1)))) else (some false))) = some r := H
        have A19 := Aside0.mk A190
        clear A190
        replace H := Option.bind_eq_some_iff.mp H
        obtain ⟨t302, A200, H⟩ := H
        replace H : (if t302 = 0 then (if (!(t294.toList == (((rd_T28 t290 x4_2).f0).toList)) || (!(t295 == ((rd_T28 t290 x4_2).f1)) || (!(t296.toList == (((rd_T28 t290 x4_2).f2).toList))))) = true then (some false) else (shalelaw12_LookAll.l0 k2 l0 t290 (wrap64 (x4_2 + 1)))) else (some false)) = some r := H
        have A20 := Aside0.mk A200
        clear A200
        by_cases c21 : t302 = 0
        ·rw [if_pos c21] at H
         have c21b0 : (t302 == 0) = true := beq_iff_eq.mpr c21
         have c21b1 : (t302 != 0) = false := bne_eq_false_iff_eq.mpr c21
         clear c21
         by_cases c22 : (!(t294.toList == (((rd_T28 t290 x4_2).f0).toList)) || (!(t295 == ((rd_T28 t290 x4_2).f1)) || (!(t296.toList == (((rd_T28 t290 x4_2).f2).toList))))) = true
         ·rw [if_pos c22] at H
          have c22b0 : (!(t294.toList == (((rd_T28 t290 x4_2).f0).toList)) || (!(t295 == ((rd_T28 t290 x4_2).f1)) || (!(t296.toList == (((rd_T28 t290 x4_2).f2).toList))))) = true := c22
          (try (have c22b8 := c22b0; simp only [beq_true, beq_false, Bool.true_beq, Bool.false_beq, bne, Bool.not_eq_true', Bool.not_eq_false', Bool.not_true, Bool.not_false] at c22b8))
          clear c22
          exact Bool.noConfusion ((Option.some.inj H).trans HRR_.out)
         ·rw [if_neg c22] at H
          have c22b0 : (!(t294.toList == (((rd_T28 t290 x4_2).f0).toList)) || (!(t295 == ((rd_T28 t290 x4_2).f1)) || (!(t296.toList == (((rd_T28 t290 x4_2).f2).toList))))) = false := by simpa using c22
          (try (have c22b8 := c22b0; simp only [beq_true, beq_false, Bool.true_beq, Bool.false_beq, bne, Bool.not_eq_true', Bool.not_eq_false', Bool.not_true, Bool.not_false] at c22b8))
          clear c22
          have H' := Aside0.mk H
          clear H
          obtain ⟨Ao23, co23, eo23⟩ := Kd.R_slice HO_3.out
          subst eo23
          have p293 : 0 ≤ (x4_2 : Int) := of_decide_eq_true (by first | (with_reducible assumption) | assumption)
          have q293 : x4_2 < (t290.length : Int) := of_decide_eq_true (by first | (with_reducible assumption) | assumption)
          obtain ⟨ad293, e293, hx293_0, hx293_1, hx293_2⟩ := at_T28 (Kd.R_reads' HO_3.out).2.2 x4_2 p293 q293
          cases e293
          replace p293 := eq_true p293
          replace q293 := eq_true q293
          try go_wp2_with (first | ((with_reducible refine gate_callee (f := 30) rfl ?_); refine goesL_ (some 35) rfl rfl Tryz.func30 (by kernel_rfl) rfl #[.slice A0 l0.length c0, .string ((rd_T28 t290 x4_2).f0)] rfl (by (try simp only [List.map_toArray, List.map_cons, List.map_nil]); first | done | rfl | (simp only [List.length_drop, List.length_take]; rfl)) ?_; (with_reducible refine (look_At.calls k2 _ _ l0 ((rd_T28 t290 x4_2).f0) t294 t295 t296 t297 t298 _ ?side1 ?side2 A19.out).mono ?_); (case side1 => repeat (first | exact (Kd.C_below HR0.out HB.out) | (with_reducible refine Kd.C_alloc ?_ _) | (with_reducible refine Kd.C_drewN ?_ _) | (with_reducible refine Kd.C_drew ?_))); (case side2 => exact HC0.out); rintro e w24 ⟨v299, rfl, ho0, hb⟩; refine ⟨_, rfl, ?_⟩; have n0_ := Aside0.mk (Kd.R_below (by (with_reducible repeat (first | apply Kd.R_alloc | apply Kd.R_drewN | apply Kd.R_drew)); exact HO_3.out) hb); have n1_ := Aside0.mk (Kd.R_lower ho0 (below_size (by repeat (first | (with_reducible first | exact HB.out | apply below_alloc | apply pw_below_drewN | apply below_drew1) | exact HB.out)))); have n2_ := Aside0.mk (below_step (by repeat (first | (with_reducible first | exact HB.out | apply below_alloc | apply pw_below_drewN | apply below_drew1) | exact HB.out)) hb); clear HO_3; clear HB; have HO_3 := n0_; have HO300 := n1_; have HB := n2_; clear n0_ n1_ n2_; (try clear hb); (try clear hb2); (try clear hk); (try clear hi); (try clear ho0); have hE_v299 := errNil_of HO300.out) | ((with_reducible refine gate_dst (N := 5) rfl ?_); refine box_event ?hg (N := 5) ?hd (cs := #[.string (⟨#[]⟩ : ByteArray), .int .i64 0, .string (⟨#[]⟩ : ByteArray), .int .i64 0]) (t := 34) ?hr ?_; (case hd => rfl); (case hg => rfl); (case hr => first | (go_simp; done) | (go_simp; rfl)); intro gb301 hg w25 hbox hb; have n0_ := Aside0.mk (Kd.R_below (by (with_reducible repeat (first | apply Kd.R_alloc | apply Kd.R_drewN | apply Kd.R_drew)); exact HO_3.out) hb); have n1_ := Aside0.mk (Kd.R_below (by (with_reducible repeat (first | apply Kd.R_alloc | apply Kd.R_drewN | apply Kd.R_drew)); exact HO300.out) hb); have n2_ := Aside0.mk (below_step (by repeat (first | (with_reducible first | exact HB.out | apply below_alloc | apply pw_below_drewN | apply below_drew1) | exact HB.out)) hb); have n3_ := Aside0.mk (hbox); have n4_ := Aside0.mk ((by rw [hg]; exact (below_size (by repeat (first | (with_reducible first | exact HB.out | apply below_alloc | apply pw_below_drewN | apply below_drew1) | exact HB.out))) : w.heap.size ≤ gb301)); have n5_ := Aside0.mk ((by rw [hg]; exact (below_size (by repeat (first | (with_reducible first | exact HB.out | apply below_alloc | apply pw_below_drewN | apply below_drew1) | exact HB.out))) : w.heap.size ≤ gb301)); clear HO_3; clear HO300; clear HB; have HO_3 := n0_; have HO300 := n1_; have HB := n2_; have BK301 := n3_; have GW301 := n4_; have GE301 := n5_; clear n0_ n1_ n2_ n3_ n4_ n5_; clear hb hbox hg; have hcz26_0 : w25.cell? ⟨gb301, 0, none⟩ = some (.string (⟨#[]⟩ : ByteArray)) := (blk_cell BK301.out 0).trans rfl; have hcz26_1 : w25.cell? ⟨gb301, 1, none⟩ = some (.int .i64 0) := (blk_cell BK301.out 1).trans rfl; have hcz26_2 : w25.cell? ⟨gb301, 2, none⟩ = some (.string (⟨#[]⟩ : ByteArray)) := (blk_cell BK301.out 2).trans rfl; have hcz26_3 : w25.cell? ⟨gb301, 3, none⟩ = some (.int .i64 0) := (blk_cell BK301.out 3).trans rfl; have hfz26_0 := blk_frozen BK301.out 0; have hfz26_1 := blk_frozen BK301.out 1; have hfz26_2 := blk_frozen BK301.out 2; have hfz26_3 := blk_frozen BK301.out 3))
          have n0_ : Aside0 (Kd.R k28 28 ((((w25.setCell ⟨gb301, 0, none⟩ (.string t294)).setCell ⟨gb301, 1, none⟩ (.int .i64 t295)).setCell ⟨gb301, 2, none⟩ (.string t296)).setCell ⟨gb301, 3, none⟩ (.int .i64 t297)) w.heap.size (fun _ => True) (.slice (some ad293) t290.length co23) t290) := ⟨by (with_reducible repeat (first | apply Kd.R_alloc | apply Kd.R_drewN | apply Kd.R_drew)); exact Kd.R_mono (Kd.R_far (p := ⟨gb301, 3, none⟩) (Kd.R_far (p := ⟨gb301, 2, none⟩) (Kd.R_far (p := ⟨gb301, 1, none⟩) (Kd.R_far (p := ⟨gb301, 0, none⟩) (Kd.R_types HO_3.out BK301.out (by decide)) (fun _ hk => hk.2) (.string t294)) (fun _ hk => hk.2) (.int .i64 t295)) (fun _ hk => hk.2) (.string t296)) (fun _ hk => hk.2) (.int .i64 t297)) (fun _ hk => trivial)⟩
          have n1_ : Aside0 (Kd.R kdF 136 ((((w25.setCell ⟨gb301, 0, none⟩ (.string t294)).setCell ⟨gb301, 1, none⟩ (.int .i64 t295)).setCell ⟨gb301, 2, none⟩ (.string t296)).setCell ⟨gb301, 3, none⟩ (.int .i64 t297)) w.heap.size (fun _ => True) v299 t298) := ⟨by (with_reducible repeat (first | apply Kd.R_alloc | apply Kd.R_drewN | apply Kd.R_drew)); exact Kd.R_mono (Kd.R_far (p := ⟨gb301, 3, none⟩) (Kd.R_far (p := ⟨gb301, 2, none⟩) (Kd.R_far (p := ⟨gb301, 1, none⟩) (Kd.R_far (p := ⟨gb301, 0, none⟩) (Kd.R_types HO300.out BK301.out (by decide)) (fun _ hk => hk.2) (.string t294)) (fun _ hk => hk.2) (.int .i64 t295)) (fun _ hk => hk.2) (.string t296)) (fun _ hk => hk.2) (.int .i64 t297)) (fun _ hk => trivial)⟩
          have n2_ : Aside0 (((((w25.setCell ⟨gb301, 0, none⟩ (.string t294)).setCell ⟨gb301, 1, none⟩ (.int .i64 t295)).setCell ⟨gb301, 2, none⟩ (.string t296)).setCell ⟨gb301, 3, none⟩ (.int .i64 t297)).heap[gb301]? = some (.cells #[.string t294, .int .i64 t295, .string t296, .int .i64 t297] 34 (0, 0))) := ⟨by (with_reducible repeat (first | refine blk_drewN ?_ _ | refine blk_drew ?_ | refine blk_alloc ?_ _)); refine blk_put (cs := #[.string t294, .int .i64 t295, .string t296, .int .i64 0]) ?_ 3 _ rfl; (with_reducible repeat (first | refine blk_drewN ?_ _ | refine blk_drew ?_ | refine blk_alloc ?_ _)); refine blk_put (cs := #[.string t294, .int .i64 t295, .string (⟨#[]⟩ : ByteArray), .int .i64 0]) ?_ 2 _ rfl; (with_reducible repeat (first | refine blk_drewN ?_ _ | refine blk_drew ?_ | refine blk_alloc ?_ _)); refine blk_put (cs := #[.string t294, .int .i64 0, .string (⟨#[]⟩ : ByteArray), .int .i64 0]) ?_ 1 _ rfl; (with_reducible repeat (first | refine blk_drewN ?_ _ | refine blk_drew ?_ | refine blk_alloc ?_ _)); refine blk_put (cs := #[.string (⟨#[]⟩ : ByteArray), .int .i64 0, .string (⟨#[]⟩ : ByteArray), .int .i64 0]) ?_ 0 _ rfl; (with_reducible repeat (first | refine blk_drewN ?_ _ | refine blk_drew ?_ | refine blk_alloc ?_ _)); exact BK301.out⟩
          have n3_ : Aside0 (Below w.heap.size w ((((w25.setCell ⟨gb301, 0, none⟩ (.string t294)).setCell ⟨gb301, 1, none⟩ (.int .i64 t295)).setCell ⟨gb301, 2, none⟩ (.string t296)).setCell ⟨gb301, 3, none⟩ (.int .i64 t297))) := ⟨by repeat (first | (with_reducible first | exact HB.out | apply below_alloc | apply pw_below_drewN | apply below_drew1 | refine below_set ?_ GE301.out) | exact HB.out)⟩
          (try clear HO_3)
          (try clear HO300)
          (try clear BK301)
          (try clear HB)
          generalize ((((w25.setCell ⟨gb301, 0, none⟩ (.string t294)).setCell ⟨gb301, 1, none⟩ (.int .i64 t295)).setCell ⟨gb301, 2, none⟩ (.string t296)).setCell ⟨gb301, 3, none⟩ (.int .i64 t297)) = w27 at n0_ n1_ n2_ n3_ ⊢
          have HO_3 := n0_
          have HO300 := n1_
          have BK301 := n2_
          have HB := n3_
          clear n0_ n1_ n2_ n3_
          have n0_ := Aside0.mk (Kd.R_drew HO_3.out)
          have n1_ := Aside0.mk (Kd.R_drew HO300.out)
          have n2_ := Aside0.mk (blk_drew BK301.out)
          have n3_ := Aside0.mk (below_drew1 HB.out)
          clear HO_3
          clear HO300
          clear BK301
          clear HB
          have HO_3 := n0_
          have HO300 := n1_
          have BK301 := n2_
          have HB := n3_
          clear n0_ n1_ n2_ n3_
          obtain ⟨Ao29, co29, eo29⟩ := Kd.R_slice HO300.out
          (first | subst eo29 | (injection eo29 with f1_ f2_ f3_; have f4_ := f1_.symm; have f5_ := f3_.symm; clear f1_ f2_ f3_; subst f4_; subst f5_))
          have p303 : 0 ≤ (x4_2 : Int) := of_decide_eq_true (by first | (with_reducible assumption) | assumption)
          have q303 : x4_2 < (t290.length : Int) := of_decide_eq_true (by first | (with_reducible assumption) | assumption)
          obtain ⟨ad303, e303, hx303_0, hx303_1, hx303_2⟩ := at_T28 (Kd.R_reads' HO_3.out).2.2 x4_2 p303 q303
          obtain rfl : ad293 = ad303 := (by injection e303)
          replace p303 := eq_true p303
          replace q303 := eq_true q303
          refine start_ (n := 12) (S := fun w' => w'.cell? ⟨gb301, 0, none⟩ = some (.string t294) ∧ w'.cell? ⟨gb301, 1, none⟩ = some (.int .i64 t295) ∧ w'.cell? ⟨gb301, 2, none⟩ = some (.string t296) ∧ w'.cell? ⟨gb301, 3, none⟩ = some (.int .i64 t297) ∧ w'.cell? (ad293.add ((x4_2).toNat * 3)) = some (.string ((rd_T28 t290 x4_2).f0)) ∧ w'.cell? ⟨(ad293.add ((x4_2).toNat * 3)).block, (ad293.add ((x4_2).toNat * 3)).off + 1, none⟩ = some (.int .i64 ((rd_T28 t290 x4_2).f1)) ∧ w'.cell? ⟨(ad293.add ((x4_2).toNat * 3)).block, (ad293.add ((x4_2).toNat * 3)).off + 2, none⟩ = some (.string ((rd_T28 t290 x4_2).f2))) (ds := []) #[false, false, false, false, false, false, false, false, false, false, false, false] (by kernel_rfl) rfl rfl ⟨(blk_cell BK301.out 0).trans rfl, (blk_cell BK301.out 1).trans rfl, (blk_cell BK301.out 2).trans rfl, (blk_cell BK301.out 3).trans rfl, hx303_0, hx303_1, hx303_2⟩ (fun hHeld => ?_); refine with_tabW shalelaw12_LookAll.tab8 shalelaw12_LookAll.bits8 (fun HT_ HW_ => ?_)
          generalize w27.drew = w28 at HO_3 HO300 BK301 HB hx303_0 hx303_1 hx303_2 hHeld ⊢
          refine pure_ (i := 0) (N := some 38) (v := ?_) (a' := ?_) #[true, false, false, false, false, false, false, false, false, false, false, false] rfl rfl (any_of HT_.out (by kernel_rfl)) (fun _ _ _ h => h) (Or.inl ⟨by rfl, ?_⟩) ?_ ?_
          rotate_left
          ·intro w'
           go_simp
           with_reducible rfl
          rotate_left
          ·simp only [Act.put, List.setIfInBounds_toArray, List.set_cons_zero, List.set_cons_succ, i64_w, i32_w]
           rfl
          refine one_ (i := 1) (N := some 39) #[true, true, false, false, false, false, false, false, false, false, false, false] rfl rfl (one_of HT_.out (by kernel_rfl)) (by decide) (fun K hK => ?_)
          refine goes_ Tryz.func31 (by kernel_rfl) rfl #[(errV (.slice Ao29 t298.length co29))] (by rfl) rfl rfl (by (try simp only [List.map_toArray, List.map_cons, List.map_nil]); first | done | rfl | (simp only [List.length_drop, List.length_take]; rfl)) ?_
          with_reducible refine (fail_Code.calls _ _ t298 t302 _ ?side1 ?side2 ?side3 A20.out).mono ?_
          (case side1 => repeat (first | exact (Kd.R_reads' HO300.out).2.2 | (with_reducible refine Kd.C_alloc ?_ _) | (with_reducible refine Kd.C_drewN ?_ _) | (with_reducible refine Kd.C_drew ?_)))
          (case side2 => exact (Kd.R_reads' HO300.out).2.1)
          (case side3 => exact Gl.below HG_.out (by repeat (first | (with_reducible first | exact HB.out | apply below_alloc | apply pw_below_drewN | apply below_drew1 | refine below_set ?_ GE301.out) | exact HB.out)))
          rintro e w30 ⟨rfl, hb⟩
          have HS4_ := (hb.cell (World.block_lt_of_cell? _ _ (hHeld.2.2.2.2.1))).trans (hHeld.2.2.2.2.1)
          have HS5_ := (hb.cell (World.block_lt_of_cell? _ _ (hHeld.2.2.2.2.2.1))).trans (hHeld.2.2.2.2.2.1)
          have HS6_ := (hb.cell (World.block_lt_of_cell? _ _ (hHeld.2.2.2.2.2.2))).trans (hHeld.2.2.2.2.2.2)
          refine ⟨_, rfl, ?_⟩
          have n0_ := Aside0.mk (Kd.R_below (by (with_reducible repeat (first | apply Kd.R_alloc | apply Kd.R_drewN | apply Kd.R_drew)); exact HO_3.out) hb)
          have n1_ := Aside0.mk (Kd.R_below (by (with_reducible repeat (first | apply Kd.R_alloc | apply Kd.R_drewN | apply Kd.R_drew)); exact HO300.out) hb)
          have n2_ := Aside0.mk (blk_below (g := gb301) (o := .cells #[.string t294, .int .i64 t295, .string t296, .int .i64 t297] 34 (0, 0)) (by (with_reducible repeat (first | refine blk_drewN ?_ _ | refine blk_drew ?_ | refine blk_alloc ?_ _)); exact BK301.out) hb)
          have n3_ := Aside0.mk (below_step (by repeat (first | (with_reducible first | exact HB.out | apply below_alloc | apply pw_below_drewN | apply below_drew1 | refine below_set ?_ GE301.out) | exact HB.out)) hb)
          clear HO_3
          clear HO300
          clear BK301
          clear HB
          have HO_3 := n0_
          have HO300 := n1_
          have BK301 := n2_
          have HB := n3_
          clear n0_ n1_ n2_ n3_
          (try clear hb)
          (try clear hb2)
          (try clear hk)
          (try clear hi)
          refine hK.out _ _ ⟨(blk_cell BK301.out 0).trans rfl, (blk_cell BK301.out 1).trans rfl, (blk_cell BK301.out 2).trans rfl, (blk_cell BK301.out 3).trans rfl, HS4_, HS5_, HS6_⟩ (fun hHeld => ?_)
          clear hK K
          refine norm_ (a' := ?_) ?_ ?_
          rotate_left
          ·show Act.put _ (some 39) _ = _
           simp only [Act.put, List.setIfInBounds_toArray, List.set_cons_zero, List.set_cons_succ, i64_w, i32_w]
           rfl
          refine pure_ (i := 2) (N := some 40) (v := ?_) (a' := ?_) #[true, true, true, false, false, false, false, false, false, false, false, false] rfl rfl (any_of HT_.out (by kernel_rfl)) (fun _ _ _ h => h) (Or.inl ⟨by rfl, ?_⟩) ?_ ?_
          rotate_left
          ·intro w'
           go_simp
           with_reducible rfl
          rotate_left
          ·simp only [Act.put, List.setIfInBounds_toArray, List.set_cons_zero, List.set_cons_succ, i64_w, i32_w]
           rfl
          refine pure_ (i := 3) (N := some 41) (v := ?_) (a' := ?_) #[true, true, true, true, false, false, false, false, false, false, false, false] rfl rfl (any_of HT_.out (by kernel_rfl)) (fun _ _ _ h => h) (Or.inl ⟨by rfl, ?_⟩) ?_ ?_
          rotate_left
          ·intro w'
           go_simp
           with_reducible rfl
          rotate_left
          ·simp only [Act.put, List.setIfInBounds_toArray, List.set_cons_zero, List.set_cons_succ, i64_w, i32_w]
           rfl
          refine pure_ (i := 4) (N := some 42) (v := ?_) (a' := ?_) #[true, true, true, true, true, false, false, false, false, false, false, false] rfl rfl (any_of HT_.out (by kernel_rfl)) (fun _ _ _ h => h) (Or.inl ⟨by rfl, ?_⟩) ?_ ?_
          rotate_left
          ·intro w'
           go_simp
           with_reducible rfl
          rotate_left
          ·simp only [Act.put, List.setIfInBounds_toArray, List.set_cons_zero, List.set_cons_succ, i64_w, i32_w]
           rfl
          refine pure_ (i := 6) (N := some 44) (v := ?_) (a' := ?_) #[true, true, true, true, true, false, true, false, false, false, false, false] rfl rfl (any_of HT_.out (by kernel_rfl)) (fun _ _ _ h => h) (Or.inl ⟨by rfl, ?_⟩) ?_ ?_
          rotate_left
          ·intro w'
           go_simp
           with_reducible rfl
          rotate_left
          ·simp only [Act.put, List.setIfInBounds_toArray, List.set_cons_zero, List.set_cons_succ, i64_w, i32_w]
           rfl
          refine pure_ (i := 7) (N := some 45) (v := ?_) (a' := ?_) #[true, true, true, true, true, false, true, true, false, false, false, false] rfl rfl (any_of HT_.out (by kernel_rfl)) (fun _ _ _ h => h) (Or.inl ⟨by rfl, ?_⟩) ?_ ?_
          rotate_left
          ·intro w'
           go_simp
           with_reducible rfl
          rotate_left
          ·simp only [Act.put, List.setIfInBounds_toArray, List.set_cons_zero, List.set_cons_succ, i64_w, i32_w]
           rfl
          refine pure_ (i := 8) (N := some 46) (v := ?_) (a' := ?_) #[true, true, true, true, true, false, true, true, true, false, false, false] rfl rfl (any_of HT_.out (by kernel_rfl)) (fun _ _ _ h => h) (Or.inl ⟨by rfl, ?_⟩) ?_ ?_
          rotate_left
          ·intro w'
           go_simp
           with_reducible rfl
          rotate_left
          ·simp only [Act.put, List.setIfInBounds_toArray, List.set_cons_zero, List.set_cons_succ, i64_w, i32_w]
           rfl
          refine take_ (i := 5) (N := some 43) (v := ?_) (a' := ?_) #[true, true, true, true, true, true, true, true, true, false, false, false] rfl rfl (take_ofW HT_.out HW_.out (by kernel_rfl)) (fun _ _ _ h => h) (Or.inl ⟨by rfl, ?_⟩) hHeld ?_ ?_
          rotate_left
          ·rintro w' ⟨s0, s1, s2, s3, s4, s5, s6⟩
           go_simp
           with_reducible rfl
          rotate_left
          ·simp only [Act.put, List.setIfInBounds_toArray, List.set_cons_zero, List.set_cons_succ, i64_w, i32_w]
           rfl
          refine take_ (i := 9) (N := some 47) (v := ?_) (a' := ?_) #[true, true, true, true, true, true, true, true, true, true, false, false] rfl rfl (take_ofW HT_.out HW_.out (by kernel_rfl)) (fun _ _ _ h => h) (Or.inl ⟨by rfl, ?_⟩) hHeld ?_ ?_
          rotate_left
          ·rintro w' ⟨s0, s1, s2, s3, s4, s5, s6⟩
           go_simp
           with_reducible rfl
          rotate_left
          ·simp only [Act.put, List.setIfInBounds_toArray, List.set_cons_zero, List.set_cons_succ, i64_w, i32_w]
           rfl
          refine pure_ (i := 10) (N := some 48) (v := ?_) (a' := ?_) #[true, true, true, true, true, true, true, true, true, true, true, false] rfl rfl (any_of HT_.out (by kernel_rfl)) (fun _ _ _ h => h) (Or.inl ⟨by rfl, ?_⟩) ?_ ?_
          rotate_left
          ·intro w'
           go_simp
           with_reducible rfl
          rotate_left
          ·simp only [Act.put, List.setIfInBounds_toArray, List.set_cons_zero, List.set_cons_succ, i64_w, i32_w]
           rfl
          refine pure_ (i := 11) (N := some 49) (v := ?_) (a' := ?_) #[true, true, true, true, true, true, true, true, true, true, true, true] rfl rfl (any_of HT_.out (by kernel_rfl)) (fun _ _ _ h => h) (Or.inl ⟨by rfl, ?_⟩) ?_ ?_
          rotate_left
          ·intro w'
           go_simp
           with_reducible rfl
          rotate_left
          ·simp only [Act.put, List.setIfInBounds_toArray, List.set_cons_zero, List.set_cons_succ, i64_w, i32_w]
           rfl
          refine done_ (done_of HT_.out (by kernel_rfl)) ?_
          try go_wp2
          go_roundg k2
          case measure => have := HJ1.out; have := HK2.out; omega
          case rel => exact ⟨(wrap64 (x4_2 + 1)), (by first | rfl | (simp; done) | (simp [*]; done)), H', ⟨by have := HJ1.out; have := HK2.out; omega⟩, ⟨by (with_reducible repeat (first | apply Kd.R_alloc | apply Kd.R_drewN | apply Kd.R_drew)); exact HO_3.out⟩, ⟨by repeat (first | (with_reducible first | exact HB.out | apply below_alloc | apply pw_below_drewN | apply below_drew1 | refine below_set ?_ GE301.out) | exact HB.out)⟩⟩
        ·rw [if_neg c21] at H
         have c21b0 : (t302 == 0) = false := beq_eq_false_iff_ne.mpr c21
         have c21b1 : (t302 != 0) = true := bne_iff_ne.mpr c21
         exact Bool.noConfusion ((Option.some.inj H).trans HRR_.out)
       ·rw [if_neg c18] at H
        exact absurd H (by simp)
      ·rw [if_neg c17] at H
       have c17b0 : decide (x4_2 < (t290.length : Int)) = false := decide_eq_false c17
       clear c17
       obtain rfl := Option.some.inj H
       obtain ⟨Ao31, co31, eo31⟩ := Kd.R_slice HO_3.out
       subst eo31
       go_wp2
       go_ret
       exact ⟨by first | rfl | (simp [errW_none, errW_some] <;> rfl) | (simp [*, errW_none, errW_some] <;> rfl), by repeat (first | (with_reducible first | exact HB.out | apply below_alloc | apply pw_below_drewN | apply below_drew1) | exact HB.out)⟩

end Go.Proofs.YtdmnpofodechpaaGreatDoor.Print
