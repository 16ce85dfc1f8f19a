import Derived.Test.YthfbcclbappbcaaGreatDoorPrint0
import Derived.Test.YthfbcclbappbcaaGreatDoorPrint1
import Derived.Test.YthfbcclbappbcaaGreatDoorPrint6
import Derived.Test.YthfbcclbappbcaaGreatDoorPrintAw12
import Derived.Test.YthfbcclbappbcaaGreatDoorPrintF
import Derived.Test.YthfbcclbappbcaaGreatDoorPrintR12
import Derived.Test.YthfbcclbappbcaaGreatDoorPrintRA
import Derived.Test.YthfbcclbappbcaaGreatDoorPrintSh
namespace Go.Proofs.YthfbcclbappbcaaGreatDoor.Print
open Go.RowKit Go.Proofs.YthfbcclbappbcaaGreatDoorW.PrintWords Go.Proofs.YthfbcclbappbcaaGreatDoorW.PrintLast Go.Proofs.YthfbcclbappbcaaGreatDoorW.PrintMore
attribute [local go_sem] max2_int min2_int max_two min_two max_three min_three max_four min_four   -- for this text's walks alone
set_option linter.unusedVariables false
set_option linter.unusedSimpArgs false
attribute [local go_sem high] eqA26 eqA31
mutual
def shalelaw12_LookFolds.j0 : Nat → List (List (S26)) → ByteArray → Bool → Option (Bool)
 | 0, _, _, _ => none
 | k + 1, x0, x1, x21 => if x21 = true then ((shalelaw12_awake.f k).bind fun t372 => (some t372)) else ((look_At.f k x0 x1).bind fun bt373 => ((shaleref12_Right.f k x0).bind fun t381 => (if t381 = true then ((shaleref12_At.f k x0 x1).bind fun bt384 => ((fail_Code.f bt373.2.2.2.2).bind fun t387 => (if t387 = bt384.2.2 then ((look_Shows.f k x0 x1).bind fun t388 => (shalelaw12_LookFolds.j1 k x1 bt384.1 bt384.2.1 bt384.2.2 (t388 != (bt384.2.2 == 0)) bt373.1 bt373.2.1 bt373.2.2.1 bt373.2.2.2.1)) else (shalelaw12_LookFolds.j1 k x1 bt384.1 bt384.2.1 bt384.2.2 true bt373.1 bt373.2.1 bt373.2.2.1 bt373.2.2.2.1)))) else ((fail_Code.f bt373.2.2.2.2).bind fun t382 => (if t382 = 16 then (if ((bt373.1.toList == ([] : List UInt8) && (bt373.2.1 == 0 && (bt373.2.2.1.toList == ([] : List UInt8)))) && (bt373.2.2.2.1 == 0)) = true then ((look_Shows.f k x0 x1).bind fun t383 => (some (!t383))) else (some false)) else (some false))))))
def shalelaw12_LookFolds.j1 : Nat → ByteArray → Int → ByteArray → Int → Bool → ByteArray → Int → ByteArray → Int → Option (Bool)
 | 0, _, _, _, _, _, _, _, _, _ => none
 | k + 1, x1, x7, x8, x9, x64, x381000, x381001, x381002, x381003 => if x64 = true then (some false) else (if x9 = 0 then (some (x381000.toList == x1.toList && (x381001 == x7 && (x381002.toList == x8.toList)))) else (some ((x381000.toList == ([] : List UInt8) && (x381001 == 0 && (x381002.toList == ([] : List UInt8)))) && (x381003 == 0))))
end
def shalelaw12_LookFolds.f (k : Nat) (l0 : List (List (S26))) (a1 : ByteArray) : Option (Bool) := (shalelaw12_awake.f k).bind fun t370 => (if t370 = true then ((shalelaw10_Few.f k l0).bind fun t371 => (if t371 = 0 then (shalelaw12_LookFolds.j0 k l0 a1 true) else (shalelaw12_LookFolds.j0 k l0 a1 (decide ((a1.size : Int) > 100))))) else (shalelaw12_LookFolds.j0 k l0 a1 true))
theorem shalelaw12_LookFolds.mono_l : ∀ k, (∀ y0 y1 y2, LeO (shalelaw12_LookFolds.j0 k y0 y1 y2) (shalelaw12_LookFolds.j0 (k + 1) y0 y1 y2)) ∧ (∀ y0 y1 y2 y3 y4 y5 y6 y7 y8, LeO (shalelaw12_LookFolds.j1 k y0 y1 y2 y3 y4 y5 y6 y7 y8) (shalelaw12_LookFolds.j1 (k + 1) y0 y1 y2 y3 y4 y5 y6 y7 y8))
 | 0 => ⟨fun _ _ _ r h => by simp [shalelaw12_LookFolds.j0] at h, fun _ _ _ _ _ _ _ _ _ r h => by simp [shalelaw12_LookFolds.j1] at h⟩
 | k + 1 => by
  obtain ⟨ih0, ih1⟩ := shalelaw12_LookFolds.mono_l k
  refine ⟨?_, ?_⟩
  ·intro y0 y1 y2
   unfold shalelaw12_LookFolds.j0
   repeat' first
   | (with_reducible exact ih0 _ _ _)
   | (with_reducible exact ih1 _ _ _ _ _ _ _ _ _)
   | (with_reducible exact look_At.mono _ _ _)
   | (with_reducible exact look_Shows.mono _ _ _)
   | (with_reducible exact shalelaw10_Few.mono _ _)
   | (with_reducible exact shalelaw12_awake.mono _)
   | (with_reducible exact shaleref12_At.mono _ _ _)
   | (with_reducible exact shaleref12_Right.mono _ _)
   | (with_reducible exact LeO.refl _)
   | (with_reducible exact LeO.none _)
   | (with_reducible refine LeO.ite ?_ ?_)
   | (with_reducible refine LeO.bind ?_ (fun _ => ?_))
   | exact ih0 _ _ _
   | exact ih1 _ _ _ _ _ _ _ _ _
   | exact look_At.mono _ _ _
   | exact look_Shows.mono _ _ _
   | exact shalelaw10_Few.mono _ _
   | exact shalelaw12_awake.mono _
   | exact shaleref12_At.mono _ _ _
   | exact shaleref12_Right.mono _ _
   | exact LeO.none _
   | refine LeO.ite ?_ ?_
   | refine LeO.bind ?_ (fun _ => ?_)
  ·intro y0 y1 y2 y3 y4 y5 y6 y7 y8
   unfold shalelaw12_LookFolds.j1
   repeat' first
   | (with_reducible exact ih0 _ _ _)
   | (with_reducible exact ih1 _ _ _ _ _ _ _ _ _)
   | (with_reducible exact look_At.mono _ _ _)
   | (with_reducible exact look_Shows.mono _ _ _)
   | (with_reducible exact shalelaw10_Few.mono _ _)
   | (with_reducible exact shalelaw12_awake.mono _)
   | (with_reducible exact shaleref12_At.mono _ _ _)
   | (with_reducible exact shaleref12_Right.mono _ _)
   | (with_reducible exact LeO.refl _)
   | (with_reducible exact LeO.none _)
   | (with_reducible refine LeO.ite ?_ ?_)
   | (with_reducible refine LeO.bind ?_ (fun _ => ?_))
   | exact ih0 _ _ _
   | exact ih1 _ _ _ _ _ _ _ _ _
   | exact look_At.mono _ _ _
   | exact look_Shows.mono _ _ _
   | exact shalelaw10_Few.mono _ _
   | exact shalelaw12_awake.mono _
   | exact shaleref12_At.mono _ _ _
   | exact shaleref12_Right.mono _ _
   | exact LeO.none _
   | refine LeO.ite ?_ ?_
   | refine LeO.bind ?_ (fun _ => ?_)
theorem shalelaw12_LookFolds.mono : ∀ a0 a1 k, LeO (shalelaw12_LookFolds.f k a0 a1) (shalelaw12_LookFolds.f (k + 1) a0 a1) := by
 intro a0 a1 k
 obtain ⟨ih0, ih1⟩ := shalelaw12_LookFolds.mono_l k
 unfold shalelaw12_LookFolds.f
 repeat' first
   | (with_reducible exact ih0 _ _ _)
   | (with_reducible exact ih1 _ _ _ _ _ _ _ _ _)
   | (with_reducible exact look_At.mono _ _ _)
   | (with_reducible exact look_Shows.mono _ _ _)
   | (with_reducible exact shalelaw10_Few.mono _ _)
   | (with_reducible exact shalelaw12_awake.mono _)
   | (with_reducible exact shaleref12_At.mono _ _ _)
   | (with_reducible exact shaleref12_Right.mono _ _)
   | (with_reducible exact LeO.refl _)
   | (with_reducible exact LeO.none _)
   | (with_reducible refine LeO.ite ?_ ?_)
   | (with_reducible refine LeO.bind ?_ (fun _ => ?_))
   | exact ih0 _ _ _
   | exact ih1 _ _ _ _ _ _ _ _ _
   | exact look_At.mono _ _ _
   | exact look_Shows.mono _ _ _
   | exact shalelaw10_Few.mono _ _
   | exact shalelaw12_awake.mono _
   | exact shaleref12_At.mono _ _ _
   | exact shaleref12_Right.mono _ _
   | exact LeO.none _
   | refine LeO.ite ?_ ?_
   | refine LeO.bind ?_ (fun _ => ?_)
set_option maxHeartbeats 8000000 in
set_option maxRecDepth 100000 in
theorem shalelaw12_LookFolds.calls (k : Nat) (A0 : Option Addr) (c0 : Nat) (l0 : List (List (S26))) (a1 : ByteArray) (r : Bool) (w : World) (hr0 : Kd.C (Kd.slice 26 k26) w A0 l0.length l0) (hc0 : l0.length ≤ c0) (hG : Gl w) (h : shalelaw12_LookFolds.f k l0 a1 = some r) (hr : r = true) :
  Calls Tryz.prog 4 #[.slice A0 l0.length c0, .string a1] w fun e w' => e = .returned (.bool r) ∧ Below w.heap.size w w' := by
 have hu31 := Tryz.underlying31
 have hu26 := Tryz.underlying26
 have HR0 := Aside0.mk hr0
 have HC0 := Aside0.mk hc0
 clear hr0 hc0
 have HB := Aside0.mk (Below.refl w.heap.size w)
 have HG_ := Aside0.mk hG
 clear hG
 have H : ((shalelaw12_awake.f k).bind fun t370 => (if t370 = true then ((shalelaw10_Few.f k l0).bind fun t371 => (if t371 = 0 then (shalelaw12_LookFolds.j0 k l0 a1 true) else (shalelaw12_LookFolds.j0 k l0 a1 (decide ((a1.size : Int) > 100))))) else (shalelaw12_LookFolds.j0 k l0 a1 true))) = some r := h
 clear h
 have HRR_ := Aside0.mk hr
 clear hr
 have HC3 := Aside0.mk H
 clear H
 go_enter Tryz.func4, Tryz.ntmps4
 go_upto_region 1 with (fail)
 go_cut [21] (fun v21 wc => ∃ (kq : Nat) (x21_2 : Bool), v21 = .bool x21_2 ∧ Aside0 (shalelaw12_LookFolds.j0 kq l0 a1 x21_2 = some r) ∧ Aside0 (kq ≤ k) ∧ Aside0 (Below w.heap.size w wc))
 case first =>
  have H := HC3.out
  clear HC3
  replace H := Option.bind_eq_some_iff.mp H
  obtain ⟨t370, A40, H⟩ := H
  replace H : (if t370 = true then ((shalelaw10_Few.f k l0).bind fun t371 => (if t371 = 0 then (shalelaw12_LookFolds.j0 k l0 a1 true) else (shalelaw12_LookFolds.j0 k l0 a1 (decide ((a1.size : Int) > 100))))) else (shalelaw12_LookFolds.j0 k l0 a1 true)) = some r := H
  have A4 := Aside0.mk A40
  clear A40
  by_cases c5 : t370 = true
  ·subst c5
   have H1 : ((shalelaw10_Few.f k l0).bind fun t371 => (if t371 = 0 then (shalelaw12_LookFolds.j0 k l0 a1 true) else (shalelaw12_LookFolds.j0 k l0 a1 (decide ((a1.size : Int) > 100))))) = some r := by rw [if_pos rfl] at H; exact H
   clear H
   have H := H1
   clear H1
   replace H := Option.bind_eq_some_iff.mp H
   obtain ⟨t371, A60, H⟩ := H
   replace H : (if t371 = 0 then (shalelaw12_LookFolds.j0 k l0 a1 true) else (shalelaw12_LookFolds.j0 k l0 a1 (decide ((a1.size : Int) > 100)))) = some r := H
   have A6 := Aside0.mk A60
   clear A60
   by_cases c7 : t371 = 0
   ·rw [if_pos c7] at H
    have c7b0 : (t371 == 0) = true := beq_iff_eq.mpr c7
    have c7b1 : (t371 != 0) = false := bne_eq_false_iff_eq.mpr c7
    clear c7
    (first | rw [c7b0] | (simp only [i64_w, i32_w]; rw [c7b0]) | skip)
    have H' := Aside0.mk H
    clear H
    go_wp2_with (first | ((with_reducible refine gate_callee (f := 7) rfl ?_); refine goesL_ (some 10) rfl rfl Tryz.func7 (by kernel_rfl) rfl #[] rfl (by (try simp only [List.map_toArray, List.map_cons, List.map_nil]); first | done | rfl | (simp only [List.length_drop, List.length_take]; rfl)) ?_; (with_reducible refine (shalelaw12_awake.calls k  true _ ?side1 A4.out).mono ?_); (case side1 => exact Gl.below HG_.out (by repeat (first | (with_reducible first | exact HB.out | apply below_alloc | apply pw_below_drewN | apply below_drew1) | exact HB.out))); rintro e w8 ⟨rfl, hb⟩; refine ⟨_, rfl, ?_⟩; have n0_ := Aside0.mk (below_step (by repeat (first | (with_reducible first | exact HB.out | apply below_alloc | apply pw_below_drewN | apply below_drew1) | exact HB.out)) hb); clear HB; have HB := n0_; clear n0_; (try clear hb); (try clear hb2); (try clear hk); (try clear hi)) | (go_at_call 8; (with_reducible refine (shalelaw10_Few.calls k _ _ l0 t371 _ ?side1 ?side2 A6.out).mono ?_); (case side1 => repeat (first | exact (Kd.C_below HR0.out HB.out) | (with_reducible refine Kd.C_alloc ?_ _) | (with_reducible refine Kd.C_drewN ?_ _) | (with_reducible refine Kd.C_drew ?_))); (case side2 => exact HC0.out); rintro e w' ⟨rfl, ⟨nd, rfl⟩⟩))
    go_meet
    case rel => exact ⟨_, (true), (by first | rfl | (simp; done) | (simp [*]; done)), H', ⟨by first | omega | exact Nat.le_refl _⟩, ⟨by repeat (first | (with_reducible first | exact HB.out | apply below_alloc | apply pw_below_drewN | apply below_drew1) | exact HB.out)⟩⟩
   ·rw [if_neg c7] at H
    have c7b0 : (t371 == 0) = false := beq_eq_false_iff_ne.mpr c7
    have c7b1 : (t371 != 0) = true := bne_iff_ne.mpr c7
    (first | rw [c7b0] | (simp only [i64_w, i32_w]; rw [c7b0]) | skip)
    have H' := Aside0.mk H
    clear H
    go_wp2_with (first | ((with_reducible refine gate_callee (f := 7) rfl ?_); refine goesL_ (some 10) rfl rfl Tryz.func7 (by kernel_rfl) rfl #[] rfl (by (try simp only [List.map_toArray, List.map_cons, List.map_nil]); first | done | rfl | (simp only [List.length_drop, List.length_take]; rfl)) ?_; (with_reducible refine (shalelaw12_awake.calls k  true _ ?side1 A4.out).mono ?_); (case side1 => exact Gl.below HG_.out (by repeat (first | (with_reducible first | exact HB.out | apply below_alloc | apply pw_below_drewN | apply below_drew1) | exact HB.out))); rintro e w9 ⟨rfl, hb⟩; refine ⟨_, rfl, ?_⟩; have n0_ := Aside0.mk (below_step (by repeat (first | (with_reducible first | exact HB.out | apply below_alloc | apply pw_below_drewN | apply below_drew1) | exact HB.out)) hb); clear HB; have HB := n0_; clear n0_; (try clear hb); (try clear hb2); (try clear hk); (try clear hi)) | (go_at_call 8; (with_reducible refine (shalelaw10_Few.calls k _ _ l0 t371 _ ?side1 ?side2 A6.out).mono ?_); (case side1 => repeat (first | exact (Kd.C_below HR0.out HB.out) | (with_reducible refine Kd.C_alloc ?_ _) | (with_reducible refine Kd.C_drewN ?_ _) | (with_reducible refine Kd.C_drew ?_))); (case side2 => exact HC0.out); rintro e w' ⟨rfl, ⟨nd, rfl⟩⟩))
    go_meet
    case rel => exact ⟨_, (decide ((a1.size : Int) > 100)), (by first | rfl | (simp; done) | (simp [*]; done)), H', ⟨by first | omega | exact Nat.le_refl _⟩, ⟨by repeat (first | (with_reducible first | exact HB.out | apply below_alloc | apply pw_below_drewN | apply below_drew1) | exact HB.out)⟩⟩
  ·replace c5 := Bool.eq_false_iff.mpr c5
   subst c5
   have H1 : (shalelaw12_LookFolds.j0 k l0 a1 true) = some r := by rw [if_neg (show ¬ (false = true) by decide)] at H; exact H
   clear H
   have H := H1
   clear H1
   have H' := Aside0.mk H
   clear H
   go_wp2_with (first | ((with_reducible refine gate_callee (f := 7) rfl ?_); refine goesL_ (some 10) rfl rfl Tryz.func7 (by kernel_rfl) rfl #[] rfl (by (try simp only [List.map_toArray, List.map_cons, List.map_nil]); first | done | rfl | (simp only [List.length_drop, List.length_take]; rfl)) ?_; (with_reducible refine (shalelaw12_awake.calls k  false _ ?side1 A4.out).mono ?_); (case side1 => exact Gl.below HG_.out (by repeat (first | (with_reducible first | exact HB.out | apply below_alloc | apply pw_below_drewN | apply below_drew1) | exact HB.out))); rintro e w10 ⟨rfl, hb⟩; refine ⟨_, rfl, ?_⟩; have n0_ := Aside0.mk (below_step (by repeat (first | (with_reducible first | exact HB.out | apply below_alloc | apply pw_below_drewN | apply below_drew1) | exact HB.out)) hb); clear HB; have HB := n0_; clear n0_; (try clear hb); (try clear hb2); (try clear hk); (try clear hi)))
   go_meet
   case rel => exact ⟨_, (true), (by first | rfl | (simp; done) | (simp [*]; done)), H', ⟨by first | omega | exact Nat.le_refl _⟩, ⟨by repeat (first | (with_reducible first | exact HB.out | apply below_alloc | apply pw_below_drewN | apply below_drew1) | exact HB.out)⟩⟩
 case rest =>
  clear HC3
  try clear p2
  try clear c4
  try clear c5
  try clear c7
  try clear c7b0
  try clear c7b1
  obtain ⟨kq, x21_2, rfl, HA, HJ2, HB⟩ := hcut
  cases kq with
  | zero => exact absurd HA.out (by simp [shalelaw12_LookFolds.j0])
  | succ kj2 =>
   have H := HA.out
   clear HA
   simp only [shalelaw12_LookFolds.j0] at H
   by_cases c11 : x21_2 = true
   ·subst c11
    have H1 : ((shalelaw12_awake.f kj2).bind fun t372 => (some t372)) = some r := by rw [if_pos rfl] at H; exact H
    clear H
    have H := H1
    clear H1
    replace H := Option.bind_eq_some_iff.mp H
    obtain ⟨t372, A120, H⟩ := H
    replace H : (some t372) = some r := H
    have A12 := Aside0.mk A120
    clear A120
    obtain rfl := Option.some.inj H
    go_wp2_with (first | ((with_reducible refine gate_callee (f := 7) rfl ?_); refine goesL_ (some 22) rfl rfl Tryz.func7 (by kernel_rfl) rfl #[] rfl (by (try simp only [List.map_toArray, List.map_cons, List.map_nil]); first | done | rfl | (simp only [List.length_drop, List.length_take]; rfl)) ?_; (with_reducible refine (shalelaw12_awake.calls kj2  t372 _ ?side1 A12.out).mono ?_); (case side1 => exact Gl.below HG_.out (by repeat (first | (with_reducible first | exact HB.out | apply below_alloc | apply pw_below_drewN | apply below_drew1) | exact HB.out))); rintro e w13 ⟨rfl, hb⟩; refine ⟨_, rfl, ?_⟩; have n0_ := Aside0.mk (below_step (by repeat (first | (with_reducible first | exact HB.out | apply below_alloc | apply pw_below_drewN | apply below_drew1) | exact HB.out)) hb); clear HB; have HB := n0_; clear n0_; (try clear hb); (try clear hb2); (try clear hk); (try clear hi)))
    go_ret
    exact ⟨by first | rfl | (simp [errW_none, errW_some] <;> rfl) | (simp [*, errW_none, errW_some] <;> rfl), by repeat (first | (with_reducible first | exact HB.out | apply below_alloc | apply pw_below_drewN | apply below_drew1) | exact HB.out)⟩
   ·replace c11 := Bool.eq_false_iff.mpr c11
    subst c11
    have H1 : ((look_At.f kj2 l0 a1).bind fun bt373 => ((shaleref12_Right.f kj2 l0).bind fun t381 => (if t381 = true then ((shaleref12_At.f kj2 l0 a1).bind fun bt384 => ((fail_Code.f bt373.2.2.2.2).bind fun t387 => (if t387 = bt384.2.2 then ((look_Shows.f kj2 l0 a1).bind fun t388 => (shalelaw12_LookFolds.j1 kj2 a1 bt384.1 bt384.2.1 bt384.2.2 (t388 != (bt384.2.2 == 0)) bt373.1 bt373.2.1 bt373.2.2.1 bt373.2.2.2.1)) else (shalelaw12_LookFolds.j1 kj2 a1 bt384.1 bt384.2.1 bt384.2.2 true bt373.1 bt373.2.1 bt373.2.2.1 bt373.2.2.2.1)))) else ((fail_Code.f bt373.2.2.2.2).bind fun t382 => (if t382 = 16 then (if ((bt373.1.toList == ([] : List UInt8) && (bt373.2.1 == 0 && (bt373.2.2.1.toList == ([] : List UInt8)))) && (bt373.2.2.2.1 == 0)) = true then ((look_Shows.f kj2 l0 a1).bind fun t383 => (some (!t383))) else (some false)) else (some false)))))) = some r := by rw [if_neg (show ¬ (false = true) by decide)] at H; exact H
    clear H
    have H := H1
    clear H1
    replace H := Option.bind_eq_some_iff.mp H
    obtain ⟨⟨t373, t374, t375, t376, t377⟩, A140, H⟩ := H
    replace H : ((shaleref12_Right.f kj2 l0).bind fun t381 => (if t381 = true then ((shaleref12_At.f kj2 l0 a1).bind fun bt384 => ((fail_Code.f t377).bind fun t387 => (if t387 = bt384.2.2 then ((look_Shows.f kj2 l0 a1).bind fun t388 => (shalelaw12_LookFolds.j1 kj2 a1 bt384.1 bt384.2.1 bt384.2.2 (t388 != (bt384.2.2 == 0)) t373 t374 t375 t376)) else (shalelaw12_LookFolds.j1 kj2 a1 bt384.1 bt384.2.1 bt384.2.2 true t373 t374 t375 t376)))) else ((fail_Code.f t377).bind fun t382 => (if t382 = 16 then (if ((t373.toList == ([] : List UInt8) && (t374 == 0 && (t375.toList == ([] : List UInt8)))) && (t376 == 0)) = true then ((look_Shows.f kj2 l0 a1).bind fun t383 => (some (!t383))) else (some false)) else (some false))))) = some r := H
    have A14 := Aside0.mk A140
    clear A140
    replace H := Option.bind_eq_some_iff.mp H
    obtain ⟨t381, A150, H⟩ := H
    replace H : (if t381 = true then ((shaleref12_At.f kj2 l0 a1).bind fun bt384 => ((fail_Code.f t377).bind fun t387 => (if t387 = bt384.2.2 then ((look_Shows.f kj2 l0 a1).bind fun t388 => (shalelaw12_LookFolds.j1 kj2 a1 bt384.1 bt384.2.1 bt384.2.2 (t388 != (bt384.2.2 == 0)) t373 t374 t375 t376)) else (shalelaw12_LookFolds.j1 kj2 a1 bt384.1 bt384.2.1 bt384.2.2 true t373 t374 t375 t376)))) else ((fail_Code.f t377).bind fun t382 => (if t382 = 16 then (if ((t373.toList == ([] : List UInt8) && (t374 == 0 && (t375.toList == ([] : List UInt8)))) && (t376 == 0)) = true then ((look_Shows.f kj2 l0 a1).bind fun t383 => (some (!t383))) else (some false)) else (some false)))) = some r := H
    have A15 := Aside0.mk A150
    clear A150
    by_cases c16 : t381 = true
    ·subst c16
     have H1 : ((shaleref12_At.f kj2 l0 a1).bind fun bt384 => ((fail_Code.f t377).bind fun t387 => (if t387 = bt384.2.2 then ((look_Shows.f kj2 l0 a1).bind fun t388 => (shalelaw12_LookFolds.j1 kj2 a1 bt384.1 bt384.2.1 bt384.2.2 (t388 != (bt384.2.2 == 0)) t373 t374 t375 t376)) else (shalelaw12_LookFolds.j1 kj2 a1 bt384.1 bt384.2.1 bt384.2.2 true t373 t374 t375 t376)))) = some r := by rw [if_pos rfl] at H; exact H
     clear H
     have H := H1
     clear H1
     replace H := Option.bind_eq_some_iff.mp H
     obtain ⟨⟨t384, t385, t386⟩, A170, H⟩ := H
     replace H : ((fail_Code.f t377).bind fun t387 => (if t387 = t386 then ((look_Shows.f kj2 l0 a1).bind fun t388 => (shalelaw12_LookFolds.j1 kj2 a1 t384 t385 t386 (t388 != (t386 == 0)) t373 t374 t375 t376)) else (shalelaw12_LookFolds.j1 kj2 a1 t384 t385 t386 true t373 t374 t375 t376))) = some r := H
     have A17 := Aside0.mk A170
     clear A170
     have HC18 := Aside0.mk H
     clear H
     go_upto_region 7 with (first | ((with_reducible refine gate_callee (f := 11) rfl ?_); refine goesL_ (some 26) rfl rfl Tryz.func11 (by kernel_rfl) rfl #[.slice A0 l0.length c0, .string a1] rfl (by (try simp only [List.map_toArray, List.map_cons, List.map_nil]); first | done | rfl | (simp only [List.length_drop, List.length_take]; rfl)) ?_; (with_reducible refine (look_At.calls kj2 _ _ l0 a1 t373 t374 t375 t376 t377 _ ?side1 ?side2 A14.out).mono ?_); (case side1 => repeat (first | exact (Kd.C_below HR0.out HB.out) | (with_reducible refine Kd.C_alloc ?_ _) | (with_reducible refine Kd.C_drewN ?_ _) | (with_reducible refine Kd.C_drew ?_))); (case side2 => exact HC0.out); rintro e w19 ⟨v378, rfl, ho0, hb⟩; refine ⟨_, rfl, ?_⟩; have n0_ := Aside0.mk (Kd.R_lower ho0 (below_size (by repeat (first | (with_reducible first | exact HB.out | apply below_alloc | apply pw_below_drewN | apply below_drew1) | exact HB.out)))); have n1_ := Aside0.mk (below_step (by repeat (first | (with_reducible first | exact HB.out | apply below_alloc | apply pw_below_drewN | apply below_drew1) | exact HB.out)) hb); clear HB; have HO379 := n0_; have HB := n1_; clear n0_ n1_; (try clear hb); (try clear hb2); (try clear hk); (try clear hi); (try clear ho0); have hE_v378 := errNil_of HO379.out) | ((with_reducible refine gate_dst (N := 5) rfl ?_); (try (refine gate_guard (by rfl) ?_; dsimp only)); refine box_event ?hg (N := 5) ?hd (cs := #[.string (⟨#[]⟩ : ByteArray), .int .i64 0, .string (⟨#[]⟩ : ByteArray), .int .i64 0]) (t := 31) ?hr ?_; (case hd => rfl); (case hg => rfl); (case hr => first | (go_simp; done) | (go_simp; rfl)); intro gb380 hg w20 hbox hb; have n0_ := Aside0.mk (Kd.R_below (by (with_reducible repeat (first | apply Kd.R_alloc | apply Kd.R_drewN | apply Kd.R_drew)); exact HO379.out) hb); have n1_ := Aside0.mk (below_step (by repeat (first | (with_reducible first | exact HB.out | apply below_alloc | apply pw_below_drewN | apply below_drew1) | exact HB.out)) hb); have n2_ := Aside0.mk (hbox); have n3_ := Aside0.mk ((by rw [hg]; exact (below_size (by repeat (first | (with_reducible first | exact HB.out | apply below_alloc | apply pw_below_drewN | apply below_drew1) | exact HB.out))) : w.heap.size ≤ gb380)); have n4_ := Aside0.mk ((by rw [hg]; exact (below_size (by repeat (first | (with_reducible first | exact HB.out | apply below_alloc | apply pw_below_drewN | apply below_drew1) | exact HB.out))) : w.heap.size ≤ gb380)); clear HO379; clear HB; have HO379 := n0_; have HB := n1_; have BK380 := n2_; have GW380 := n3_; have GE380 := n4_; clear n0_ n1_ n2_ n3_ n4_; clear hb hbox hg; have hcz21_0 : w20.cell? ⟨gb380, 0, none⟩ = some (.string (⟨#[]⟩ : ByteArray)) := (blk_cell BK380.out 0).trans rfl; have hcz21_1 : w20.cell? ⟨gb380, 1, none⟩ = some (.int .i64 0) := (blk_cell BK380.out 1).trans rfl; have hcz21_2 : w20.cell? ⟨gb380, 2, none⟩ = some (.string (⟨#[]⟩ : ByteArray)) := (blk_cell BK380.out 2).trans rfl; have hcz21_3 : w20.cell? ⟨gb380, 3, none⟩ = some (.int .i64 0) := (blk_cell BK380.out 3).trans rfl; have hfz21_0 := blk_frozen BK380.out 0; have hfz21_1 := blk_frozen BK380.out 1; have hfz21_2 := blk_frozen BK380.out 2; have hfz21_3 := blk_frozen BK380.out 3) | ((with_reducible refine gate_callee (f := 10) rfl ?_); refine goesL_ (some 30) rfl rfl Tryz.func10 (by kernel_rfl) rfl #[.slice A0 l0.length c0] rfl (by (try simp only [List.map_toArray, List.map_cons, List.map_nil]); first | done | rfl | (simp only [List.length_drop, List.length_take]; rfl)) ?_; (with_reducible refine (shaleref12_Right.calls kj2 _ _ l0 true _ ?side1 ?side2 A15.out).mono ?_); (case side1 => exact Kd.C_below HR0.out (by repeat (first | (with_reducible first | exact HB.out | apply below_alloc | apply pw_below_drewN | apply below_drew1 | refine below_set ?_ GE380.out) | exact HB.out))); (case side2 => exact HC0.out); rintro e w22 ⟨rfl, hb⟩; refine ⟨_, rfl, ?_⟩; have n0_ := Aside0.mk (Kd.R_below (by (with_reducible repeat (first | apply Kd.R_alloc | apply Kd.R_drewN | apply Kd.R_drew)); exact (Kd.R_mono (Kd.R_far (p := ⟨gb380, 3, none⟩) (Kd.R_far (p := ⟨gb380, 2, none⟩) (Kd.R_far (p := ⟨gb380, 1, none⟩) (Kd.R_far (p := ⟨gb380, 0, none⟩) (Kd.R_types HO379.out BK380.out (by decide)) (fun _ hk => hk.2) (.string t373)) (fun _ hk => hk.2) (.int .i64 t374)) (fun _ hk => hk.2) (.string t375)) (fun _ hk => hk.2) (.int .i64 t376)) (fun _ h_ => h_.1))) hb); have n1_ := Aside0.mk (blk_below (g := gb380) (o := .cells #[.string t373, .int .i64 t374, .string t375, .int .i64 t376] 31 (0, 0)) (by (with_reducible repeat (first | refine blk_drewN ?_ _ | refine blk_drew ?_ | refine blk_alloc ?_ _)); refine blk_put (cs := #[.string t373, .int .i64 t374, .string t375, .int .i64 0]) ?_ 3 _ rfl; (with_reducible repeat (first | refine blk_drewN ?_ _ | refine blk_drew ?_ | refine blk_alloc ?_ _)); refine blk_put (cs := #[.string t373, .int .i64 t374, .string (⟨#[]⟩ : ByteArray), .int .i64 0]) ?_ 2 _ rfl; (with_reducible repeat (first | refine blk_drewN ?_ _ | refine blk_drew ?_ | refine blk_alloc ?_ _)); refine blk_put (cs := #[.string t373, .int .i64 0, .string (⟨#[]⟩ : ByteArray), .int .i64 0]) ?_ 1 _ rfl; (with_reducible repeat (first | refine blk_drewN ?_ _ | refine blk_drew ?_ | refine blk_alloc ?_ _)); refine blk_put (cs := #[.string (⟨#[]⟩ : ByteArray), .int .i64 0, .string (⟨#[]⟩ : ByteArray), .int .i64 0]) ?_ 0 _ rfl; (with_reducible repeat (first | refine blk_drewN ?_ _ | refine blk_drew ?_ | refine blk_alloc ?_ _)); exact BK380.out) hb); have n2_ := Aside0.mk (below_step (by repeat (first | (with_reducible first | exact HB.out | apply below_alloc | apply pw_below_drewN | apply below_drew1 | refine below_set ?_ GE380.out) | exact HB.out)) hb); clear HO379; clear BK380; clear HB; have HO379 := n0_; have BK380 := n1_; have HB := n2_; clear n0_ n1_ n2_; (try clear hb); (try clear hb2); (try clear hk); (try clear hi)) | ((with_reducible refine gate_callee (f := 14) rfl ?_); refine goesL_ (some 49) rfl rfl Tryz.func14 (by kernel_rfl) rfl #[.slice A0 l0.length c0, .string a1] rfl (by (try simp only [List.map_toArray, List.map_cons, List.map_nil]); first | done | rfl | (simp only [List.length_drop, List.length_take]; rfl)) ?_; (with_reducible refine (shaleref12_At.calls kj2 _ _ l0 a1 t384 t385 t386 _ ?side1 ?side2 A17.out).mono ?_); (case side1 => repeat (first | exact (Kd.C_below HR0.out HB.out) | (with_reducible refine Kd.C_alloc ?_ _) | (with_reducible refine Kd.C_drewN ?_ _) | (with_reducible refine Kd.C_drew ?_))); (case side2 => exact HC0.out); rintro e w23 ⟨rfl, hb⟩; refine ⟨_, rfl, ?_⟩; have n0_ := Aside0.mk (Kd.R_below (by (with_reducible repeat (first | apply Kd.R_alloc | apply Kd.R_drewN | apply Kd.R_drew)); exact HO379.out) hb); have n1_ := Aside0.mk (blk_below (g := gb380) (o := .cells #[.string t373, .int .i64 t374, .string t375, .int .i64 t376] 31 (0, 0)) (by (with_reducible repeat (first | refine blk_drewN ?_ _ | refine blk_drew ?_ | refine blk_alloc ?_ _)); exact BK380.out) hb); have n2_ := Aside0.mk (below_step (by repeat (first | (with_reducible first | exact HB.out | apply below_alloc | apply pw_below_drewN | apply below_drew1 | refine below_set ?_ GE380.out) | exact HB.out)) hb); clear HO379; clear BK380; clear HB; have HO379 := n0_; have BK380 := n1_; have HB := n2_; clear n0_ n1_ n2_; (try clear hb); (try clear hb2); (try clear hk); (try clear hi)))
     (try simp only [Act.put, List.setIfInBounds_toArray, List.set_cons_zero, List.set_cons_succ])
     go_cut [64] (fun v64 wc => ∃ (kq : Nat) (x64_17 : Bool), v64 = .bool x64_17 ∧ Aside0 (shalelaw12_LookFolds.j1 kq a1 t384 t385 t386 x64_17 t373 t374 t375 t376 = some r) ∧ Aside0 (kq ≤ kj2) ∧ Aside0 (wc.heap[gb380]? = some (.cells #[.string t373, .int .i64 t374, .string t375, .int .i64 t376] 31 (0, 0))) ∧ Aside0 (Below w.heap.size w wc))
     case first =>
      have H := HC18.out
      clear HC18
      replace H := Option.bind_eq_some_iff.mp H
      obtain ⟨t387, A240, H⟩ := H
      replace H : (if t387 = t386 then ((look_Shows.f kj2 l0 a1).bind fun t388 => (shalelaw12_LookFolds.j1 kj2 a1 t384 t385 t386 (t388 != (t386 == 0)) t373 t374 t375 t376)) else (shalelaw12_LookFolds.j1 kj2 a1 t384 t385 t386 true t373 t374 t375 t376)) = some r := H
      have A24 := Aside0.mk A240
      clear A240
      by_cases c25 : t387 = t386
      ·rw [if_pos c25] at H
       have c25b0 : (t387 == t386) = true := beq_iff_eq.mpr c25
       have c25b1 : (t387 != t386) = false := bne_eq_false_iff_eq.mpr c25
       clear c25
       (first | rw [c25b0] | (simp only [i64_w, i32_w]; rw [c25b0]) | skip)
       replace H := Option.bind_eq_some_iff.mp H
       obtain ⟨t388, A260, H⟩ := H
       replace H : (shalelaw12_LookFolds.j1 kj2 a1 t384 t385 t386 (t388 != (t386 == 0)) t373 t374 t375 t376) = some r := H
       have A26 := Aside0.mk A260
       clear A260
       have H' := Aside0.mk H
       clear H
       obtain ⟨Ao27, co27, eo27⟩ := Kd.R_slice HO379.out
       subst eo27
       go_wp2_with (first | ((with_reducible refine gate_callee (f := 12) rfl ?_); refine goesL_ (some 54) rfl rfl Tryz.func12 (by kernel_rfl) rfl #[(errV (.slice Ao27 t377.length co27))] rfl (by (try simp only [List.map_toArray, List.map_cons, List.map_nil]); first | done | rfl | (simp only [List.length_drop, List.length_take]; rfl)) ?_; (with_reducible refine (fail_Code.calls _ _ t377 t387 _ ?side1 ?side2 ?side3 A24.out).mono ?_); (case side1 => repeat (first | exact (Kd.R_reads' HO379.out).2.2 | (with_reducible refine Kd.C_alloc ?_ _) | (with_reducible refine Kd.C_drewN ?_ _) | (with_reducible refine Kd.C_drew ?_))); (case side2 => exact (Kd.R_reads' HO379.out).2.1); (case side3 => exact Gl.below HG_.out (by repeat (first | (with_reducible first | exact HB.out | apply below_alloc | apply pw_below_drewN | apply below_drew1 | refine below_set ?_ GE380.out) | exact HB.out))); rintro e w28 ⟨rfl, hb⟩; refine ⟨_, rfl, ?_⟩; have n0_ := Aside0.mk (Kd.R_below (by (with_reducible repeat (first | apply Kd.R_alloc | apply Kd.R_drewN | apply Kd.R_drew)); exact HO379.out) hb); have n1_ := Aside0.mk (blk_below (g := gb380) (o := .cells #[.string t373, .int .i64 t374, .string t375, .int .i64 t376] 31 (0, 0)) (by (with_reducible repeat (first | refine blk_drewN ?_ _ | refine blk_drew ?_ | refine blk_alloc ?_ _)); exact BK380.out) hb); have n2_ := Aside0.mk (below_step (by repeat (first | (with_reducible first | exact HB.out | apply below_alloc | apply pw_below_drewN | apply below_drew1 | refine below_set ?_ GE380.out) | exact HB.out)) hb); clear HO379; clear BK380; clear HB; have HO379 := n0_; have BK380 := n1_; have HB := n2_; clear n0_ n1_ n2_; (try clear hb); (try clear hb2); (try clear hk); (try clear hi)) | (go_at_call 13; (with_reducible refine (look_Shows.calls kj2 _ _ l0 a1 t388 _ ?side1 ?side2 A26.out).mono ?_); (case side1 => repeat (first | exact (Kd.C_below HR0.out HB.out) | (with_reducible refine Kd.C_alloc ?_ _) | (with_reducible refine Kd.C_drewN ?_ _) | (with_reducible refine Kd.C_drew ?_))); (case side2 => exact HC0.out); rintro e w29 ⟨rfl, hb⟩; have n0_ := Aside0.mk (Kd.R_below (by (with_reducible repeat (first | apply Kd.R_alloc | apply Kd.R_drewN | apply Kd.R_drew)); exact HO379.out) hb); have n1_ := Aside0.mk (blk_below (g := gb380) (o := .cells #[.string t373, .int .i64 t374, .string t375, .int .i64 t376] 31 (0, 0)) (by (with_reducible repeat (first | refine blk_drewN ?_ _ | refine blk_drew ?_ | refine blk_alloc ?_ _)); exact BK380.out) hb); have n2_ := Aside0.mk (below_step (by repeat (first | (with_reducible first | exact HB.out | apply below_alloc | apply pw_below_drewN | apply below_drew1 | refine below_set ?_ GE380.out) | exact HB.out)) hb); clear HO379; clear BK380; clear HB; have HO379 := n0_; have BK380 := n1_; have HB := n2_; clear n0_ n1_ n2_; (try clear hb); (try clear hb2); (try clear hk); (try clear hi)))
       go_meet
       case rel => exact ⟨_, ((t388 != (t386 == 0))), (by first | rfl | (simp; done) | (simp [*]; done)), H', ⟨by have := HJ2.out; first | omega | exact Nat.le_refl _⟩, ⟨by (with_reducible repeat (first | refine blk_drewN ?_ _ | refine blk_drew ?_ | refine blk_alloc ?_ _)); exact BK380.out⟩, ⟨by repeat (first | (with_reducible first | exact HB.out | apply below_alloc | apply pw_below_drewN | apply below_drew1 | refine below_set ?_ GE380.out) | exact HB.out)⟩⟩
      ·rw [if_neg c25] at H
       have c25b0 : (t387 == t386) = false := beq_eq_false_iff_ne.mpr c25
       have c25b1 : (t387 != t386) = true := bne_iff_ne.mpr c25
       (first | rw [c25b0] | (simp only [i64_w, i32_w]; rw [c25b0]) | skip)
       have H' := Aside0.mk H
       clear H
       obtain ⟨Ao30, co30, eo30⟩ := Kd.R_slice HO379.out
       subst eo30
       go_wp2_with (first | ((with_reducible refine gate_callee (f := 12) rfl ?_); refine goesL_ (some 54) rfl rfl Tryz.func12 (by kernel_rfl) rfl #[(errV (.slice Ao30 t377.length co30))] rfl (by (try simp only [List.map_toArray, List.map_cons, List.map_nil]); first | done | rfl | (simp only [List.length_drop, List.length_take]; rfl)) ?_; (with_reducible refine (fail_Code.calls _ _ t377 t387 _ ?side1 ?side2 ?side3 A24.out).mono ?_); (case side1 => repeat (first | exact (Kd.R_reads' HO379.out).2.2 | (with_reducible refine Kd.C_alloc ?_ _) | (with_reducible refine Kd.C_drewN ?_ _) | (with_reducible refine Kd.C_drew ?_))); (case side2 => exact (Kd.R_reads' HO379.out).2.1); (case side3 => exact Gl.below HG_.out (by repeat (first | (with_reducible first | exact HB.out | apply below_alloc | apply pw_below_drewN | apply below_drew1 | refine below_set ?_ GE380.out) | exact HB.out))); rintro e w31 ⟨rfl, hb⟩; refine ⟨_, rfl, ?_⟩; have n0_ := Aside0.mk (Kd.R_below (by (with_reducible repeat (first | apply Kd.R_alloc | apply Kd.R_drewN | apply Kd.R_drew)); exact HO379.out) hb); have n1_ := Aside0.mk (blk_below (g := gb380) (o := .cells #[.string t373, .int .i64 t374, .string t375, .int .i64 t376] 31 (0, 0)) (by (with_reducible repeat (first | refine blk_drewN ?_ _ | refine blk_drew ?_ | refine blk_alloc ?_ _)); exact BK380.out) hb); have n2_ := Aside0.mk (below_step (by repeat (first | (with_reducible first | exact HB.out | apply below_alloc | apply pw_below_drewN | apply below_drew1 | refine below_set ?_ GE380.out) | exact HB.out)) hb); clear HO379; clear BK380; clear HB; have HO379 := n0_; have BK380 := n1_; have HB := n2_; clear n0_ n1_ n2_; (try clear hb); (try clear hb2); (try clear hk); (try clear hi)))
       go_meet
       case rel => exact ⟨_, (true), (by first | rfl | (simp; done) | (simp [*]; done)), H', ⟨by have := HJ2.out; first | omega | exact Nat.le_refl _⟩, ⟨by (with_reducible repeat (first | refine blk_drewN ?_ _ | refine blk_drew ?_ | refine blk_alloc ?_ _)); exact BK380.out⟩, ⟨by repeat (first | (with_reducible first | exact HB.out | apply below_alloc | apply pw_below_drewN | apply below_drew1 | refine below_set ?_ GE380.out) | exact HB.out)⟩⟩
     case rest =>
      clear HC18
      try clear c1
      try clear c2
      try clear p2
      try clear c4
      try clear c5
      try clear c7
      try clear c7b0
      try clear c7b1
      try clear c10
      try clear c11
      try clear c12
      try clear c14
      try clear c16
      try clear c25
      try clear c25b0
      try clear c25b1
      try clear hcz21_0
      try clear hcz21_1
      try clear hcz21_2
      try clear hcz21_3
      try clear hfz21_0
      try clear hfz21_1
      try clear hfz21_2
      try clear hfz21_3
      try clear p2
      obtain ⟨kq, x64_17, rfl, HA, HJ17, BK380, HB⟩ := hcut
      cases kq with
      | zero => exact absurd HA.out (by simp [shalelaw12_LookFolds.j1])
      | succ kj17 =>
       have H := HA.out
       clear HA
       simp only [shalelaw12_LookFolds.j1] at H
       by_cases c32 : x64_17 = true
       ·subst c32
        have H1 : (some false) = some r := by rw [if_pos rfl] at H; exact H
        clear H
        have H := H1
        clear H1
        exact Bool.noConfusion ((Option.some.inj H).trans HRR_.out)
       ·replace c32 := Bool.eq_false_iff.mpr c32
        subst c32
        have H1 : (if t386 = 0 then (some (t373.toList == a1.toList && (t374 == t384 && (t375.toList == t385.toList)))) else (some ((t373.toList == ([] : List UInt8) && (t374 == 0 && (t375.toList == ([] : List UInt8)))) && (t376 == 0)))) = some r := by rw [if_neg (show ¬ (false = true) by decide)] at H; exact H
        clear H
        have H := H1
        clear H1
        by_cases c33 : t386 = 0
        ·rw [if_pos c33] at H
         have c33b0 : (t386 == 0) = true := beq_iff_eq.mpr c33
         have c33b1 : (t386 != 0) = false := bne_eq_false_iff_eq.mpr c33
         clear c33
         obtain rfl := Option.some.inj H
         have hcz34_0 : wc.cell? ⟨gb380, 0, none⟩ = some (.string t373) := (blk_cell BK380.out 0).trans rfl
         have hcz34_1 : wc.cell? ⟨gb380, 1, none⟩ = some (.int .i64 t374) := (blk_cell BK380.out 1).trans rfl
         have hcz34_2 : wc.cell? ⟨gb380, 2, none⟩ = some (.string t375) := (blk_cell BK380.out 2).trans rfl
         have hcz34_3 : wc.cell? ⟨gb380, 3, none⟩ = some (.int .i64 t376) := (blk_cell BK380.out 3).trans rfl
         have hfz34_0 := blk_frozen BK380.out 0
         have hfz34_1 := blk_frozen BK380.out 1
         have hfz34_2 := blk_frozen BK380.out 2
         have hfz34_3 := blk_frozen BK380.out 3
         go_wp2
         go_ret
         exact ⟨by first | rfl | (simp [errW_none, errW_some] <;> rfl) | (simp [*, errW_none, errW_some] <;> rfl), by repeat (first | (with_reducible first | exact HB.out | apply below_alloc | apply pw_below_drewN | apply below_drew1 | refine below_set ?_ GE380.out) | exact HB.out)⟩
        ·rw [if_neg c33] at H
         have c33b0 : (t386 == 0) = false := beq_eq_false_iff_ne.mpr c33
         have c33b1 : (t386 != 0) = true := bne_iff_ne.mpr c33
         obtain rfl := Option.some.inj H
         have hcz35_0 : wc.cell? ⟨gb380, 0, none⟩ = some (.string t373) := (blk_cell BK380.out 0).trans rfl
         have hcz35_1 : wc.cell? ⟨gb380, 1, none⟩ = some (.int .i64 t374) := (blk_cell BK380.out 1).trans rfl
         have hcz35_2 : wc.cell? ⟨gb380, 2, none⟩ = some (.string t375) := (blk_cell BK380.out 2).trans rfl
         have hcz35_3 : wc.cell? ⟨gb380, 3, none⟩ = some (.int .i64 t376) := (blk_cell BK380.out 3).trans rfl
         have hfz35_0 := blk_frozen BK380.out 0
         have hfz35_1 := blk_frozen BK380.out 1
         have hfz35_2 := blk_frozen BK380.out 2
         have hfz35_3 := blk_frozen BK380.out 3
         go_wp2
         go_ret
         exact ⟨by first | rfl | (simp [errW_none, errW_some] <;> rfl) | (simp [*, errW_none, errW_some] <;> rfl), by repeat (first | (with_reducible first | exact HB.out | apply below_alloc | apply pw_below_drewN | apply below_drew1 | refine below_set ?_ GE380.out) | exact HB.out)⟩
    ·replace c16 := Bool.eq_false_iff.mpr c16
     subst c16
     have H1 : ((fail_Code.f t377).bind fun t382 => (if t382 = 16 then (if ((t373.toList == ([] : List UInt8) && (t374 == 0 && (t375.toList == ([] : List UInt8)))) && (t376 == 0)) = true then ((look_Shows.f kj2 l0 a1).bind fun t383 => (some (!t383))) else (some false)) else (some false))) = some r := by rw [if_neg (show ¬ (false = true) by decide)] at H; exact H
     clear H
     have H := H1
     clear H1
     replace H := Option.bind_eq_some_iff.mp H
     obtain ⟨t382, A360, H⟩ := H
     replace H : (if t382 = 16 then (if ((t373.toList == ([] : List UInt8) && (t374 == 0 && (t375.toList == ([] : List UInt8)))) && (t376 == 0)) = true then ((look_Shows.f kj2 l0 a1).bind fun t383 => (some (!t383))) else (some false)) else (some false)) = some r := H
     have A36 := Aside0.mk A360
     clear A360
     by_cases c37 : t382 = 16
     ·rw [if_pos c37] at H
      have c37b0 : (t382 == 16) = true := beq_iff_eq.mpr c37
      have c37b1 : (t382 != 16) = false := bne_eq_false_iff_eq.mpr c37
      clear c37
      by_cases c38 : ((t373.toList == ([] : List UInt8) && (t374 == 0 && (t375.toList == ([] : List UInt8)))) && (t376 == 0)) = true
      ·rw [if_pos c38] at H
       have c38b0 : ((t373.toList == ([] : List UInt8) && (t374 == 0 && (t375.toList == ([] : List UInt8)))) && (t376 == 0)) = true := c38
       (try (have c38b7 := c38b0; simp only [beq_nil_e] at c38b7))
       (try (have c38b8 := c38b0; simp only [beq_true, beq_false, Bool.true_beq, Bool.false_beq, bne, Bool.not_eq_true', Bool.not_eq_false', Bool.not_true, Bool.not_false] at c38b8))
       clear c38
       replace H := Option.bind_eq_some_iff.mp H
       obtain ⟨t383, A390, H⟩ := H
       replace H : (some (!t383)) = some r := H
       have A39 := Aside0.mk A390
       clear A390
       obtain rfl := Option.some.inj H
       go_wp2_with (first | ((with_reducible refine gate_callee (f := 11) rfl ?_); refine goesL_ (some 26) rfl rfl Tryz.func11 (by kernel_rfl) rfl #[.slice A0 l0.length c0, .string a1] rfl (by (try simp only [List.map_toArray, List.map_cons, List.map_nil]); first | done | rfl | (simp only [List.length_drop, List.length_take]; rfl)) ?_; (with_reducible refine (look_At.calls kj2 _ _ l0 a1 t373 t374 t375 t376 t377 _ ?side1 ?side2 A14.out).mono ?_); (case side1 => repeat (first | exact (Kd.C_below HR0.out HB.out) | (with_reducible refine Kd.C_alloc ?_ _) | (with_reducible refine Kd.C_drewN ?_ _) | (with_reducible refine Kd.C_drew ?_))); (case side2 => exact HC0.out); rintro e w40 ⟨v378, rfl, ho0, hb⟩; refine ⟨_, rfl, ?_⟩; have n0_ := Aside0.mk (Kd.R_lower ho0 (below_size (by repeat (first | (with_reducible first | exact HB.out | apply below_alloc | apply pw_below_drewN | apply below_drew1) | exact HB.out)))); have n1_ := Aside0.mk (below_step (by repeat (first | (with_reducible first | exact HB.out | apply below_alloc | apply pw_below_drewN | apply below_drew1) | exact HB.out)) hb); clear HB; have HO379 := n0_; have HB := n1_; clear n0_ n1_; (try clear hb); (try clear hb2); (try clear hk); (try clear hi); (try clear ho0); have hE_v378 := errNil_of HO379.out) | ((with_reducible refine gate_dst (N := 5) rfl ?_); (try (refine gate_guard (by rfl) ?_; dsimp only)); refine box_event ?hg (N := 5) ?hd (cs := #[.string (⟨#[]⟩ : ByteArray), .int .i64 0, .string (⟨#[]⟩ : ByteArray), .int .i64 0]) (t := 31) ?hr ?_; (case hd => rfl); (case hg => rfl); (case hr => first | (go_simp; done) | (go_simp; rfl)); intro gb380 hg w41 hbox hb; have n0_ := Aside0.mk (Kd.R_below (by (with_reducible repeat (first | apply Kd.R_alloc | apply Kd.R_drewN | apply Kd.R_drew)); exact HO379.out) hb); have n1_ := Aside0.mk (below_step (by repeat (first | (with_reducible first | exact HB.out | apply below_alloc | apply pw_below_drewN | apply below_drew1) | exact HB.out)) hb); have n2_ := Aside0.mk (hbox); have n3_ := Aside0.mk ((by rw [hg]; exact (below_size (by repeat (first | (with_reducible first | exact HB.out | apply below_alloc | apply pw_below_drewN | apply below_drew1) | exact HB.out))) : w.heap.size ≤ gb380)); have n4_ := Aside0.mk ((by rw [hg]; exact (below_size (by repeat (first | (with_reducible first | exact HB.out | apply below_alloc | apply pw_below_drewN | apply below_drew1) | exact HB.out))) : w.heap.size ≤ gb380)); clear HO379; clear HB; have HO379 := n0_; have HB := n1_; have BK380 := n2_; have GW380 := n3_; have GE380 := n4_; clear n0_ n1_ n2_ n3_ n4_; clear hb hbox hg; have hcz42_0 : w41.cell? ⟨gb380, 0, none⟩ = some (.string (⟨#[]⟩ : ByteArray)) := (blk_cell BK380.out 0).trans rfl; have hcz42_1 : w41.cell? ⟨gb380, 1, none⟩ = some (.int .i64 0) := (blk_cell BK380.out 1).trans rfl; have hcz42_2 : w41.cell? ⟨gb380, 2, none⟩ = some (.string (⟨#[]⟩ : ByteArray)) := (blk_cell BK380.out 2).trans rfl; have hcz42_3 : w41.cell? ⟨gb380, 3, none⟩ = some (.int .i64 0) := (blk_cell BK380.out 3).trans rfl; have hfz42_0 := blk_frozen BK380.out 0; have hfz42_1 := blk_frozen BK380.out 1; have hfz42_2 := blk_frozen BK380.out 2; have hfz42_3 := blk_frozen BK380.out 3) | ((with_reducible refine gate_callee (f := 10) rfl ?_); refine goesL_ (some 30) rfl rfl Tryz.func10 (by kernel_rfl) rfl #[.slice A0 l0.length c0] rfl (by (try simp only [List.map_toArray, List.map_cons, List.map_nil]); first | done | rfl | (simp only [List.length_drop, List.length_take]; rfl)) ?_; (with_reducible refine (shaleref12_Right.calls kj2 _ _ l0 false _ ?side1 ?side2 A15.out).mono ?_); (case side1 => exact Kd.C_below HR0.out (by repeat (first | (with_reducible first | exact HB.out | apply below_alloc | apply pw_below_drewN | apply below_drew1 | refine below_set ?_ GE380.out) | exact HB.out))); (case side2 => exact HC0.out); rintro e w43 ⟨rfl, hb⟩; refine ⟨_, rfl, ?_⟩; have n0_ := Aside0.mk (Kd.R_below (by (with_reducible repeat (first | apply Kd.R_alloc | apply Kd.R_drewN | apply Kd.R_drew)); exact (Kd.R_mono (Kd.R_far (p := ⟨gb380, 3, none⟩) (Kd.R_far (p := ⟨gb380, 2, none⟩) (Kd.R_far (p := ⟨gb380, 1, none⟩) (Kd.R_far (p := ⟨gb380, 0, none⟩) (Kd.R_types HO379.out BK380.out (by decide)) (fun _ hk => hk.2) (.string t373)) (fun _ hk => hk.2) (.int .i64 t374)) (fun _ hk => hk.2) (.string t375)) (fun _ hk => hk.2) (.int .i64 t376)) (fun _ h_ => h_.1))) hb); have n1_ := Aside0.mk (blk_below (g := gb380) (o := .cells #[.string t373, .int .i64 t374, .string t375, .int .i64 t376] 31 (0, 0)) (by (with_reducible repeat (first | refine blk_drewN ?_ _ | refine blk_drew ?_ | refine blk_alloc ?_ _)); refine blk_put (cs := #[.string t373, .int .i64 t374, .string t375, .int .i64 0]) ?_ 3 _ rfl; (with_reducible repeat (first | refine blk_drewN ?_ _ | refine blk_drew ?_ | refine blk_alloc ?_ _)); refine blk_put (cs := #[.string t373, .int .i64 t374, .string (⟨#[]⟩ : ByteArray), .int .i64 0]) ?_ 2 _ rfl; (with_reducible repeat (first | refine blk_drewN ?_ _ | refine blk_drew ?_ | refine blk_alloc ?_ _)); refine blk_put (cs := #[.string t373, .int .i64 0, .string (⟨#[]⟩ : ByteArray), .int .i64 0]) ?_ 1 _ rfl; (with_reducible repeat (first | refine blk_drewN ?_ _ | refine blk_drew ?_ | refine blk_alloc ?_ _)); refine blk_put (cs := #[.string (⟨#[]⟩ : ByteArray), .int .i64 0, .string (⟨#[]⟩ : ByteArray), .int .i64 0]) ?_ 0 _ rfl; (with_reducible repeat (first | refine blk_drewN ?_ _ | refine blk_drew ?_ | refine blk_alloc ?_ _)); exact BK380.out) hb); have n2_ := Aside0.mk (below_step (by repeat (first | (with_reducible first | exact HB.out | apply below_alloc | apply pw_below_drewN | apply below_drew1 | refine below_set ?_ GE380.out) | exact HB.out)) hb); clear HO379; clear BK380; clear HB; have HO379 := n0_; have BK380 := n1_; have HB := n2_; clear n0_ n1_ n2_; (try clear hb); (try clear hb2); (try clear hk); (try clear hi); obtain ⟨Ao44, co44, eo44⟩ := Kd.R_slice HO379.out; subst eo44) | ((with_reducible refine gate_callee (f := 12) rfl ?_); refine goesL_ (some 33) rfl rfl Tryz.func12 (by kernel_rfl) rfl #[(errV (.slice Ao44 t377.length co44))] rfl (by (try simp only [List.map_toArray, List.map_cons, List.map_nil]); first | done | rfl | (simp only [List.length_drop, List.length_take]; rfl)) ?_; (with_reducible refine (fail_Code.calls _ _ t377 t382 _ ?side1 ?side2 ?side3 A36.out).mono ?_); (case side1 => repeat (first | exact (Kd.R_reads' HO379.out).2.2 | (with_reducible refine Kd.C_alloc ?_ _) | (with_reducible refine Kd.C_drewN ?_ _) | (with_reducible refine Kd.C_drew ?_))); (case side2 => exact (Kd.R_reads' HO379.out).2.1); (case side3 => exact Gl.below HG_.out (by repeat (first | (with_reducible first | exact HB.out | apply below_alloc | apply pw_below_drewN | apply below_drew1 | refine below_set ?_ GE380.out) | exact HB.out))); rintro e w45 ⟨rfl, hb⟩; refine ⟨_, rfl, ?_⟩; have n0_ := Aside0.mk (Kd.R_below (by (with_reducible repeat (first | apply Kd.R_alloc | apply Kd.R_drewN | apply Kd.R_drew)); exact HO379.out) hb); have n1_ := Aside0.mk (blk_below (g := gb380) (o := .cells #[.string t373, .int .i64 t374, .string t375, .int .i64 t376] 31 (0, 0)) (by (with_reducible repeat (first | refine blk_drewN ?_ _ | refine blk_drew ?_ | refine blk_alloc ?_ _)); exact BK380.out) hb); have n2_ := Aside0.mk (below_step (by repeat (first | (with_reducible first | exact HB.out | apply below_alloc | apply pw_below_drewN | apply below_drew1 | refine below_set ?_ GE380.out) | exact HB.out)) hb); clear HO379; clear BK380; clear HB; have HO379 := n0_; have BK380 := n1_; have HB := n2_; clear n0_ n1_ n2_; (try clear hb); (try clear hb2); (try clear hk); (try clear hi); have hcz46_0 : w45.cell? ⟨gb380, 0, none⟩ = some (.string t373) := (blk_cell BK380.out 0).trans rfl; have hcz46_1 : w45.cell? ⟨gb380, 1, none⟩ = some (.int .i64 t374) := (blk_cell BK380.out 1).trans rfl; have hcz46_2 : w45.cell? ⟨gb380, 2, none⟩ = some (.string t375) := (blk_cell BK380.out 2).trans rfl; have hcz46_3 : w45.cell? ⟨gb380, 3, none⟩ = some (.int .i64 t376) := (blk_cell BK380.out 3).trans rfl; have hfz46_0 := blk_frozen BK380.out 0; have hfz46_1 := blk_frozen BK380.out 1; have hfz46_2 := blk_frozen BK380.out 2; have hfz46_3 := blk_frozen BK380.out 3) | (go_at_call 13; (with_reducible refine (look_Shows.calls kj2 _ _ l0 a1 t383 _ ?side1 ?side2 A39.out).mono ?_); (case side1 => repeat (first | exact (Kd.C_below HR0.out HB.out) | (with_reducible refine Kd.C_alloc ?_ _) | (with_reducible refine Kd.C_drewN ?_ _) | (with_reducible refine Kd.C_drew ?_))); (case side2 => exact HC0.out); rintro e w47 ⟨rfl, hb⟩; have n0_ := Aside0.mk (Kd.R_below (by (with_reducible repeat (first | apply Kd.R_alloc | apply Kd.R_drewN | apply Kd.R_drew)); exact HO379.out) hb); have n1_ := Aside0.mk (blk_below (g := gb380) (o := .cells #[.string t373, .int .i64 t374, .string t375, .int .i64 t376] 31 (0, 0)) (by (with_reducible repeat (first | refine blk_drewN ?_ _ | refine blk_drew ?_ | refine blk_alloc ?_ _)); exact BK380.out) hb); have n2_ := Aside0.mk (below_step (by repeat (first | (with_reducible first | exact HB.out | apply below_alloc | apply pw_below_drewN | apply below_drew1 | refine below_set ?_ GE380.out) | exact HB.out)) hb); clear HO379; clear BK380; clear HB; have HO379 := n0_; have BK380 := n1_; have HB := n2_; clear n0_ n1_ n2_; (try clear hb); (try clear hb2); (try clear hk); (try clear hi)))
       go_ret
       exact ⟨by first | rfl | (simp [errW_none, errW_some] <;> rfl) | (simp [*, errW_none, errW_some] <;> rfl), by repeat (first | (with_reducible first | exact HB.out | apply below_alloc | apply pw_below_drewN | apply below_drew1 | refine below_set ?_ GE380.out) | exact HB.out)⟩
      ·rw [if_neg c38] at H
       have c38b0 : ((t373.toList == ([] : List UInt8) && (t374 == 0 && (t375.toList == ([] : List UInt8)))) && (t376 == 0)) = false := by simpa using c38
       (try (have c38b7 := c38b0; simp only [beq_nil_e] at c38b7))
       (try (have c38b8 := c38b0; simp only [beq_true, beq_false, Bool.true_beq, Bool.false_beq, bne, Bool.not_eq_true', Bool.not_eq_false', Bool.not_true, Bool.not_false] at c38b8))
       clear c38
       exact Bool.noConfusion ((Option.some.inj H).trans HRR_.out)
     ·rw [if_neg c37] at H
      have c37b0 : (t382 == 16) = false := beq_eq_false_iff_ne.mpr c37
      have c37b1 : (t382 != 16) = true := bne_iff_ne.mpr c37
      exact Bool.noConfusion ((Option.some.inj H).trans HRR_.out)

end Go.Proofs.YthfbcclbappbcaaGreatDoor.Print
