import Derived.Test.YthfbcclbappbcaaGreatDoorPrint0
import Derived.Test.YthfbcclbappbcaaGreatDoorPrint1
import Derived.Test.YthfbcclbappbcaaGreatDoorPrint10
import Derived.Test.YthfbcclbappbcaaGreatDoorPrintAw10
import Derived.Test.YthfbcclbappbcaaGreatDoorPrintF
import Derived.Test.YthfbcclbappbcaaGreatDoorPrintFo
import Derived.Test.YthfbcclbappbcaaGreatDoorPrintOv
import Derived.Test.YthfbcclbappbcaaGreatDoorPrintSa
import Derived.Test.YthfbcclbappbcaaGreatDoorPrintTr
namespace Go.Proofs.YthfbcclbappbcaaGreatDoor.Print
open Go.RowKit Go.Proofs.YthfbcclbappbcaaGreatDoorW.PrintWords Go.Proofs.YthfbcclbappbcaaGreatDoorW.PrintLast Go.Proofs.YthfbcclbappbcaaGreatDoorW.PrintMore
attribute [local go_sem] max2_int min2_int max_two min_two max_three min_three max_four min_four   -- for this text's walks alone
set_option linter.unusedVariables false
set_option linter.unusedSimpArgs false
attribute [local go_sem high] eqA26
mutual
def z6.j0 : Nat → List (List (S26)) → List (S26) → Bool → Option (Bool)
 | 0, _, _, _ => none
 | k + 1, x0, x1, x19 => if x19 = true then ((z14.f k).bind fun t439 => (some t439)) else ((z45.f x1).bind fun t440 => ((z22.f k x1).bind fun t441 => (if (t440 != t441) = true then (some false) else (z6.l0 k x0 x1 0))))
def z6.l0 : Nat → List (List (S26)) → List (S26) → Int → Option (Bool)
 | 0, _, _, _ => none
 | k + 1, x0, x1, x5 => if x5 < (x0.length : Int) then (if 0 ≤ x5 then ((z43.f k x1 (rd_L4 x0 x5)).bind fun t450 => ((z22.f k x1).bind fun t453 => (if t453 = true then ((z10.f k (rd_L4 x0 x5)).bind fun t455 => (z6.j2 k x0 x1 x5 t450 ([] : List (S26)) t455)) else (z6.j2 k x0 x1 x5 t450 ([] : List (S26)) false)))) else (none)) else (if (x0.length : Int) > 9 then (some true) else ((z38.f k x0).bind fun t442 => ((z12.f k x0).bind fun t445 => ((z18.f k t442 t445).bind fun t448 => (some (t448 == 1))))))
def z6.j2 : Nat → List (List (S26)) → List (S26) → Int → List (S26) → List (S26) → Bool → Option (Bool)
 | 0, _, _, _, _, _, _ => none
 | k + 1, x0, x1, x5, x6, x7, x46 => if x46 = true then (if 0 ≤ x5 then (if x5 < (x0.length : Int) then ((z16.f x1 (rd_L4 x0 x5)).bind fun t457 => (z6.j3 k x0 x1 x5 x6 t457)) else (none)) else (none)) else (z6.j3 k x0 x1 x5 x6 x7)
def z6.j3 : Nat → List (List (S26)) → List (S26) → Int → List (S26) → List (S26) → Option (Bool)
 | 0, _, _, _, _, _ => none
 | k + 1, x0, x1, x5, x6, x7 => (z18.f k x6 x7).bind fun t460 => (if t460 = 0 then (some false) else (if 0 ≤ x5 then (if x5 < (x0.length : Int) then ((z10.f k (rd_L4 x0 x5)).bind fun t462 => (if t462 = true then (z6.l0 k x0 x1 (wrap64 (x5 + 1))) else (some true))) else (none)) else (none)))
end
def z6.f (k : Nat) (l0 : List (List (S26))) (l1 : List (S26)) : Option (Bool) := (z14.f k).bind fun t436 => (if t436 = true then ((z28.f k l0).bind fun t437 => (if t437 = 0 then (z6.j0 k l0 l1 true) else ((z19.f k l1).bind fun t438 => (z6.j0 k l0 l1 (t438 == 0))))) else (z6.j0 k l0 l1 true))
theorem z6.mono_l : ∀ k, (∀ y0 y1 y2, LeO (z6.j0 k y0 y1 y2) (z6.j0 (k + 1) y0 y1 y2)) ∧ (∀ y0 y1 y2, LeO (z6.l0 k y0 y1 y2) (z6.l0 (k + 1) y0 y1 y2)) ∧ (∀ y0 y1 y2 y3 y4 y5, LeO (z6.j2 k y0 y1 y2 y3 y4 y5) (z6.j2 (k + 1) y0 y1 y2 y3 y4 y5)) ∧ (∀ y0 y1 y2 y3 y4, LeO (z6.j3 k y0 y1 y2 y3 y4) (z6.j3 (k + 1) y0 y1 y2 y3 y4))
 | 0 => ⟨fun _ _ _ r h => by simp [z6.j0] at h, fun _ _ _ r h => by simp [z6.l0] at h, fun _ _ _ _ _ _ r h => by simp [z6.j2] at h, fun _ _ _ _ _ r h => by simp [z6.j3] at h⟩
 | k + 1 => by
  obtain ⟨ih0, ih1, ih2, ih3⟩ := z6.mono_l k
  refine ⟨?_, ?_, ?_, ?_⟩
  ·intro y0 y1 y2
   unfold z6.j0
   repeat' first
   | (with_reducible exact ih0 _ _ _)
   | (with_reducible exact ih1 _ _ _)
   | (with_reducible exact ih2 _ _ _ _ _ _)
   | (with_reducible exact ih3 _ _ _ _ _)
   | (with_reducible exact z43.mono _ _ _)
   | (with_reducible exact z38.mono _ _)
   | (with_reducible exact z18.mono _ _ _)
   | (with_reducible exact z19.mono _ _)
   | (with_reducible exact z28.mono _ _)
   | (with_reducible exact z14.mono _)
   | (with_reducible exact z10.mono _ _)
   | (with_reducible exact z12.mono _ _)
   | (with_reducible exact z22.mono _ _)
   | (with_reducible exact LeO.refl _)
   | (with_reducible exact LeO.none _)
   | (with_reducible refine LeO.ite ?_ ?_)
   | (with_reducible refine LeO.bind ?_ (fun _ => ?_))
   | exact ih0 _ _ _
   | exact ih1 _ _ _
   | exact ih2 _ _ _ _ _ _
   | exact ih3 _ _ _ _ _
   | exact z43.mono _ _ _
   | exact z38.mono _ _
   | exact z18.mono _ _ _
   | exact z19.mono _ _
   | exact z28.mono _ _
   | exact z14.mono _
   | exact z10.mono _ _
   | exact z12.mono _ _
   | exact z22.mono _ _
   | exact LeO.none _
   | refine LeO.ite ?_ ?_
   | refine LeO.bind ?_ (fun _ => ?_)
  ·intro y0 y1 y2
   unfold z6.l0
   repeat' first
   | (with_reducible exact ih0 _ _ _)
   | (with_reducible exact ih1 _ _ _)
   | (with_reducible exact ih2 _ _ _ _ _ _)
   | (with_reducible exact ih3 _ _ _ _ _)
   | (with_reducible exact z43.mono _ _ _)
   | (with_reducible exact z38.mono _ _)
   | (with_reducible exact z18.mono _ _ _)
   | (with_reducible exact z19.mono _ _)
   | (with_reducible exact z28.mono _ _)
   | (with_reducible exact z14.mono _)
   | (with_reducible exact z10.mono _ _)
   | (with_reducible exact z12.mono _ _)
   | (with_reducible exact z22.mono _ _)
   | (with_reducible exact LeO.refl _)
   | (with_reducible exact LeO.none _)
   | (with_reducible refine LeO.ite ?_ ?_)
   | (with_reducible refine LeO.bind ?_ (fun _ => ?_))
   | exact ih0 _ _ _
   | exact ih1 _ _ _
   | exact ih2 _ _ _ _ _ _
   | exact ih3 _ _ _ _ _
   | exact z43.mono _ _ _
   | exact z38.mono _ _
   | exact z18.mono _ _ _
   | exact z19.mono _ _
   | exact z28.mono _ _
   | exact z14.mono _
   | exact z10.mono _ _
   | exact z12.mono _ _
   | exact z22.mono _ _
   | exact LeO.none _
   | refine LeO.ite ?_ ?_
   | refine LeO.bind ?_ (fun _ => ?_)
  ·intro y0 y1 y2 y3 y4 y5
   unfold z6.j2
   repeat' first
   | (with_reducible exact ih0 _ _ _)
   | (with_reducible exact ih1 _ _ _)
   | (with_reducible exact ih2 _ _ _ _ _ _)
   | (with_reducible exact ih3 _ _ _ _ _)
   | (with_reducible exact z43.mono _ _ _)
   | (with_reducible exact z38.mono _ _)
   | (with_reducible exact z18.mono _ _ _)
   | (with_reducible exact z19.mono _ _)
   | (with_reducible exact z28.mono _ _)
   | (with_reducible exact z14.mono _)
   | (with_reducible exact z10.mono _ _)
   | (with_reducible exact z12.mono _ _)
   | (with_reducible exact z22.mono _ _)
   | (with_reducible exact LeO.refl _)
   | (with_reducible exact LeO.none _)
   | (with_reducible refine LeO.ite ?_ ?_)
   | (with_reducible refine LeO.bind ?_ (fun _ => ?_))
   | exact ih0 _ _ _
   | exact ih1 _ _ _
   | exact ih2 _ _ _ _ _ _
   | exact ih3 _ _ _ _ _
   | exact z43.mono _ _ _
   | exact z38.mono _ _
   | exact z18.mono _ _ _
   | exact z19.mono _ _
   | exact z28.mono _ _
   | exact z14.mono _
   | exact z10.mono _ _
   | exact z12.mono _ _
   | exact z22.mono _ _
   | exact LeO.none _
   | refine LeO.ite ?_ ?_
   | refine LeO.bind ?_ (fun _ => ?_)
  ·intro y0 y1 y2 y3 y4
   unfold z6.j3
   repeat' first
   | (with_reducible exact ih0 _ _ _)
   | (with_reducible exact ih1 _ _ _)
   | (with_reducible exact ih2 _ _ _ _ _ _)
   | (with_reducible exact ih3 _ _ _ _ _)
   | (with_reducible exact z43.mono _ _ _)
   | (with_reducible exact z38.mono _ _)
   | (with_reducible exact z18.mono _ _ _)
   | (with_reducible exact z19.mono _ _)
   | (with_reducible exact z28.mono _ _)
   | (with_reducible exact z14.mono _)
   | (with_reducible exact z10.mono _ _)
   | (with_reducible exact z12.mono _ _)
   | (with_reducible exact z22.mono _ _)
   | (with_reducible exact LeO.refl _)
   | (with_reducible exact LeO.none _)
   | (with_reducible refine LeO.ite ?_ ?_)
   | (with_reducible refine LeO.bind ?_ (fun _ => ?_))
   | exact ih0 _ _ _
   | exact ih1 _ _ _
   | exact ih2 _ _ _ _ _ _
   | exact ih3 _ _ _ _ _
   | exact z43.mono _ _ _
   | exact z38.mono _ _
   | exact z18.mono _ _ _
   | exact z19.mono _ _
   | exact z28.mono _ _
   | exact z14.mono _
   | exact z10.mono _ _
   | exact z12.mono _ _
   | exact z22.mono _ _
   | exact LeO.none _
   | refine LeO.ite ?_ ?_
   | refine LeO.bind ?_ (fun _ => ?_)
theorem z6.mono : ∀ a0 a1 k, LeO (z6.f k a0 a1) (z6.f (k + 1) a0 a1) := by
 intro a0 a1 k
 obtain ⟨ih0, ih1, ih2, ih3⟩ := z6.mono_l k
 unfold z6.f
 repeat' first
   | (with_reducible exact ih0 _ _ _)
   | (with_reducible exact ih1 _ _ _)
   | (with_reducible exact ih2 _ _ _ _ _ _)
   | (with_reducible exact ih3 _ _ _ _ _)
   | (with_reducible exact z43.mono _ _ _)
   | (with_reducible exact z38.mono _ _)
   | (with_reducible exact z18.mono _ _ _)
   | (with_reducible exact z19.mono _ _)
   | (with_reducible exact z28.mono _ _)
   | (with_reducible exact z14.mono _)
   | (with_reducible exact z10.mono _ _)
   | (with_reducible exact z12.mono _ _)
   | (with_reducible exact z22.mono _ _)
   | (with_reducible exact LeO.refl _)
   | (with_reducible exact LeO.none _)
   | (with_reducible refine LeO.ite ?_ ?_)
   | (with_reducible refine LeO.bind ?_ (fun _ => ?_))
   | exact ih0 _ _ _
   | exact ih1 _ _ _
   | exact ih2 _ _ _ _ _ _
   | exact ih3 _ _ _ _ _
   | exact z43.mono _ _ _
   | exact z38.mono _ _
   | exact z18.mono _ _ _
   | exact z19.mono _ _
   | exact z28.mono _ _
   | exact z14.mono _
   | exact z10.mono _ _
   | exact z12.mono _ _
   | exact z22.mono _ _
   | exact LeO.none _
   | refine LeO.ite ?_ ?_
   | refine LeO.bind ?_ (fun _ => ?_)
set_option maxHeartbeats 8000000 in
set_option maxRecDepth 100000 in
theorem z6.calls (k : Nat) (A0 : Option Addr) (c0 : Nat) (l0 : List (List (S26))) (A1 : Option Addr) (c1 : Nat) (l1 : List (S26)) (r : Bool) (w : World) (hr0 : Kd.C (Kd.slice 26 k26) w A0 l0.length l0) (hc0 : l0.length ≤ c0) (hr1 : Kd.C k26 w A1 l1.length l1) (hc1 : l1.length ≤ c1) (h : z6.f k l0 l1 = some r) (hr : r = true) :
  Calls Tryz.prog 5 #[.slice A0 l0.length c0, .slice A1 l1.length c1] w fun e w' => e = .returned (.bool r) ∧ Below w.heap.size w w' := by
 have HR0 := Aside0.mk hr0
 have HC0 := Aside0.mk hc0
 clear hr0 hc0
 have HR1 := Aside0.mk hr1
 have HC1 := Aside0.mk hc1
 clear hr1 hc1
 have HB := Aside0.mk (Below.refl w.heap.size w)
 have H : ((z14.f k).bind fun t436 => (if t436 = true then ((z28.f k l0).bind fun t437 => (if t437 = 0 then (z6.j0 k l0 l1 true) else ((z19.f k l1).bind fun t438 => (z6.j0 k l0 l1 (t438 == 0))))) else (z6.j0 k l0 l1 true))) = some r := h
 clear h
 have HRR_ := Aside0.mk hr
 clear hr
 have HC3 := Aside0.mk H
 clear H
 go_enter Tryz.func5, Tryz.ntmps5
 go_upto_region 1 with (fail)
 go_cut [19] (fun v19 wc => ∃ (kq : Nat) (x19_2 : Bool), v19 = .bool x19_2 ∧ Aside0 (z6.j0 kq l0 l1 x19_2 = some r) ∧ Aside0 (kq ≤ k) ∧ Aside0 (Below w.heap.size w wc))
 case first =>
  have H := HC3.out
  clear HC3
  replace H := Option.bind_eq_some_iff.mp H
  obtain ⟨t436, A40, H⟩ := H
  replace H : (if t436 = true then ((z28.f k l0).bind fun t437 => (if t437 = 0 then (z6.j0 k l0 l1 true) else ((z19.f k l1).bind fun t438 => (z6.j0 k l0 l1 (t438 == 0))))) else (z6.j0 k l0 l1 true)) = some r := H
  have A4 := Aside0.mk A40
  clear A40
  by_cases c5 : t436 = true
  ·subst c5
   have H1 : ((z28.f k l0).bind fun t437 => (if t437 = 0 then (z6.j0 k l0 l1 true) else ((z19.f k l1).bind fun t438 => (z6.j0 k l0 l1 (t438 == 0))))) = some r := by rw [if_pos rfl] at H; exact H
   clear H
   have H := H1
   clear H1
   replace H := Option.bind_eq_some_iff.mp H
   obtain ⟨t437, A60, H⟩ := H
   replace H : (if t437 = 0 then (z6.j0 k l0 l1 true) else ((z19.f k l1).bind fun t438 => (z6.j0 k l0 l1 (t438 == 0)))) = some r := H
   have A6 := Aside0.mk A60
   clear A60
   by_cases c7 : t437 = 0
   ·rw [if_pos c7] at H
    have c7b0 : (t437 == 0) = true := beq_iff_eq.mpr c7
    have c7b1 : (t437 != 0) = false := bne_eq_false_iff_eq.mpr c7
    clear c7
    (first | rw [c7b0] | (simp only [i64_w, i32_w]; rw [c7b0]) | skip)
    have H' := Aside0.mk H
    clear H
    go_wp2_with (first | ((with_reducible refine qg (f := 15) rfl ?_); refine goesL_ (some 8) rfl rfl Tryz.func15 (by kernel_rfl) rfl #[] rfl (by (try simp only [List.map_toArray, List.map_cons, List.map_nil]); first | done | rfl | (simp only [List.length_drop, List.length_take]; rfl)) ?_; (with_reducible refine (z14.calls k  true _ A4.out).mono ?_); rintro e w8 ⟨rfl, hb⟩; refine ⟨_, rfl, ?_⟩; have n0_ := Aside0.mk (qT (by repeat (first | (with_reducible first | exact HB.out | apply qA | apply qN | apply qD) | exact HB.out)) hb); clear HB; have HB := n0_; clear n0_; (try clear hb); (try clear hb2); (try clear hk); (try clear hi)) | (go_at_call 8; (with_reducible refine (z28.calls k _ _ l0 t437 _ ?side1 ?side2 A6.out).mono ?_); (case side1 => repeat (first | exact (Kd.C_below HR0.out HB.out) | (with_reducible refine Kd.C_alloc ?_ _) | (with_reducible refine Kd.C_drewN ?_ _) | (with_reducible refine Kd.C_drew ?_))); (case side2 => exact HC0.out); rintro e w' ⟨rfl, ⟨nd, rfl⟩⟩))
    go_meet
    case rel => exact ⟨_, (true), (by first | rfl | (simp; done) | (simp [*]; done)), H', ⟨by first | omega | exact Nat.le_refl _⟩, ⟨by repeat (first | (with_reducible first | exact HB.out | apply qA | apply qN | apply qD) | exact HB.out)⟩⟩
   ·rw [if_neg c7] at H
    have c7b0 : (t437 == 0) = false := beq_eq_false_iff_ne.mpr c7
    have c7b1 : (t437 != 0) = true := bne_iff_ne.mpr c7
    (first | rw [c7b0] | (simp only [i64_w, i32_w]; rw [c7b0]) | skip)
    replace H := Option.bind_eq_some_iff.mp H
    obtain ⟨t438, A90, H⟩ := H
    replace H : (z6.j0 k l0 l1 (t438 == 0)) = some r := H
    have A9 := Aside0.mk A90
    clear A90
    have H' := Aside0.mk H
    clear H
    go_wp2_with (first | ((with_reducible refine qg (f := 15) rfl ?_); refine goesL_ (some 8) rfl rfl Tryz.func15 (by kernel_rfl) rfl #[] rfl (by (try simp only [List.map_toArray, List.map_cons, List.map_nil]); first | done | rfl | (simp only [List.length_drop, List.length_take]; rfl)) ?_; (with_reducible refine (z14.calls k  true _ A4.out).mono ?_); rintro e w10 ⟨rfl, hb⟩; refine ⟨_, rfl, ?_⟩; have n0_ := Aside0.mk (qT (by repeat (first | (with_reducible first | exact HB.out | apply qA | apply qN | apply qD) | exact HB.out)) hb); clear HB; have HB := n0_; clear n0_; (try clear hb); (try clear hb2); (try clear hk); (try clear hi)) | (go_at_call 8; (with_reducible refine (z28.calls k _ _ l0 t437 _ ?side1 ?side2 A6.out).mono ?_); (case side1 => repeat (first | exact (Kd.C_below HR0.out HB.out) | (with_reducible refine Kd.C_alloc ?_ _) | (with_reducible refine Kd.C_drewN ?_ _) | (with_reducible refine Kd.C_drew ?_))); (case side2 => exact HC0.out); rintro e w' ⟨rfl, ⟨nd, rfl⟩⟩) | (go_at_call 16; (with_reducible refine (z19.calls k _ _ l1 t438 _ ?side1 ?side2 A9.out).mono ?_); (case side1 => repeat (first | exact (Kd.C_below HR1.out (by repeat (first | (with_reducible first | exact HB.out | apply qA | apply qN | apply qD) | exact HB.out))) | (with_reducible refine Kd.C_alloc ?_ _) | (with_reducible refine Kd.C_drewN ?_ _) | (with_reducible refine Kd.C_drew ?_))); (case side2 => exact HC1.out); rintro e w' ⟨rfl, ⟨nd, rfl⟩⟩))
    go_meet
    case rel => exact ⟨_, ((t438 == 0)), (by first | rfl | (simp; done) | (simp [*]; done)), H', ⟨by first | omega | exact Nat.le_refl _⟩, ⟨by repeat (first | (with_reducible first | exact HB.out | apply qA | apply qN | apply qD) | exact HB.out)⟩⟩
  ·replace c5 := Bool.eq_false_iff.mpr c5
   subst c5
   have H1 : (z6.j0 k l0 l1 true) = some r := by rw [if_neg (show ¬ (false = true) by decide)] at H; exact H
   clear H
   have H := H1
   clear H1
   have H' := Aside0.mk H
   clear H
   go_wp2_with (first | ((with_reducible refine qg (f := 15) rfl ?_); refine goesL_ (some 8) rfl rfl Tryz.func15 (by kernel_rfl) rfl #[] rfl (by (try simp only [List.map_toArray, List.map_cons, List.map_nil]); first | done | rfl | (simp only [List.length_drop, List.length_take]; rfl)) ?_; (with_reducible refine (z14.calls k  false _ A4.out).mono ?_); rintro e w11 ⟨rfl, hb⟩; refine ⟨_, rfl, ?_⟩; have n0_ := Aside0.mk (qT (by repeat (first | (with_reducible first | exact HB.out | apply qA | apply qN | apply qD) | exact HB.out)) hb); clear HB; have HB := n0_; clear n0_; (try clear hb); (try clear hb2); (try clear hk); (try clear hi)))
   go_meet
   case rel => exact ⟨_, (true), (by first | rfl | (simp; done) | (simp [*]; done)), H', ⟨by first | omega | exact Nat.le_refl _⟩, ⟨by repeat (first | (with_reducible first | exact HB.out | apply qA | apply qN | apply qD) | exact HB.out)⟩⟩
 case rest =>
  clear HC3
  try clear c1
  try clear p2
  try clear c5
  try clear c7
  try clear c7b0
  try clear c7b1
  obtain ⟨kq, x19_2, rfl, HA, HJ2, HB⟩ := hcut
  cases kq with
  | zero => exact absurd HA.out (by simp [z6.j0])
  | succ kj2 =>
   have H := HA.out
   clear HA
   simp only [z6.j0] at H
   by_cases c12 : x19_2 = true
   ·subst c12
    have H1 : ((z14.f kj2).bind fun t439 => (some t439)) = some r := by rw [if_pos rfl] at H; exact H
    clear H
    have H := H1
    clear H1
    replace H := Option.bind_eq_some_iff.mp H
    obtain ⟨t439, A130, H⟩ := H
    replace H : (some t439) = some r := H
    have A13 := Aside0.mk A130
    clear A130
    obtain rfl := Option.some.inj H
    go_wp2_with (first | ((with_reducible refine qg (f := 15) rfl ?_); refine goesL_ (some 20) rfl rfl Tryz.func15 (by kernel_rfl) rfl #[] rfl (by (try simp only [List.map_toArray, List.map_cons, List.map_nil]); first | done | rfl | (simp only [List.length_drop, List.length_take]; rfl)) ?_; (with_reducible refine (z14.calls kj2  t439 _ A13.out).mono ?_); rintro e w14 ⟨rfl, hb⟩; refine ⟨_, rfl, ?_⟩; have n0_ := Aside0.mk (qT (by repeat (first | (with_reducible first | exact HB.out | apply qA | apply qN | apply qD) | exact HB.out)) hb); clear HB; have HB := n0_; clear n0_; (try clear hb); (try clear hb2); (try clear hk); (try clear hi)))
    go_ret
    exact ⟨by first | rfl | (simp [qn, qe] <;> rfl) | (simp [*, qn, qe] <;> rfl), by repeat (first | (with_reducible first | exact HB.out | apply qA | apply qN | apply qD) | exact HB.out)⟩
   ·replace c12 := Bool.eq_false_iff.mpr c12
    subst c12
    have H1 : ((z45.f l1).bind fun t440 => ((z22.f kj2 l1).bind fun t441 => (if (t440 != t441) = true then (some false) else (z6.l0 kj2 l0 l1 0)))) = some r := by rw [if_neg (show ¬ (false = true) by decide)] at H; exact H
    clear H
    have H := H1
    clear H1
    replace H := Option.bind_eq_some_iff.mp H
    obtain ⟨t440, A150, H⟩ := H
    replace H : ((z22.f kj2 l1).bind fun t441 => (if (t440 != t441) = true then (some false) else (z6.l0 kj2 l0 l1 0))) = some r := H
    have A15 := Aside0.mk A150
    clear A150
    replace H := Option.bind_eq_some_iff.mp H
    obtain ⟨t441, A160, H⟩ := H
    replace H : (if (t440 != t441) = true then (some false) else (z6.l0 kj2 l0 l1 0)) = some r := H
    have A16 := Aside0.mk A160
    clear A160
    by_cases c17 : (t440 != t441) = true
    ·rw [if_pos c17] at H
     have c17b0 : (t440 != t441) = true := c17
     (try (have c17b1 : decide (t440 = t441) = false := by simpa using c17))
     (try (have c17b2 : (t440 == t441) = false := by simpa using c17))
     (try (have c17b3 : ¬ (t440 = t441) := by simpa using c17))
     (try (have c17b8 := c17b0; simp only [beq_true, beq_false, Bool.true_beq, Bool.false_beq, bne, Bool.not_eq_true', Bool.not_eq_false', Bool.not_true, Bool.not_false] at c17b8))
     clear c17
     exact Bool.noConfusion ((Option.some.inj H).trans HRR_.out)
    ·rw [if_neg c17] at H
     have c17b0 : (t440 != t441) = false := by simpa using c17
     (try (have c17b1 : decide (t440 = t441) = true := by simpa using c17))
     (try (have c17b2 : (t440 == t441) = true := by simpa using c17))
     (try (have c17b8 := c17b0; simp only [beq_true, beq_false, Bool.true_beq, Bool.false_beq, bne, Bool.not_eq_true', Bool.not_eq_false', Bool.not_true, Bool.not_false] at c17b8))
     clear c17
     have H' := Aside0.mk H
     clear H
     go_wp2_with (first | ((with_reducible refine qg (f := 17) rfl ?_); refine goesL_ (some 22) rfl rfl Tryz.func17 (by kernel_rfl) rfl #[.slice A1 l1.length c1] rfl (by (try simp only [List.map_toArray, List.map_cons, List.map_nil]); first | done | rfl | (simp only [List.length_drop, List.length_take]; rfl)) ?_; (with_reducible refine (z45.calls _ _ l1 t440 _ ?side1 ?side2 A15.out).mono ?_); (case side1 => repeat (first | exact (Kd.C_below HR1.out HB.out) | (with_reducible refine Kd.C_alloc ?_ _) | (with_reducible refine Kd.C_drewN ?_ _) | (with_reducible refine Kd.C_drew ?_))); (case side2 => exact HC1.out); rintro e w18 ⟨rfl, hb⟩; refine ⟨_, rfl, ?_⟩; have n0_ := Aside0.mk (qT (by repeat (first | (with_reducible first | exact HB.out | apply qA | apply qN | apply qD) | exact HB.out)) hb); clear HB; have HB := n0_; clear n0_; (try clear hb); (try clear hb2); (try clear hk); (try clear hi)) | ((with_reducible refine qg (f := 18) rfl ?_); refine goesL_ (some 24) rfl rfl Tryz.func18 (by kernel_rfl) rfl #[.slice A1 l1.length c1] rfl (by (try simp only [List.map_toArray, List.map_cons, List.map_nil]); first | done | rfl | (simp only [List.length_drop, List.length_take]; rfl)) ?_; (with_reducible refine (z22.calls kj2 _ _ l1 t441 _ ?side1 ?side2 A16.out).mono ?_); (case side1 => repeat (first | exact (Kd.C_below HR1.out HB.out) | (with_reducible refine Kd.C_alloc ?_ _) | (with_reducible refine Kd.C_drewN ?_ _) | (with_reducible refine Kd.C_drew ?_))); (case side2 => exact HC1.out); rintro e w19 ⟨rfl, hb⟩; refine ⟨_, rfl, ?_⟩; have n0_ := Aside0.mk (qT (by repeat (first | (with_reducible first | exact HB.out | apply qA | apply qN | apply qD) | exact HB.out)) hb); clear HB; have HB := n0_; clear n0_; (try clear hb); (try clear hb2); (try clear hk); (try clear hi)))
     go_loopg [5] kj2 (fun kq v5 w' => ∃ (x5_2 : Int), v5 = .int .i64 x5_2 ∧ Aside0 (z6.l0 kq l0 l1 x5_2 = some r) ∧ Aside0 (kq ≤ kj2) ∧ Aside0 (Below w.heap.size w w'))
     case atStart => exact ⟨(0), (by first | rfl | (simp; done) | (simp [*]; done)), H', ⟨Nat.le_refl _⟩, ⟨by repeat (first | (with_reducible first | exact HB.out | apply qA | apply qN | apply qD) | exact HB.out)⟩⟩
     case round =>
      clear H'
      try clear c1
      try clear p2
      try clear c5
      try clear c7
      try clear c7b0
      try clear c7b1
      try clear c12
      try clear c15
      try clear c17
      try clear c17b0
      try clear c17b1
      try clear c17b2
      try clear c18
      try clear p2
      obtain ⟨x5_2, rfl, HA, HK2, HB⟩ := hrel
      cases gk with
      | zero => exact absurd HA.out (by simp [z6.l0])
      | succ k2 =>
       have H := HA.out
       clear HA
       simp only [z6.l0] at H
       by_cases c20 : x5_2 < (l0.length : Int)
       ·rw [if_pos c20] at H
        have c20b0 : decide (x5_2 < (l0.length : Int)) = true := decide_eq_true c20
        clear c20
        by_cases c21 : 0 ≤ x5_2
        ·rw [if_pos c21] at H
         have c21b0 : decide (0 ≤ x5_2) = true := decide_eq_true c21
         clear c21
         replace H := Option.bind_eq_some_iff.mp H
         obtain ⟨t450, A220, H⟩ := H
         replace H : ((z22.f k2 l1).bind fun t453 => (if t453 = true then ((z10.f k2 (rd_L4 l0 x5_2)).bind fun t455 => (z6.j2 k2 l0 l1 x5_2 t450 ([] : List (S26)) t455)) else (z6.j2 k2 l0 l1 x5_2 t450 ([] : List (S26)) false))) = some r := H
         have A22 := Aside0.mk A220
         clear A220
         have HC23 := Aside0.mk H
         clear H
         have p449 : 0 ≤ (x5_2 : Int) := of_decide_eq_true (by first | (with_reducible assumption) | assumption)
         have q449 : x5_2 < (l0.length : Int) := of_decide_eq_true (by first | (with_reducible assumption) | assumption)
         obtain ⟨ad449, A449_0, c449_0, e449, hx449_0, hl449_0, hi449_0⟩ := at_L4 HR0.out x5_2 p449 q449
         cases e449
         replace hx449_0 := (HB.out.cell (World.block_lt_of_cell? w _ hx449_0)).trans hx449_0
         have HR449_0 := Aside0.mk hi449_0
         have HC449_0 := Aside0.mk hl449_0
         clear hi449_0 hl449_0
         replace p449 := eq_true p449
         replace q449 := eq_true q449
         go_upto_region 10 with (first | ((with_reducible refine qg (f := 19) rfl ?_); refine goesL_ (some 37) rfl rfl Tryz.func19 (by kernel_rfl) rfl #[.slice A1 l1.length c1, .slice A449_0 (rd_L4 l0 x5_2).length c449_0] rfl (by (try simp only [List.map_toArray, List.map_cons, List.map_nil]); first | done | rfl | (simp only [List.length_drop, List.length_take]; rfl)) ?_; (with_reducible refine (z43.calls k2 _ _ l1 _ _ (rd_L4 l0 x5_2) t450 _ ?side1 ?side2 ?side3 ?side4 A22.out).mono ?_); (case side1 => repeat (first | exact (Kd.C_below HR1.out HB.out) | (with_reducible refine Kd.C_alloc ?_ _) | (with_reducible refine Kd.C_drewN ?_ _) | (with_reducible refine Kd.C_drew ?_))); (case side2 => exact HC1.out); (case side3 => repeat (first | exact (Kd.C_below HR449_0.out HB.out) | (with_reducible refine Kd.C_alloc ?_ _) | (with_reducible refine Kd.C_drewN ?_ _) | (with_reducible refine Kd.C_drew ?_))); (case side4 => exact HC449_0.out); rintro e w24 ⟨v451, rfl, ho0, hb⟩; refine ⟨_, rfl, ?_⟩; have n0_ := Aside0.mk (Kd.R_lower ho0 (qZ (by repeat (first | (with_reducible first | exact HB.out | apply qA | apply qN | apply qD) | exact HB.out)))); have n1_ := Aside0.mk (qT (by repeat (first | (with_reducible first | exact HB.out | apply qA | apply qN | apply qD) | exact HB.out)) hb); clear HB; have HO452 := n0_; have HB := n1_; clear n0_ n1_; (try clear hb); (try clear hb2); (try clear hk); (try clear hi); (try clear ho0)))
         (try simp only [Act.put, sT, sZ, sS])
         go_cut [46] (fun v46 wc => ∃ (kq : Nat) (x46_22 : Bool), v46 = .bool x46_22 ∧ Aside0 (z6.j2 kq l0 l1 x5_2 t450 ([] : List (S26)) x46_22 = some r) ∧ Aside0 (kq ≤ k2) ∧ Aside0 (Kd.R k26 26 wc w.heap.size (fun k_ => some k_ ≠ ((.slice none 0 0) : Value).ownBlock) v451 t450) ∧ Aside0 (Kd.R k26 26 wc w.heap.size (fun k_ => some k_ ≠ (v451 : Value).ownBlock) (.slice none 0 0) ([] : List (S26))) ∧ Aside0 (Below w.heap.size w wc))
         case first =>
          have H := HC23.out
          clear HC23
          replace H := Option.bind_eq_some_iff.mp H
          obtain ⟨t453, A250, H⟩ := H
          replace H : (if t453 = true then ((z10.f k2 (rd_L4 l0 x5_2)).bind fun t455 => (z6.j2 k2 l0 l1 x5_2 t450 ([] : List (S26)) t455)) else (z6.j2 k2 l0 l1 x5_2 t450 ([] : List (S26)) false)) = some r := H
          have A25 := Aside0.mk A250
          clear A250
          by_cases c26 : t453 = true
          ·subst c26
           have H1 : ((z10.f k2 (rd_L4 l0 x5_2)).bind fun t455 => (z6.j2 k2 l0 l1 x5_2 t450 ([] : List (S26)) t455)) = some r := by rw [if_pos rfl] at H; exact H
           clear H
           have H := H1
           clear H1
           replace H := Option.bind_eq_some_iff.mp H
           obtain ⟨t455, A270, H⟩ := H
           replace H : (z6.j2 k2 l0 l1 x5_2 t450 ([] : List (S26)) t455) = some r := H
           have A27 := Aside0.mk A270
           clear A270
           have H' := Aside0.mk H
           clear H
           go_wp2_with (first | ((with_reducible refine qg (f := 18) rfl ?_); refine goesL_ (some 39) rfl rfl Tryz.func18 (by kernel_rfl) rfl #[.slice A1 l1.length c1] rfl (by (try simp only [List.map_toArray, List.map_cons, List.map_nil]); first | done | rfl | (simp only [List.length_drop, List.length_take]; rfl)) ?_; (with_reducible refine (z22.calls k2 _ _ l1 true _ ?side1 ?side2 A25.out).mono ?_); (case side1 => repeat (first | exact (Kd.C_below HR1.out HB.out) | (with_reducible refine Kd.C_alloc ?_ _) | (with_reducible refine Kd.C_drewN ?_ _) | (with_reducible refine Kd.C_drew ?_))); (case side2 => exact HC1.out); rintro e w28 ⟨rfl, hb⟩; refine ⟨_, rfl, ?_⟩; have n0_ := Aside0.mk (Kd.R_below (by (with_reducible repeat (first | apply Kd.R_alloc | apply Kd.R_drewN | apply Kd.R_drew)); exact HO452.out) hb); have n1_ := Aside0.mk (qT (by repeat (first | (with_reducible first | exact HB.out | apply qA | apply qN | apply qD) | exact HB.out)) hb); clear HO452; clear HB; have HO452 := n0_; have HB := n1_; clear n0_ n1_; (try clear hb); (try clear hb2); (try clear hk); (try clear hi); have p454 : 0 ≤ (x5_2 : Int) := of_decide_eq_true (by first | (with_reducible assumption) | assumption); have q454 : x5_2 < (l0.length : Int) := of_decide_eq_true (by first | (with_reducible assumption) | assumption); obtain ⟨ad454, A454_0, c454_0, e454, hx454_0, hl454_0, hi454_0⟩ := at_L4 HR0.out x5_2 p454 q454; obtain rfl : ad449 = ad454 := (by injection e454); replace hx454_0 := (HB.out.cell (World.block_lt_of_cell? w _ hx454_0)).trans hx454_0; have HR454_0 := Aside0.mk hi454_0; have HC454_0 := Aside0.mk hl454_0; clear hi454_0 hl454_0; replace p454 := eq_true p454; replace q454 := eq_true q454) | (go_at_call 20; (with_reducible refine (z10.calls k2 _ _ (rd_L4 l0 x5_2) t455 _ ?side1 ?side2 A27.out).mono ?_); (case side1 => repeat (first | exact (Kd.C_below HR454_0.out HB.out) | (with_reducible refine Kd.C_alloc ?_ _) | (with_reducible refine Kd.C_drewN ?_ _) | (with_reducible refine Kd.C_drew ?_))); (case side2 => exact HC454_0.out); rintro e w29 ⟨rfl, hb⟩; have n0_ := Aside0.mk (Kd.R_below (by (with_reducible repeat (first | apply Kd.R_alloc | apply Kd.R_drewN | apply Kd.R_drew)); exact HO452.out) hb); have n1_ := Aside0.mk (qT (by repeat (first | (with_reducible first | exact HB.out | apply qA | apply qN | apply qD) | exact HB.out)) hb); clear HO452; clear HB; have HO452 := n0_; have HB := n1_; clear n0_ n1_; (try clear hb); (try clear hb2); (try clear hk); (try clear hi)))
           go_meet
           case rel => exact ⟨_, (t455), (by first | rfl | (simp; done) | (simp [*]; done)), H', ⟨by have := HJ2.out; have := HK2.out; first | omega | exact Nat.le_refl _⟩, ⟨by (with_reducible repeat (first | apply Kd.R_alloc | apply Kd.R_drewN | apply Kd.R_drew)); exact Kd.R_mono HO452.out (fun _ hk => (by simp [Value.ownBlock]))⟩, ⟨by first | exact Kd.R_nil _ _ _ _ _ | exact Kd.N_nil _ _ _ _ _ | exact Kd.V_nil _ _ _ _ _ | exact Kd.Q_nil _ _ _ _ _ | exact Kd.S_nil _ _ _ _ _⟩, ⟨by repeat (first | (with_reducible first | exact HB.out | apply qA | apply qN | apply qD) | exact HB.out)⟩⟩
          ·replace c26 := Bool.eq_false_iff.mpr c26
           subst c26
           have H1 : (z6.j2 k2 l0 l1 x5_2 t450 ([] : List (S26)) false) = some r := by rw [if_neg (show ¬ (false = true) by decide)] at H; exact H
           clear H
           have H := H1
           clear H1
           have H' := Aside0.mk H
           clear H
           go_wp2_with (first | ((with_reducible refine qg (f := 18) rfl ?_); refine goesL_ (some 39) rfl rfl Tryz.func18 (by kernel_rfl) rfl #[.slice A1 l1.length c1] rfl (by (try simp only [List.map_toArray, List.map_cons, List.map_nil]); first | done | rfl | (simp only [List.length_drop, List.length_take]; rfl)) ?_; (with_reducible refine (z22.calls k2 _ _ l1 false _ ?side1 ?side2 A25.out).mono ?_); (case side1 => repeat (first | exact (Kd.C_below HR1.out HB.out) | (with_reducible refine Kd.C_alloc ?_ _) | (with_reducible refine Kd.C_drewN ?_ _) | (with_reducible refine Kd.C_drew ?_))); (case side2 => exact HC1.out); rintro e w30 ⟨rfl, hb⟩; refine ⟨_, rfl, ?_⟩; have n0_ := Aside0.mk (Kd.R_below (by (with_reducible repeat (first | apply Kd.R_alloc | apply Kd.R_drewN | apply Kd.R_drew)); exact HO452.out) hb); have n1_ := Aside0.mk (qT (by repeat (first | (with_reducible first | exact HB.out | apply qA | apply qN | apply qD) | exact HB.out)) hb); clear HO452; clear HB; have HO452 := n0_; have HB := n1_; clear n0_ n1_; (try clear hb); (try clear hb2); (try clear hk); (try clear hi)))
           go_meet
           case rel => exact ⟨_, (false), (by first | rfl | (simp; done) | (simp [*]; done)), H', ⟨by have := HJ2.out; have := HK2.out; first | omega | exact Nat.le_refl _⟩, ⟨by (with_reducible repeat (first | apply Kd.R_alloc | apply Kd.R_drewN | apply Kd.R_drew)); exact Kd.R_mono HO452.out (fun _ hk => (by simp [Value.ownBlock]))⟩, ⟨by first | exact Kd.R_nil _ _ _ _ _ | exact Kd.N_nil _ _ _ _ _ | exact Kd.V_nil _ _ _ _ _ | exact Kd.Q_nil _ _ _ _ _ | exact Kd.S_nil _ _ _ _ _⟩, ⟨by repeat (first | (with_reducible first | exact HB.out | apply qA | apply qN | apply qD) | exact HB.out)⟩⟩
         case rest =>
          clear HC23
          try clear c1
          try clear c2
          try clear p2
          try clear c4
          try clear p4
          try clear q4
          try clear hx4
          try clear c5
          try clear c7
          try clear c7b0
          try clear c7b1
          try clear c12
          try clear c15
          try clear c17
          try clear c17b0
          try clear c17b1
          try clear c17b2
          try clear c18
          try clear c19
          try clear c20
          try clear c20b0
          try clear c21
          try clear c21b0
          try clear c26
          try clear hx449_0
          try clear hx454_0
          try clear p2
          try clear p449
          try clear p454
          try clear q449
          try clear q454
          obtain ⟨kq, x46_22, rfl, HA, HJ22, HO_6, HO_7, HB⟩ := hcut
          cases kq with
          | zero => exact absurd HA.out (by simp [z6.j2])
          | succ kj22 =>
           have H := HA.out
           clear HA
           simp only [z6.j2] at H
           have HC31 := Aside0.mk H
           clear H
           go_upto_if 46 with (fail)
           go_cut [7] (fun v7 wc => ∃ (kq : Nat) (x7_30 : List (S26)), Aside0 (z6.j3 kq l0 l1 x5_2 t450 x7_30 = some r) ∧ Aside0 (kq ≤ kj22) ∧ Aside0 (Kd.R k26 26 wc w.heap.size (fun k_ => some k_ ≠ (v7 : Value).ownBlock) v451 t450) ∧ Aside0 (Kd.R k26 26 wc w.heap.size (fun k_ => some k_ ≠ (v451 : Value).ownBlock) v7 x7_30) ∧ Aside0 (Below w.heap.size w wc))
           case first =>
            have H := HC31.out
            clear HC31
            by_cases c32 : x46_22 = true
            ·subst c32
             have H1 : (if 0 ≤ x5_2 then (if x5_2 < (l0.length : Int) then ((z16.f l1 (rd_L4 l0 x5_2)).bind fun t457 => (z6.j3 kj22 l0 l1 x5_2 t450 t457)) else (none)) else (none)) = some r := by rw [if_pos rfl] at H; exact H
             clear H
             have H := H1
             clear H1
             by_cases c33 : 0 ≤ x5_2
             ·rw [if_pos c33] at H
              have c33b0 : decide (0 ≤ x5_2) = true := decide_eq_true c33
              clear c33
              (first | rw [c33b0] | (simp only [i64_w, i32_w]; rw [c33b0]) | skip)
              by_cases c34 : x5_2 < (l0.length : Int)
              ·rw [if_pos c34] at H
               have c34b0 : decide (x5_2 < (l0.length : Int)) = true := decide_eq_true c34
               clear c34
               replace H := Option.bind_eq_some_iff.mp H
               obtain ⟨t457, A350, H⟩ := H
               replace H : (z6.j3 kj22 l0 l1 x5_2 t450 t457) = some r := H
               have A35 := Aside0.mk A350
               clear A350
               have H' := Aside0.mk H
               clear H
               have p456 : 0 ≤ (x5_2 : Int) := of_decide_eq_true (by first | (with_reducible assumption) | assumption)
               have q456 : x5_2 < (l0.length : Int) := of_decide_eq_true (by first | (with_reducible assumption) | assumption)
               obtain ⟨ad456, A456_0, c456_0, e456, hx456_0, hl456_0, hi456_0⟩ := at_L4 HR0.out x5_2 p456 q456
               obtain rfl : ad449 = ad456 := (by injection e456)
               replace hx456_0 := (HB.out.cell (World.block_lt_of_cell? w _ hx456_0)).trans hx456_0
               have HR456_0 := Aside0.mk hi456_0
               have HC456_0 := Aside0.mk hl456_0
               clear hi456_0 hl456_0
               replace p456 := eq_true p456
               replace q456 := eq_true q456
               go_wp2_with (first | ((with_reducible refine qg (f := 21) rfl ?_); refine goesL_ (some 52) rfl rfl Tryz.func21 (by kernel_rfl) rfl #[.slice A1 l1.length c1, .slice A456_0 (rd_L4 l0 x5_2).length c456_0] rfl (by (try simp only [List.map_toArray, List.map_cons, List.map_nil]); first | done | rfl | (simp only [List.length_drop, List.length_take]; rfl)) ?_; (with_reducible refine (z16.calls _ _ l1 _ _ (rd_L4 l0 x5_2) t457 _ ?side1 ?side2 ?side3 ?side4 A35.out).mono ?_); (case side1 => repeat (first | exact (Kd.C_below HR1.out HB.out) | (with_reducible refine Kd.C_alloc ?_ _) | (with_reducible refine Kd.C_drewN ?_ _) | (with_reducible refine Kd.C_drew ?_))); (case side2 => exact HC1.out); (case side3 => repeat (first | exact (Kd.C_below HR456_0.out HB.out) | (with_reducible refine Kd.C_alloc ?_ _) | (with_reducible refine Kd.C_drewN ?_ _) | (with_reducible refine Kd.C_drew ?_))); (case side4 => exact HC456_0.out); rintro e w36 ⟨v458, rfl, ho0, hb⟩; refine ⟨_, rfl, ?_⟩; have n0_ := Aside0.mk (Kd.R_elder' (by (with_reducible repeat (first | apply Kd.R_alloc | apply Kd.R_drewN | apply Kd.R_drew)); exact HO_6.out) (Kd.R_base ho0) hb); have n1_ := Aside0.mk (Kd.R_elder' (by (with_reducible repeat (first | apply Kd.R_alloc | apply Kd.R_drewN | apply Kd.R_drew)); exact HO_7.out) (Kd.R_base ho0) hb); have n2_ := Aside0.mk (Kd.R_lower (Kd.R_new' (Kd.R_new' ho0 (Kd.R_lt (by (with_reducible repeat (first | apply Kd.R_alloc | apply Kd.R_drewN | apply Kd.R_drew)); exact HO_6.out))) (Kd.R_lt (by (with_reducible repeat (first | apply Kd.R_alloc | apply Kd.R_drewN | apply Kd.R_drew)); exact HO_7.out))) (qZ (by repeat (first | (with_reducible first | exact HB.out | apply qA | apply qN | apply qD) | exact HB.out)))); have n3_ := Aside0.mk (qT (by repeat (first | (with_reducible first | exact HB.out | apply qA | apply qN | apply qD) | exact HB.out)) hb); clear HO_6; clear HO_7; clear HB; have HO_6 := n0_; have HO_7 := n1_; have HO459 := n2_; have HB := n3_; clear n0_ n1_ n2_ n3_; (try clear hb); (try clear hb2); (try clear hk); (try clear hi); (try clear ho0)))
               go_meet
               case rel => exact ⟨_, (t457), H', ⟨by have := HJ2.out; have := HK2.out; have := HJ22.out; first | omega | exact Nat.le_refl _⟩, ⟨by (with_reducible repeat (first | apply Kd.R_alloc | apply Kd.R_drewN | apply Kd.R_drew)); exact Kd.R_mono HO_6.out (fun _ hk => hk.2)⟩, ⟨by (with_reducible repeat (first | apply Kd.R_alloc | apply Kd.R_drewN | apply Kd.R_drew)); exact Kd.R_mono HO459.out (fun _ hk => hk.1.2)⟩, ⟨by repeat (first | (with_reducible first | exact HB.out | apply qA | apply qN | apply qD) | exact HB.out)⟩⟩
              ·rw [if_neg c34] at H
               exact absurd H (by simp)
             ·rw [if_neg c33] at H
              exact absurd H (by simp)
            ·replace c32 := Bool.eq_false_iff.mpr c32
             subst c32
             have H1 : (z6.j3 kj22 l0 l1 x5_2 t450 ([] : List (S26))) = some r := by rw [if_neg (show ¬ (false = true) by decide)] at H; exact H
             clear H
             have H := H1
             clear H1
             have H' := Aside0.mk H
             clear H
             go_wp2
             go_meet
             case rel => exact ⟨_, (([] : List (S26))), H', ⟨by have := HJ2.out; have := HK2.out; have := HJ22.out; first | omega | exact Nat.le_refl _⟩, ⟨by (with_reducible repeat (first | apply Kd.R_alloc | apply Kd.R_drewN | apply Kd.R_drew)); exact HO_6.out⟩, ⟨by (with_reducible repeat (first | apply Kd.R_alloc | apply Kd.R_drewN | apply Kd.R_drew)); exact HO_7.out⟩, ⟨by repeat (first | (with_reducible first | exact HB.out | apply qA | apply qN | apply qD) | exact HB.out)⟩⟩
           case rest =>
            clear HC31
            try clear c1
            try clear c2
            try clear p2
            try clear c3
            try clear c4
            try clear p4
            try clear q4
            try clear hx4
            try clear c5
            try clear c7
            try clear c7b0
            try clear c7b1
            try clear c12
            try clear c15
            try clear c17
            try clear c17b0
            try clear c17b1
            try clear c17b2
            try clear c18
            try clear c19
            try clear c20
            try clear c20b0
            try clear c21
            try clear c21b0
            try clear c26
            try clear c32
            try clear c33
            try clear c33b0
            try clear c34
            try clear c34b0
            try clear hx449_0
            try clear hx454_0
            try clear hx456_0
            try clear p2
            try clear p4
            try clear p449
            try clear p454
            try clear p456
            try clear q4
            try clear q449
            try clear q454
            try clear q456
            obtain ⟨kq, x7_30, HA, HJ30, HO_6, HO_7, HB⟩ := hcut
            cases kq with
            | zero => exact absurd HA.out (by simp [z6.j3])
            | succ kj30 =>
             have H := HA.out
             clear HA
             simp only [z6.j3] at H
             replace H := Option.bind_eq_some_iff.mp H
             obtain ⟨t460, A370, H⟩ := H
             replace H : (if t460 = 0 then (some false) else (if 0 ≤ x5_2 then (if x5_2 < (l0.length : Int) then ((z10.f kj30 (rd_L4 l0 x5_2)).bind fun t462 => (if t462 = true then (z6.l0 kj30 l0 l1 (wrap64 (x5_2 + 1))) else (some true))) else (none)) else (none))) = some r := H
             have A37 := Aside0.mk A370
             clear A370
             by_cases c38 : t460 = 0
             ·rw [if_pos c38] at H
              have c38b0 : (t460 == 0) = true := beq_iff_eq.mpr c38
              have c38b1 : (t460 != 0) = false := bne_eq_false_iff_eq.mpr c38
              clear c38
              exact Bool.noConfusion ((Option.some.inj H).trans HRR_.out)
             ·rw [if_neg c38] at H
              have c38b0 : (t460 == 0) = false := beq_eq_false_iff_ne.mpr c38
              have c38b1 : (t460 != 0) = true := bne_iff_ne.mpr c38
              by_cases c39 : 0 ≤ x5_2
              ·rw [if_pos c39] at H
               have c39b0 : decide (0 ≤ x5_2) = true := decide_eq_true c39
               clear c39
               by_cases c40 : x5_2 < (l0.length : Int)
               ·rw [if_pos c40] at H
                have c40b0 : decide (x5_2 < (l0.length : Int)) = true := decide_eq_true c40
                clear c40
                replace H := Option.bind_eq_some_iff.mp H
                obtain ⟨t462, A410, H⟩ := H
                replace H : (if t462 = true then (z6.l0 kj30 l0 l1 (wrap64 (x5_2 + 1))) else (some true)) = some r := H
                have A41 := Aside0.mk A410
                clear A410
                by_cases c42 : t462 = true
                ·subst c42
                 have H1 : (z6.l0 kj30 l0 l1 (wrap64 (x5_2 + 1))) = some r := by rw [if_pos rfl] at H; exact H
                 clear H
                 have H := H1
                 clear H1
                 have H' := Aside0.mk H
                 clear H
                 obtain ⟨Ao43, co43, eo43⟩ := Kd.R_slice HO_6.out
                 subst eo43
                 obtain ⟨Ao44, co44, eo44⟩ := Kd.R_slice HO_7.out
                 subst eo44
                 go_wp2_with (first | ((with_reducible refine qg (f := 22) rfl ?_); refine goesL_ (some 55) rfl rfl Tryz.func22 (by kernel_rfl) rfl #[.slice Ao43 t450.length co43, .slice Ao44 x7_30.length co44] rfl (by (try simp only [List.map_toArray, List.map_cons, List.map_nil]); first | done | rfl | (simp only [List.length_drop, List.length_take]; rfl)) ?_; (with_reducible refine (z18.calls kj30 _ _ t450 _ _ x7_30 t460 _ ?side1 ?side2 ?side3 ?side4 A37.out).mono ?_); (case side1 => repeat (first | exact (Kd.R_reads' HO_6.out).2.2 | (with_reducible refine Kd.C_alloc ?_ _) | (with_reducible refine Kd.C_drewN ?_ _) | (with_reducible refine Kd.C_drew ?_))); (case side2 => exact (Kd.R_reads' HO_6.out).2.1); (case side3 => repeat (first | exact (Kd.R_reads' HO_7.out).2.2 | (with_reducible refine Kd.C_alloc ?_ _) | (with_reducible refine Kd.C_drewN ?_ _) | (with_reducible refine Kd.C_drew ?_))); (case side4 => exact (Kd.R_reads' HO_7.out).2.1); rintro e w' ⟨rfl, ⟨nd, rfl⟩⟩; refine ⟨_, rfl, ?_⟩; have p461 : 0 ≤ (x5_2 : Int) := of_decide_eq_true (by first | (with_reducible assumption) | assumption); have q461 : x5_2 < (l0.length : Int) := of_decide_eq_true (by first | (with_reducible assumption) | assumption); obtain ⟨ad461, A461_0, c461_0, e461, hx461_0, hl461_0, hi461_0⟩ := at_L4 HR0.out x5_2 p461 q461; obtain rfl : ad449 = ad461 := (by injection e461); replace hx461_0 := (HB.out.cell (World.block_lt_of_cell? w _ hx461_0)).trans hx461_0; have HR461_0 := Aside0.mk hi461_0; have HC461_0 := Aside0.mk hl461_0; clear hi461_0 hl461_0; replace p461 := eq_true p461; replace q461 := eq_true q461) | ((with_reducible refine qg (f := 20) rfl ?_); refine goesL_ (some 61) rfl rfl Tryz.func20 (by kernel_rfl) rfl #[.slice A461_0 (rd_L4 l0 x5_2).length c461_0] rfl (by (try simp only [List.map_toArray, List.map_cons, List.map_nil]); first | done | rfl | (simp only [List.length_drop, List.length_take]; rfl)) ?_; (with_reducible refine (z10.calls kj30 _ _ (rd_L4 l0 x5_2) true _ ?side1 ?side2 A41.out).mono ?_); (case side1 => repeat (first | exact (Kd.C_below HR461_0.out (by repeat (first | (with_reducible first | exact HB.out | apply qA | apply qN | apply qD) | exact HB.out))) | (with_reducible refine Kd.C_alloc ?_ _) | (with_reducible refine Kd.C_drewN ?_ _) | (with_reducible refine Kd.C_drew ?_))); (case side2 => exact HC461_0.out); rintro e w45 ⟨rfl, hb⟩; refine ⟨_, rfl, ?_⟩; have n0_ := Aside0.mk (Kd.R_below (by (with_reducible repeat (first | apply Kd.R_alloc | apply Kd.R_drewN | apply Kd.R_drew)); exact HO_6.out) hb); have n1_ := Aside0.mk (Kd.R_below (by (with_reducible repeat (first | apply Kd.R_alloc | apply Kd.R_drewN | apply Kd.R_drew)); exact HO_7.out) hb); have n2_ := Aside0.mk (qT (by repeat (first | (with_reducible first | exact HB.out | apply qA | apply qN | apply qD) | exact HB.out)) hb); clear HO_6; clear HO_7; clear HB; have HO_6 := n0_; have HO_7 := n1_; have HB := n2_; clear n0_ n1_ n2_; (try clear hb); (try clear hb2); (try clear hk); (try clear hi)))
                 go_roundg kj30
                 case measure => have := HJ2.out; have := HK2.out; have := HJ22.out; have := HJ30.out; omega
                 case rel => exact ⟨(wrap64 (x5_2 + 1)), (by first | rfl | (simp; done) | (simp [*]; done)), H', ⟨by have := HJ2.out; have := HK2.out; have := HJ22.out; have := HJ30.out; omega⟩, ⟨by repeat (first | (with_reducible first | exact HB.out | apply qA | apply qN | apply qD) | exact HB.out)⟩⟩
                ·replace c42 := Bool.eq_false_iff.mpr c42
                 subst c42
                 have H1 : (some true) = some r := by rw [if_neg (show ¬ (false = true) by decide)] at H; exact H
                 clear H
                 have H := H1
                 clear H1
                 obtain rfl := Option.some.inj H
                 obtain ⟨Ao46, co46, eo46⟩ := Kd.R_slice HO_6.out
                 subst eo46
                 obtain ⟨Ao47, co47, eo47⟩ := Kd.R_slice HO_7.out
                 subst eo47
                 go_wp2_with (first | ((with_reducible refine qg (f := 22) rfl ?_); refine goesL_ (some 55) rfl rfl Tryz.func22 (by kernel_rfl) rfl #[.slice Ao46 t450.length co46, .slice Ao47 x7_30.length co47] rfl (by (try simp only [List.map_toArray, List.map_cons, List.map_nil]); first | done | rfl | (simp only [List.length_drop, List.length_take]; rfl)) ?_; (with_reducible refine (z18.calls kj30 _ _ t450 _ _ x7_30 t460 _ ?side1 ?side2 ?side3 ?side4 A37.out).mono ?_); (case side1 => repeat (first | exact (Kd.R_reads' HO_6.out).2.2 | (with_reducible refine Kd.C_alloc ?_ _) | (with_reducible refine Kd.C_drewN ?_ _) | (with_reducible refine Kd.C_drew ?_))); (case side2 => exact (Kd.R_reads' HO_6.out).2.1); (case side3 => repeat (first | exact (Kd.R_reads' HO_7.out).2.2 | (with_reducible refine Kd.C_alloc ?_ _) | (with_reducible refine Kd.C_drewN ?_ _) | (with_reducible refine Kd.C_drew ?_))); (case side4 => exact (Kd.R_reads' HO_7.out).2.1); rintro e w' ⟨rfl, ⟨nd, rfl⟩⟩; refine ⟨_, rfl, ?_⟩; have p461 : 0 ≤ (x5_2 : Int) := of_decide_eq_true (by first | (with_reducible assumption) | assumption); have q461 : x5_2 < (l0.length : Int) := of_decide_eq_true (by first | (with_reducible assumption) | assumption); obtain ⟨ad461, A461_0, c461_0, e461, hx461_0, hl461_0, hi461_0⟩ := at_L4 HR0.out x5_2 p461 q461; obtain rfl : ad449 = ad461 := (by injection e461); replace hx461_0 := (HB.out.cell (World.block_lt_of_cell? w _ hx461_0)).trans hx461_0; have HR461_0 := Aside0.mk hi461_0; have HC461_0 := Aside0.mk hl461_0; clear hi461_0 hl461_0; replace p461 := eq_true p461; replace q461 := eq_true q461) | ((with_reducible refine qg (f := 20) rfl ?_); refine goesL_ (some 61) rfl rfl Tryz.func20 (by kernel_rfl) rfl #[.slice A461_0 (rd_L4 l0 x5_2).length c461_0] rfl (by (try simp only [List.map_toArray, List.map_cons, List.map_nil]); first | done | rfl | (simp only [List.length_drop, List.length_take]; rfl)) ?_; (with_reducible refine (z10.calls kj30 _ _ (rd_L4 l0 x5_2) false _ ?side1 ?side2 A41.out).mono ?_); (case side1 => repeat (first | exact (Kd.C_below HR461_0.out (by repeat (first | (with_reducible first | exact HB.out | apply qA | apply qN | apply qD) | exact HB.out))) | (with_reducible refine Kd.C_alloc ?_ _) | (with_reducible refine Kd.C_drewN ?_ _) | (with_reducible refine Kd.C_drew ?_))); (case side2 => exact HC461_0.out); rintro e w48 ⟨rfl, hb⟩; refine ⟨_, rfl, ?_⟩; have n0_ := Aside0.mk (Kd.R_below (by (with_reducible repeat (first | apply Kd.R_alloc | apply Kd.R_drewN | apply Kd.R_drew)); exact HO_6.out) hb); have n1_ := Aside0.mk (Kd.R_below (by (with_reducible repeat (first | apply Kd.R_alloc | apply Kd.R_drewN | apply Kd.R_drew)); exact HO_7.out) hb); have n2_ := Aside0.mk (qT (by repeat (first | (with_reducible first | exact HB.out | apply qA | apply qN | apply qD) | exact HB.out)) hb); clear HO_6; clear HO_7; clear HB; have HO_6 := n0_; have HO_7 := n1_; have HB := n2_; clear n0_ n1_ n2_; (try clear hb); (try clear hb2); (try clear hk); (try clear hi)))
                 go_ret
                 exact ⟨by first | rfl | (simp [qn, qe] <;> rfl) | (simp [*, qn, qe] <;> rfl), by repeat (first | (with_reducible first | exact HB.out | apply qA | apply qN | apply qD) | exact HB.out)⟩
               ·rw [if_neg c40] at H
                exact absurd H (by simp)
              ·rw [if_neg c39] at H
               exact absurd H (by simp)
        ·rw [if_neg c21] at H
         exact absurd H (by simp)
       ·rw [if_neg c20] at H
        have c20b0 : decide (x5_2 < (l0.length : Int)) = false := decide_eq_false c20
        clear c20
        by_cases c49 : (l0.length : Int) > 9
        ·rw [if_pos c49] at H
         have c49b0 : decide (9 < (l0.length : Int)) = true := decide_eq_true c49
         have c49b1 : decide (9 < l0.length) = true := decide_eq_true (by omega)
         clear c49
         obtain rfl := Option.some.inj H
         go_wp2
         go_ret
         exact ⟨by first | rfl | (simp [qn, qe] <;> rfl) | (simp [*, qn, qe] <;> rfl), by repeat (first | (with_reducible first | exact HB.out | apply qA | apply qN | apply qD) | exact HB.out)⟩
        ·rw [if_neg c49] at H
         have c49b0 : decide (9 < (l0.length : Int)) = false := decide_eq_false c49
         have c49b1 : decide (9 < l0.length) = false := decide_eq_false (by omega)
         clear c49
         replace H := Option.bind_eq_some_iff.mp H
         obtain ⟨t442, A500, H⟩ := H
         replace H : ((z12.f k2 l0).bind fun t445 => ((z18.f k2 t442 t445).bind fun t448 => (some (t448 == 1)))) = some r := H
         have A50 := Aside0.mk A500
         clear A500
         replace H := Option.bind_eq_some_iff.mp H
         obtain ⟨t445, A510, H⟩ := H
         replace H : ((z18.f k2 t442 t445).bind fun t448 => (some (t448 == 1))) = some r := H
         have A51 := Aside0.mk A510
         clear A510
         replace H := Option.bind_eq_some_iff.mp H
         obtain ⟨t448, A520, H⟩ := H
         replace H : (some (t448 == 1)) = some r := H
         have A52 := Aside0.mk A520
         clear A520
         obtain rfl := Option.some.inj H
         go_wp2_with (first | (go_at_call 23; (with_reducible refine (z38.calls k2 _ _ l0 t442 _ ?side1 ?side2 A50.out).mono ?_); (case side1 => repeat (first | exact (Kd.C_below HR0.out HB.out) | (with_reducible refine Kd.C_alloc ?_ _) | (with_reducible refine Kd.C_drewN ?_ _) | (with_reducible refine Kd.C_drew ?_))); (case side2 => exact HC0.out); rintro e w53 ⟨v443, rfl, ho0, hb⟩; have n0_ := Aside0.mk (Kd.R_lower ho0 (qZ (by repeat (first | (with_reducible first | exact HB.out | apply qA | apply qN | apply qD) | exact HB.out)))); have n1_ := Aside0.mk (qT (by repeat (first | (with_reducible first | exact HB.out | apply qA | apply qN | apply qD) | exact HB.out)) hb); clear HB; have HO444 := n0_; have HB := n1_; clear n0_ n1_; (try clear hb); (try clear hb2); (try clear hk); (try clear hi); (try clear ho0)) | (go_at_call 24; (with_reducible refine (z12.calls k2 _ _ l0 t445 _ ?side1 ?side2 A51.out).mono ?_); (case side1 => repeat (first | exact (Kd.C_below HR0.out HB.out) | (with_reducible refine Kd.C_alloc ?_ _) | (with_reducible refine Kd.C_drewN ?_ _) | (with_reducible refine Kd.C_drew ?_))); (case side2 => exact HC0.out); rintro e w54 ⟨v446, rfl, ho0, hb⟩; have n0_ := Aside0.mk (Kd.R_elder' (by (with_reducible repeat (first | apply Kd.R_alloc | apply Kd.R_drewN | apply Kd.R_drew)); exact HO444.out) (Kd.R_base ho0) hb); have n1_ := Aside0.mk (Kd.R_lower (Kd.R_new' ho0 (Kd.R_lt (by (with_reducible repeat (first | apply Kd.R_alloc | apply Kd.R_drewN | apply Kd.R_drew)); exact HO444.out))) (qZ (by repeat (first | (with_reducible first | exact HB.out | apply qA | apply qN | apply qD) | exact HB.out)))); have n2_ := Aside0.mk (qT (by repeat (first | (with_reducible first | exact HB.out | apply qA | apply qN | apply qD) | exact HB.out)) hb); clear HO444; clear HB; have HO444 := n0_; have HO447 := n1_; have HB := n2_; clear n0_ n1_ n2_; (try clear hb); (try clear hb2); (try clear hk); (try clear hi); (try clear ho0); obtain ⟨Ao55, co55, eo55⟩ := Kd.R_slice HO444.out; subst eo55; obtain ⟨Ao56, co56, eo56⟩ := Kd.R_slice HO447.out; subst eo56) | (go_at_call 22; (with_reducible refine (z18.calls k2 _ _ t442 _ _ t445 t448 _ ?side1 ?side2 ?side3 ?side4 A52.out).mono ?_); (case side1 => repeat (first | exact (Kd.R_reads' HO444.out).2.2 | (with_reducible refine Kd.C_alloc ?_ _) | (with_reducible refine Kd.C_drewN ?_ _) | (with_reducible refine Kd.C_drew ?_))); (case side2 => exact (Kd.R_reads' HO444.out).2.1); (case side3 => repeat (first | exact (Kd.R_reads' HO447.out).2.2 | (with_reducible refine Kd.C_alloc ?_ _) | (with_reducible refine Kd.C_drewN ?_ _) | (with_reducible refine Kd.C_drew ?_))); (case side4 => exact (Kd.R_reads' HO447.out).2.1); rintro e w' ⟨rfl, ⟨nd, rfl⟩⟩))
         go_ret
         exact ⟨by first | rfl | (simp [qn, qe] <;> rfl) | (simp [*, qn, qe] <;> rfl), by repeat (first | (with_reducible first | exact HB.out | apply qA | apply qN | apply qD) | exact HB.out)⟩

end Go.Proofs.YthfbcclbappbcaaGreatDoor.Print
