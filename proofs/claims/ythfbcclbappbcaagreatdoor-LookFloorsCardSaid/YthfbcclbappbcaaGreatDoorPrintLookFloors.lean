import Derived.Test.YthfbcclbappbcaaGreatDoorPrint0
import Derived.Test.YthfbcclbappbcaaGreatDoorPrint1
import Derived.Test.YthfbcclbappbcaaGreatDoorPrint6
import Derived.Test.YthfbcclbappbcaaGreatDoorPrintAw12
import Derived.Test.YthfbcclbappbcaaGreatDoorPrintDi
import Derived.Test.YthfbcclbappbcaaGreatDoorPrintF
import Derived.Test.YthfbcclbappbcaaGreatDoorPrintFi
import Derived.Test.YthfbcclbappbcaaGreatDoorPrintFl
import Derived.Test.YthfbcclbappbcaaGreatDoorPrintR12
namespace Go.Proofs.YthfbcclbappbcaaGreatDoor.Print
open Go.RowKit Go.Proofs.YthfbcclbappbcaaGreatDoorW.PrintWords Go.Proofs.YthfbcclbappbcaaGreatDoorW.PrintLast Go.Proofs.YthfbcclbappbcaaGreatDoorW.PrintMore
attribute [local go_sem] max2_int min2_int max_two min_two max_three min_three max_four min_four   -- for this text's walks alone
set_option linter.unusedVariables false
set_option linter.unusedSimpArgs false
attribute [local go_sem high] eqA26
def z1.j0 : Nat → List (List (S26)) → ByteArray → Bool → Option (Bool)
 | 0, _, _, _ => none
 | k + 1, x0, x1, x27 => if x27 = true then ((z11.f k).bind fun t492 => (some t492)) else ((z47.f k x0 x1).bind fun bt493 => ((z42.f k x0 x1).bind fun bt501 => ((z39.f bt493.2.2.2.2).bind fun t505 => (if t505 = 0 then (if bt493.2.1 = 1 then (if 0 ≤ bt493.2.2.2.1 then (if bt493.2.2.2.1 < (x0.length : Int) then ((z36.f k (rd_L4 x0 bt493.2.2.2.1) x1).bind fun bt509 => ((z39.f bt501.2).bind fun t514 => (if t514 = 6 then (if bt501.1 = 0 then (if bt509.2.2.2 = true then (some (bt509.1.toList == bt493.1.toList && (bt509.2.1 == bt493.2.1 && (bt509.2.2.1.toList == bt493.2.2.1.toList)))) else (some false)) else (some false)) else (some false)))) else (none)) else (none)) else ((z39.f bt501.2).bind fun t515 => (if t515 = 0 then (if bt501.1 = bt493.2.2.2.1 then ((z14.f k x0 x1).bind fun t516 => (some (bt501.1 == t516))) else (some false)) else (some false)))) else ((z39.f bt501.2).bind fun t506 => ((z39.f bt493.2.2.2.2).bind fun t507 => (if t506 = t507 then (some (bt501.1 == 0)) else (some false))))))))
def z1.f (k : Nat) (l0 : List (List (S26))) (a1 : ByteArray) : Option (Bool) := (z11.f k).bind fun t489 => (if t489 = true then ((z27.f k l0).bind fun t490 => (if t490 = 0 then (z1.j0 k l0 a1 true) else (if (a1.size : Int) > 100 then (z1.j0 k l0 a1 true) else ((z7.f k l0).bind fun t491 => (z1.j0 k l0 a1 (!t491)))))) else (z1.j0 k l0 a1 true))
theorem z1.mono_l : ∀ k, (∀ y0 y1 y2, LeO (z1.j0 k y0 y1 y2) (z1.j0 (k + 1) y0 y1 y2))
 | 0 => fun _ _ _ r h => by simp [z1.j0] at h
 | k + 1 => by
  have ih0 := z1.mono_l k
  ·intro y0 y1 y2
   unfold z1.j0
   repeat' first
   | (with_reducible exact ih0 _ _ _)
   | (with_reducible exact z36.mono _ _ _)
   | (with_reducible exact z47.mono _ _ _)
   | (with_reducible exact z42.mono _ _ _)
   | (with_reducible exact z27.mono _ _)
   | (with_reducible exact z11.mono _)
   | (with_reducible exact z14.mono _ _ _)
   | (with_reducible exact z7.mono _ _)
   | (with_reducible exact LeO.refl _)
   | (with_reducible exact LeO.none _)
   | (with_reducible refine LeO.ite ?_ ?_)
   | (with_reducible refine LeO.bind ?_ (fun _ => ?_))
   | exact ih0 _ _ _
   | exact z36.mono _ _ _
   | exact z47.mono _ _ _
   | exact z42.mono _ _ _
   | exact z27.mono _ _
   | exact z11.mono _
   | exact z14.mono _ _ _
   | exact z7.mono _ _
   | exact LeO.none _
   | refine LeO.ite ?_ ?_
   | refine LeO.bind ?_ (fun _ => ?_)
theorem z1.mono : ∀ a0 a1 k, LeO (z1.f k a0 a1) (z1.f (k + 1) a0 a1) := by
 intro a0 a1 k
 have ih0 := z1.mono_l k
 unfold z1.f
 repeat' first
   | (with_reducible exact ih0 _ _ _)
   | (with_reducible exact z36.mono _ _ _)
   | (with_reducible exact z47.mono _ _ _)
   | (with_reducible exact z42.mono _ _ _)
   | (with_reducible exact z27.mono _ _)
   | (with_reducible exact z11.mono _)
   | (with_reducible exact z14.mono _ _ _)
   | (with_reducible exact z7.mono _ _)
   | (with_reducible exact LeO.refl _)
   | (with_reducible exact LeO.none _)
   | (with_reducible refine LeO.ite ?_ ?_)
   | (with_reducible refine LeO.bind ?_ (fun _ => ?_))
   | exact ih0 _ _ _
   | exact z36.mono _ _ _
   | exact z47.mono _ _ _
   | exact z42.mono _ _ _
   | exact z27.mono _ _
   | exact z11.mono _
   | exact z14.mono _ _ _
   | exact z7.mono _ _
   | exact LeO.none _
   | refine LeO.ite ?_ ?_
   | refine LeO.bind ?_ (fun _ => ?_)
set_option maxHeartbeats 8000000 in
set_option maxRecDepth 100000 in
theorem z1.calls (k : Nat) (A0 : Option Addr) (c0 : Nat) (l0 : List (List (S26))) (a1 : ByteArray) (r : Bool) (w : World) (hr0 : Kd.C (Kd.slice 26 k26) w A0 l0.length l0) (hc0 : l0.length ≤ c0) (hG : Gl w) (h : z1.f k l0 a1 = some r) (hr : r = true) :
  Calls Tryz.prog 6 #[.slice A0 l0.length c0, .string a1] w fun e w' => e = .returned (.bool r) ∧ Below w.heap.size w w' := by
 have hu31 := Tryz.underlying31
 have hu26 := Tryz.underlying26
 have HR0 := Aside0.mk hr0
 have HC0 := Aside0.mk hc0
 clear hr0 hc0
 have HB := Aside0.mk (Below.refl w.heap.size w)
 have HG_ := Aside0.mk hG
 clear hG
 have H : ((z11.f k).bind fun t489 => (if t489 = true then ((z27.f k l0).bind fun t490 => (if t490 = 0 then (z1.j0 k l0 a1 true) else (if (a1.size : Int) > 100 then (z1.j0 k l0 a1 true) else ((z7.f k l0).bind fun t491 => (z1.j0 k l0 a1 (!t491)))))) else (z1.j0 k l0 a1 true))) = some r := h
 clear h
 have HRR_ := Aside0.mk hr
 clear hr
 have HC3 := Aside0.mk H
 clear H
 go_enter Tryz.func6, Tryz.ntmps6
 go_upto_region 1 with (fail)
 go_cut [27] (fun v27 wc => ∃ (kq : Nat) (x27_2 : Bool), v27 = .bool x27_2 ∧ Aside0 (z1.j0 kq l0 a1 x27_2 = some r) ∧ Aside0 (kq ≤ k) ∧ Aside0 (Below w.heap.size w wc))
 case first =>
  have H := HC3.out
  clear HC3
  replace H := Option.bind_eq_some_iff.mp H
  obtain ⟨t489, A40, H⟩ := H
  replace H : (if t489 = true then ((z27.f k l0).bind fun t490 => (if t490 = 0 then (z1.j0 k l0 a1 true) else (if (a1.size : Int) > 100 then (z1.j0 k l0 a1 true) else ((z7.f k l0).bind fun t491 => (z1.j0 k l0 a1 (!t491)))))) else (z1.j0 k l0 a1 true)) = some r := H
  have A4 := Aside0.mk A40
  clear A40
  by_cases c5 : t489 = true
  ·subst c5
   have H1 : ((z27.f k l0).bind fun t490 => (if t490 = 0 then (z1.j0 k l0 a1 true) else (if (a1.size : Int) > 100 then (z1.j0 k l0 a1 true) else ((z7.f k l0).bind fun t491 => (z1.j0 k l0 a1 (!t491)))))) = some r := by rw [if_pos rfl] at H; exact H
   clear H
   have H := H1
   clear H1
   replace H := Option.bind_eq_some_iff.mp H
   obtain ⟨t490, A60, H⟩ := H
   replace H : (if t490 = 0 then (z1.j0 k l0 a1 true) else (if (a1.size : Int) > 100 then (z1.j0 k l0 a1 true) else ((z7.f k l0).bind fun t491 => (z1.j0 k l0 a1 (!t491))))) = some r := H
   have A6 := Aside0.mk A60
   clear A60
   by_cases c7 : t490 = 0
   ·rw [if_pos c7] at H
    have c7b0 : (t490 == 0) = true := beq_iff_eq.mpr c7
    have c7b1 : (t490 != 0) = false := bne_eq_false_iff_eq.mpr c7
    clear c7
    (first | rw [c7b0] | (simp only [i64_w, i32_w]; rw [c7b0]) | skip)
    have H' := Aside0.mk H
    clear H
    go_wp2_with (first | ((with_reducible refine qg (f := 7) rfl ?_); refine goesL_ (some 11) rfl rfl Tryz.func7 (by kernel_rfl) rfl #[] rfl (by (try simp only [List.map_toArray, List.map_cons, List.map_nil]); first | done | rfl | (simp only [List.length_drop, List.length_take]; rfl)) ?_; (with_reducible refine (z11.calls k  true _ ?side1 A4.out).mono ?_); (case side1 => exact Gl.below HG_.out (by repeat (first | (with_reducible first | exact HB.out | apply qA | apply qN | apply qD) | exact HB.out))); rintro e w8 ⟨rfl, hb⟩; refine ⟨_, rfl, ?_⟩; have n0_ := Aside0.mk (qT (by repeat (first | (with_reducible first | exact HB.out | apply qA | apply qN | apply qD) | exact HB.out)) hb); clear HB; have HB := n0_; clear n0_; (try clear hb); (try clear hb2); (try clear hk); (try clear hi)) | (go_at_call 8; (with_reducible refine (z27.calls k _ _ l0 t490 _ ?side1 ?side2 A6.out).mono ?_); (case side1 => repeat (first | exact (Kd.C_below HR0.out HB.out) | (with_reducible refine Kd.C_alloc ?_ _) | (with_reducible refine Kd.C_drewN ?_ _) | (with_reducible refine Kd.C_drew ?_))); (case side2 => exact HC0.out); rintro e w' ⟨rfl, ⟨nd, rfl⟩⟩))
    go_meet
    case rel => exact ⟨_, (true), (by first | rfl | (simp; done) | (simp [*]; done)), H', ⟨by first | omega | exact Nat.le_refl _⟩, ⟨by repeat (first | (with_reducible first | exact HB.out | apply qA | apply qN | apply qD) | exact HB.out)⟩⟩
   ·rw [if_neg c7] at H
    have c7b0 : (t490 == 0) = false := beq_eq_false_iff_ne.mpr c7
    have c7b1 : (t490 != 0) = true := bne_iff_ne.mpr c7
    (first | rw [c7b0] | (simp only [i64_w, i32_w]; rw [c7b0]) | skip)
    by_cases c9 : (a1.size : Int) > 100
    ·rw [if_pos c9] at H
     have c9b0 : decide (100 < (a1.size : Int)) = true := decide_eq_true c9
     have c9b1 : decide (100 < a1.size) = true := decide_eq_true (by omega)
     clear c9
     have H' := Aside0.mk H
     clear H
     go_wp2_with (first | ((with_reducible refine qg (f := 7) rfl ?_); refine goesL_ (some 11) rfl rfl Tryz.func7 (by kernel_rfl) rfl #[] rfl (by (try simp only [List.map_toArray, List.map_cons, List.map_nil]); first | done | rfl | (simp only [List.length_drop, List.length_take]; rfl)) ?_; (with_reducible refine (z11.calls k  true _ ?side1 A4.out).mono ?_); (case side1 => exact Gl.below HG_.out (by repeat (first | (with_reducible first | exact HB.out | apply qA | apply qN | apply qD) | exact HB.out))); rintro e w10 ⟨rfl, hb⟩; refine ⟨_, rfl, ?_⟩; have n0_ := Aside0.mk (qT (by repeat (first | (with_reducible first | exact HB.out | apply qA | apply qN | apply qD) | exact HB.out)) hb); clear HB; have HB := n0_; clear n0_; (try clear hb); (try clear hb2); (try clear hk); (try clear hi)) | (go_at_call 8; (with_reducible refine (z27.calls k _ _ l0 t490 _ ?side1 ?side2 A6.out).mono ?_); (case side1 => repeat (first | exact (Kd.C_below HR0.out HB.out) | (with_reducible refine Kd.C_alloc ?_ _) | (with_reducible refine Kd.C_drewN ?_ _) | (with_reducible refine Kd.C_drew ?_))); (case side2 => exact HC0.out); rintro e w' ⟨rfl, ⟨nd, rfl⟩⟩))
     go_meet
     case rel => exact ⟨_, (true), (by first | rfl | (simp; done) | (simp [*]; done)), H', ⟨by first | omega | exact Nat.le_refl _⟩, ⟨by repeat (first | (with_reducible first | exact HB.out | apply qA | apply qN | apply qD) | exact HB.out)⟩⟩
    ·rw [if_neg c9] at H
     have c9b0 : decide (100 < (a1.size : Int)) = false := decide_eq_false c9
     have c9b1 : decide (100 < a1.size) = false := decide_eq_false (by omega)
     clear c9
     replace H := Option.bind_eq_some_iff.mp H
     obtain ⟨t491, A110, H⟩ := H
     replace H : (z1.j0 k l0 a1 (!t491)) = some r := H
     have A11 := Aside0.mk A110
     clear A110
     have H' := Aside0.mk H
     clear H
     go_wp2_with (first | ((with_reducible refine qg (f := 7) rfl ?_); refine goesL_ (some 11) rfl rfl Tryz.func7 (by kernel_rfl) rfl #[] rfl (by (try simp only [List.map_toArray, List.map_cons, List.map_nil]); first | done | rfl | (simp only [List.length_drop, List.length_take]; rfl)) ?_; (with_reducible refine (z11.calls k  true _ ?side1 A4.out).mono ?_); (case side1 => exact Gl.below HG_.out (by repeat (first | (with_reducible first | exact HB.out | apply qA | apply qN | apply qD) | exact HB.out))); rintro e w12 ⟨rfl, hb⟩; refine ⟨_, rfl, ?_⟩; have n0_ := Aside0.mk (qT (by repeat (first | (with_reducible first | exact HB.out | apply qA | apply qN | apply qD) | exact HB.out)) hb); clear HB; have HB := n0_; clear n0_; (try clear hb); (try clear hb2); (try clear hk); (try clear hi)) | (go_at_call 8; (with_reducible refine (z27.calls k _ _ l0 t490 _ ?side1 ?side2 A6.out).mono ?_); (case side1 => repeat (first | exact (Kd.C_below HR0.out HB.out) | (with_reducible refine Kd.C_alloc ?_ _) | (with_reducible refine Kd.C_drewN ?_ _) | (with_reducible refine Kd.C_drew ?_))); (case side2 => exact HC0.out); rintro e w' ⟨rfl, ⟨nd, rfl⟩⟩) | (go_at_call 10; (with_reducible refine (z7.calls k _ _ l0 t491 _ ?side1 ?side2 A11.out).mono ?_); (case side1 => repeat (first | exact (Kd.C_below HR0.out (by repeat (first | (with_reducible first | exact HB.out | apply qA | apply qN | apply qD) | exact HB.out))) | (with_reducible refine Kd.C_alloc ?_ _) | (with_reducible refine Kd.C_drewN ?_ _) | (with_reducible refine Kd.C_drew ?_))); (case side2 => exact HC0.out); rintro e w13 ⟨rfl, hb⟩; have n0_ := Aside0.mk (qT (by repeat (first | (with_reducible first | exact HB.out | apply qA | apply qN | apply qD) | exact HB.out)) hb); clear HB; have HB := n0_; clear n0_; (try clear hb); (try clear hb2); (try clear hk); (try clear hi)))
     go_meet
     case rel => exact ⟨_, (!t491), (by first | rfl | (simp; done) | (simp [*]; done)), H', ⟨by first | omega | exact Nat.le_refl _⟩, ⟨by repeat (first | (with_reducible first | exact HB.out | apply qA | apply qN | apply qD) | exact HB.out)⟩⟩
  ·replace c5 := Bool.eq_false_iff.mpr c5
   subst c5
   have H1 : (z1.j0 k l0 a1 true) = some r := by rw [if_neg (show ¬ (false = true) by decide)] at H; exact H
   clear H
   have H := H1
   clear H1
   have H' := Aside0.mk H
   clear H
   go_wp2_with (first | ((with_reducible refine qg (f := 7) rfl ?_); refine goesL_ (some 11) rfl rfl Tryz.func7 (by kernel_rfl) rfl #[] rfl (by (try simp only [List.map_toArray, List.map_cons, List.map_nil]); first | done | rfl | (simp only [List.length_drop, List.length_take]; rfl)) ?_; (with_reducible refine (z11.calls k  false _ ?side1 A4.out).mono ?_); (case side1 => exact Gl.below HG_.out (by repeat (first | (with_reducible first | exact HB.out | apply qA | apply qN | apply qD) | exact HB.out))); rintro e w14 ⟨rfl, hb⟩; refine ⟨_, rfl, ?_⟩; have n0_ := Aside0.mk (qT (by repeat (first | (with_reducible first | exact HB.out | apply qA | apply qN | apply qD) | exact HB.out)) hb); clear HB; have HB := n0_; clear n0_; (try clear hb); (try clear hb2); (try clear hk); (try clear hi)))
   go_meet
   case rel => exact ⟨_, (true), (by first | rfl | (simp; done) | (simp [*]; done)), H', ⟨by first | omega | exact Nat.le_refl _⟩, ⟨by repeat (first | (with_reducible first | exact HB.out | apply qA | apply qN | apply qD) | exact HB.out)⟩⟩
 case rest =>
  clear HC3
  try clear p2
  try clear c5
  try clear c6
  try clear c7
  try clear c7b0
  try clear c7b1
  try clear c9
  try clear c9b0
  try clear c9b1
  obtain ⟨kq, x27_2, rfl, HA, HJ2, HB⟩ := hcut
  cases kq with
  | zero => exact absurd HA.out (by simp [z1.j0])
  | succ kj2 =>
   have H := HA.out
   clear HA
   simp only [z1.j0] at H
   by_cases c15 : x27_2 = true
   ·subst c15
    have H1 : ((z11.f kj2).bind fun t492 => (some t492)) = some r := by rw [if_pos rfl] at H; exact H
    clear H
    have H := H1
    clear H1
    replace H := Option.bind_eq_some_iff.mp H
    obtain ⟨t492, A160, H⟩ := H
    replace H : (some t492) = some r := H
    have A16 := Aside0.mk A160
    clear A160
    obtain rfl := Option.some.inj H
    go_wp2_with (first | ((with_reducible refine qg (f := 7) rfl ?_); refine goesL_ (some 28) rfl rfl Tryz.func7 (by kernel_rfl) rfl #[] rfl (by (try simp only [List.map_toArray, List.map_cons, List.map_nil]); first | done | rfl | (simp only [List.length_drop, List.length_take]; rfl)) ?_; (with_reducible refine (z11.calls kj2  t492 _ ?side1 A16.out).mono ?_); (case side1 => exact Gl.below HG_.out (by repeat (first | (with_reducible first | exact HB.out | apply qA | apply qN | apply qD) | exact HB.out))); rintro e w17 ⟨rfl, hb⟩; refine ⟨_, rfl, ?_⟩; have n0_ := Aside0.mk (qT (by repeat (first | (with_reducible first | exact HB.out | apply qA | apply qN | apply qD) | exact HB.out)) hb); clear HB; have HB := n0_; clear n0_; (try clear hb); (try clear hb2); (try clear hk); (try clear hi)))
    go_ret
    exact ⟨by first | rfl | (simp [qn, qe] <;> rfl) | (simp [*, qn, qe] <;> rfl), by repeat (first | (with_reducible first | exact HB.out | apply qA | apply qN | apply qD) | exact HB.out)⟩
   ·replace c15 := Bool.eq_false_iff.mpr c15
    subst c15
    have H1 : ((z47.f kj2 l0 a1).bind fun bt493 => ((z42.f kj2 l0 a1).bind fun bt501 => ((z39.f bt493.2.2.2.2).bind fun t505 => (if t505 = 0 then (if bt493.2.1 = 1 then (if 0 ≤ bt493.2.2.2.1 then (if bt493.2.2.2.1 < (l0.length : Int) then ((z36.f kj2 (rd_L4 l0 bt493.2.2.2.1) a1).bind fun bt509 => ((z39.f bt501.2).bind fun t514 => (if t514 = 6 then (if bt501.1 = 0 then (if bt509.2.2.2 = true then (some (bt509.1.toList == bt493.1.toList && (bt509.2.1 == bt493.2.1 && (bt509.2.2.1.toList == bt493.2.2.1.toList)))) else (some false)) else (some false)) else (some false)))) else (none)) else (none)) else ((z39.f bt501.2).bind fun t515 => (if t515 = 0 then (if bt501.1 = bt493.2.2.2.1 then ((z14.f kj2 l0 a1).bind fun t516 => (some (bt501.1 == t516))) else (some false)) else (some false)))) else ((z39.f bt501.2).bind fun t506 => ((z39.f bt493.2.2.2.2).bind fun t507 => (if t506 = t507 then (some (bt501.1 == 0)) else (some false)))))))) = some r := by rw [if_neg (show ¬ (false = true) by decide)] at H; exact H
    clear H
    have H := H1
    clear H1
    replace H := Option.bind_eq_some_iff.mp H
    obtain ⟨⟨t493, t494, t495, t496, t497⟩, A180, H⟩ := H
    replace H : ((z42.f kj2 l0 a1).bind fun bt501 => ((z39.f t497).bind fun t505 => (if t505 = 0 then (if t494 = 1 then (if 0 ≤ t496 then (if t496 < (l0.length : Int) then ((z36.f kj2 (rd_L4 l0 t496) a1).bind fun bt509 => ((z39.f bt501.2).bind fun t514 => (if t514 = 6 then (if bt501.1 = 0 then (if bt509.2.2.2 = true then (some (bt509.1.toList == t493.toList && (bt509.2.1 == t494 && (bt509.2.2.1.toList == t495.toList)))) else (some false)) else (some false)) else (some false)))) else (none)) else (none)) else ((z39.f bt501.2).bind fun t515 => (if t515 = 0 then (if bt501.1 = t496 then ((z14.f kj2 l0 a1).bind fun t516 => (some (bt501.1 == t516))) else (some false)) else (some false)))) else ((z39.f bt501.2).bind fun t506 => ((z39.f t497).bind fun t507 => (if t506 = t507 then (some (bt501.1 == 0)) else (some false))))))) = some r := H
    have A18 := Aside0.mk A180
    clear A180
    replace H := Option.bind_eq_some_iff.mp H
    obtain ⟨⟨t501, t502⟩, A190, H⟩ := H
    replace H : ((z39.f t497).bind fun t505 => (if t505 = 0 then (if t494 = 1 then (if 0 ≤ t496 then (if t496 < (l0.length : Int) then ((z36.f kj2 (rd_L4 l0 t496) a1).bind fun bt509 => ((z39.f t502).bind fun t514 => (if t514 = 6 then (if t501 = 0 then (if bt509.2.2.2 = true then (some (bt509.1.toList == t493.toList && (bt509.2.1 == t494 && (bt509.2.2.1.toList == t495.toList)))) else (some false)) else (some false)) else (some false)))) else (none)) else (none)) else ((z39.f t502).bind fun t515 => (if t515 = 0 then (if t501 = t496 then ((z14.f kj2 l0 a1).bind fun t516 => (some (t501 == t516))) else (some false)) else (some false)))) else ((z39.f t502).bind fun t506 => ((z39.f t497).bind fun t507 => (if t506 = t507 then (some (t501 == 0)) else (some false)))))) = some r := H
    have A19 := Aside0.mk A190
    clear A190
    replace H := Option.bind_eq_some_iff.mp H
    obtain ⟨t505, A200, H⟩ := H
    replace H : (if t505 = 0 then (if t494 = 1 then (if 0 ≤ t496 then (if t496 < (l0.length : Int) then ((z36.f kj2 (rd_L4 l0 t496) a1).bind fun bt509 => ((z39.f t502).bind fun t514 => (if t514 = 6 then (if t501 = 0 then (if bt509.2.2.2 = true then (some (bt509.1.toList == t493.toList && (bt509.2.1 == t494 && (bt509.2.2.1.toList == t495.toList)))) else (some false)) else (some false)) else (some false)))) else (none)) else (none)) else ((z39.f t502).bind fun t515 => (if t515 = 0 then (if t501 = t496 then ((z14.f kj2 l0 a1).bind fun t516 => (some (t501 == t516))) else (some false)) else (some false)))) else ((z39.f t502).bind fun t506 => ((z39.f t497).bind fun t507 => (if t506 = t507 then (some (t501 == 0)) else (some false))))) = some r := H
    have A20 := Aside0.mk A200
    clear A200
    by_cases c21 : t505 = 0
    ·rw [if_pos c21] at H
     have c21b0 : (t505 == 0) = true := beq_iff_eq.mpr c21
     have c21b1 : (t505 != 0) = false := bne_eq_false_iff_eq.mpr c21
     clear c21
     by_cases c22 : t494 = 1
     ·rw [if_pos c22] at H
      have c22b0 : (t494 == 1) = true := beq_iff_eq.mpr c22
      have c22b1 : (t494 != 1) = false := bne_eq_false_iff_eq.mpr c22
      clear c22
      by_cases c23 : 0 ≤ t496
      ·rw [if_pos c23] at H
       have c23b0 : decide (0 ≤ t496) = true := decide_eq_true c23
       clear c23
       by_cases c24 : t496 < (l0.length : Int)
       ·rw [if_pos c24] at H
        have c24b0 : decide (t496 < (l0.length : Int)) = true := decide_eq_true c24
        clear c24
        replace H := Option.bind_eq_some_iff.mp H
        obtain ⟨⟨t509, t510, t511, t512⟩, A250, H⟩ := H
        replace H : ((z39.f t502).bind fun t514 => (if t514 = 6 then (if t501 = 0 then (if t512 = true then (some (t509.toList == t493.toList && (t510 == t494 && (t511.toList == t495.toList)))) else (some false)) else (some false)) else (some false))) = some r := H
        have A25 := Aside0.mk A250
        clear A250
        replace H := Option.bind_eq_some_iff.mp H
        obtain ⟨t514, A260, H⟩ := H
        replace H : (if t514 = 6 then (if t501 = 0 then (if t512 = true then (some (t509.toList == t493.toList && (t510 == t494 && (t511.toList == t495.toList)))) else (some false)) else (some false)) else (some false)) = some r := H
        have A26 := Aside0.mk A260
        clear A260
        by_cases c27 : t514 = 6
        ·rw [if_pos c27] at H
         have c27b0 : (t514 == 6) = true := beq_iff_eq.mpr c27
         have c27b1 : (t514 != 6) = false := bne_eq_false_iff_eq.mpr c27
         clear c27
         by_cases c28 : t501 = 0
         ·rw [if_pos c28] at H
          have c28b0 : (t501 == 0) = true := beq_iff_eq.mpr c28
          have c28b1 : (t501 != 0) = false := bne_eq_false_iff_eq.mpr c28
          clear c28
          by_cases c29 : t512 = true
          ·subst c29
           have H1 : (some (t509.toList == t493.toList && (t510 == t494 && (t511.toList == t495.toList)))) = some r := by rw [if_pos rfl] at H; exact H
           clear H
           have H := H1
           clear H1
           obtain rfl := Option.some.inj H
           go_wp2_with (first | ((with_reducible refine qg (f := 11) rfl ?_); refine goesL_ (some 32) rfl rfl Tryz.func11 (by kernel_rfl) rfl #[.slice A0 l0.length c0, .string a1] rfl (by (try simp only [List.map_toArray, List.map_cons, List.map_nil]); first | done | rfl | (simp only [List.length_drop, List.length_take]; rfl)) ?_; (with_reducible refine (z47.calls kj2 _ _ l0 a1 t493 t494 t495 t496 t497 _ ?side1 ?side2 A18.out).mono ?_); (case side1 => repeat (first | exact (Kd.C_below HR0.out HB.out) | (with_reducible refine Kd.C_alloc ?_ _) | (with_reducible refine Kd.C_drewN ?_ _) | (with_reducible refine Kd.C_drew ?_))); (case side2 => exact HC0.out); rintro e w30 ⟨v498, rfl, ho0, hb⟩; refine ⟨_, rfl, ?_⟩; have n0_ := Aside0.mk (Kd.R_lower ho0 (qZ (by repeat (first | (with_reducible first | exact HB.out | apply qA | apply qN | apply qD) | exact HB.out)))); have n1_ := Aside0.mk (qT (by repeat (first | (with_reducible first | exact HB.out | apply qA | apply qN | apply qD) | exact HB.out)) hb); clear HB; have HO499 := n0_; have HB := n1_; clear n0_ n1_; (try clear hb); (try clear hb2); (try clear hk); (try clear hi); (try clear ho0); have hE_v498 := errNil_of HO499.out) | ((with_reducible refine qd (N := 5) rfl ?_); (try (refine gate_guard (by rfl) ?_; dsimp only)); refine qx ?hg (N := 5) ?hd (cs := #[.string (⟨#[]⟩ : ByteArray), .int .i64 0, .string (⟨#[]⟩ : ByteArray), .int .i64 0]) (t := 31) ?hr ?_; (case hd => rfl); (case hg => rfl); (case hr => first | (go_simp; done) | (go_simp; rfl)); intro gb500 hg w31 hbox hb; have n0_ := Aside0.mk (Kd.R_below (by (with_reducible repeat (first | apply Kd.R_alloc | apply Kd.R_drewN | apply Kd.R_drew)); exact HO499.out) hb); have n1_ := Aside0.mk (qT (by repeat (first | (with_reducible first | exact HB.out | apply qA | apply qN | apply qD) | exact HB.out)) hb); have n2_ := Aside0.mk (hbox); have n3_ := Aside0.mk ((by rw [hg]; exact (qZ (by repeat (first | (with_reducible first | exact HB.out | apply qA | apply qN | apply qD) | exact HB.out))) : w.heap.size ≤ gb500)); have n4_ := Aside0.mk ((by rw [hg]; exact (qZ (by repeat (first | (with_reducible first | exact HB.out | apply qA | apply qN | apply qD) | exact HB.out))) : w.heap.size ≤ gb500)); clear HO499; clear HB; have HO499 := n0_; have HB := n1_; have BK500 := n2_; have GW500 := n3_; have GE500 := n4_; clear n0_ n1_ n2_ n3_ n4_; clear hb hbox hg; have hcz32_0 : w31.cell? ⟨gb500, 0, none⟩ = some (.string (⟨#[]⟩ : ByteArray)) := (qC BK500.out 0).trans rfl; have hcz32_1 : w31.cell? ⟨gb500, 1, none⟩ = some (.int .i64 0) := (qC BK500.out 1).trans rfl; have hcz32_2 : w31.cell? ⟨gb500, 2, none⟩ = some (.string (⟨#[]⟩ : ByteArray)) := (qC BK500.out 2).trans rfl; have hcz32_3 : w31.cell? ⟨gb500, 3, none⟩ = some (.int .i64 0) := (qC BK500.out 3).trans rfl; have hfz32_0 := qF BK500.out 0; have hfz32_1 := qF BK500.out 1; have hfz32_2 := qF BK500.out 2; have hfz32_3 := qF BK500.out 3) | ((with_reducible refine qg (f := 25) rfl ?_); refine goesL_ (some 38) rfl rfl Tryz.func25 (by kernel_rfl) rfl #[.slice A0 l0.length c0, .string a1] rfl (by (try simp only [List.map_toArray, List.map_cons, List.map_nil]); first | done | rfl | (simp only [List.length_drop, List.length_take]; rfl)) ?_; (with_reducible refine (z42.calls kj2 _ _ l0 a1 t501 t502 _ ?side1 ?side2 A19.out).mono ?_); (case side1 => exact Kd.C_below HR0.out (by repeat (first | (with_reducible first | exact HB.out | apply qA | apply qN | apply qD | refine qS ?_ GE500.out) | exact HB.out))); (case side2 => exact HC0.out); rintro e w33 ⟨v503, rfl, ho0, hb⟩; refine ⟨_, rfl, ?_⟩; have n0_ := Aside0.mk (Kd.R_elder' (by (with_reducible repeat (first | apply Kd.R_alloc | apply Kd.R_drewN | apply Kd.R_drew)); exact (Kd.R_mono (Kd.R_far (p := ⟨gb500, 3, none⟩) (Kd.R_far (p := ⟨gb500, 2, none⟩) (Kd.R_far (p := ⟨gb500, 1, none⟩) (Kd.R_far (p := ⟨gb500, 0, none⟩) (Kd.R_types HO499.out BK500.out (by decide)) (fun _ hk => hk.2) (.string t493)) (fun _ hk => hk.2) (.int .i64 t494)) (fun _ hk => hk.2) (.string t495)) (fun _ hk => hk.2) (.int .i64 t496)) (fun _ h_ => h_.1))) (Kd.R_base ho0) hb); have n1_ := Aside0.mk (Kd.R_lower (Kd.R_new' ho0 (Kd.R_lt (by (with_reducible repeat (first | apply Kd.R_alloc | apply Kd.R_drewN | apply Kd.R_drew)); exact (Kd.R_mono (Kd.R_far (p := ⟨gb500, 3, none⟩) (Kd.R_far (p := ⟨gb500, 2, none⟩) (Kd.R_far (p := ⟨gb500, 1, none⟩) (Kd.R_far (p := ⟨gb500, 0, none⟩) (Kd.R_types HO499.out BK500.out (by decide)) (fun _ hk => hk.2) (.string t493)) (fun _ hk => hk.2) (.int .i64 t494)) (fun _ hk => hk.2) (.string t495)) (fun _ hk => hk.2) (.int .i64 t496)) (fun _ h_ => h_.1))))) (qZ (by repeat (first | (with_reducible first | exact HB.out | apply qA | apply qN | apply qD | refine qS ?_ GE500.out) | exact HB.out)))); have n2_ := Aside0.mk (qb (g := gb500) (o := .cells #[.string t493, .int .i64 t494, .string t495, .int .i64 t496] 31 (0, 0)) (by (with_reducible repeat (first | refine qM ?_ _ | refine qW ?_ | refine qL ?_ _)); refine qu (cs := #[.string t493, .int .i64 t494, .string t495, .int .i64 0]) ?_ 3 _ rfl; (with_reducible repeat (first | refine qM ?_ _ | refine qW ?_ | refine qL ?_ _)); refine qu (cs := #[.string t493, .int .i64 t494, .string (⟨#[]⟩ : ByteArray), .int .i64 0]) ?_ 2 _ rfl; (with_reducible repeat (first | refine qM ?_ _ | refine qW ?_ | refine qL ?_ _)); refine qu (cs := #[.string t493, .int .i64 0, .string (⟨#[]⟩ : ByteArray), .int .i64 0]) ?_ 1 _ rfl; (with_reducible repeat (first | refine qM ?_ _ | refine qW ?_ | refine qL ?_ _)); refine qu (cs := #[.string (⟨#[]⟩ : ByteArray), .int .i64 0, .string (⟨#[]⟩ : ByteArray), .int .i64 0]) ?_ 0 _ rfl; (with_reducible repeat (first | refine qM ?_ _ | refine qW ?_ | refine qL ?_ _)); exact BK500.out) hb); have n3_ := Aside0.mk (qT (by repeat (first | (with_reducible first | exact HB.out | apply qA | apply qN | apply qD | refine qS ?_ GE500.out) | exact HB.out)) hb); clear HO499; clear BK500; clear HB; have HO499 := n0_; have HO504 := n1_; have BK500 := n2_; have HB := n3_; clear n0_ n1_ n2_ n3_; (try clear hb); (try clear hb2); (try clear hk); (try clear hi); (try clear ho0); have hE_v503 := errNil_of HO504.out; obtain ⟨Ao34, co34, eo34⟩ := Kd.R_slice HO499.out; subst eo34) | ((with_reducible refine qg (f := 12) rfl ?_); refine goesL_ (some 42) rfl rfl Tryz.func12 (by kernel_rfl) rfl #[(errV (.slice Ao34 t497.length co34))] rfl (by (try simp only [List.map_toArray, List.map_cons, List.map_nil]); first | done | rfl | (simp only [List.length_drop, List.length_take]; rfl)) ?_; (with_reducible refine (z39.calls _ _ t497 t505 _ ?side1 ?side2 ?side3 A20.out).mono ?_); (case side1 => repeat (first | exact (Kd.R_reads' HO499.out).2.2 | (with_reducible refine Kd.C_alloc ?_ _) | (with_reducible refine Kd.C_drewN ?_ _) | (with_reducible refine Kd.C_drew ?_))); (case side2 => exact (Kd.R_reads' HO499.out).2.1); (case side3 => exact Gl.below HG_.out (by repeat (first | (with_reducible first | exact HB.out | apply qA | apply qN | apply qD | refine qS ?_ GE500.out) | exact HB.out))); rintro e w35 ⟨rfl, hb⟩; refine ⟨_, rfl, ?_⟩; have n0_ := Aside0.mk (Kd.R_below (by (with_reducible repeat (first | apply Kd.R_alloc | apply Kd.R_drewN | apply Kd.R_drew)); exact HO499.out) hb); have n1_ := Aside0.mk (Kd.R_below (by (with_reducible repeat (first | apply Kd.R_alloc | apply Kd.R_drewN | apply Kd.R_drew)); exact HO504.out) hb); have n2_ := Aside0.mk (qb (g := gb500) (o := .cells #[.string t493, .int .i64 t494, .string t495, .int .i64 t496] 31 (0, 0)) (by (with_reducible repeat (first | refine qM ?_ _ | refine qW ?_ | refine qL ?_ _)); exact BK500.out) hb); have n3_ := Aside0.mk (qT (by repeat (first | (with_reducible first | exact HB.out | apply qA | apply qN | apply qD | refine qS ?_ GE500.out) | exact HB.out)) hb); clear HO499; clear HO504; clear BK500; clear HB; have HO499 := n0_; have HO504 := n1_; have BK500 := n2_; have HB := n3_; clear n0_ n1_ n2_ n3_; (try clear hb); (try clear hb2); (try clear hk); (try clear hi); have hcz36_0 : w35.cell? ⟨gb500, 0, none⟩ = some (.string t493) := (qC BK500.out 0).trans rfl; have hcz36_1 : w35.cell? ⟨gb500, 1, none⟩ = some (.int .i64 t494) := (qC BK500.out 1).trans rfl; have hcz36_2 : w35.cell? ⟨gb500, 2, none⟩ = some (.string t495) := (qC BK500.out 2).trans rfl; have hcz36_3 : w35.cell? ⟨gb500, 3, none⟩ = some (.int .i64 t496) := (qC BK500.out 3).trans rfl; have hfz36_0 := qF BK500.out 0; have hfz36_1 := qF BK500.out 1; have hfz36_2 := qF BK500.out 2; have hfz36_3 := qF BK500.out 3; have p508 : 0 ≤ (t496 : Int) := of_decide_eq_true (by first | (with_reducible assumption) | assumption); have q508 : t496 < (l0.length : Int) := of_decide_eq_true (by first | (with_reducible assumption) | assumption); obtain ⟨ad508, A508_0, c508_0, e508, hx508_0, hl508_0, hi508_0⟩ := at_L4 HR0.out t496 p508 q508; cases e508; replace hx508_0 := (HB.out.cell (World.block_lt_of_cell? w _ hx508_0)).trans hx508_0; have HR508_0 := Aside0.mk hi508_0; have HC508_0 := Aside0.mk hl508_0; clear hi508_0 hl508_0; replace p508 := eq_true p508; replace q508 := eq_true q508) | ((with_reducible refine qg (f := 26) rfl ?_); refine goesL_ (some 64) rfl rfl Tryz.func26 (by kernel_rfl) rfl #[.slice A508_0 (rd_L4 l0 t496).length c508_0, .string a1] rfl (by (try simp only [List.map_toArray, List.map_cons, List.map_nil]); first | done | rfl | (simp only [List.length_drop, List.length_take]; rfl)) ?_; (with_reducible refine (z36.calls kj2 _ _ (rd_L4 l0 t496) a1 t509 t510 t511 true _ ?side1 ?side2 A25.out).mono ?_); (case side1 => repeat (first | exact (Kd.C_below HR508_0.out HB.out) | (with_reducible refine Kd.C_alloc ?_ _) | (with_reducible refine Kd.C_drewN ?_ _) | (with_reducible refine Kd.C_drew ?_))); (case side2 => exact HC508_0.out); rintro e w37 ⟨rfl, hb⟩; refine ⟨_, rfl, ?_⟩; have n0_ := Aside0.mk (Kd.R_below (by (with_reducible repeat (first | apply Kd.R_alloc | apply Kd.R_drewN | apply Kd.R_drew)); exact HO499.out) hb); have n1_ := Aside0.mk (Kd.R_below (by (with_reducible repeat (first | apply Kd.R_alloc | apply Kd.R_drewN | apply Kd.R_drew)); exact HO504.out) hb); have n2_ := Aside0.mk (qb (g := gb500) (o := .cells #[.string t493, .int .i64 t494, .string t495, .int .i64 t496] 31 (0, 0)) (by (with_reducible repeat (first | refine qM ?_ _ | refine qW ?_ | refine qL ?_ _)); exact BK500.out) hb); have n3_ := Aside0.mk (qT (by repeat (first | (with_reducible first | exact HB.out | apply qA | apply qN | apply qD | refine qS ?_ GE500.out) | exact HB.out)) hb); clear HO499; clear HO504; clear BK500; clear HB; have HO499 := n0_; have HO504 := n1_; have BK500 := n2_; have HB := n3_; clear n0_ n1_ n2_ n3_; (try clear hb); (try clear hb2); (try clear hk); (try clear hi)) | ((with_reducible refine qd (N := 9) rfl ?_); (try (refine gate_guard (by rfl) ?_; dsimp only)); refine qx ?hg (N := 9) ?hd (cs := #[.string (⟨#[]⟩ : ByteArray), .int .i64 0, .string (⟨#[]⟩ : ByteArray)]) (t := 26) ?hr ?_; (case hd => rfl); (case hg => rfl); (case hr => first | (go_simp; done) | (go_simp; rfl)); intro gb513 hg w38 hbox hb; have n0_ := Aside0.mk (Kd.R_below (by (with_reducible repeat (first | apply Kd.R_alloc | apply Kd.R_drewN | apply Kd.R_drew)); exact HO499.out) hb); have n1_ := Aside0.mk (Kd.R_below (by (with_reducible repeat (first | apply Kd.R_alloc | apply Kd.R_drewN | apply Kd.R_drew)); exact HO504.out) hb); have n2_ := Aside0.mk (qb (g := gb500) (o := .cells #[.string t493, .int .i64 t494, .string t495, .int .i64 t496] 31 (0, 0)) (by (with_reducible repeat (first | refine qM ?_ _ | refine qW ?_ | refine qL ?_ _)); exact BK500.out) hb); have n3_ := Aside0.mk (qT (by repeat (first | (with_reducible first | exact HB.out | apply qA | apply qN | apply qD | refine qS ?_ GE500.out) | exact HB.out)) hb); have n4_ := Aside0.mk (hbox); have n5_ := Aside0.mk ((by rw [hg]; exact (qZ (by repeat (first | (with_reducible first | exact HB.out | apply qA | apply qN | apply qD | refine qS ?_ GE500.out) | exact HB.out))) : w.heap.size ≤ gb513)); have n6_ := Aside0.mk ((by rw [hg]; exact (qZ (by repeat (first | (with_reducible first | exact HB.out | apply qA | apply qN | apply qD | refine qS ?_ GE500.out) | exact HB.out))) : w.heap.size ≤ gb513)); have n7_ := Aside0.mk ((by rw [hg]; exact Nat.ne_of_lt (blk_lt (g := gb500) (o := .cells #[.string t493, .int .i64 t494, .string t495, .int .i64 t496] 31 (0, 0)) (by (with_reducible repeat (first | refine qM ?_ _ | refine qW ?_ | refine qL ?_ _)); exact BK500.out)) : gb500 ≠ gb513)); have n8_ := Aside0.mk ((by rw [hg]; exact Nat.ne_of_gt (blk_lt (g := gb500) (o := .cells #[.string t493, .int .i64 t494, .string t495, .int .i64 t496] 31 (0, 0)) (by (with_reducible repeat (first | refine qM ?_ _ | refine qW ?_ | refine qL ?_ _)); exact BK500.out)) : gb513 ≠ gb500)); clear HO499; clear HO504; clear BK500; clear HB; have HO499 := n0_; have HO504 := n1_; have BK500 := n2_; have HB := n3_; have BK513 := n4_; have GW513 := n5_; have GE513 := n6_; have NB500_513 := n7_; have NB513_500 := n8_; clear n0_ n1_ n2_ n3_ n4_ n5_ n6_ n7_ n8_; clear hb hbox hg; have hnb39 := NB513_500.out; have hnc39 := NB500_513.out; have hcz40_0 : w38.cell? ⟨gb513, 0, none⟩ = some (.string (⟨#[]⟩ : ByteArray)) := (qC BK513.out 0).trans rfl; have hcz40_1 : w38.cell? ⟨gb513, 1, none⟩ = some (.int .i64 0) := (qC BK513.out 1).trans rfl; have hcz40_2 : w38.cell? ⟨gb513, 2, none⟩ = some (.string (⟨#[]⟩ : ByteArray)) := (qC BK513.out 2).trans rfl; have hfz40_0 := qF BK513.out 0; have hfz40_1 := qF BK513.out 1; have hfz40_2 := qF BK513.out 2; obtain ⟨Ao41, co41, eo41⟩ := Kd.R_slice HO504.out; subst eo41) | ((with_reducible refine qg (f := 12) rfl ?_); refine goesL_ (some 68) rfl rfl Tryz.func12 (by kernel_rfl) rfl #[(errV (.slice Ao41 t502.length co41))] rfl (by (try simp only [List.map_toArray, List.map_cons, List.map_nil]); first | done | rfl | (simp only [List.length_drop, List.length_take]; rfl)) ?_; (with_reducible refine (z39.calls _ _ t502 t514 _ ?side1 ?side2 ?side3 A26.out).mono ?_); (case side1 => refine (Kd.R_reads' (e := 91) (base := w.heap.size) (ok := fun k_ => (True ∧ some k_ ≠ (.slice Ao34 t497.length co34 : Value).ownBlock)) (n := t502.length) (c := co41) ?_).2.2; exact (by (with_reducible repeat (first | apply Kd.R_alloc | apply Kd.R_drewN | apply Kd.R_drew)); exact (Kd.R_mono (Kd.R_far (p := ⟨gb513, 2, none⟩) (Kd.R_far (p := ⟨gb513, 1, none⟩) (Kd.R_far (p := ⟨gb513, 0, none⟩) (Kd.R_types HO504.out BK513.out (by decide)) (fun _ hk => hk.2) (.string t509)) (fun _ hk => hk.2) (.int .i64 t510)) (fun _ hk => hk.2) (.string t511)) (fun _ h_ => h_.1)))); (case side2 => exact (Kd.R_reads' HO504.out).2.1); (case side3 => exact Gl.below HG_.out (by repeat (first | (with_reducible first | exact HB.out | apply qA | apply qN | apply qD | refine qS ?_ GE500.out | refine qS ?_ GE513.out) | exact HB.out))); rintro e w42 ⟨rfl, hb⟩; refine ⟨_, rfl, ?_⟩; have n0_ := Aside0.mk (Kd.R_below (by (with_reducible repeat (first | apply Kd.R_alloc | apply Kd.R_drewN | apply Kd.R_drew)); exact (Kd.R_mono (Kd.R_far (p := ⟨gb513, 2, none⟩) (Kd.R_far (p := ⟨gb513, 1, none⟩) (Kd.R_far (p := ⟨gb513, 0, none⟩) (Kd.R_types HO499.out BK513.out (by decide)) (fun _ hk => hk.2) (.string t509)) (fun _ hk => hk.2) (.int .i64 t510)) (fun _ hk => hk.2) (.string t511)) (fun _ h_ => h_.1))) hb); have n1_ := Aside0.mk (Kd.R_below (by (with_reducible repeat (first | apply Kd.R_alloc | apply Kd.R_drewN | apply Kd.R_drew)); exact (Kd.R_mono (Kd.R_far (p := ⟨gb513, 2, none⟩) (Kd.R_far (p := ⟨gb513, 1, none⟩) (Kd.R_far (p := ⟨gb513, 0, none⟩) (Kd.R_types HO504.out BK513.out (by decide)) (fun _ hk => hk.2) (.string t509)) (fun _ hk => hk.2) (.int .i64 t510)) (fun _ hk => hk.2) (.string t511)) (fun _ h_ => h_.1))) hb); have n2_ := Aside0.mk (qb (g := gb500) (o := .cells #[.string t493, .int .i64 t494, .string t495, .int .i64 t496] 31 (0, 0)) (by (with_reducible repeat (first | refine qM ?_ _ | refine qW ?_ | refine qL ?_ _)); refine qv ?_ NB500_513.out _; (with_reducible repeat (first | refine qM ?_ _ | refine qW ?_ | refine qL ?_ _)); refine qv ?_ NB500_513.out _; (with_reducible repeat (first | refine qM ?_ _ | refine qW ?_ | refine qL ?_ _)); refine qv ?_ NB500_513.out _; (with_reducible repeat (first | refine qM ?_ _ | refine qW ?_ | refine qL ?_ _)); exact BK500.out) hb); have n3_ := Aside0.mk (qb (g := gb513) (o := .cells #[.string t509, .int .i64 t510, .string t511] 26 (0, 0)) (by (with_reducible repeat (first | refine qM ?_ _ | refine qW ?_ | refine qL ?_ _)); refine qu (cs := #[.string t509, .int .i64 t510, .string (⟨#[]⟩ : ByteArray)]) ?_ 2 _ rfl; (with_reducible repeat (first | refine qM ?_ _ | refine qW ?_ | refine qL ?_ _)); refine qu (cs := #[.string t509, .int .i64 0, .string (⟨#[]⟩ : ByteArray)]) ?_ 1 _ rfl; (with_reducible repeat (first | refine qM ?_ _ | refine qW ?_ | refine qL ?_ _)); refine qu (cs := #[.string (⟨#[]⟩ : ByteArray), .int .i64 0, .string (⟨#[]⟩ : ByteArray)]) ?_ 0 _ rfl; (with_reducible repeat (first | refine qM ?_ _ | refine qW ?_ | refine qL ?_ _)); exact BK513.out) hb); have n4_ := Aside0.mk (qT (by repeat (first | (with_reducible first | exact HB.out | apply qA | apply qN | apply qD | refine qS ?_ GE500.out | refine qS ?_ GE513.out) | exact HB.out)) hb); clear HO499; clear HO504; clear BK500; clear BK513; clear HB; have HO499 := n0_; have HO504 := n1_; have BK500 := n2_; have BK513 := n3_; have HB := n4_; clear n0_ n1_ n2_ n3_ n4_; (try clear hb); (try clear hb2); (try clear hk); (try clear hi); have hcz43_0 : w42.cell? ⟨gb513, 0, none⟩ = some (.string t509) := (qC BK513.out 0).trans rfl; have hcz43_1 : w42.cell? ⟨gb513, 1, none⟩ = some (.int .i64 t510) := (qC BK513.out 1).trans rfl; have hcz43_2 : w42.cell? ⟨gb513, 2, none⟩ = some (.string t511) := (qC BK513.out 2).trans rfl; have hfz43_0 := qF BK513.out 0; have hfz43_1 := qF BK513.out 1; have hfz43_2 := qF BK513.out 2; have hcz44_0 : w42.cell? ⟨gb500, 0, none⟩ = some (.string t493) := (qC BK500.out 0).trans rfl; have hcz44_1 : w42.cell? ⟨gb500, 1, none⟩ = some (.int .i64 t494) := (qC BK500.out 1).trans rfl; have hcz44_2 : w42.cell? ⟨gb500, 2, none⟩ = some (.string t495) := (qC BK500.out 2).trans rfl; have hcz44_3 : w42.cell? ⟨gb500, 3, none⟩ = some (.int .i64 t496) := (qC BK500.out 3).trans rfl; have hfz44_0 := qF BK500.out 0; have hfz44_1 := qF BK500.out 1; have hfz44_2 := qF BK500.out 2; have hfz44_3 := qF BK500.out 3))
           go_ret
           exact ⟨by first | rfl | (simp [qn, qe] <;> rfl) | (simp [*, qn, qe] <;> rfl), by repeat (first | (with_reducible first | exact HB.out | apply qA | apply qN | apply qD | refine qS ?_ GE500.out | refine qS ?_ GE513.out) | exact HB.out)⟩
          ·replace c29 := Bool.eq_false_iff.mpr c29
           subst c29
           have H1 : (some false) = some r := by rw [if_neg (show ¬ (false = true) by decide)] at H; exact H
           clear H
           have H := H1
           clear H1
           exact Bool.noConfusion ((Option.some.inj H).trans HRR_.out)
         ·rw [if_neg c28] at H
          have c28b0 : (t501 == 0) = false := beq_eq_false_iff_ne.mpr c28
          have c28b1 : (t501 != 0) = true := bne_iff_ne.mpr c28
          exact Bool.noConfusion ((Option.some.inj H).trans HRR_.out)
        ·rw [if_neg c27] at H
         have c27b0 : (t514 == 6) = false := beq_eq_false_iff_ne.mpr c27
         have c27b1 : (t514 != 6) = true := bne_iff_ne.mpr c27
         exact Bool.noConfusion ((Option.some.inj H).trans HRR_.out)
       ·rw [if_neg c24] at H
        exact absurd H (by simp)
      ·rw [if_neg c23] at H
       exact absurd H (by simp)
     ·rw [if_neg c22] at H
      have c22b0 : (t494 == 1) = false := beq_eq_false_iff_ne.mpr c22
      have c22b1 : (t494 != 1) = true := bne_iff_ne.mpr c22
      replace H := Option.bind_eq_some_iff.mp H
      obtain ⟨t515, A450, H⟩ := H
      replace H : (if t515 = 0 then (if t501 = t496 then ((z14.f kj2 l0 a1).bind fun t516 => (some (t501 == t516))) else (some false)) else (some false)) = some r := H
      have A45 := Aside0.mk A450
      clear A450
      by_cases c46 : t515 = 0
      ·rw [if_pos c46] at H
       have c46b0 : (t515 == 0) = true := beq_iff_eq.mpr c46
       have c46b1 : (t515 != 0) = false := bne_eq_false_iff_eq.mpr c46
       clear c46
       by_cases c47 : t501 = t496
       ·rw [if_pos c47] at H
        have c47b0 : (t501 == t496) = true := beq_iff_eq.mpr c47
        have c47b1 : (t501 != t496) = false := bne_eq_false_iff_eq.mpr c47
        clear c47
        replace H := Option.bind_eq_some_iff.mp H
        obtain ⟨t516, A480, H⟩ := H
        replace H : (some (t501 == t516)) = some r := H
        have A48 := Aside0.mk A480
        clear A480
        obtain rfl := Option.some.inj H
        go_wp2_with (first | ((with_reducible refine qg (f := 11) rfl ?_); refine goesL_ (some 32) rfl rfl Tryz.func11 (by kernel_rfl) rfl #[.slice A0 l0.length c0, .string a1] rfl (by (try simp only [List.map_toArray, List.map_cons, List.map_nil]); first | done | rfl | (simp only [List.length_drop, List.length_take]; rfl)) ?_; (with_reducible refine (z47.calls kj2 _ _ l0 a1 t493 t494 t495 t496 t497 _ ?side1 ?side2 A18.out).mono ?_); (case side1 => repeat (first | exact (Kd.C_below HR0.out HB.out) | (with_reducible refine Kd.C_alloc ?_ _) | (with_reducible refine Kd.C_drewN ?_ _) | (with_reducible refine Kd.C_drew ?_))); (case side2 => exact HC0.out); rintro e w49 ⟨v498, rfl, ho0, hb⟩; refine ⟨_, rfl, ?_⟩; have n0_ := Aside0.mk (Kd.R_lower ho0 (qZ (by repeat (first | (with_reducible first | exact HB.out | apply qA | apply qN | apply qD) | exact HB.out)))); have n1_ := Aside0.mk (qT (by repeat (first | (with_reducible first | exact HB.out | apply qA | apply qN | apply qD) | exact HB.out)) hb); clear HB; have HO499 := n0_; have HB := n1_; clear n0_ n1_; (try clear hb); (try clear hb2); (try clear hk); (try clear hi); (try clear ho0); have hE_v498 := errNil_of HO499.out) | ((with_reducible refine qd (N := 5) rfl ?_); (try (refine gate_guard (by rfl) ?_; dsimp only)); refine qx ?hg (N := 5) ?hd (cs := #[.string (⟨#[]⟩ : ByteArray), .int .i64 0, .string (⟨#[]⟩ : ByteArray), .int .i64 0]) (t := 31) ?hr ?_; (case hd => rfl); (case hg => rfl); (case hr => first | (go_simp; done) | (go_simp; rfl)); intro gb500 hg w50 hbox hb; have n0_ := Aside0.mk (Kd.R_below (by (with_reducible repeat (first | apply Kd.R_alloc | apply Kd.R_drewN | apply Kd.R_drew)); exact HO499.out) hb); have n1_ := Aside0.mk (qT (by repeat (first | (with_reducible first | exact HB.out | apply qA | apply qN | apply qD) | exact HB.out)) hb); have n2_ := Aside0.mk (hbox); have n3_ := Aside0.mk ((by rw [hg]; exact (qZ (by repeat (first | (with_reducible first | exact HB.out | apply qA | apply qN | apply qD) | exact HB.out))) : w.heap.size ≤ gb500)); have n4_ := Aside0.mk ((by rw [hg]; exact (qZ (by repeat (first | (with_reducible first | exact HB.out | apply qA | apply qN | apply qD) | exact HB.out))) : w.heap.size ≤ gb500)); clear HO499; clear HB; have HO499 := n0_; have HB := n1_; have BK500 := n2_; have GW500 := n3_; have GE500 := n4_; clear n0_ n1_ n2_ n3_ n4_; clear hb hbox hg; have hcz51_0 : w50.cell? ⟨gb500, 0, none⟩ = some (.string (⟨#[]⟩ : ByteArray)) := (qC BK500.out 0).trans rfl; have hcz51_1 : w50.cell? ⟨gb500, 1, none⟩ = some (.int .i64 0) := (qC BK500.out 1).trans rfl; have hcz51_2 : w50.cell? ⟨gb500, 2, none⟩ = some (.string (⟨#[]⟩ : ByteArray)) := (qC BK500.out 2).trans rfl; have hcz51_3 : w50.cell? ⟨gb500, 3, none⟩ = some (.int .i64 0) := (qC BK500.out 3).trans rfl; have hfz51_0 := qF BK500.out 0; have hfz51_1 := qF BK500.out 1; have hfz51_2 := qF BK500.out 2; have hfz51_3 := qF BK500.out 3) | ((with_reducible refine qg (f := 25) rfl ?_); refine goesL_ (some 38) rfl rfl Tryz.func25 (by kernel_rfl) rfl #[.slice A0 l0.length c0, .string a1] rfl (by (try simp only [List.map_toArray, List.map_cons, List.map_nil]); first | done | rfl | (simp only [List.length_drop, List.length_take]; rfl)) ?_; (with_reducible refine (z42.calls kj2 _ _ l0 a1 t501 t502 _ ?side1 ?side2 A19.out).mono ?_); (case side1 => exact Kd.C_below HR0.out (by repeat (first | (with_reducible first | exact HB.out | apply qA | apply qN | apply qD | refine qS ?_ GE500.out) | exact HB.out))); (case side2 => exact HC0.out); rintro e w52 ⟨v503, rfl, ho0, hb⟩; refine ⟨_, rfl, ?_⟩; have n0_ := Aside0.mk (Kd.R_elder' (by (with_reducible repeat (first | apply Kd.R_alloc | apply Kd.R_drewN | apply Kd.R_drew)); exact (Kd.R_mono (Kd.R_far (p := ⟨gb500, 3, none⟩) (Kd.R_far (p := ⟨gb500, 2, none⟩) (Kd.R_far (p := ⟨gb500, 1, none⟩) (Kd.R_far (p := ⟨gb500, 0, none⟩) (Kd.R_types HO499.out BK500.out (by decide)) (fun _ hk => hk.2) (.string t493)) (fun _ hk => hk.2) (.int .i64 t494)) (fun _ hk => hk.2) (.string t495)) (fun _ hk => hk.2) (.int .i64 t496)) (fun _ h_ => h_.1))) (Kd.R_base ho0) hb); have n1_ := Aside0.mk (Kd.R_lower (Kd.R_new' ho0 (Kd.R_lt (by (with_reducible repeat (first | apply Kd.R_alloc | apply Kd.R_drewN | apply Kd.R_drew)); exact (Kd.R_mono (Kd.R_far (p := ⟨gb500, 3, none⟩) (Kd.R_far (p := ⟨gb500, 2, none⟩) (Kd.R_far (p := ⟨gb500, 1, none⟩) (Kd.R_far (p := ⟨gb500, 0, none⟩) (Kd.R_types HO499.out BK500.out (by decide)) (fun _ hk => hk.2) (.string t493)) (fun _ hk => hk.2) (.int .i64 t494)) (fun _ hk => hk.2) (.string t495)) (fun _ hk => hk.2) (.int .i64 t496)) (fun _ h_ => h_.1))))) (qZ (by repeat (first | (with_reducible first | exact HB.out | apply qA | apply qN | apply qD | refine qS ?_ GE500.out) | exact HB.out)))); have n2_ := Aside0.mk (qb (g := gb500) (o := .cells #[.string t493, .int .i64 t494, .string t495, .int .i64 t496] 31 (0, 0)) (by (with_reducible repeat (first | refine qM ?_ _ | refine qW ?_ | refine qL ?_ _)); refine qu (cs := #[.string t493, .int .i64 t494, .string t495, .int .i64 0]) ?_ 3 _ rfl; (with_reducible repeat (first | refine qM ?_ _ | refine qW ?_ | refine qL ?_ _)); refine qu (cs := #[.string t493, .int .i64 t494, .string (⟨#[]⟩ : ByteArray), .int .i64 0]) ?_ 2 _ rfl; (with_reducible repeat (first | refine qM ?_ _ | refine qW ?_ | refine qL ?_ _)); refine qu (cs := #[.string t493, .int .i64 0, .string (⟨#[]⟩ : ByteArray), .int .i64 0]) ?_ 1 _ rfl; (with_reducible repeat (first | refine qM ?_ _ | refine qW ?_ | refine qL ?_ _)); refine qu (cs := #[.string (⟨#[]⟩ : ByteArray), .int .i64 0, .string (⟨#[]⟩ : ByteArray), .int .i64 0]) ?_ 0 _ rfl; (with_reducible repeat (first | refine qM ?_ _ | refine qW ?_ | refine qL ?_ _)); exact BK500.out) hb); have n3_ := Aside0.mk (qT (by repeat (first | (with_reducible first | exact HB.out | apply qA | apply qN | apply qD | refine qS ?_ GE500.out) | exact HB.out)) hb); clear HO499; clear BK500; clear HB; have HO499 := n0_; have HO504 := n1_; have BK500 := n2_; have HB := n3_; clear n0_ n1_ n2_ n3_; (try clear hb); (try clear hb2); (try clear hk); (try clear hi); (try clear ho0); have hE_v503 := errNil_of HO504.out; obtain ⟨Ao53, co53, eo53⟩ := Kd.R_slice HO499.out; subst eo53) | ((with_reducible refine qg (f := 12) rfl ?_); refine goesL_ (some 42) rfl rfl Tryz.func12 (by kernel_rfl) rfl #[(errV (.slice Ao53 t497.length co53))] rfl (by (try simp only [List.map_toArray, List.map_cons, List.map_nil]); first | done | rfl | (simp only [List.length_drop, List.length_take]; rfl)) ?_; (with_reducible refine (z39.calls _ _ t497 t505 _ ?side1 ?side2 ?side3 A20.out).mono ?_); (case side1 => repeat (first | exact (Kd.R_reads' HO499.out).2.2 | (with_reducible refine Kd.C_alloc ?_ _) | (with_reducible refine Kd.C_drewN ?_ _) | (with_reducible refine Kd.C_drew ?_))); (case side2 => exact (Kd.R_reads' HO499.out).2.1); (case side3 => exact Gl.below HG_.out (by repeat (first | (with_reducible first | exact HB.out | apply qA | apply qN | apply qD | refine qS ?_ GE500.out) | exact HB.out))); rintro e w54 ⟨rfl, hb⟩; refine ⟨_, rfl, ?_⟩; have n0_ := Aside0.mk (Kd.R_below (by (with_reducible repeat (first | apply Kd.R_alloc | apply Kd.R_drewN | apply Kd.R_drew)); exact HO499.out) hb); have n1_ := Aside0.mk (Kd.R_below (by (with_reducible repeat (first | apply Kd.R_alloc | apply Kd.R_drewN | apply Kd.R_drew)); exact HO504.out) hb); have n2_ := Aside0.mk (qb (g := gb500) (o := .cells #[.string t493, .int .i64 t494, .string t495, .int .i64 t496] 31 (0, 0)) (by (with_reducible repeat (first | refine qM ?_ _ | refine qW ?_ | refine qL ?_ _)); exact BK500.out) hb); have n3_ := Aside0.mk (qT (by repeat (first | (with_reducible first | exact HB.out | apply qA | apply qN | apply qD | refine qS ?_ GE500.out) | exact HB.out)) hb); clear HO499; clear HO504; clear BK500; clear HB; have HO499 := n0_; have HO504 := n1_; have BK500 := n2_; have HB := n3_; clear n0_ n1_ n2_ n3_; (try clear hb); (try clear hb2); (try clear hk); (try clear hi); have hcz55_0 : w54.cell? ⟨gb500, 0, none⟩ = some (.string t493) := (qC BK500.out 0).trans rfl; have hcz55_1 : w54.cell? ⟨gb500, 1, none⟩ = some (.int .i64 t494) := (qC BK500.out 1).trans rfl; have hcz55_2 : w54.cell? ⟨gb500, 2, none⟩ = some (.string t495) := (qC BK500.out 2).trans rfl; have hcz55_3 : w54.cell? ⟨gb500, 3, none⟩ = some (.int .i64 t496) := (qC BK500.out 3).trans rfl; have hfz55_0 := qF BK500.out 0; have hfz55_1 := qF BK500.out 1; have hfz55_2 := qF BK500.out 2; have hfz55_3 := qF BK500.out 3; obtain ⟨Ao56, co56, eo56⟩ := Kd.R_slice HO504.out; subst eo56) | ((with_reducible refine qg (f := 12) rfl ?_); refine goesL_ (some 84) rfl rfl Tryz.func12 (by kernel_rfl) rfl #[(errV (.slice Ao56 t502.length co56))] rfl (by (try simp only [List.map_toArray, List.map_cons, List.map_nil]); first | done | rfl | (simp only [List.length_drop, List.length_take]; rfl)) ?_; (with_reducible refine (z39.calls _ _ t502 t515 _ ?side1 ?side2 ?side3 A45.out).mono ?_); (case side1 => repeat (first | exact (Kd.R_reads' HO504.out).2.2 | (with_reducible refine Kd.C_alloc ?_ _) | (with_reducible refine Kd.C_drewN ?_ _) | (with_reducible refine Kd.C_drew ?_))); (case side2 => exact (Kd.R_reads' HO504.out).2.1); (case side3 => exact Gl.below HG_.out (by repeat (first | (with_reducible first | exact HB.out | apply qA | apply qN | apply qD | refine qS ?_ GE500.out) | exact HB.out))); rintro e w57 ⟨rfl, hb⟩; refine ⟨_, rfl, ?_⟩; have n0_ := Aside0.mk (Kd.R_below (by (with_reducible repeat (first | apply Kd.R_alloc | apply Kd.R_drewN | apply Kd.R_drew)); exact HO499.out) hb); have n1_ := Aside0.mk (Kd.R_below (by (with_reducible repeat (first | apply Kd.R_alloc | apply Kd.R_drewN | apply Kd.R_drew)); exact HO504.out) hb); have n2_ := Aside0.mk (qb (g := gb500) (o := .cells #[.string t493, .int .i64 t494, .string t495, .int .i64 t496] 31 (0, 0)) (by (with_reducible repeat (first | refine qM ?_ _ | refine qW ?_ | refine qL ?_ _)); exact BK500.out) hb); have n3_ := Aside0.mk (qT (by repeat (first | (with_reducible first | exact HB.out | apply qA | apply qN | apply qD | refine qS ?_ GE500.out) | exact HB.out)) hb); clear HO499; clear HO504; clear BK500; clear HB; have HO499 := n0_; have HO504 := n1_; have BK500 := n2_; have HB := n3_; clear n0_ n1_ n2_ n3_; (try clear hb); (try clear hb2); (try clear hk); (try clear hi); have hcz58_0 : w57.cell? ⟨gb500, 0, none⟩ = some (.string t493) := (qC BK500.out 0).trans rfl; have hcz58_1 : w57.cell? ⟨gb500, 1, none⟩ = some (.int .i64 t494) := (qC BK500.out 1).trans rfl; have hcz58_2 : w57.cell? ⟨gb500, 2, none⟩ = some (.string t495) := (qC BK500.out 2).trans rfl; have hcz58_3 : w57.cell? ⟨gb500, 3, none⟩ = some (.int .i64 t496) := (qC BK500.out 3).trans rfl; have hfz58_0 := qF BK500.out 0; have hfz58_1 := qF BK500.out 1; have hfz58_2 := qF BK500.out 2; have hfz58_3 := qF BK500.out 3) | (go_at_call 27; (with_reducible refine (z14.calls kj2 _ _ l0 a1 t516 _ ?side1 ?side2 A48.out).mono ?_); (case side1 => repeat (first | exact (Kd.C_below HR0.out HB.out) | (with_reducible refine Kd.C_alloc ?_ _) | (with_reducible refine Kd.C_drewN ?_ _) | (with_reducible refine Kd.C_drew ?_))); (case side2 => exact HC0.out); rintro e w59 ⟨rfl, hb⟩; have n0_ := Aside0.mk (Kd.R_below (by (with_reducible repeat (first | apply Kd.R_alloc | apply Kd.R_drewN | apply Kd.R_drew)); exact HO499.out) hb); have n1_ := Aside0.mk (Kd.R_below (by (with_reducible repeat (first | apply Kd.R_alloc | apply Kd.R_drewN | apply Kd.R_drew)); exact HO504.out) hb); have n2_ := Aside0.mk (qb (g := gb500) (o := .cells #[.string t493, .int .i64 t494, .string t495, .int .i64 t496] 31 (0, 0)) (by (with_reducible repeat (first | refine qM ?_ _ | refine qW ?_ | refine qL ?_ _)); exact BK500.out) hb); have n3_ := Aside0.mk (qT (by repeat (first | (with_reducible first | exact HB.out | apply qA | apply qN | apply qD | refine qS ?_ GE500.out) | exact HB.out)) hb); clear HO499; clear HO504; clear BK500; clear HB; have HO499 := n0_; have HO504 := n1_; have BK500 := n2_; have HB := n3_; clear n0_ n1_ n2_ n3_; (try clear hb); (try clear hb2); (try clear hk); (try clear hi)))
        go_ret
        exact ⟨by first | rfl | (simp [qn, qe] <;> rfl) | (simp [*, qn, qe] <;> rfl), by repeat (first | (with_reducible first | exact HB.out | apply qA | apply qN | apply qD | refine qS ?_ GE500.out) | exact HB.out)⟩
       ·rw [if_neg c47] at H
        have c47b0 : (t501 == t496) = false := beq_eq_false_iff_ne.mpr c47
        have c47b1 : (t501 != t496) = true := bne_iff_ne.mpr c47
        exact Bool.noConfusion ((Option.some.inj H).trans HRR_.out)
      ·rw [if_neg c46] at H
       have c46b0 : (t515 == 0) = false := beq_eq_false_iff_ne.mpr c46
       have c46b1 : (t515 != 0) = true := bne_iff_ne.mpr c46
       exact Bool.noConfusion ((Option.some.inj H).trans HRR_.out)
    ·rw [if_neg c21] at H
     have c21b0 : (t505 == 0) = false := beq_eq_false_iff_ne.mpr c21
     have c21b1 : (t505 != 0) = true := bne_iff_ne.mpr c21
     replace H := Option.bind_eq_some_iff.mp H
     obtain ⟨t506, A600, H⟩ := H
     replace H : ((z39.f t497).bind fun t507 => (if t506 = t507 then (some (t501 == 0)) else (some false))) = some r := H
     have A60 := Aside0.mk A600
     clear A600
     replace H := Option.bind_eq_some_iff.mp H
     obtain ⟨t507, A610, H⟩ := H
     replace H : (if t506 = t507 then (some (t501 == 0)) else (some false)) = some r := H
     have A61 := Aside0.mk A610
     clear A610
     have E_ := Option.some.inj (A20.out.symm.trans A61.out)
     subst E_
     by_cases c62 : t506 = t505
     ·rw [if_pos c62] at H
      have c62b0 : (t506 == t505) = true := beq_iff_eq.mpr c62
      have c62b1 : (t506 != t505) = false := bne_eq_false_iff_eq.mpr c62
      clear c62
      obtain rfl := Option.some.inj H
      go_wp2_with (first | ((with_reducible refine qg (f := 11) rfl ?_); refine goesL_ (some 32) rfl rfl Tryz.func11 (by kernel_rfl) rfl #[.slice A0 l0.length c0, .string a1] rfl (by (try simp only [List.map_toArray, List.map_cons, List.map_nil]); first | done | rfl | (simp only [List.length_drop, List.length_take]; rfl)) ?_; (with_reducible refine (z47.calls kj2 _ _ l0 a1 t493 t494 t495 t496 t497 _ ?side1 ?side2 A18.out).mono ?_); (case side1 => repeat (first | exact (Kd.C_below HR0.out HB.out) | (with_reducible refine Kd.C_alloc ?_ _) | (with_reducible refine Kd.C_drewN ?_ _) | (with_reducible refine Kd.C_drew ?_))); (case side2 => exact HC0.out); rintro e w63 ⟨v498, rfl, ho0, hb⟩; refine ⟨_, rfl, ?_⟩; have n0_ := Aside0.mk (Kd.R_lower ho0 (qZ (by repeat (first | (with_reducible first | exact HB.out | apply qA | apply qN | apply qD) | exact HB.out)))); have n1_ := Aside0.mk (qT (by repeat (first | (with_reducible first | exact HB.out | apply qA | apply qN | apply qD) | exact HB.out)) hb); clear HB; have HO499 := n0_; have HB := n1_; clear n0_ n1_; (try clear hb); (try clear hb2); (try clear hk); (try clear hi); (try clear ho0); have hE_v498 := errNil_of HO499.out) | ((with_reducible refine qd (N := 5) rfl ?_); (try (refine gate_guard (by rfl) ?_; dsimp only)); refine qx ?hg (N := 5) ?hd (cs := #[.string (⟨#[]⟩ : ByteArray), .int .i64 0, .string (⟨#[]⟩ : ByteArray), .int .i64 0]) (t := 31) ?hr ?_; (case hd => rfl); (case hg => rfl); (case hr => first | (go_simp; done) | (go_simp; rfl)); intro gb500 hg w64 hbox hb; have n0_ := Aside0.mk (Kd.R_below (by (with_reducible repeat (first | apply Kd.R_alloc | apply Kd.R_drewN | apply Kd.R_drew)); exact HO499.out) hb); have n1_ := Aside0.mk (qT (by repeat (first | (with_reducible first | exact HB.out | apply qA | apply qN | apply qD) | exact HB.out)) hb); have n2_ := Aside0.mk (hbox); have n3_ := Aside0.mk ((by rw [hg]; exact (qZ (by repeat (first | (with_reducible first | exact HB.out | apply qA | apply qN | apply qD) | exact HB.out))) : w.heap.size ≤ gb500)); have n4_ := Aside0.mk ((by rw [hg]; exact (qZ (by repeat (first | (with_reducible first | exact HB.out | apply qA | apply qN | apply qD) | exact HB.out))) : w.heap.size ≤ gb500)); clear HO499; clear HB; have HO499 := n0_; have HB := n1_; have BK500 := n2_; have GW500 := n3_; have GE500 := n4_; clear n0_ n1_ n2_ n3_ n4_; clear hb hbox hg; have hcz65_0 : w64.cell? ⟨gb500, 0, none⟩ = some (.string (⟨#[]⟩ : ByteArray)) := (qC BK500.out 0).trans rfl; have hcz65_1 : w64.cell? ⟨gb500, 1, none⟩ = some (.int .i64 0) := (qC BK500.out 1).trans rfl; have hcz65_2 : w64.cell? ⟨gb500, 2, none⟩ = some (.string (⟨#[]⟩ : ByteArray)) := (qC BK500.out 2).trans rfl; have hcz65_3 : w64.cell? ⟨gb500, 3, none⟩ = some (.int .i64 0) := (qC BK500.out 3).trans rfl; have hfz65_0 := qF BK500.out 0; have hfz65_1 := qF BK500.out 1; have hfz65_2 := qF BK500.out 2; have hfz65_3 := qF BK500.out 3) | ((with_reducible refine qg (f := 25) rfl ?_); refine goesL_ (some 38) rfl rfl Tryz.func25 (by kernel_rfl) rfl #[.slice A0 l0.length c0, .string a1] rfl (by (try simp only [List.map_toArray, List.map_cons, List.map_nil]); first | done | rfl | (simp only [List.length_drop, List.length_take]; rfl)) ?_; (with_reducible refine (z42.calls kj2 _ _ l0 a1 t501 t502 _ ?side1 ?side2 A19.out).mono ?_); (case side1 => exact Kd.C_below HR0.out (by repeat (first | (with_reducible first | exact HB.out | apply qA | apply qN | apply qD | refine qS ?_ GE500.out) | exact HB.out))); (case side2 => exact HC0.out); rintro e w66 ⟨v503, rfl, ho0, hb⟩; refine ⟨_, rfl, ?_⟩; have n0_ := Aside0.mk (Kd.R_elder' (by (with_reducible repeat (first | apply Kd.R_alloc | apply Kd.R_drewN | apply Kd.R_drew)); exact (Kd.R_mono (Kd.R_far (p := ⟨gb500, 3, none⟩) (Kd.R_far (p := ⟨gb500, 2, none⟩) (Kd.R_far (p := ⟨gb500, 1, none⟩) (Kd.R_far (p := ⟨gb500, 0, none⟩) (Kd.R_types HO499.out BK500.out (by decide)) (fun _ hk => hk.2) (.string t493)) (fun _ hk => hk.2) (.int .i64 t494)) (fun _ hk => hk.2) (.string t495)) (fun _ hk => hk.2) (.int .i64 t496)) (fun _ h_ => h_.1))) (Kd.R_base ho0) hb); have n1_ := Aside0.mk (Kd.R_lower (Kd.R_new' ho0 (Kd.R_lt (by (with_reducible repeat (first | apply Kd.R_alloc | apply Kd.R_drewN | apply Kd.R_drew)); exact (Kd.R_mono (Kd.R_far (p := ⟨gb500, 3, none⟩) (Kd.R_far (p := ⟨gb500, 2, none⟩) (Kd.R_far (p := ⟨gb500, 1, none⟩) (Kd.R_far (p := ⟨gb500, 0, none⟩) (Kd.R_types HO499.out BK500.out (by decide)) (fun _ hk => hk.2) (.string t493)) (fun _ hk => hk.2) (.int .i64 t494)) (fun _ hk => hk.2) (.string t495)) (fun _ hk => hk.2) (.int .i64 t496)) (fun _ h_ => h_.1))))) (qZ (by repeat (first | (with_reducible first | exact HB.out | apply qA | apply qN | apply qD | refine qS ?_ GE500.out) | exact HB.out)))); have n2_ := Aside0.mk (qb (g := gb500) (o := .cells #[.string t493, .int .i64 t494, .string t495, .int .i64 t496] 31 (0, 0)) (by (with_reducible repeat (first | refine qM ?_ _ | refine qW ?_ | refine qL ?_ _)); refine qu (cs := #[.string t493, .int .i64 t494, .string t495, .int .i64 0]) ?_ 3 _ rfl; (with_reducible repeat (first | refine qM ?_ _ | refine qW ?_ | refine qL ?_ _)); refine qu (cs := #[.string t493, .int .i64 t494, .string (⟨#[]⟩ : ByteArray), .int .i64 0]) ?_ 2 _ rfl; (with_reducible repeat (first | refine qM ?_ _ | refine qW ?_ | refine qL ?_ _)); refine qu (cs := #[.string t493, .int .i64 0, .string (⟨#[]⟩ : ByteArray), .int .i64 0]) ?_ 1 _ rfl; (with_reducible repeat (first | refine qM ?_ _ | refine qW ?_ | refine qL ?_ _)); refine qu (cs := #[.string (⟨#[]⟩ : ByteArray), .int .i64 0, .string (⟨#[]⟩ : ByteArray), .int .i64 0]) ?_ 0 _ rfl; (with_reducible repeat (first | refine qM ?_ _ | refine qW ?_ | refine qL ?_ _)); exact BK500.out) hb); have n3_ := Aside0.mk (qT (by repeat (first | (with_reducible first | exact HB.out | apply qA | apply qN | apply qD | refine qS ?_ GE500.out) | exact HB.out)) hb); clear HO499; clear BK500; clear HB; have HO499 := n0_; have HO504 := n1_; have BK500 := n2_; have HB := n3_; clear n0_ n1_ n2_ n3_; (try clear hb); (try clear hb2); (try clear hk); (try clear hi); (try clear ho0); have hE_v503 := errNil_of HO504.out; obtain ⟨Ao67, co67, eo67⟩ := Kd.R_slice HO499.out; subst eo67) | ((with_reducible refine qg (f := 12) rfl ?_); refine goesL_ (some 47) rfl rfl Tryz.func12 (by kernel_rfl) rfl #[(errV (.slice Ao67 t497.length co67))] rfl (by (try simp only [List.map_toArray, List.map_cons, List.map_nil]); first | done | rfl | (simp only [List.length_drop, List.length_take]; rfl)) ?_; (with_reducible refine (z39.calls _ _ t497 t505 _ ?side1 ?side2 ?side3 A20.out).mono ?_); (case side1 => repeat (first | exact (Kd.R_reads' HO499.out).2.2 | (with_reducible refine Kd.C_alloc ?_ _) | (with_reducible refine Kd.C_drewN ?_ _) | (with_reducible refine Kd.C_drew ?_))); (case side2 => exact (Kd.R_reads' HO499.out).2.1); (case side3 => exact Gl.below HG_.out (by repeat (first | (with_reducible first | exact HB.out | apply qA | apply qN | apply qD | refine qS ?_ GE500.out) | exact HB.out))); rintro e w71 ⟨rfl, hb⟩; refine ⟨_, rfl, ?_⟩; have n0_ := Aside0.mk (Kd.R_below (by (with_reducible repeat (first | apply Kd.R_alloc | apply Kd.R_drewN | apply Kd.R_drew)); exact HO499.out) hb); have n1_ := Aside0.mk (Kd.R_below (by (with_reducible repeat (first | apply Kd.R_alloc | apply Kd.R_drewN | apply Kd.R_drew)); exact HO504.out) hb); have n2_ := Aside0.mk (qb (g := gb500) (o := .cells #[.string t493, .int .i64 t494, .string t495, .int .i64 t496] 31 (0, 0)) (by (with_reducible repeat (first | refine qM ?_ _ | refine qW ?_ | refine qL ?_ _)); exact BK500.out) hb); have n3_ := Aside0.mk (qT (by repeat (first | (with_reducible first | exact HB.out | apply qA | apply qN | apply qD | refine qS ?_ GE500.out) | exact HB.out)) hb); clear HO499; clear HO504; clear BK500; clear HB; have HO499 := n0_; have HO504 := n1_; have BK500 := n2_; have HB := n3_; clear n0_ n1_ n2_ n3_; (try clear hb); (try clear hb2); (try clear hk); (try clear hi)) | ((with_reducible refine qg (f := 12) rfl ?_); refine goesL_ (some 45) rfl rfl Tryz.func12 (by kernel_rfl) rfl #[(errV (.slice Ao69 t502.length co69))] rfl (by (try simp only [List.map_toArray, List.map_cons, List.map_nil]); first | done | rfl | (simp only [List.length_drop, List.length_take]; rfl)) ?_; (with_reducible refine (z39.calls _ _ t502 t506 _ ?side1 ?side2 ?side3 A60.out).mono ?_); (case side1 => repeat (first | exact (Kd.R_reads' HO504.out).2.2 | (with_reducible refine Kd.C_alloc ?_ _) | (with_reducible refine Kd.C_drewN ?_ _) | (with_reducible refine Kd.C_drew ?_))); (case side2 => exact (Kd.R_reads' HO504.out).2.1); (case side3 => exact Gl.below HG_.out (by repeat (first | (with_reducible first | exact HB.out | apply qA | apply qN | apply qD | refine qS ?_ GE500.out) | exact HB.out))); rintro e w70 ⟨rfl, hb⟩; refine ⟨_, rfl, ?_⟩; have n0_ := Aside0.mk (Kd.R_below (by (with_reducible repeat (first | apply Kd.R_alloc | apply Kd.R_drewN | apply Kd.R_drew)); exact HO499.out) hb); have n1_ := Aside0.mk (Kd.R_below (by (with_reducible repeat (first | apply Kd.R_alloc | apply Kd.R_drewN | apply Kd.R_drew)); exact HO504.out) hb); have n2_ := Aside0.mk (qb (g := gb500) (o := .cells #[.string t493, .int .i64 t494, .string t495, .int .i64 t496] 31 (0, 0)) (by (with_reducible repeat (first | refine qM ?_ _ | refine qW ?_ | refine qL ?_ _)); exact BK500.out) hb); have n3_ := Aside0.mk (qT (by repeat (first | (with_reducible first | exact HB.out | apply qA | apply qN | apply qD | refine qS ?_ GE500.out) | exact HB.out)) hb); clear HO499; clear HO504; clear BK500; clear HB; have HO499 := n0_; have HO504 := n1_; have BK500 := n2_; have HB := n3_; clear n0_ n1_ n2_ n3_; (try clear hb); (try clear hb2); (try clear hk); (try clear hi)) | ((with_reducible refine qg (f := 12) rfl ?_); refine goesL_ (some 42) rfl rfl Tryz.func12 (by kernel_rfl) rfl #[(errV (.slice Ao67 t497.length co67))] rfl (by (try simp only [List.map_toArray, List.map_cons, List.map_nil]); first | done | rfl | (simp only [List.length_drop, List.length_take]; rfl)) ?_; (with_reducible refine (z39.calls _ _ t497 t505 _ ?side1 ?side2 ?side3 A20.out).mono ?_); (case side1 => repeat (first | exact (Kd.R_reads' HO499.out).2.2 | (with_reducible refine Kd.C_alloc ?_ _) | (with_reducible refine Kd.C_drewN ?_ _) | (with_reducible refine Kd.C_drew ?_))); (case side2 => exact (Kd.R_reads' HO499.out).2.1); (case side3 => exact Gl.below HG_.out (by repeat (first | (with_reducible first | exact HB.out | apply qA | apply qN | apply qD | refine qS ?_ GE500.out) | exact HB.out))); rintro e w68 ⟨rfl, hb⟩; refine ⟨_, rfl, ?_⟩; have n0_ := Aside0.mk (Kd.R_below (by (with_reducible repeat (first | apply Kd.R_alloc | apply Kd.R_drewN | apply Kd.R_drew)); exact HO499.out) hb); have n1_ := Aside0.mk (Kd.R_below (by (with_reducible repeat (first | apply Kd.R_alloc | apply Kd.R_drewN | apply Kd.R_drew)); exact HO504.out) hb); have n2_ := Aside0.mk (qb (g := gb500) (o := .cells #[.string t493, .int .i64 t494, .string t495, .int .i64 t496] 31 (0, 0)) (by (with_reducible repeat (first | refine qM ?_ _ | refine qW ?_ | refine qL ?_ _)); exact BK500.out) hb); have n3_ := Aside0.mk (qT (by repeat (first | (with_reducible first | exact HB.out | apply qA | apply qN | apply qD | refine qS ?_ GE500.out) | exact HB.out)) hb); clear HO499; clear HO504; clear BK500; clear HB; have HO499 := n0_; have HO504 := n1_; have BK500 := n2_; have HB := n3_; clear n0_ n1_ n2_ n3_; (try clear hb); (try clear hb2); (try clear hk); (try clear hi); obtain ⟨Ao69, co69, eo69⟩ := Kd.R_slice HO504.out; subst eo69))
      go_ret
      exact ⟨by first | rfl | (simp [qn, qe] <;> rfl) | (simp [*, qn, qe] <;> rfl), by repeat (first | (with_reducible first | exact HB.out | apply qA | apply qN | apply qD | refine qS ?_ GE500.out) | exact HB.out)⟩
     ·rw [if_neg c62] at H
      have c62b0 : (t506 == t505) = false := beq_eq_false_iff_ne.mpr c62
      have c62b1 : (t506 != t505) = true := bne_iff_ne.mpr c62
      exact Bool.noConfusion ((Option.some.inj H).trans HRR_.out)

end Go.Proofs.YthfbcclbappbcaaGreatDoor.Print
