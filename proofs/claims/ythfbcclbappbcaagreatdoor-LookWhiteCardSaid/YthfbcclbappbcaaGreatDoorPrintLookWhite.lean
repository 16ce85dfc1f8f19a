import Derived.Test.YthfbcclbappbcaaGreatDoorPrint0
import Derived.Test.YthfbcclbappbcaaGreatDoorPrint1
import Derived.Test.YthfbcclbappbcaaGreatDoorPrint4
import Derived.Test.YthfbcclbappbcaaGreatDoorPrint6
import Derived.Test.YthfbcclbappbcaaGreatDoorPrintAw12
import Derived.Test.YthfbcclbappbcaaGreatDoorPrintF
import Derived.Test.YthfbcclbappbcaaGreatDoorPrintR12
namespace Go.Proofs.YthfbcclbappbcaaGreatDoor.Print
open Go.RowKit Go.Proofs.YthfbcclbappbcaaGreatDoorW.PrintWords Go.Proofs.YthfbcclbappbcaaGreatDoorW.PrintLast Go.Proofs.YthfbcclbappbcaaGreatDoorW.PrintMore
attribute [local go_sem] max2_int min2_int max_two min_two max_three min_three max_four min_four   -- for this text's walks alone
set_option linter.unusedVariables false
set_option linter.unusedSimpArgs false
attribute [local go_sem high] eqA26
mutual
def shalelaw12_LookWhite.j0 : Nat → List (List (S26)) → ByteArray → ByteArray → Bool → Option (Bool)
 | 0, _, _, _, _ => none
 | k + 1, x0, x1, x2, x35 => if x35 = true then ((shalelaw12_awake.f k).bind fun t268 => (some t268)) else (if 1 + x1.size ≤ 9223372036854775807 then ((some (([(⟨(⟨#[47]⟩ : ByteArray) ++ x1, 3, (⟨#[]⟩ : ByteArray)⟩ : S26)] : List (S26)) : List (S26))).bind fun y269 => ((layer_Right.f k y269).bind fun t272 => (if t272 = true then ((shaleref12_Right.f k x0).bind fun t273 => (shalelaw12_LookWhite.j1 k x0 x2 ((⟨#[47]⟩ : ByteArray) ++ x1) y269 (!t273))) else (shalelaw12_LookWhite.j1 k x0 x2 ((⟨#[47]⟩ : ByteArray) ++ x1) y269 true)))) else (none))
def shalelaw12_LookWhite.j1 : Nat → List (List (S26)) → ByteArray → ByteArray → List (S26) → Bool → Option (Bool)
 | 0, _, _, _, _, _ => none
 | k + 1, x0, x2, x7, x8, x49 => if x49 = true then (some true) else ((some (([(⟨x7, 1, x2⟩ : S26)] : List (S26)) : List (S26))).bind fun y274 => ((some (([] : List (List (S26))) : List (List (S26)))).bind fun y277 => (if y277.length + x0.length < 5864062014805 then ((some (y277 ++ x0 : List (List (S26)))).bind fun y280 => (if y280.length < 5864062014805 then ((look_At.f k (y280 ++ [x8]) x7).bind fun bt286 => ((some (([] : List (List (S26))) : List (List (S26)))).bind fun y294 => (if y294.length + x0.length < 5864062014805 then ((some (y294 ++ x0 : List (List (S26)))).bind fun y297 => (if y297.length < 5864062014805 then ((look_At.f k (y297 ++ [y274]) x7).bind fun bt303 => ((fail_Code.f bt286.2.2.2.2).bind fun t311 => (if t311 = 3 then ((fail_Code.f bt303.2.2.2.2).bind fun t312 => (if t312 = 0 then (if 0 < (y274.length : Int) then (if (bt303.1.toList == (((rd_T26 y274 0).f0).toList) && (bt303.2.1 == ((rd_T26 y274 0).f1) && (bt303.2.2.1.toList == (((rd_T26 y274 0).f2).toList)))) = true then (some (bt303.2.2.2.1 == (x0.length : Int))) else (some false)) else (none)) else (some false))) else (some false)))) else (none))) else (none)))) else (none))) else (none))))
end
def shalelaw12_LookWhite.f (k : Nat) (l0 : List (List (S26))) (a1 : ByteArray) (a2 : ByteArray) : Option (Bool) := (shalelaw12_awake.f k).bind fun t266 => (if t266 = true then ((shalelaw10_Few.f k l0).bind fun t267 => (if t267 = 0 then (shalelaw12_LookWhite.j0 k l0 a1 a2 true) else (if (a1.size : Int) > 50 then (shalelaw12_LookWhite.j0 k l0 a1 a2 true) else (if (a2.size : Int) > 256 then (shalelaw12_LookWhite.j0 k l0 a1 a2 true) else (shalelaw12_LookWhite.j0 k l0 a1 a2 (decide ((l0.length : Int) > 8))))))) else (shalelaw12_LookWhite.j0 k l0 a1 a2 true))
theorem shalelaw12_LookWhite.mono_l : ∀ k, (∀ y0 y1 y2 y3, LeO (shalelaw12_LookWhite.j0 k y0 y1 y2 y3) (shalelaw12_LookWhite.j0 (k + 1) y0 y1 y2 y3)) ∧ (∀ y0 y1 y2 y3 y4, LeO (shalelaw12_LookWhite.j1 k y0 y1 y2 y3 y4) (shalelaw12_LookWhite.j1 (k + 1) y0 y1 y2 y3 y4))
 | 0 => ⟨fun _ _ _ _ r h => by simp [shalelaw12_LookWhite.j0] at h, fun _ _ _ _ _ r h => by simp [shalelaw12_LookWhite.j1] at h⟩
 | k + 1 => by
  obtain ⟨ih0, ih1⟩ := shalelaw12_LookWhite.mono_l k
  refine ⟨?_, ?_⟩
  ·intro y0 y1 y2 y3
   unfold shalelaw12_LookWhite.j0
   repeat' first
   | (with_reducible exact ih0 _ _ _ _)
   | (with_reducible exact ih1 _ _ _ _ _)
   | (with_reducible exact layer_Right.mono _ _)
   | (with_reducible exact look_At.mono _ _ _)
   | (with_reducible exact shalelaw10_Few.mono _ _)
   | (with_reducible exact shalelaw12_awake.mono _)
   | (with_reducible exact shaleref12_Right.mono _ _)
   | (with_reducible exact LeO.refl _)
   | (with_reducible exact LeO.none _)
   | (with_reducible refine LeO.ite ?_ ?_)
   | (with_reducible refine LeO.bind ?_ (fun _ => ?_))
   | exact ih0 _ _ _ _
   | exact ih1 _ _ _ _ _
   | exact layer_Right.mono _ _
   | exact look_At.mono _ _ _
   | exact shalelaw10_Few.mono _ _
   | exact shalelaw12_awake.mono _
   | exact shaleref12_Right.mono _ _
   | exact LeO.none _
   | refine LeO.ite ?_ ?_
   | refine LeO.bind ?_ (fun _ => ?_)
  ·intro y0 y1 y2 y3 y4
   unfold shalelaw12_LookWhite.j1
   repeat' first
   | (with_reducible exact ih0 _ _ _ _)
   | (with_reducible exact ih1 _ _ _ _ _)
   | (with_reducible exact layer_Right.mono _ _)
   | (with_reducible exact look_At.mono _ _ _)
   | (with_reducible exact shalelaw10_Few.mono _ _)
   | (with_reducible exact shalelaw12_awake.mono _)
   | (with_reducible exact shaleref12_Right.mono _ _)
   | (with_reducible exact LeO.refl _)
   | (with_reducible exact LeO.none _)
   | (with_reducible refine LeO.ite ?_ ?_)
   | (with_reducible refine LeO.bind ?_ (fun _ => ?_))
   | exact ih0 _ _ _ _
   | exact ih1 _ _ _ _ _
   | exact layer_Right.mono _ _
   | exact look_At.mono _ _ _
   | exact shalelaw10_Few.mono _ _
   | exact shalelaw12_awake.mono _
   | exact shaleref12_Right.mono _ _
   | exact LeO.none _
   | refine LeO.ite ?_ ?_
   | refine LeO.bind ?_ (fun _ => ?_)
theorem shalelaw12_LookWhite.mono : ∀ a0 a1 a2 k, LeO (shalelaw12_LookWhite.f k a0 a1 a2) (shalelaw12_LookWhite.f (k + 1) a0 a1 a2) := by
 intro a0 a1 a2 k
 obtain ⟨ih0, ih1⟩ := shalelaw12_LookWhite.mono_l k
 unfold shalelaw12_LookWhite.f
 repeat' first
   | (with_reducible exact ih0 _ _ _ _)
   | (with_reducible exact ih1 _ _ _ _ _)
   | (with_reducible exact layer_Right.mono _ _)
   | (with_reducible exact look_At.mono _ _ _)
   | (with_reducible exact shalelaw10_Few.mono _ _)
   | (with_reducible exact shalelaw12_awake.mono _)
   | (with_reducible exact shaleref12_Right.mono _ _)
   | (with_reducible exact LeO.refl _)
   | (with_reducible exact LeO.none _)
   | (with_reducible refine LeO.ite ?_ ?_)
   | (with_reducible refine LeO.bind ?_ (fun _ => ?_))
   | exact ih0 _ _ _ _
   | exact ih1 _ _ _ _ _
   | exact layer_Right.mono _ _
   | exact look_At.mono _ _ _
   | exact shalelaw10_Few.mono _ _
   | exact shalelaw12_awake.mono _
   | exact shaleref12_Right.mono _ _
   | exact LeO.none _
   | refine LeO.ite ?_ ?_
   | refine LeO.bind ?_ (fun _ => ?_)
def shalelaw12_LookWhite.T10 : Bool × List (List Nat × List Nat) := (true, [([], []), ([0], [0]), ([1], [1]), ([2, 1], [2]), ([3], [3]), ([4, 3, 3], [3, 4]), ([5, 3], [3, 5]), ([3, 6], [3, 6]), ([7, 5], [7]), ([8], [8]), ([9, 8], [8, 9]), ([8], [8]), ([11, 8], [8, 11]), ([12, 8], [8, 12]), ([10, 13, 8], [8, 10, 13]), ([8, 14], [8, 14]), ([15, 8], [15]), ([16], [16]), ([17, 16], [16, 17]), ([16], [16]), ([19, 16], [16, 19]), ([18, 20, 16], [16, 18, 20]), ([16, 21], [16, 21]), ([22, 16, 0, 1, 2, 3, 4, 5, 6, 7, 8, 9, 10, 11, 12, 13, 14, 15, 16, 17, 18, 19, 20, 21, 22], [22])])
def shalelaw12_LookWhite.B10 : List Nat := [0, 1, 3, 7, 15, 31, 63, 127, 255, 511, 1023, 511, 2559, 6655, 16383, 32767, 65535, 131071, 262143, 131071, 655359, 2097151, 4194303, 8388607]
theorem shalelaw12_LookWhite.tab10 : rtab .any (opsOf Tryz.f3 10) = shalelaw12_LookWhite.T10 := by kernel_rfl
theorem shalelaw12_LookWhite.bits10 : waitsOk shalelaw12_LookWhite.T10.2 shalelaw12_LookWhite.B10 = true := by kernel_rfl
set_option maxHeartbeats 8000000 in
set_option maxRecDepth 100000 in
theorem shalelaw12_LookWhite.calls (k : Nat) (P0_ : Nat → Prop) (A0 : Option Addr) (c0 : Nat) (l0 : List (List (S26))) (a1 : ByteArray) (a2 : ByteArray) (r : Bool) (w : World) (hs0 : Kd.V (Kd.slice 26 k26) 27 w w.heap.size (fun k_ => P0_ k_) (.slice A0 l0.length c0) l0) (hG : Gl w) (h : shalelaw12_LookWhite.f k l0 a1 a2 = some r) (hr : r = true) :
  Calls Tryz.prog 3 #[.slice A0 l0.length c0, .string a1, .string a2] w fun e w' => e = .returned (.bool r) ∧ Below w.heap.size w w' := by
 have hu26 := Tryz.underlying26
 have hu31 := Tryz.underlying31
 have HO0 := Aside0.mk (show Kd.V (Kd.slice 26 k26) 27 w w.heap.size (fun k_ => (P0_ k_ ∨ w.heap.size ≤ k_)) (.slice A0 l0.length c0) l0 from Kd.V_mono hs0 (fun k_ hk => .inl hk))
 have HB := Aside0.mk (Below.refl w.heap.size w)
 have HG_ := Aside0.mk hG
 clear hG
 have H : ((shalelaw12_awake.f k).bind fun t266 => (if t266 = true then ((shalelaw10_Few.f k l0).bind fun t267 => (if t267 = 0 then (shalelaw12_LookWhite.j0 k l0 a1 a2 true) else (if (a1.size : Int) > 50 then (shalelaw12_LookWhite.j0 k l0 a1 a2 true) else (if (a2.size : Int) > 256 then (shalelaw12_LookWhite.j0 k l0 a1 a2 true) else (shalelaw12_LookWhite.j0 k l0 a1 a2 (decide ((l0.length : Int) > 8))))))) else (shalelaw12_LookWhite.j0 k l0 a1 a2 true))) = some r := h
 clear h
 have HRR_ := Aside0.mk hr
 clear hr
 have HC4 := Aside0.mk H
 clear H
 go_enter Tryz.func3, Tryz.ntmps3
 go_upto_region 1 with (fail)
 go_cut [35] (fun v35 wc => ∃ (kq : Nat) (x35_3 : Bool), v35 = .bool x35_3 ∧ Aside0 (shalelaw12_LookWhite.j0 kq l0 a1 a2 x35_3 = some r) ∧ Aside0 (kq ≤ k) ∧ Aside0 (Kd.V (Kd.slice 26 k26) 27 wc w.heap.size (fun k_ => (P0_ k_ ∨ w.heap.size ≤ k_)) (.slice A0 l0.length c0) l0) ∧ Aside0 (Below w.heap.size w wc))
 case first =>
  have H := HC4.out
  clear HC4
  replace H := Option.bind_eq_some_iff.mp H
  obtain ⟨t266, A50, H⟩ := H
  replace H : (if t266 = true then ((shalelaw10_Few.f k l0).bind fun t267 => (if t267 = 0 then (shalelaw12_LookWhite.j0 k l0 a1 a2 true) else (if (a1.size : Int) > 50 then (shalelaw12_LookWhite.j0 k l0 a1 a2 true) else (if (a2.size : Int) > 256 then (shalelaw12_LookWhite.j0 k l0 a1 a2 true) else (shalelaw12_LookWhite.j0 k l0 a1 a2 (decide ((l0.length : Int) > 8))))))) else (shalelaw12_LookWhite.j0 k l0 a1 a2 true)) = some r := H
  have A5 := Aside0.mk A50
  clear A50
  by_cases c6 : t266 = true
  ·subst c6
   have H1 : ((shalelaw10_Few.f k l0).bind fun t267 => (if t267 = 0 then (shalelaw12_LookWhite.j0 k l0 a1 a2 true) else (if (a1.size : Int) > 50 then (shalelaw12_LookWhite.j0 k l0 a1 a2 true) else (if (a2.size : Int) > 256 then (shalelaw12_LookWhite.j0 k l0 a1 a2 true) else (shalelaw12_LookWhite.j0 k l0 a1 a2 (decide ((l0.length : Int) > 8))))))) = some r := by rw [if_pos rfl] at H; exact H
   clear H
   have H := H1
   clear H1
   replace H := Option.bind_eq_some_iff.mp H
   obtain ⟨t267, A70, H⟩ := H
   replace H : (if t267 = 0 then (shalelaw12_LookWhite.j0 k l0 a1 a2 true) else (if (a1.size : Int) > 50 then (shalelaw12_LookWhite.j0 k l0 a1 a2 true) else (if (a2.size : Int) > 256 then (shalelaw12_LookWhite.j0 k l0 a1 a2 true) else (shalelaw12_LookWhite.j0 k l0 a1 a2 (decide ((l0.length : Int) > 8)))))) = some r := H
   have A7 := Aside0.mk A70
   clear A70
   by_cases c8 : t267 = 0
   ·rw [if_pos c8] at H
    have c8b0 : (t267 == 0) = true := beq_iff_eq.mpr c8
    have c8b1 : (t267 != 0) = false := bne_eq_false_iff_eq.mpr c8
    clear c8
    (first | rw [c8b0] | (simp only [i64_w, i32_w]; rw [c8b0]) | skip)
    have H' := Aside0.mk H
    clear H
    go_wp2_with (first | ((with_reducible refine gate_callee (f := 7) rfl ?_); refine goesL_ (some 14) rfl rfl Tryz.func7 (by kernel_rfl) rfl #[] rfl (by (try simp only [List.map_toArray, List.map_cons, List.map_nil]); first | done | rfl | (simp only [List.length_drop, List.length_take]; rfl)) ?_; (with_reducible refine (shalelaw12_awake.calls k  true _ ?side1 A5.out).mono ?_); (case side1 => exact Gl.below HG_.out (by repeat (first | (with_reducible first | exact HB.out | apply below_alloc | apply pw_below_drewN | apply below_drew1) | exact HB.out))); rintro e w9 ⟨rfl, hb⟩; refine ⟨_, rfl, ?_⟩; have n0_ := Aside0.mk (Kd.V_below (by (with_reducible repeat (first | apply Kd.V_alloc | apply Kd.V_drewN | apply Kd.V_drew)); exact HO0.out) hb); have n1_ := Aside0.mk (below_step (by repeat (first | (with_reducible first | exact HB.out | apply below_alloc | apply pw_below_drewN | apply below_drew1) | exact HB.out)) hb); clear HO0; clear HB; have HO0 := n0_; have HB := n1_; clear n0_ n1_; (try clear hb); (try clear hb2); (try clear hk); (try clear hi)) | (go_at_call 8; (with_reducible refine (shalelaw10_Few.calls k _ _ l0 t267 _ ?side1 ?side2 A7.out).mono ?_); (case side1 => repeat (first | exact (Kd.V_reads' HO0.out).2.2 | (with_reducible refine Kd.C_alloc ?_ _) | (with_reducible refine Kd.C_drewN ?_ _) | (with_reducible refine Kd.C_drew ?_))); (case side2 => exact (Kd.V_reads' HO0.out).2.1); rintro e w' ⟨rfl, ⟨nd, rfl⟩⟩))
    go_meet
    case rel => exact ⟨_, (true), (by first | rfl | (simp; done) | (simp [*]; done)), H', ⟨by first | omega | exact Nat.le_refl _⟩, ⟨by (with_reducible repeat (first | apply Kd.V_alloc | apply Kd.V_drewN | apply Kd.V_drew)); exact HO0.out⟩, ⟨by repeat (first | (with_reducible first | exact HB.out | apply below_alloc | apply pw_below_drewN | apply below_drew1) | exact HB.out)⟩⟩
   ·rw [if_neg c8] at H
    have c8b0 : (t267 == 0) = false := beq_eq_false_iff_ne.mpr c8
    have c8b1 : (t267 != 0) = true := bne_iff_ne.mpr c8
    (first | rw [c8b0] | (simp only [i64_w, i32_w]; rw [c8b0]) | skip)
    by_cases c10 : (a1.size : Int) > 50
    ·rw [if_pos c10] at H
     have c10b0 : decide (50 < (a1.size : Int)) = true := decide_eq_true c10
     have c10b1 : decide (50 < a1.size) = true := decide_eq_true (by omega)
     clear c10
     have H' := Aside0.mk H
     clear H
     go_wp2_with (first | ((with_reducible refine gate_callee (f := 7) rfl ?_); refine goesL_ (some 14) rfl rfl Tryz.func7 (by kernel_rfl) rfl #[] rfl (by (try simp only [List.map_toArray, List.map_cons, List.map_nil]); first | done | rfl | (simp only [List.length_drop, List.length_take]; rfl)) ?_; (with_reducible refine (shalelaw12_awake.calls k  true _ ?side1 A5.out).mono ?_); (case side1 => exact Gl.below HG_.out (by repeat (first | (with_reducible first | exact HB.out | apply below_alloc | apply pw_below_drewN | apply below_drew1) | exact HB.out))); rintro e w11 ⟨rfl, hb⟩; refine ⟨_, rfl, ?_⟩; have n0_ := Aside0.mk (Kd.V_below (by (with_reducible repeat (first | apply Kd.V_alloc | apply Kd.V_drewN | apply Kd.V_drew)); exact HO0.out) hb); have n1_ := Aside0.mk (below_step (by repeat (first | (with_reducible first | exact HB.out | apply below_alloc | apply pw_below_drewN | apply below_drew1) | exact HB.out)) hb); clear HO0; clear HB; have HO0 := n0_; have HB := n1_; clear n0_ n1_; (try clear hb); (try clear hb2); (try clear hk); (try clear hi)) | (go_at_call 8; (with_reducible refine (shalelaw10_Few.calls k _ _ l0 t267 _ ?side1 ?side2 A7.out).mono ?_); (case side1 => repeat (first | exact (Kd.V_reads' HO0.out).2.2 | (with_reducible refine Kd.C_alloc ?_ _) | (with_reducible refine Kd.C_drewN ?_ _) | (with_reducible refine Kd.C_drew ?_))); (case side2 => exact (Kd.V_reads' HO0.out).2.1); rintro e w' ⟨rfl, ⟨nd, rfl⟩⟩))
     go_meet
     case rel => exact ⟨_, (true), (by first | rfl | (simp; done) | (simp [*]; done)), H', ⟨by first | omega | exact Nat.le_refl _⟩, ⟨by (with_reducible repeat (first | apply Kd.V_alloc | apply Kd.V_drewN | apply Kd.V_drew)); exact HO0.out⟩, ⟨by repeat (first | (with_reducible first | exact HB.out | apply below_alloc | apply pw_below_drewN | apply below_drew1) | exact HB.out)⟩⟩
    ·rw [if_neg c10] at H
     have c10b0 : decide (50 < (a1.size : Int)) = false := decide_eq_false c10
     have c10b1 : decide (50 < a1.size) = false := decide_eq_false (by omega)
     clear c10
     by_cases c12 : (a2.size : Int) > 256
     ·rw [if_pos c12] at H
      have c12b0 : decide (256 < (a2.size : Int)) = true := decide_eq_true c12
      have c12b1 : decide (256 < a2.size) = true := decide_eq_true (by omega)
      clear c12
      have H' := Aside0.mk H
      clear H
      go_wp2_with (first | ((with_reducible refine gate_callee (f := 7) rfl ?_); refine goesL_ (some 14) rfl rfl Tryz.func7 (by kernel_rfl) rfl #[] rfl (by (try simp only [List.map_toArray, List.map_cons, List.map_nil]); first | done | rfl | (simp only [List.length_drop, List.length_take]; rfl)) ?_; (with_reducible refine (shalelaw12_awake.calls k  true _ ?side1 A5.out).mono ?_); (case side1 => exact Gl.below HG_.out (by repeat (first | (with_reducible first | exact HB.out | apply below_alloc | apply pw_below_drewN | apply below_drew1) | exact HB.out))); rintro e w13 ⟨rfl, hb⟩; refine ⟨_, rfl, ?_⟩; have n0_ := Aside0.mk (Kd.V_below (by (with_reducible repeat (first | apply Kd.V_alloc | apply Kd.V_drewN | apply Kd.V_drew)); exact HO0.out) hb); have n1_ := Aside0.mk (below_step (by repeat (first | (with_reducible first | exact HB.out | apply below_alloc | apply pw_below_drewN | apply below_drew1) | exact HB.out)) hb); clear HO0; clear HB; have HO0 := n0_; have HB := n1_; clear n0_ n1_; (try clear hb); (try clear hb2); (try clear hk); (try clear hi)) | (go_at_call 8; (with_reducible refine (shalelaw10_Few.calls k _ _ l0 t267 _ ?side1 ?side2 A7.out).mono ?_); (case side1 => repeat (first | exact (Kd.V_reads' HO0.out).2.2 | (with_reducible refine Kd.C_alloc ?_ _) | (with_reducible refine Kd.C_drewN ?_ _) | (with_reducible refine Kd.C_drew ?_))); (case side2 => exact (Kd.V_reads' HO0.out).2.1); rintro e w' ⟨rfl, ⟨nd, rfl⟩⟩))
      go_meet
      case rel => exact ⟨_, (true), (by first | rfl | (simp; done) | (simp [*]; done)), H', ⟨by first | omega | exact Nat.le_refl _⟩, ⟨by (with_reducible repeat (first | apply Kd.V_alloc | apply Kd.V_drewN | apply Kd.V_drew)); exact HO0.out⟩, ⟨by repeat (first | (with_reducible first | exact HB.out | apply below_alloc | apply pw_below_drewN | apply below_drew1) | exact HB.out)⟩⟩
     ·rw [if_neg c12] at H
      have c12b0 : decide (256 < (a2.size : Int)) = false := decide_eq_false c12
      have c12b1 : decide (256 < a2.size) = false := decide_eq_false (by omega)
      clear c12
      have H' := Aside0.mk H
      clear H
      go_wp2_with (first | ((with_reducible refine gate_callee (f := 7) rfl ?_); refine goesL_ (some 14) rfl rfl Tryz.func7 (by kernel_rfl) rfl #[] rfl (by (try simp only [List.map_toArray, List.map_cons, List.map_nil]); first | done | rfl | (simp only [List.length_drop, List.length_take]; rfl)) ?_; (with_reducible refine (shalelaw12_awake.calls k  true _ ?side1 A5.out).mono ?_); (case side1 => exact Gl.below HG_.out (by repeat (first | (with_reducible first | exact HB.out | apply below_alloc | apply pw_below_drewN | apply below_drew1) | exact HB.out))); rintro e w14 ⟨rfl, hb⟩; refine ⟨_, rfl, ?_⟩; have n0_ := Aside0.mk (Kd.V_below (by (with_reducible repeat (first | apply Kd.V_alloc | apply Kd.V_drewN | apply Kd.V_drew)); exact HO0.out) hb); have n1_ := Aside0.mk (below_step (by repeat (first | (with_reducible first | exact HB.out | apply below_alloc | apply pw_below_drewN | apply below_drew1) | exact HB.out)) hb); clear HO0; clear HB; have HO0 := n0_; have HB := n1_; clear n0_ n1_; (try clear hb); (try clear hb2); (try clear hk); (try clear hi)) | (go_at_call 8; (with_reducible refine (shalelaw10_Few.calls k _ _ l0 t267 _ ?side1 ?side2 A7.out).mono ?_); (case side1 => repeat (first | exact (Kd.V_reads' HO0.out).2.2 | (with_reducible refine Kd.C_alloc ?_ _) | (with_reducible refine Kd.C_drewN ?_ _) | (with_reducible refine Kd.C_drew ?_))); (case side2 => exact (Kd.V_reads' HO0.out).2.1); rintro e w' ⟨rfl, ⟨nd, rfl⟩⟩))
      go_meet
      case rel => exact ⟨_, (decide ((l0.length : Int) > 8)), (by first | rfl | (simp; done) | (simp [*]; done)), H', ⟨by first | omega | exact Nat.le_refl _⟩, ⟨by (with_reducible repeat (first | apply Kd.V_alloc | apply Kd.V_drewN | apply Kd.V_drew)); exact HO0.out⟩, ⟨by repeat (first | (with_reducible first | exact HB.out | apply below_alloc | apply pw_below_drewN | apply below_drew1) | exact HB.out)⟩⟩
  ·replace c6 := Bool.eq_false_iff.mpr c6
   subst c6
   have H1 : (shalelaw12_LookWhite.j0 k l0 a1 a2 true) = some r := by rw [if_neg (show ¬ (false = true) by decide)] at H; exact H
   clear H
   have H := H1
   clear H1
   have H' := Aside0.mk H
   clear H
   go_wp2_with (first | ((with_reducible refine gate_callee (f := 7) rfl ?_); refine goesL_ (some 14) rfl rfl Tryz.func7 (by kernel_rfl) rfl #[] rfl (by (try simp only [List.map_toArray, List.map_cons, List.map_nil]); first | done | rfl | (simp only [List.length_drop, List.length_take]; rfl)) ?_; (with_reducible refine (shalelaw12_awake.calls k  false _ ?side1 A5.out).mono ?_); (case side1 => exact Gl.below HG_.out (by repeat (first | (with_reducible first | exact HB.out | apply below_alloc | apply pw_below_drewN | apply below_drew1) | exact HB.out))); rintro e w15 ⟨rfl, hb⟩; refine ⟨_, rfl, ?_⟩; have n0_ := Aside0.mk (Kd.V_below (by (with_reducible repeat (first | apply Kd.V_alloc | apply Kd.V_drewN | apply Kd.V_drew)); exact HO0.out) hb); have n1_ := Aside0.mk (below_step (by repeat (first | (with_reducible first | exact HB.out | apply below_alloc | apply pw_below_drewN | apply below_drew1) | exact HB.out)) hb); clear HO0; clear HB; have HO0 := n0_; have HB := n1_; clear n0_ n1_; (try clear hb); (try clear hb2); (try clear hk); (try clear hi)))
   go_meet
   case rel => exact ⟨_, (true), (by first | rfl | (simp; done) | (simp [*]; done)), H', ⟨by first | omega | exact Nat.le_refl _⟩, ⟨by (with_reducible repeat (first | apply Kd.V_alloc | apply Kd.V_drewN | apply Kd.V_drew)); exact HO0.out⟩, ⟨by repeat (first | (with_reducible first | exact HB.out | apply below_alloc | apply pw_below_drewN | apply below_drew1) | exact HB.out)⟩⟩
 case rest =>
  clear HC4
  try clear c1
  try clear p2
  try clear c3
  try clear c6
  try clear c7
  try clear c8
  try clear c8b0
  try clear c8b1
  try clear c10
  try clear c10b0
  try clear c10b1
  try clear c12
  try clear c12b0
  try clear c12b1
  obtain ⟨kq, x35_3, rfl, HA, HJ3, HO_0, HB⟩ := hcut
  cases kq with
  | zero => exact absurd HA.out (by simp [shalelaw12_LookWhite.j0])
  | succ kj3 =>
   have H := HA.out
   clear HA
   simp only [shalelaw12_LookWhite.j0] at H
   by_cases c16 : x35_3 = true
   ·subst c16
    have H1 : ((shalelaw12_awake.f kj3).bind fun t268 => (some t268)) = some r := by rw [if_pos rfl] at H; exact H
    clear H
    have H := H1
    clear H1
    replace H := Option.bind_eq_some_iff.mp H
    obtain ⟨t268, A170, H⟩ := H
    replace H : (some t268) = some r := H
    have A17 := Aside0.mk A170
    clear A170
    obtain rfl := Option.some.inj H
    go_wp2_with (first | ((with_reducible refine gate_callee (f := 7) rfl ?_); refine goesL_ (some 36) rfl rfl Tryz.func7 (by kernel_rfl) rfl #[] rfl (by (try simp only [List.map_toArray, List.map_cons, List.map_nil]); first | done | rfl | (simp only [List.length_drop, List.length_take]; rfl)) ?_; (with_reducible refine (shalelaw12_awake.calls kj3  t268 _ ?side1 A17.out).mono ?_); (case side1 => exact Gl.below HG_.out (by repeat (first | (with_reducible first | exact HB.out | apply below_alloc | apply pw_below_drewN | apply below_drew1) | exact HB.out))); rintro e w18 ⟨rfl, hb⟩; refine ⟨_, rfl, ?_⟩; have n0_ := Aside0.mk (Kd.V_below (by (with_reducible repeat (first | apply Kd.V_alloc | apply Kd.V_drewN | apply Kd.V_drew)); exact HO_0.out) hb); have n1_ := Aside0.mk (below_step (by repeat (first | (with_reducible first | exact HB.out | apply below_alloc | apply pw_below_drewN | apply below_drew1) | exact HB.out)) hb); clear HO_0; clear HB; have HO_0 := n0_; have HB := n1_; clear n0_ n1_; (try clear hb); (try clear hb2); (try clear hk); (try clear hi)))
    go_ret
    exact ⟨by first | rfl | (simp [errW_none, errW_some] <;> rfl) | (simp [*, errW_none, errW_some] <;> rfl), by repeat (first | (with_reducible first | exact HB.out | apply below_alloc | apply pw_below_drewN | apply below_drew1) | exact HB.out)⟩
   ·replace c16 := Bool.eq_false_iff.mpr c16
    subst c16
    have H1 : (if 1 + a1.size ≤ 9223372036854775807 then ((some (([(⟨(⟨#[47]⟩ : ByteArray) ++ a1, 3, (⟨#[]⟩ : ByteArray)⟩ : S26)] : List (S26)) : List (S26))).bind fun y269 => ((layer_Right.f kj3 y269).bind fun t272 => (if t272 = true then ((shaleref12_Right.f kj3 l0).bind fun t273 => (shalelaw12_LookWhite.j1 kj3 l0 a2 ((⟨#[47]⟩ : ByteArray) ++ a1) y269 (!t273))) else (shalelaw12_LookWhite.j1 kj3 l0 a2 ((⟨#[47]⟩ : ByteArray) ++ a1) y269 true)))) else (none)) = some r := by rw [if_neg (show ¬ (false = true) by decide)] at H; exact H
    clear H
    have H := H1
    clear H1
    by_cases c19 : 1 + a1.size ≤ 9223372036854775807
    ·rw [if_pos c19] at H
     have c19b0 := eq_true c19
     have c19b1 : decide (1 + a1.size ≤ 9223372036854775807) = true := decide_eq_true c19
     try have c19b2 : (9223372036854775807 < 1 + a1.size) = False := eq_false (Nat.not_lt.2 c19)
     obtain ⟨y269, hy269⟩ : ∃ y_ : List (S26), y_ = (([(⟨(⟨#[47]⟩ : ByteArray) ++ a1, 3, (⟨#[]⟩ : ByteArray)⟩ : S26)] : List (S26))) := ⟨_, rfl⟩
     replace H : ((layer_Right.f kj3 y269).bind fun t272 => (if t272 = true then ((shaleref12_Right.f kj3 l0).bind fun t273 => (shalelaw12_LookWhite.j1 kj3 l0 a2 ((⟨#[47]⟩ : ByteArray) ++ a1) y269 (!t273))) else (shalelaw12_LookWhite.j1 kj3 l0 a2 ((⟨#[47]⟩ : ByteArray) ++ a1) y269 true))) = some r := by first | (rw [hy269]; with_reducible exact H) | (have H2_ := (Option.bind_some _ _).symm.trans H; rw [hy269]; with_reducible exact H2_) | (have H2_ := (Option.bind_some _ _).symm.trans H; with_reducible exact H2_) | with_reducible exact H | (rw [hy269]; exact H) | exact H
     have Ny269 := Aside0.mk hy269
     clear hy269
     have HC20 := Aside0.mk H
     clear H
     go_upto_region 5 with (first | ((with_reducible refine gate_dst (N := 41) rfl ?_); (try (refine gate_guard (by rfl) ?_; dsimp only)); refine Kd.R_lit k26 _ 26 ?hg (N := 41) ?hd (xs := ([(⟨(⟨#[47]⟩ : ByteArray) ++ a1, 3, (⟨#[]⟩ : ByteArray)⟩ : S26)] : List (S26))) (inner := [.string ((⟨#[47]⟩ : ByteArray) ++ a1), .int .i64 3, .string (⟨#[]⟩ : ByteArray)]) (ok := fun _ => True) (okp := fun _ => True) ?hr ?hp (fun _ hk => hk) trivial (Below.refl _ _) (Nat.le_refl _) (by simp) ?_; (case hd => rfl); (case hg => rfl); (case hr => first | (go_simp; done) | (go_simp; rfl)); (case hp => exact (Reps.c3 (show Kd.M k26 _ _ _ (⟨(⟨#[47]⟩ : ByteArray) ++ a1, 3, (⟨#[]⟩ : ByteArray)⟩ : S26) [.string ((⟨#[47]⟩ : ByteArray) ++ a1), .int .i64 3, .string (⟨#[]⟩ : ByteArray)] from (k26_mkM _ _ _ (⟨(⟨#[47]⟩ : ByteArray) ++ a1, 3, (⟨#[]⟩ : ByteArray)⟩ : S26) )) (Reps.none _ _))); intro v270 w21 ho22 hb hg_ hnew_; clear hg_ hnew_; (first | rw [← Ny269.out] at ho22 | (simp only [Int.reduceToNat] at ho22; rw [← Ny269.out] at ho22)); have n0_ := Aside0.mk (Kd.V_elder' (by (with_reducible repeat (first | apply Kd.V_alloc | apply Kd.V_drewN | apply Kd.V_drew)); exact HO_0.out) (Kd.R_base ho22) hb); have n1_ := Aside0.mk (Kd.R_lower (Kd.R_newM (M := fun k_ => (w.heap.size ≤ k_)) ho22 (below_size (by repeat (first | (with_reducible first | exact HB.out | apply below_alloc | apply pw_below_drewN | apply below_drew1) | exact HB.out))) (fun k_ h_ => h_)) (below_size (by repeat (first | (with_reducible first | exact HB.out | apply below_alloc | apply pw_below_drewN | apply below_drew1) | exact HB.out)))); have n2_ := Aside0.mk (below_step (by repeat (first | (with_reducible first | exact HB.out | apply below_alloc | apply pw_below_drewN | apply below_drew1) | exact HB.out)) hb); clear HO_0; clear HB; have HO_0 := n0_; have HO271 := n1_; have HB := n2_; clear n0_ n1_ n2_; clear hb ho22))
     (try simp only [Act.put, List.setIfInBounds_toArray, List.set_cons_zero, List.set_cons_succ])
     go_cut [49] (fun v49 wc => ∃ (kq : Nat) (x49_19 : Bool), v49 = .bool x49_19 ∧ Aside0 (shalelaw12_LookWhite.j1 kq l0 a2 ((⟨#[47]⟩ : ByteArray) ++ a1) y269 x49_19 = some r) ∧ Aside0 (kq ≤ kj3) ∧ Aside0 (Kd.V (Kd.slice 26 k26) 27 wc w.heap.size (fun k_ => (P0_ k_ ∨ w.heap.size ≤ k_) ∧ some k_ ≠ (v270 : Value).ownBlock) (.slice A0 l0.length c0) l0) ∧ Aside0 (Kd.R k26 26 wc w.heap.size (fun k_ => (w.heap.size ≤ k_)) v270 y269) ∧ Aside0 (Below w.heap.size w wc))
     case first =>
      have H := HC20.out
      clear HC20
      replace H := Option.bind_eq_some_iff.mp H
      obtain ⟨t272, A230, H⟩ := H
      replace H : (if t272 = true then ((shaleref12_Right.f kj3 l0).bind fun t273 => (shalelaw12_LookWhite.j1 kj3 l0 a2 ((⟨#[47]⟩ : ByteArray) ++ a1) y269 (!t273))) else (shalelaw12_LookWhite.j1 kj3 l0 a2 ((⟨#[47]⟩ : ByteArray) ++ a1) y269 true)) = some r := H
      have A23 := Aside0.mk A230
      clear A230
      by_cases c24 : t272 = true
      ·subst c24
       have H1 : ((shaleref12_Right.f kj3 l0).bind fun t273 => (shalelaw12_LookWhite.j1 kj3 l0 a2 ((⟨#[47]⟩ : ByteArray) ++ a1) y269 (!t273))) = some r := by rw [if_pos rfl] at H; exact H
       clear H
       have H := H1
       clear H1
       replace H := Option.bind_eq_some_iff.mp H
       obtain ⟨t273, A250, H⟩ := H
       replace H : (shalelaw12_LookWhite.j1 kj3 l0 a2 ((⟨#[47]⟩ : ByteArray) ++ a1) y269 (!t273)) = some r := H
       have A25 := Aside0.mk A250
       clear A250
       have H' := Aside0.mk H
       clear H
       obtain ⟨Ao26, co26, eo26⟩ := Kd.R_slice HO271.out
       subst eo26
       go_wp2_with (first | ((with_reducible refine gate_callee (f := 9) rfl ?_); refine goesL_ (some 43) rfl rfl Tryz.func9 (by kernel_rfl) rfl #[.slice Ao26 y269.length co26] rfl (by (try simp only [List.map_toArray, List.map_cons, List.map_nil]); first | done | rfl | (simp only [List.length_drop, List.length_take]; rfl)) ?_; (with_reducible refine (layer_Right.calls kj3 _ _ y269 true _ ?side1 ?side2 A23.out).mono ?_); (case side1 => repeat (first | exact (Kd.R_reads' HO271.out).2.2 | (with_reducible refine Kd.C_alloc ?_ _) | (with_reducible refine Kd.C_drewN ?_ _) | (with_reducible refine Kd.C_drew ?_))); (case side2 => exact (Kd.R_reads' HO271.out).2.1); rintro e w27 ⟨rfl, hb⟩; refine ⟨_, rfl, ?_⟩; have n0_ := Aside0.mk (Kd.V_below (by (with_reducible repeat (first | apply Kd.V_alloc | apply Kd.V_drewN | apply Kd.V_drew)); exact HO_0.out) hb); have n1_ := Aside0.mk (Kd.R_below (by (with_reducible repeat (first | apply Kd.R_alloc | apply Kd.R_drewN | apply Kd.R_drew)); exact HO271.out) hb); have n2_ := Aside0.mk (below_step (by repeat (first | (with_reducible first | exact HB.out | apply below_alloc | apply pw_below_drewN | apply below_drew1) | exact HB.out)) hb); clear HO_0; clear HO271; clear HB; have HO_0 := n0_; have HO271 := n1_; have HB := n2_; clear n0_ n1_ n2_; (try clear hb); (try clear hb2); (try clear hk); (try clear hi)) | (go_at_call 10; (with_reducible refine (shaleref12_Right.calls kj3 _ _ l0 t273 _ ?side1 ?side2 A25.out).mono ?_); (case side1 => repeat (first | exact (Kd.V_reads' HO_0.out).2.2 | (with_reducible refine Kd.C_alloc ?_ _) | (with_reducible refine Kd.C_drewN ?_ _) | (with_reducible refine Kd.C_drew ?_))); (case side2 => exact (Kd.V_reads' HO_0.out).2.1); rintro e w28 ⟨rfl, hb⟩; have n0_ := Aside0.mk (Kd.V_below (by (with_reducible repeat (first | apply Kd.V_alloc | apply Kd.V_drewN | apply Kd.V_drew)); exact HO_0.out) hb); have n1_ := Aside0.mk (Kd.R_below (by (with_reducible repeat (first | apply Kd.R_alloc | apply Kd.R_drewN | apply Kd.R_drew)); exact HO271.out) hb); have n2_ := Aside0.mk (below_step (by repeat (first | (with_reducible first | exact HB.out | apply below_alloc | apply pw_below_drewN | apply below_drew1) | exact HB.out)) hb); clear HO_0; clear HO271; clear HB; have HO_0 := n0_; have HO271 := n1_; have HB := n2_; clear n0_ n1_ n2_; (try clear hb); (try clear hb2); (try clear hk); (try clear hi)))
       go_meet
       case rel => exact ⟨_, (!t273), (by first | rfl | (simp; done) | (simp [*]; done)), H', ⟨by have := HJ3.out; first | omega | exact Nat.le_refl _⟩, ⟨by (with_reducible repeat (first | apply Kd.V_alloc | apply Kd.V_drewN | apply Kd.V_drew)); exact HO_0.out⟩, ⟨by (with_reducible repeat (first | apply Kd.R_alloc | apply Kd.R_drewN | apply Kd.R_drew)); exact Kd.R_mono HO271.out (fun _ hk => hk.1)⟩, ⟨by repeat (first | (with_reducible first | exact HB.out | apply below_alloc | apply pw_below_drewN | apply below_drew1) | exact HB.out)⟩⟩
      ·replace c24 := Bool.eq_false_iff.mpr c24
       subst c24
       have H1 : (shalelaw12_LookWhite.j1 kj3 l0 a2 ((⟨#[47]⟩ : ByteArray) ++ a1) y269 true) = some r := by rw [if_neg (show ¬ (false = true) by decide)] at H; exact H
       clear H
       have H := H1
       clear H1
       have H' := Aside0.mk H
       clear H
       obtain ⟨Ao29, co29, eo29⟩ := Kd.R_slice HO271.out
       subst eo29
       go_wp2_with (first | ((with_reducible refine gate_callee (f := 9) rfl ?_); refine goesL_ (some 43) rfl rfl Tryz.func9 (by kernel_rfl) rfl #[.slice Ao29 y269.length co29] rfl (by (try simp only [List.map_toArray, List.map_cons, List.map_nil]); first | done | rfl | (simp only [List.length_drop, List.length_take]; rfl)) ?_; (with_reducible refine (layer_Right.calls kj3 _ _ y269 false _ ?side1 ?side2 A23.out).mono ?_); (case side1 => repeat (first | exact (Kd.R_reads' HO271.out).2.2 | (with_reducible refine Kd.C_alloc ?_ _) | (with_reducible refine Kd.C_drewN ?_ _) | (with_reducible refine Kd.C_drew ?_))); (case side2 => exact (Kd.R_reads' HO271.out).2.1); rintro e w30 ⟨rfl, hb⟩; refine ⟨_, rfl, ?_⟩; have n0_ := Aside0.mk (Kd.V_below (by (with_reducible repeat (first | apply Kd.V_alloc | apply Kd.V_drewN | apply Kd.V_drew)); exact HO_0.out) hb); have n1_ := Aside0.mk (Kd.R_below (by (with_reducible repeat (first | apply Kd.R_alloc | apply Kd.R_drewN | apply Kd.R_drew)); exact HO271.out) hb); have n2_ := Aside0.mk (below_step (by repeat (first | (with_reducible first | exact HB.out | apply below_alloc | apply pw_below_drewN | apply below_drew1) | exact HB.out)) hb); clear HO_0; clear HO271; clear HB; have HO_0 := n0_; have HO271 := n1_; have HB := n2_; clear n0_ n1_ n2_; (try clear hb); (try clear hb2); (try clear hk); (try clear hi)))
       go_meet
       case rel => exact ⟨_, (true), (by first | rfl | (simp; done) | (simp [*]; done)), H', ⟨by have := HJ3.out; first | omega | exact Nat.le_refl _⟩, ⟨by (with_reducible repeat (first | apply Kd.V_alloc | apply Kd.V_drewN | apply Kd.V_drew)); exact HO_0.out⟩, ⟨by (with_reducible repeat (first | apply Kd.R_alloc | apply Kd.R_drewN | apply Kd.R_drew)); exact Kd.R_mono HO271.out (fun _ hk => hk.1)⟩, ⟨by repeat (first | (with_reducible first | exact HB.out | apply below_alloc | apply pw_below_drewN | apply below_drew1) | exact HB.out)⟩⟩
     case rest =>
      clear HC20
      try clear c1
      try clear c2
      try clear p2
      try clear c3
      try clear c6
      try clear c7
      try clear c8
      try clear c8b0
      try clear c8b1
      try clear c9
      try clear c10
      try clear c10b0
      try clear c10b1
      try clear c12
      try clear c12b0
      try clear c12b1
      try clear c16
      try clear c19
      try clear c19b0
      try clear c19b1
      try clear c19b2
      try clear c24
      try clear p2
      obtain ⟨kq, x49_19, rfl, HA, HJ19, HO_0, HO_8, HB⟩ := hcut
      cases kq with
      | zero => exact absurd HA.out (by simp [shalelaw12_LookWhite.j1])
      | succ kj19 =>
       have H := HA.out
       clear HA
       simp only [shalelaw12_LookWhite.j1] at H
       by_cases c31 : x49_19 = true
       ·subst c31
        have H1 : (some true) = some r := by rw [if_pos rfl] at H; exact H
        clear H
        have H := H1
        clear H1
        obtain rfl := Option.some.inj H
        go_wp2
        go_ret
        exact ⟨by first | rfl | (simp [errW_none, errW_some] <;> rfl) | (simp [*, errW_none, errW_some] <;> rfl), by repeat (first | (with_reducible first | exact HB.out | apply below_alloc | apply pw_below_drewN | apply below_drew1) | exact HB.out)⟩
       ·replace c31 := Bool.eq_false_iff.mpr c31
        subst c31
        have H1 : ((some (([(⟨((⟨#[47]⟩ : ByteArray) ++ a1), 1, a2⟩ : S26)] : List (S26)) : List (S26))).bind fun y274 => ((some (([] : List (List (S26))) : List (List (S26)))).bind fun y277 => (if y277.length + l0.length < 5864062014805 then ((some (y277 ++ l0 : List (List (S26)))).bind fun y280 => (if y280.length < 5864062014805 then ((look_At.f kj19 (y280 ++ [y269]) ((⟨#[47]⟩ : ByteArray) ++ a1)).bind fun bt286 => ((some (([] : List (List (S26))) : List (List (S26)))).bind fun y294 => (if y294.length + l0.length < 5864062014805 then ((some (y294 ++ l0 : List (List (S26)))).bind fun y297 => (if y297.length < 5864062014805 then ((look_At.f kj19 (y297 ++ [y274]) ((⟨#[47]⟩ : ByteArray) ++ a1)).bind fun bt303 => ((fail_Code.f bt286.2.2.2.2).bind fun t311 => (if t311 = 3 then ((fail_Code.f bt303.2.2.2.2).bind fun t312 => (if t312 = 0 then (if 0 < (y274.length : Int) then (if (bt303.1.toList == (((rd_T26 y274 0).f0).toList) && (bt303.2.1 == ((rd_T26 y274 0).f1) && (bt303.2.2.1.toList == (((rd_T26 y274 0).f2).toList)))) = true then (some (bt303.2.2.2.1 == (l0.length : Int))) else (some false)) else (none)) else (some false))) else (some false)))) else (none))) else (none)))) else (none))) else (none)))) = some r := by rw [if_neg (show ¬ (false = true) by decide)] at H; exact H
        clear H
        have H := H1
        clear H1
        obtain ⟨y274, hy274⟩ : ∃ y_ : List (S26), y_ = (([(⟨((⟨#[47]⟩ : ByteArray) ++ a1), 1, a2⟩ : S26)] : List (S26))) := ⟨_, rfl⟩
        replace H : ((some (([] : List (List (S26))) : List (List (S26)))).bind fun y277 => (if y277.length + l0.length < 5864062014805 then ((some (y277 ++ l0 : List (List (S26)))).bind fun y280 => (if y280.length < 5864062014805 then ((look_At.f kj19 (y280 ++ [y269]) ((⟨#[47]⟩ : ByteArray) ++ a1)).bind fun bt286 => ((some (([] : List (List (S26))) : List (List (S26)))).bind fun y294 => (if y294.length + l0.length < 5864062014805 then ((some (y294 ++ l0 : List (List (S26)))).bind fun y297 => (if y297.length < 5864062014805 then ((look_At.f kj19 (y297 ++ [y274]) ((⟨#[47]⟩ : ByteArray) ++ a1)).bind fun bt303 => ((fail_Code.f bt286.2.2.2.2).bind fun t311 => (if t311 = 3 then ((fail_Code.f bt303.2.2.2.2).bind fun t312 => (if t312 = 0 then (if 0 < (y274.length : Int) then (if (bt303.1.toList == (((rd_T26 y274 0).f0).toList) && (bt303.2.1 == ((rd_T26 y274 0).f1) && (bt303.2.2.1.toList == (((rd_T26 y274 0).f2).toList)))) = true then (some (bt303.2.2.2.1 == (l0.length : Int))) else (some false)) else (none)) else (some false))) else (some false)))) else (none))) else (none)))) else (none))) else (none))) = some r := by first | (rw [hy274]; with_reducible exact H) | (have H2_ := (Option.bind_some _ _).symm.trans H; rw [hy274]; with_reducible exact H2_) | (have H2_ := (Option.bind_some _ _).symm.trans H; with_reducible exact H2_) | with_reducible exact H | (rw [hy274]; exact H) | exact H
        have Ny274 := Aside0.mk hy274
        clear hy274
        obtain ⟨y277, hy277⟩ : ∃ y_ : List (List (S26)), y_ = (([] : List (List (S26)))) := ⟨_, rfl⟩
        replace H : (if y277.length + l0.length < 5864062014805 then ((some (y277 ++ l0 : List (List (S26)))).bind fun y280 => (if y280.length < 5864062014805 then ((look_At.f kj19 (y280 ++ [y269]) ((⟨#[47]⟩ : ByteArray) ++ a1)).bind fun bt286 => ((some (([] : List (List (S26))) : List (List (S26)))).bind fun y294 => (if y294.length + l0.length < 5864062014805 then ((some (y294 ++ l0 : List (List (S26)))).bind fun y297 => (if y297.length < 5864062014805 then ((look_At.f kj19 (y297 ++ [y274]) ((⟨#[47]⟩ : ByteArray) ++ a1)).bind fun bt303 => ((fail_Code.f bt286.2.2.2.2).bind fun t311 => (if t311 = 3 then ((fail_Code.f bt303.2.2.2.2).bind fun t312 => (if t312 = 0 then (if 0 < (y274.length : Int) then (if (bt303.1.toList == (((rd_T26 y274 0).f0).toList) && (bt303.2.1 == ((rd_T26 y274 0).f1) && (bt303.2.2.1.toList == (((rd_T26 y274 0).f2).toList)))) = true then (some (bt303.2.2.2.1 == (l0.length : Int))) else (some false)) else (none)) else (some false))) else (some false)))) else (none))) else (none)))) else (none))) else (none)) = some r := by first | (rw [hy277]; with_reducible exact H) | (have H2_ := (Option.bind_some _ _).symm.trans H; rw [hy277]; with_reducible exact H2_) | (have H2_ := (Option.bind_some _ _).symm.trans H; with_reducible exact H2_) | with_reducible exact H | (rw [hy277]; exact H) | exact H
        have Ny277 := Aside0.mk hy277
        clear hy277
        by_cases c32 : y277.length + l0.length < 5864062014805
        ·rw [if_pos c32] at H
         have LMc32 := Aside0.mk c32
         clear c32
         obtain ⟨y280, hy280⟩ : ∃ y_ : List (List (S26)), y_ = (y277 ++ l0) := ⟨_, rfl⟩
         replace H : (if y280.length < 5864062014805 then ((look_At.f kj19 (y280 ++ [y269]) ((⟨#[47]⟩ : ByteArray) ++ a1)).bind fun bt286 => ((some (([] : List (List (S26))) : List (List (S26)))).bind fun y294 => (if y294.length + l0.length < 5864062014805 then ((some (y294 ++ l0 : List (List (S26)))).bind fun y297 => (if y297.length < 5864062014805 then ((look_At.f kj19 (y297 ++ [y274]) ((⟨#[47]⟩ : ByteArray) ++ a1)).bind fun bt303 => ((fail_Code.f bt286.2.2.2.2).bind fun t311 => (if t311 = 3 then ((fail_Code.f bt303.2.2.2.2).bind fun t312 => (if t312 = 0 then (if 0 < (y274.length : Int) then (if (bt303.1.toList == (((rd_T26 y274 0).f0).toList) && (bt303.2.1 == ((rd_T26 y274 0).f1) && (bt303.2.2.1.toList == (((rd_T26 y274 0).f2).toList)))) = true then (some (bt303.2.2.2.1 == (l0.length : Int))) else (some false)) else (none)) else (some false))) else (some false)))) else (none))) else (none)))) else (none)) = some r := by first | (rw [hy280]; with_reducible exact H) | (have H2_ := (Option.bind_some _ _).symm.trans H; rw [hy280]; with_reducible exact H2_) | (have H2_ := (Option.bind_some _ _).symm.trans H; with_reducible exact H2_) | with_reducible exact H | (rw [hy280]; exact H) | exact H
         have Ny280 := Aside0.mk hy280
         clear hy280
         by_cases c33 : y280.length < 5864062014805
         ·rw [if_pos c33] at H
          have LMc33 := Aside0.mk c33
          clear c33
          obtain ⟨y283, hy283⟩ : ∃ y_ : List (List (S26)), y_ = (y280 ++ [y269]) := ⟨_, rfl⟩
          replace H : ((look_At.f kj19 y283 ((⟨#[47]⟩ : ByteArray) ++ a1)).bind fun bt286 => ((some (([] : List (List (S26))) : List (List (S26)))).bind fun y294 => (if y294.length + l0.length < 5864062014805 then ((some (y294 ++ l0 : List (List (S26)))).bind fun y297 => (if y297.length < 5864062014805 then ((look_At.f kj19 (y297 ++ [y274]) ((⟨#[47]⟩ : ByteArray) ++ a1)).bind fun bt303 => ((fail_Code.f bt286.2.2.2.2).bind fun t311 => (if t311 = 3 then ((fail_Code.f bt303.2.2.2.2).bind fun t312 => (if t312 = 0 then (if 0 < (y274.length : Int) then (if (bt303.1.toList == (((rd_T26 y274 0).f0).toList) && (bt303.2.1 == ((rd_T26 y274 0).f1) && (bt303.2.2.1.toList == (((rd_T26 y274 0).f2).toList)))) = true then (some (bt303.2.2.2.1 == (l0.length : Int))) else (some false)) else (none)) else (some false))) else (some false)))) else (none))) else (none)))) = some r := by first | (rw [hy283]; with_reducible exact H) | (have H2_ := (Option.bind_some _ _).symm.trans H; rw [hy283]; with_reducible exact H2_) | (have H2_ := (Option.bind_some _ _).symm.trans H; with_reducible exact H2_) | with_reducible exact H | (rw [hy283]; exact H) | exact H
          have Ny283 := Aside0.mk hy283
          clear hy283
          replace H := Option.bind_eq_some_iff.mp H
          obtain ⟨⟨t286, t287, t288, t289, t290⟩, A340, H⟩ := H
          replace H : ((some (([] : List (List (S26))) : List (List (S26)))).bind fun y294 => (if y294.length + l0.length < 5864062014805 then ((some (y294 ++ l0 : List (List (S26)))).bind fun y297 => (if y297.length < 5864062014805 then ((look_At.f kj19 (y297 ++ [y274]) ((⟨#[47]⟩ : ByteArray) ++ a1)).bind fun bt303 => ((fail_Code.f t290).bind fun t311 => (if t311 = 3 then ((fail_Code.f bt303.2.2.2.2).bind fun t312 => (if t312 = 0 then (if 0 < (y274.length : Int) then (if (bt303.1.toList == (((rd_T26 y274 0).f0).toList) && (bt303.2.1 == ((rd_T26 y274 0).f1) && (bt303.2.2.1.toList == (((rd_T26 y274 0).f2).toList)))) = true then (some (bt303.2.2.2.1 == (l0.length : Int))) else (some false)) else (none)) else (some false))) else (some false)))) else (none))) else (none))) = some r := H
          have A34 := Aside0.mk A340
          clear A340
          obtain ⟨y294, hy294⟩ : ∃ y_ : List (List (S26)), y_ = (([] : List (List (S26)))) := ⟨_, rfl⟩
          replace H : (if y294.length + l0.length < 5864062014805 then ((some (y294 ++ l0 : List (List (S26)))).bind fun y297 => (if y297.length < 5864062014805 then ((look_At.f kj19 (y297 ++ [y274]) ((⟨#[47]⟩ : ByteArray) ++ a1)).bind fun bt303 => ((fail_Code.f t290).bind fun t311 => (if t311 = 3 then ((fail_Code.f bt303.2.2.2.2).bind fun t312 => (if t312 = 0 then (if 0 < (y274.length : Int) then (if (bt303.1.toList == (((rd_T26 y274 0).f0).toList) && (bt303.2.1 == ((rd_T26 y274 0).f1) && (bt303.2.2.1.toList == (((rd_T26 y274 0).f2).toList)))) = true then (some (bt303.2.2.2.1 == (l0.length : Int))) else (some false)) else (none)) else (some false))) else (some false)))) else (none))) else (none)) = some r := by first | (rw [hy294]; with_reducible exact H) | (have H2_ := (Option.bind_some _ _).symm.trans H; rw [hy294]; with_reducible exact H2_) | (have H2_ := (Option.bind_some _ _).symm.trans H; with_reducible exact H2_) | with_reducible exact H | (rw [hy294]; exact H) | exact H
          have Ny294 := Aside0.mk hy294
          clear hy294
          by_cases c35 : y294.length + l0.length < 5864062014805
          ·rw [if_pos c35] at H
           have LMc35 := Aside0.mk c35
           clear c35
           obtain ⟨y297, hy297⟩ : ∃ y_ : List (List (S26)), y_ = (y294 ++ l0) := ⟨_, rfl⟩
           replace H : (if y297.length < 5864062014805 then ((look_At.f kj19 (y297 ++ [y274]) ((⟨#[47]⟩ : ByteArray) ++ a1)).bind fun bt303 => ((fail_Code.f t290).bind fun t311 => (if t311 = 3 then ((fail_Code.f bt303.2.2.2.2).bind fun t312 => (if t312 = 0 then (if 0 < (y274.length : Int) then (if (bt303.1.toList == (((rd_T26 y274 0).f0).toList) && (bt303.2.1 == ((rd_T26 y274 0).f1) && (bt303.2.2.1.toList == (((rd_T26 y274 0).f2).toList)))) = true then (some (bt303.2.2.2.1 == (l0.length : Int))) else (some false)) else (none)) else (some false))) else (some false)))) else (none)) = some r := by first | (rw [hy297]; with_reducible exact H) | (have H2_ := (Option.bind_some _ _).symm.trans H; rw [hy297]; with_reducible exact H2_) | (have H2_ := (Option.bind_some _ _).symm.trans H; with_reducible exact H2_) | with_reducible exact H | (rw [hy297]; exact H) | exact H
           have Ny297 := Aside0.mk hy297
           clear hy297
           by_cases c36 : y297.length < 5864062014805
           ·rw [if_pos c36] at H
            have LMc36 := Aside0.mk c36
            clear c36
            obtain ⟨y300, hy300⟩ : ∃ y_ : List (List (S26)), y_ = (y297 ++ [y274]) := ⟨_, rfl⟩
            replace H : ((look_At.f kj19 y300 ((⟨#[47]⟩ : ByteArray) ++ a1)).bind fun bt303 => ((fail_Code.f t290).bind fun t311 => (if t311 = 3 then ((fail_Code.f bt303.2.2.2.2).bind fun t312 => (if t312 = 0 then (if 0 < (y274.length : Int) then (if (bt303.1.toList == (((rd_T26 y274 0).f0).toList) && (bt303.2.1 == ((rd_T26 y274 0).f1) && (bt303.2.2.1.toList == (((rd_T26 y274 0).f2).toList)))) = true then (some (bt303.2.2.2.1 == (l0.length : Int))) else (some false)) else (none)) else (some false))) else (some false)))) = some r := by first | (rw [hy300]; with_reducible exact H) | (have H2_ := (Option.bind_some _ _).symm.trans H; rw [hy300]; with_reducible exact H2_) | (have H2_ := (Option.bind_some _ _).symm.trans H; with_reducible exact H2_) | with_reducible exact H | (rw [hy300]; exact H) | exact H
            have Ny300 := Aside0.mk hy300
            clear hy300
            replace H := Option.bind_eq_some_iff.mp H
            obtain ⟨⟨t303, t304, t305, t306, t307⟩, A370, H⟩ := H
            replace H : ((fail_Code.f t290).bind fun t311 => (if t311 = 3 then ((fail_Code.f t307).bind fun t312 => (if t312 = 0 then (if 0 < (y274.length : Int) then (if (t303.toList == (((rd_T26 y274 0).f0).toList) && (t304 == ((rd_T26 y274 0).f1) && (t305.toList == (((rd_T26 y274 0).f2).toList)))) = true then (some (t306 == (l0.length : Int))) else (some false)) else (none)) else (some false))) else (some false))) = some r := H
            have A37 := Aside0.mk A370
            clear A370
            replace H := Option.bind_eq_some_iff.mp H
            obtain ⟨t311, A380, H⟩ := H
            replace H : (if t311 = 3 then ((fail_Code.f t307).bind fun t312 => (if t312 = 0 then (if 0 < (y274.length : Int) then (if (t303.toList == (((rd_T26 y274 0).f0).toList) && (t304 == ((rd_T26 y274 0).f1) && (t305.toList == (((rd_T26 y274 0).f2).toList)))) = true then (some (t306 == (l0.length : Int))) else (some false)) else (none)) else (some false))) else (some false)) = some r := H
            have A38 := Aside0.mk A380
            clear A380
            by_cases c39 : t311 = 3
            ·rw [if_pos c39] at H
             have c39b0 : (t311 == 3) = true := beq_iff_eq.mpr c39
             have c39b1 : (t311 != 3) = false := bne_eq_false_iff_eq.mpr c39
             clear c39
             replace H := Option.bind_eq_some_iff.mp H
             obtain ⟨t312, A400, H⟩ := H
             replace H : (if t312 = 0 then (if 0 < (y274.length : Int) then (if (t303.toList == (((rd_T26 y274 0).f0).toList) && (t304 == ((rd_T26 y274 0).f1) && (t305.toList == (((rd_T26 y274 0).f2).toList)))) = true then (some (t306 == (l0.length : Int))) else (some false)) else (none)) else (some false)) = some r := H
             have A40 := Aside0.mk A400
             clear A400
             by_cases c41 : t312 = 0
             ·rw [if_pos c41] at H
              have c41b0 : (t312 == 0) = true := beq_iff_eq.mpr c41
              have c41b1 : (t312 != 0) = false := bne_eq_false_iff_eq.mpr c41
              clear c41
              by_cases c42 : 0 < (y274.length : Int)
              ·rw [if_pos c42] at H
               have c42b0 : decide (0 < (y274.length : Int)) = true := decide_eq_true c42
               have c42b1 : decide (0 < y274.length) = true := decide_eq_true (by omega)
               clear c42
               by_cases c43 : (t303.toList == (((rd_T26 y274 0).f0).toList) && (t304 == ((rd_T26 y274 0).f1) && (t305.toList == (((rd_T26 y274 0).f2).toList)))) = true
               ·rw [if_pos c43] at H
                have c43b0 : (t303.toList == (((rd_T26 y274 0).f0).toList) && (t304 == ((rd_T26 y274 0).f1) && (t305.toList == (((rd_T26 y274 0).f2).toList)))) = true := c43
                (try (have c43b1 : decide (t303.toList = (((rd_T26 y274 0).f0).toList) && (t304 == ((rd_T26 y274 0).f1) && (t305.toList == (((rd_T26 y274 0).f2).toList)))) = true := by simpa using c43))
                (try (have c43b2 : (t303.toList == (((rd_T26 y274 0).f0).toList) && (t304 == ((rd_T26 y274 0).f1) && (t305.toList == (((rd_T26 y274 0).f2).toList)))) = true := by simpa using c43))
                (try (have c43b8 := c43b0; simp only [beq_true, beq_false, Bool.true_beq, Bool.false_beq, bne, Bool.not_eq_true', Bool.not_eq_false', Bool.not_true, Bool.not_false] at c43b8))
                clear c43
                obtain rfl := Option.some.inj H
                try go_wp2_with (first | ((with_reducible refine gate_dst (N := 53) rfl ?_); (try (refine gate_guard (by rfl) ?_; dsimp only)); refine Kd.R_lit k26 _ 26 ?hg (N := 53) ?hd (xs := ([(⟨((⟨#[47]⟩ : ByteArray) ++ a1), 1, a2⟩ : S26)] : List (S26))) (inner := [.string ((⟨#[47]⟩ : ByteArray) ++ a1), .int .i64 1, .string a2]) (ok := fun _ => True) (okp := fun _ => True) ?hr ?hp (fun _ hk => hk) trivial (Below.refl _ _) (Nat.le_refl _) (by simp) ?_; (case hd => rfl); (case hg => rfl); (case hr => first | (go_simp; done) | (go_simp; rfl)); (case hp => exact (Reps.c3 (show Kd.M k26 _ _ _ (⟨((⟨#[47]⟩ : ByteArray) ++ a1), 1, a2⟩ : S26) [.string ((⟨#[47]⟩ : ByteArray) ++ a1), .int .i64 1, .string a2] from (k26_mkM _ _ _ (⟨((⟨#[47]⟩ : ByteArray) ++ a1), 1, a2⟩ : S26) )) (Reps.none _ _))); intro v275 w44 ho45 hb hg_ hnew_; clear hg_ hnew_; (first | rw [← Ny274.out] at ho45 | (simp only [Int.reduceToNat] at ho45; rw [← Ny274.out] at ho45)); have n0_ := Aside0.mk (Kd.V_elder' (by (with_reducible repeat (first | apply Kd.V_alloc | apply Kd.V_drewN | apply Kd.V_drew)); exact HO_0.out) (Kd.R_base ho45) hb); have n1_ := Aside0.mk (Kd.R_elder' (by (with_reducible repeat (first | apply Kd.R_alloc | apply Kd.R_drewN | apply Kd.R_drew)); exact HO_8.out) (Kd.R_base ho45) hb); have n2_ := Aside0.mk (Kd.R_lower (Kd.R_new' (Kd.R_newM (M := fun k_ => (w.heap.size ≤ k_)) ho45 (below_size (by repeat (first | (with_reducible first | exact HB.out | apply below_alloc | apply pw_below_drewN | apply below_drew1) | exact HB.out))) (fun k_ h_ => h_)) (Kd.R_lt (by (with_reducible repeat (first | apply Kd.R_alloc | apply Kd.R_drewN | apply Kd.R_drew)); exact HO_8.out))) (below_size (by repeat (first | (with_reducible first | exact HB.out | apply below_alloc | apply pw_below_drewN | apply below_drew1) | exact HB.out)))); have n3_ := Aside0.mk (below_step (by repeat (first | (with_reducible first | exact HB.out | apply below_alloc | apply pw_below_drewN | apply below_drew1) | exact HB.out)) hb); clear HO_0; clear HO_8; clear HB; have HO_0 := n0_; have HO_8 := n1_; have HO276 := n2_; have HB := n3_; clear n0_ n1_ n2_ n3_; clear hb ho45) | ((with_reducible refine gate_dst (N := 55) rfl ?_); (try (refine gate_guard (by rfl) ?_; dsimp only)); refine Kd.N_lit (Kd.slice 26 k26) _ 27 ?hg (N' := 55) ?hd (xs := ([] : List (List (S26)))) (inner := []) (ok := (fun k_ => (P0_ k_ ∨ w.heap.size ≤ k_) ∧ some k_ ≠ (v270 : Value).ownBlock ∧ some k_ ≠ (v275 : Value).ownBlock)) (okp := (fun k_ => (P0_ k_ ∨ w.heap.size ≤ k_) ∧ some k_ ≠ (v270 : Value).ownBlock ∧ some k_ ≠ (v275 : Value).ownBlock)) ?hr ?hp (fun _ hk => hk) ((show ∀ k_, w44.heap.size ≤ k_ → (fun k_ => (P0_ k_ ∨ w.heap.size ≤ k_) ∧ some k_ ≠ (v270 : Value).ownBlock ∧ some k_ ≠ (v275 : Value).ownBlock) k_ from fun k_ hk => ⟨(.inr (Nat.le_trans (below_size (by repeat (first | (with_reducible first | exact HB.out | apply below_alloc | apply pw_below_drewN | apply below_drew1) | exact HB.out))) hk)), Kd.fresh' (Kd.R_lt (by (with_reducible repeat (first | apply Kd.R_alloc | apply Kd.R_drewN | apply Kd.R_drew)); exact HO_8.out)) k_ hk, Kd.fresh' (Kd.R_lt (by (with_reducible repeat (first | apply Kd.R_alloc | apply Kd.R_drewN | apply Kd.R_drew)); exact HO276.out)) k_ hk⟩) _ (Nat.le_refl _)) (Below.refl _ _) (Nat.le_refl _) (by simp) ?_; (case hd => rfl); (case hg => rfl); (case hr => first | (go_simp; done) | (go_simp; rfl)); (case hp => exact (Reps.none _ _)); intro v278 w46 ho47 hb hg_ hnew_; clear hg_ hnew_; (first | rw [← Ny277.out] at ho47 | (simp only [Int.reduceToNat] at ho47; rw [← Ny277.out] at ho47)); have n0_ := Aside0.mk (Kd.V_elder' (by (with_reducible repeat (first | apply Kd.V_alloc | apply Kd.V_drewN | apply Kd.V_drew)); exact HO_0.out) (Kd.N_base ho47) hb); have n1_ := Aside0.mk (Kd.R_below (by (with_reducible repeat (first | apply Kd.R_alloc | apply Kd.R_drewN | apply Kd.R_drew)); exact HO_8.out) hb); have n2_ := Aside0.mk (Kd.R_below (by (with_reducible repeat (first | apply Kd.R_alloc | apply Kd.R_drewN | apply Kd.R_drew)); exact HO276.out) hb); have n3_ := Aside0.mk (Kd.N_lower ho47 (below_size (by repeat (first | (with_reducible first | exact HB.out | apply below_alloc | apply pw_below_drewN | apply below_drew1) | exact HB.out)))); have n4_ := Aside0.mk (below_step (by repeat (first | (with_reducible first | exact HB.out | apply below_alloc | apply pw_below_drewN | apply below_drew1) | exact HB.out)) hb); clear HO_0; clear HO_8; clear HO276; clear HB; have HO_0 := n0_; have HO_8 := n1_; have HO276 := n2_; have HO279 := n3_; have HB := n4_; clear n0_ n1_ n2_ n3_ n4_; clear hb ho47) | ((with_reducible refine gate_builtin (b := .append) (xs := #[.tmp 55, .tmp 56]) rfl ?_); (try (refine gate_guard (by rfl) ?_; dsimp only)); at_builtin; refine Kd.N_append_rows (Kd.slice 26 k26) (w0 := w) w.heap.size rfl (.tmp 55) (.tmp 56) 22 27 (.slice none 0 0) 24 rfl Tryz.underlying22 info27 rfl (by decide) (by omega) v278 y277 l0 _ _ _ (fun k_ => (P0_ k_ ∨ w.heap.size ≤ k_) ∧ some k_ ≠ (v270 : Value).ownBlock ∧ some k_ ≠ (v275 : Value).ownBlock) (fun k_ => ((fun k_ => (P0_ k_ ∨ w.heap.size ≤ k_) ∧ some k_ ≠ (v270 : Value).ownBlock ∧ some k_ ≠ (v275 : Value).ownBlock)) k_ ∧ some k_ ≠ (v278 : Value).ownBlock) rfl rfl ?aO ?aR (fun _ hk => hk) ?aF ?aB ?aS ?aL ?_; (case aR => exact (by skip; exact Kd.V_F (Kd.V_mono (ok' := (fun k_ => ((fun k_ => (P0_ k_ ∨ w.heap.size ≤ k_) ∧ some k_ ≠ (v270 : Value).ownBlock ∧ some k_ ≠ (v275 : Value).ownBlock)) k_ ∧ some k_ ≠ (v278 : Value).ownBlock)) (HO_0.out) (fun k_ hk => ⟨⟨hk.1.1.1, ⟨hk.1.1.2, hk.1.2⟩⟩, hk.2⟩)))); (case aB => exact (by repeat (first | (with_reducible first | exact HB.out | apply below_alloc | apply pw_below_drewN | apply below_drew1) | exact HB.out))); (case aF => exact (fun k_ hk => ⟨(.inr (Nat.le_trans (below_size (by repeat (first | (with_reducible first | exact HB.out | apply below_alloc | apply pw_below_drewN | apply below_drew1) | exact HB.out))) hk)), Kd.fresh' (Kd.R_lt (by (with_reducible repeat (first | apply Kd.R_alloc | apply Kd.R_drewN | apply Kd.R_drew)); exact HO_8.out)) k_ hk, Kd.fresh' (Kd.R_lt (by (with_reducible repeat (first | apply Kd.R_alloc | apply Kd.R_drewN | apply Kd.R_drew)); exact HO276.out)) k_ hk⟩)); (case aO => exact (by (with_reducible repeat (first | apply Kd.N_alloc | apply Kd.N_drewN | apply Kd.N_drew)); exact HO279.out)); (case aS => exact (below_size (by repeat (first | (with_reducible first | exact HB.out | apply below_alloc | apply pw_below_drewN | apply below_drew1) | exact HB.out)))); (case aL => have := LMc32.out; omega); intro v281 w48 ho hb hg hat; rw [← Ny280.out] at ho; have n0_ := Aside0.mk (Kd.V_afterv (ok := (fun k_ => (P0_ k_ ∨ w.heap.size ≤ k_) ∧ some k_ ≠ (v270 : Value).ownBlock ∧ some k_ ≠ (v275 : Value).ownBlock)) (by (with_reducible repeat (first | apply Kd.V_alloc | apply Kd.V_drewN | apply Kd.V_drew)); exact Kd.V_mono HO_0.out (fun _ hk => ⟨⟨hk.1.1.1, ⟨hk.1.1.2, hk.1.2⟩⟩, hk.2⟩)) hg hat); have n1_ := Aside0.mk (Kd.R_over' (by (with_reducible repeat (first | apply Kd.R_alloc | apply Kd.R_drewN | apply Kd.R_drew)); exact HO_8.out) (Kd.N_typed (by (with_reducible repeat (first | apply Kd.N_alloc | apply Kd.N_drewN | apply Kd.N_drew)); exact HO279.out)) (by decide) hg); have n2_ := Aside0.mk (Kd.R_over' (by (with_reducible repeat (first | apply Kd.R_alloc | apply Kd.R_drewN | apply Kd.R_drew)); exact HO276.out) (Kd.N_typed (by (with_reducible repeat (first | apply Kd.N_alloc | apply Kd.N_drewN | apply Kd.N_drew)); exact HO279.out)) (by decide) hg); have n3_ := Aside0.mk (hb); have n4_ := Aside0.mk (ho); clear HO_0; clear HO_8; clear HO276; clear HB; clear HO279; have HO_0 := n0_; have HO_8 := n1_; have HO276 := n2_; have HB := n3_; have HO282 := n4_; clear n0_ n1_ n2_ n3_ n4_; clear ho hb hg hat; obtain ⟨Ao50, co50, eo50⟩ := Kd.R_slice HO_8.out; subst eo50) | ((with_reducible refine gate_builtin (b := .append) (xs := #[.tmp 57, .tmp 59]) rfl ?_); (try (refine gate_guard (by rfl) ?_; dsimp only)); at_builtin; refine Kd.N_append (Kd.slice 26 k26) (w0 := w) w.heap.size rfl (.tmp 57) (.tmp 59) 22 27 (.slice none 0 0) 24 rfl Tryz.underlying22 info27 rfl (by decide) (by omega) v281 y280 y269 [.slice Ao50 y269.length co50] (fun k_ => (P0_ k_ ∨ w.heap.size ≤ k_) ∧ some k_ ≠ (v275 : Value).ownBlock) (fun k_ => ((fun k_ => (P0_ k_ ∨ w.heap.size ≤ k_) ∧ some k_ ≠ (v275 : Value).ownBlock)) k_ ∧ some k_ ≠ (v281 : Value).ownBlock) rfl rfl ?aP (fun _ hk => hk) ?aF ?aO ?aB ?aS ?aL ?_; (case aP => exact (Kd.FK_slice_mk (Kd.R_reads' (Kd.R_mono (ok' := (fun k_ => ((fun k_ => (P0_ k_ ∨ w.heap.size ≤ k_) ∧ some k_ ≠ (v275 : Value).ownBlock)) k_ ∧ some k_ ≠ (v281 : Value).ownBlock)) (Kd.R_apart' (HO_8.out) (Kd.N_typed HO282.out) (by decide)) (fun k_ hk => ⟨⟨(.inr (hk.1.1)), hk.1.2⟩, hk.2⟩))).2.1 (Kd.R_F (Kd.R_mono (ok' := (fun k_ => ((fun k_ => (P0_ k_ ∨ w.heap.size ≤ k_) ∧ some k_ ≠ (v275 : Value).ownBlock)) k_ ∧ some k_ ≠ (v281 : Value).ownBlock)) (Kd.R_apart' (HO_8.out) (Kd.N_typed HO282.out) (by decide)) (fun k_ hk => ⟨⟨(.inr (hk.1.1)), hk.1.2⟩, hk.2⟩))))); (case aB => exact (by repeat (first | (with_reducible first | exact HB.out | apply below_alloc | apply pw_below_drewN | apply below_drew1) | exact HB.out))); (case aF => exact (fun k_ hk => ⟨(.inr (Nat.le_trans (below_size (by repeat (first | (with_reducible first | exact HB.out | apply below_alloc | apply pw_below_drewN | apply below_drew1) | exact HB.out))) hk)), Kd.fresh' (Kd.R_lt (by (with_reducible repeat (first | apply Kd.R_alloc | apply Kd.R_drewN | apply Kd.R_drew)); exact HO276.out)) k_ hk⟩)); (case aO => exact (by (with_reducible repeat (first | apply Kd.N_alloc | apply Kd.N_drewN | apply Kd.N_drew)); exact Kd.N_mono HO282.out (fun _ hk => ⟨hk.1, hk.2.2⟩))); (case aS => exact (below_size (by repeat (first | (with_reducible first | exact HB.out | apply below_alloc | apply pw_below_drewN | apply below_drew1) | exact HB.out)))); (case aL => have := LMc33.out; omega); intro v284 w49 ho hb hg hat; rw [← Ny283.out] at ho; have n0_ := Aside0.mk (Kd.V_afterv (ok := (fun k_ => (P0_ k_ ∨ w.heap.size ≤ k_) ∧ some k_ ≠ (.slice Ao50 y269.length co50 : Value).ownBlock ∧ some k_ ≠ (v275 : Value).ownBlock)) (by (with_reducible repeat (first | apply Kd.V_alloc | apply Kd.V_drewN | apply Kd.V_drew)); exact HO_0.out) hg hat); have n1_ := Aside0.mk (Kd.R_over' (by (with_reducible repeat (first | apply Kd.R_alloc | apply Kd.R_drewN | apply Kd.R_drew)); exact HO276.out) (Kd.N_typed (by (with_reducible repeat (first | apply Kd.N_alloc | apply Kd.N_drewN | apply Kd.N_drew)); exact HO282.out)) (by decide) hg); have n2_ := Aside0.mk (hb); have n3_ := Aside0.mk (ho); clear HO_0; clear HO276; clear HB; clear HO282; clear HO_8; have HO_0 := n0_; have HO276 := n1_; have HB := n2_; have HO285 := n3_; clear n0_ n1_ n2_ n3_; clear ho hb hg hat; obtain ⟨Ao51, co51, eo51⟩ := Kd.N_slice HO285.out; subst eo51) | ((with_reducible refine gate_callee (f := 11) rfl ?_); refine goesL_ (some 62) rfl rfl Tryz.func11 (by kernel_rfl) rfl #[.slice Ao51 y283.length co51, .string ((⟨#[47]⟩ : ByteArray) ++ a1)] rfl (by (try simp only [List.map_toArray, List.map_cons, List.map_nil]); first | done | rfl | (simp only [List.length_drop, List.length_take]; rfl)) ?_; (with_reducible refine (look_At.calls kj19 _ _ y283 ((⟨#[47]⟩ : ByteArray) ++ a1) t286 t287 t288 t289 t290 _ ?side1 ?side2 A34.out).mono ?_); (case side1 => repeat (first | exact (Kd.N_reads' HO285.out).2.2 | (with_reducible refine Kd.C_alloc ?_ _) | (with_reducible refine Kd.C_drewN ?_ _) | (with_reducible refine Kd.C_drew ?_))); (case side2 => exact (Kd.N_reads' HO285.out).2.1); rintro e w52 ⟨v291, rfl, ho0, hb⟩; refine ⟨_, rfl, ?_⟩; have n0_ := Aside0.mk (Kd.V_elder' (by (with_reducible repeat (first | apply Kd.V_alloc | apply Kd.V_drewN | apply Kd.V_drew)); exact HO_0.out) (Kd.R_base ho0) hb); have n1_ := Aside0.mk (Kd.R_below (by (with_reducible repeat (first | apply Kd.R_alloc | apply Kd.R_drewN | apply Kd.R_drew)); exact HO276.out) hb); have n2_ := Aside0.mk (Kd.N_elder' (by (with_reducible repeat (first | apply Kd.N_alloc | apply Kd.N_drewN | apply Kd.N_drew)); exact HO285.out) (Kd.R_base ho0) hb); have n3_ := Aside0.mk (Kd.R_lower (Kd.R_newM (M := fun k_ => (w.heap.size ≤ k_)) ho0 (below_size (by repeat (first | (with_reducible first | exact HB.out | apply below_alloc | apply pw_below_drewN | apply below_drew1) | exact HB.out))) (fun k_ h_ => h_)) (below_size (by repeat (first | (with_reducible first | exact HB.out | apply below_alloc | apply pw_below_drewN | apply below_drew1) | exact HB.out)))); have n4_ := Aside0.mk (below_step (by repeat (first | (with_reducible first | exact HB.out | apply below_alloc | apply pw_below_drewN | apply below_drew1) | exact HB.out)) hb); clear HO_0; clear HO276; clear HO285; clear HB; have HO_0 := n0_; have HO276 := n1_; have HO285 := n2_; have HO292 := n3_; have HB := n4_; clear n0_ n1_ n2_ n3_ n4_; (try clear hb); (try clear hb2); (try clear hk); (try clear hi); (try clear ho0); have hE_v291 := errNil_of HO292.out) | ((with_reducible refine gate_dst (N := 10) rfl ?_); (try (refine gate_guard (by rfl) ?_; dsimp only)); refine box_event ?hg (N := 10) ?hd (cs := #[.string (⟨#[]⟩ : ByteArray), .int .i64 0, .string (⟨#[]⟩ : ByteArray), .int .i64 0]) (t := 31) ?hr ?_; (case hd => rfl); (case hg => rfl); (case hr => first | (go_simp; done) | (go_simp; rfl)); intro gb293 hg w53 hbox hb; have n0_ := Aside0.mk (Kd.V_below (Kd.V_elderB (by (with_reducible repeat (first | apply Kd.V_alloc | apply Kd.V_drewN | apply Kd.V_drew)); exact HO_0.out) gb293 (Nat.le_of_eq hg.symm)) hb); have n1_ := Aside0.mk (Kd.R_below (by (with_reducible repeat (first | apply Kd.R_alloc | apply Kd.R_drewN | apply Kd.R_drew)); exact HO276.out) hb); have n2_ := Aside0.mk (Kd.N_below (Kd.N_elderB (by (with_reducible repeat (first | apply Kd.N_alloc | apply Kd.N_drewN | apply Kd.N_drew)); exact HO285.out) gb293 (Nat.le_of_eq hg.symm)) hb); have n3_ := Aside0.mk (Kd.R_below (by (with_reducible repeat (first | apply Kd.R_alloc | apply Kd.R_drewN | apply Kd.R_drew)); exact HO292.out) hb); have n4_ := Aside0.mk (below_step (by repeat (first | (with_reducible first | exact HB.out | apply below_alloc | apply pw_below_drewN | apply below_drew1) | exact HB.out)) hb); have n5_ := Aside0.mk (hbox); have n6_ := Aside0.mk ((by rw [hg]; exact (below_size (by repeat (first | (with_reducible first | exact HB.out | apply below_alloc | apply pw_below_drewN | apply below_drew1) | exact HB.out))) : w.heap.size ≤ gb293)); have n7_ := Aside0.mk ((by rw [hg]; exact (below_size (by repeat (first | (with_reducible first | exact HB.out | apply below_alloc | apply pw_below_drewN | apply below_drew1) | exact HB.out))) : w.heap.size ≤ gb293)); clear HO_0; clear HO276; clear HO285; clear HO292; clear HB; have HO_0 := n0_; have HO276 := n1_; have HO285 := n2_; have HO292 := n3_; have HB := n4_; have BK293 := n5_; have GW293 := n6_; have GE293 := n7_; clear n0_ n1_ n2_ n3_ n4_ n5_ n6_ n7_; clear hb hbox hg; have hcz54_0 : w53.cell? ⟨gb293, 0, none⟩ = some (.string (⟨#[]⟩ : ByteArray)) := (blk_cell BK293.out 0).trans rfl; have hcz54_1 : w53.cell? ⟨gb293, 1, none⟩ = some (.int .i64 0) := (blk_cell BK293.out 1).trans rfl; have hcz54_2 : w53.cell? ⟨gb293, 2, none⟩ = some (.string (⟨#[]⟩ : ByteArray)) := (blk_cell BK293.out 2).trans rfl; have hcz54_3 : w53.cell? ⟨gb293, 3, none⟩ = some (.int .i64 0) := (blk_cell BK293.out 3).trans rfl; have hfz54_0 := blk_frozen BK293.out 0; have hfz54_1 := blk_frozen BK293.out 1; have hfz54_2 := blk_frozen BK293.out 2; have hfz54_3 := blk_frozen BK293.out 3) | ((with_reducible refine gate_dst (N := 66) rfl ?_); (try (refine gate_guard (by rfl) ?_; dsimp only)); refine Kd.N_lit (Kd.slice 26 k26) _ 27 ?hg (N' := 66) ?hd (xs := ([] : List (List (S26)))) (inner := []) (ok := (fun k_ => (P0_ k_ ∨ w.heap.size ≤ k_) ∧ some k_ ≠ (v275 : Value).ownBlock ∧ some k_ ≠ (.slice Ao51 y283.length co51 : Value).ownBlock ∧ some k_ ≠ (v291 : Value).ownBlock ∧ k_ ≠ gb293)) (okp := (fun k_ => (P0_ k_ ∨ w.heap.size ≤ k_) ∧ some k_ ≠ (v275 : Value).ownBlock ∧ some k_ ≠ (.slice Ao51 y283.length co51 : Value).ownBlock ∧ some k_ ≠ (v291 : Value).ownBlock ∧ k_ ≠ gb293)) ?hr ?hp (fun _ hk => hk) ((show ∀ k_, w53.heap.size ≤ k_ → (fun k_ => (P0_ k_ ∨ w.heap.size ≤ k_) ∧ some k_ ≠ (v275 : Value).ownBlock ∧ some k_ ≠ (.slice Ao51 y283.length co51 : Value).ownBlock ∧ some k_ ≠ (v291 : Value).ownBlock ∧ k_ ≠ gb293) k_ from fun k_ hk => ⟨(.inr (Nat.le_trans (below_size (by repeat (first | (with_reducible first | exact HB.out | apply below_alloc | apply pw_below_drewN | apply below_drew1 | refine below_set ?_ GE293.out) | exact HB.out))) hk)), Kd.fresh' (Kd.R_lt HO276.out) k_ hk, Kd.fresh' (Kd.N_lt HO285.out) k_ hk, Kd.fresh' (Kd.R_lt HO292.out) k_ hk, Kd.freshB (g := gb293) BK293.out k_ hk⟩) _ (by simp)) (Below.refl _ _) (Nat.le_refl _) (by simp) ?_; (case hd => rfl); (case hg => rfl); (case hr => first | (go_simp; done) | (go_simp; rfl)); (case hp => exact (Reps.none _ _)); intro v295 w55 ho56 hb hg_ hnew_; clear hg_ hnew_; (first | rw [← Ny294.out] at ho56 | (simp only [Int.reduceToNat] at ho56; rw [← Ny294.out] at ho56)); have n0_ := Aside0.mk (Kd.V_elder' (by (with_reducible repeat (first | apply Kd.V_alloc | apply Kd.V_drewN | apply Kd.V_drew)); exact (Kd.V_mono (Kd.V_far (p := ⟨gb293, 3, none⟩) (Kd.V_far (p := ⟨gb293, 2, none⟩) (Kd.V_far (p := ⟨gb293, 1, none⟩) (Kd.V_far (p := ⟨gb293, 0, none⟩) (Kd.V_mono HO_0.out (fun k_ hk => (⟨hk, hk.2⟩ : _ ∧ k_ ≠ gb293))) (fun _ hk => hk.2) (.string t286)) (fun _ hk => hk.2) (.int .i64 t287)) (fun _ hk => hk.2) (.string t288)) (fun _ hk => hk.2) (.int .i64 t289)) (fun _ h_ => h_.1))) (Kd.N_base ho56) hb); have n1_ := Aside0.mk (Kd.R_below (by (with_reducible repeat (first | apply Kd.R_alloc | apply Kd.R_drewN | apply Kd.R_drew)); exact (Kd.R_mono (Kd.R_far (p := ⟨gb293, 3, none⟩) (Kd.R_far (p := ⟨gb293, 2, none⟩) (Kd.R_far (p := ⟨gb293, 1, none⟩) (Kd.R_far (p := ⟨gb293, 0, none⟩) (Kd.R_types HO276.out BK293.out (by decide)) (fun _ hk => hk.2) (.string t286)) (fun _ hk => hk.2) (.int .i64 t287)) (fun _ hk => hk.2) (.string t288)) (fun _ hk => hk.2) (.int .i64 t289)) (fun _ h_ => h_.1))) hb); have n2_ := Aside0.mk (Kd.N_elder' (by (with_reducible repeat (first | apply Kd.N_alloc | apply Kd.N_drewN | apply Kd.N_drew)); exact (Kd.N_mono (Kd.N_far (p := ⟨gb293, 3, none⟩) (Kd.N_far (p := ⟨gb293, 2, none⟩) (Kd.N_far (p := ⟨gb293, 1, none⟩) (Kd.N_far (p := ⟨gb293, 0, none⟩) (Kd.N_mono HO285.out (fun k_ hk => (⟨hk, hk.2⟩ : _ ∧ k_ ≠ gb293))) (fun _ hk => hk.2) (.string t286)) (fun _ hk => hk.2) (.int .i64 t287)) (fun _ hk => hk.2) (.string t288)) (fun _ hk => hk.2) (.int .i64 t289)) (fun _ h_ => h_.1))) (Kd.N_base ho56) hb); have n3_ := Aside0.mk (Kd.R_below (by (with_reducible repeat (first | apply Kd.R_alloc | apply Kd.R_drewN | apply Kd.R_drew)); exact (Kd.R_mono (Kd.R_far (p := ⟨gb293, 3, none⟩) (Kd.R_far (p := ⟨gb293, 2, none⟩) (Kd.R_far (p := ⟨gb293, 1, none⟩) (Kd.R_far (p := ⟨gb293, 0, none⟩) (Kd.R_types HO292.out BK293.out (by decide)) (fun _ hk => hk.2) (.string t286)) (fun _ hk => hk.2) (.int .i64 t287)) (fun _ hk => hk.2) (.string t288)) (fun _ hk => hk.2) (.int .i64 t289)) (fun _ h_ => h_.1))) hb); have n4_ := Aside0.mk (Kd.N_lower ho56 (below_size (by repeat (first | (with_reducible first | exact HB.out | apply below_alloc | apply pw_below_drewN | apply below_drew1 | refine below_set ?_ GE293.out) | exact HB.out)))); have n5_ := Aside0.mk (blk_below (g := gb293) (o := .cells #[.string t286, .int .i64 t287, .string t288, .int .i64 t289] 31 (0, 0)) (by (with_reducible repeat (first | refine blk_drewN ?_ _ | refine blk_drew ?_ | refine blk_alloc ?_ _)); refine blk_put (cs := #[.string t286, .int .i64 t287, .string t288, .int .i64 0]) ?_ 3 _ rfl; (with_reducible repeat (first | refine blk_drewN ?_ _ | refine blk_drew ?_ | refine blk_alloc ?_ _)); refine blk_put (cs := #[.string t286, .int .i64 t287, .string (⟨#[]⟩ : ByteArray), .int .i64 0]) ?_ 2 _ rfl; (with_reducible repeat (first | refine blk_drewN ?_ _ | refine blk_drew ?_ | refine blk_alloc ?_ _)); refine blk_put (cs := #[.string t286, .int .i64 0, .string (⟨#[]⟩ : ByteArray), .int .i64 0]) ?_ 1 _ rfl; (with_reducible repeat (first | refine blk_drewN ?_ _ | refine blk_drew ?_ | refine blk_alloc ?_ _)); refine blk_put (cs := #[.string (⟨#[]⟩ : ByteArray), .int .i64 0, .string (⟨#[]⟩ : ByteArray), .int .i64 0]) ?_ 0 _ rfl; (with_reducible repeat (first | refine blk_drewN ?_ _ | refine blk_drew ?_ | refine blk_alloc ?_ _)); exact BK293.out) hb); have n6_ := Aside0.mk (below_step (by repeat (first | (with_reducible first | exact HB.out | apply below_alloc | apply pw_below_drewN | apply below_drew1 | refine below_set ?_ GE293.out) | exact HB.out)) hb); clear HO_0; clear HO276; clear HO285; clear HO292; clear BK293; clear HB; have HO_0 := n0_; have HO276 := n1_; have HO285 := n2_; have HO292 := n3_; have HO296 := n4_; have BK293 := n5_; have HB := n6_; clear n0_ n1_ n2_ n3_ n4_ n5_ n6_; clear hb ho56) | ((with_reducible refine gate_builtin (b := .append) (xs := #[.tmp 66, .tmp 67]) rfl ?_); (try (refine gate_guard (by rfl) ?_; dsimp only)); at_builtin; refine Kd.N_append_rows (Kd.slice 26 k26) (w0 := w) w.heap.size rfl (.tmp 66) (.tmp 67) 22 27 (.slice none 0 0) 24 rfl Tryz.underlying22 info27 rfl (by decide) (by omega) v295 y294 l0 _ _ _ (fun k_ => (P0_ k_ ∨ w.heap.size ≤ k_) ∧ some k_ ≠ (v275 : Value).ownBlock ∧ some k_ ≠ (.slice Ao51 y283.length co51 : Value).ownBlock ∧ some k_ ≠ (v291 : Value).ownBlock ∧ k_ ≠ gb293) (fun k_ => ((fun k_ => (P0_ k_ ∨ w.heap.size ≤ k_) ∧ some k_ ≠ (v275 : Value).ownBlock ∧ some k_ ≠ (.slice Ao51 y283.length co51 : Value).ownBlock ∧ some k_ ≠ (v291 : Value).ownBlock ∧ k_ ≠ gb293)) k_ ∧ some k_ ≠ (v295 : Value).ownBlock) rfl rfl ?aO ?aR (fun _ hk => hk) ?aF ?aB ?aS ?aL ?_; (case aR => exact (by skip; exact Kd.V_F (Kd.V_mono (ok' := (fun k_ => ((fun k_ => (P0_ k_ ∨ w.heap.size ≤ k_) ∧ some k_ ≠ (v275 : Value).ownBlock ∧ some k_ ≠ (.slice Ao51 y283.length co51 : Value).ownBlock ∧ some k_ ≠ (v291 : Value).ownBlock ∧ k_ ≠ gb293)) k_ ∧ some k_ ≠ (v295 : Value).ownBlock)) (HO_0.out) (fun k_ hk => ⟨⟨hk.1.1.1.1.1, ⟨hk.1.1.1.1.2.2, ⟨hk.1.1.1.2, ⟨hk.1.1.2, hk.1.2⟩⟩⟩⟩, hk.2⟩)))); (case aB => exact (by repeat (first | (with_reducible first | exact HB.out | apply below_alloc | apply pw_below_drewN | apply below_drew1 | refine below_set ?_ GE293.out) | exact HB.out))); (case aF => exact (fun k_ hk => ⟨(.inr (Nat.le_trans (below_size (by repeat (first | (with_reducible first | exact HB.out | apply below_alloc | apply pw_below_drewN | apply below_drew1 | refine below_set ?_ GE293.out) | exact HB.out))) hk)), Kd.fresh' (Kd.R_lt (by (with_reducible repeat (first | apply Kd.R_alloc | apply Kd.R_drewN | apply Kd.R_drew)); exact HO276.out)) k_ hk, Kd.fresh' (Kd.N_lt (by (with_reducible repeat (first | apply Kd.N_alloc | apply Kd.N_drewN | apply Kd.N_drew)); exact HO285.out)) k_ hk, Kd.fresh' (Kd.R_lt (by (with_reducible repeat (first | apply Kd.R_alloc | apply Kd.R_drewN | apply Kd.R_drew)); exact HO292.out)) k_ hk, Kd.freshB (g := gb293) (o := .cells #[.string t286, .int .i64 t287, .string t288, .int .i64 t289] 31 (0, 0)) (by (with_reducible repeat (first | refine blk_drewN ?_ _ | refine blk_drew ?_ | refine blk_alloc ?_ _)); exact BK293.out) k_ hk⟩)); (case aO => exact (by (with_reducible repeat (first | apply Kd.N_alloc | apply Kd.N_drewN | apply Kd.N_drew)); exact HO296.out)); (case aS => exact (below_size (by repeat (first | (with_reducible first | exact HB.out | apply below_alloc | apply pw_below_drewN | apply below_drew1 | refine below_set ?_ GE293.out) | exact HB.out)))); (case aL => have := LMc35.out; omega); intro v298 w57 ho hb hg hat; rw [← Ny297.out] at ho; have n0_ := Aside0.mk (Kd.V_afterv (ok := (fun k_ => (P0_ k_ ∨ w.heap.size ≤ k_) ∧ some k_ ≠ (v275 : Value).ownBlock ∧ some k_ ≠ (.slice Ao51 y283.length co51 : Value).ownBlock ∧ some k_ ≠ (v291 : Value).ownBlock ∧ k_ ≠ gb293)) (by (with_reducible repeat (first | apply Kd.V_alloc | apply Kd.V_drewN | apply Kd.V_drew)); exact Kd.V_mono HO_0.out (fun _ hk => ⟨⟨hk.1.1.1.1.1, ⟨hk.1.1.1.1.2.2, ⟨hk.1.1.1.2, ⟨hk.1.1.2, hk.1.2⟩⟩⟩⟩, hk.2⟩)) hg hat); have n1_ := Aside0.mk (Kd.R_over' (by (with_reducible repeat (first | apply Kd.R_alloc | apply Kd.R_drewN | apply Kd.R_drew)); exact HO276.out) (Kd.N_typed (by (with_reducible repeat (first | apply Kd.N_alloc | apply Kd.N_drewN | apply Kd.N_drew)); exact HO296.out)) (by decide) hg); have n2_ := Aside0.mk (Kd.N_afterv (ok := (fun k_ => (P0_ k_ ∨ w.heap.size ≤ k_) ∧ some k_ ≠ (v275 : Value).ownBlock ∧ some k_ ≠ (v291 : Value).ownBlock ∧ k_ ≠ gb293)) (by (with_reducible repeat (first | apply Kd.N_alloc | apply Kd.N_drewN | apply Kd.N_drew)); exact Kd.N_mono HO285.out (fun _ hk => ⟨⟨hk.1.1.1.1, ⟨hk.1.1.1.2, ⟨hk.1.1.2, hk.1.2⟩⟩⟩, hk.2⟩)) hg hat); have n3_ := Aside0.mk (Kd.R_over' (by (with_reducible repeat (first | apply Kd.R_alloc | apply Kd.R_drewN | apply Kd.R_drew)); exact HO292.out) (Kd.N_typed (by (with_reducible repeat (first | apply Kd.N_alloc | apply Kd.N_drewN | apply Kd.N_drew)); exact HO296.out)) (by decide) hg); have n4_ := Aside0.mk (blk_grown (g := gb293) (o := .cells #[.string t286, .int .i64 t287, .string t288, .int .i64 t289] 31 (0, 0)) (by (with_reducible repeat (first | refine blk_drewN ?_ _ | refine blk_drew ?_ | refine blk_alloc ?_ _)); exact BK293.out) hg (Kd.N_ne HO296.out BK293.out (by decide))); have n5_ := Aside0.mk (hb); have n6_ := Aside0.mk (ho); clear HO_0; clear HO276; clear HO285; clear HO292; clear BK293; clear HB; clear HO296; have HO_0 := n0_; have HO276 := n1_; have HO285 := n2_; have HO292 := n3_; have BK293 := n4_; have HB := n5_; have HO299 := n6_; clear n0_ n1_ n2_ n3_ n4_ n5_ n6_; clear ho hb hg hat; obtain ⟨Ao59, co59, eo59⟩ := Kd.R_slice HO276.out; subst eo59) | ((with_reducible refine gate_builtin (b := .append) (xs := #[.tmp 68, .tmp 70]) rfl ?_); (try (refine gate_guard (by rfl) ?_; dsimp only)); at_builtin; refine Kd.N_append (Kd.slice 26 k26) (w0 := w) w.heap.size rfl (.tmp 68) (.tmp 70) 22 27 (.slice none 0 0) 24 rfl Tryz.underlying22 info27 rfl (by decide) (by omega) v298 y297 y274 [.slice Ao59 y274.length co59] (fun k_ => (P0_ k_ ∨ w.heap.size ≤ k_) ∧ some k_ ≠ (.slice Ao51 y283.length co51 : Value).ownBlock ∧ some k_ ≠ (v291 : Value).ownBlock ∧ k_ ≠ gb293) (fun k_ => ((fun k_ => (P0_ k_ ∨ w.heap.size ≤ k_) ∧ some k_ ≠ (.slice Ao51 y283.length co51 : Value).ownBlock ∧ some k_ ≠ (v291 : Value).ownBlock ∧ k_ ≠ gb293)) k_ ∧ some k_ ≠ (v298 : Value).ownBlock) rfl rfl ?aP (fun _ hk => hk) ?aF ?aO ?aB ?aS ?aL ?_; (case aP => exact (Kd.FK_slice_mk (Kd.R_reads' (Kd.R_mono (ok' := (fun k_ => ((fun k_ => (P0_ k_ ∨ w.heap.size ≤ k_) ∧ some k_ ≠ (.slice Ao51 y283.length co51 : Value).ownBlock ∧ some k_ ≠ (v291 : Value).ownBlock ∧ k_ ≠ gb293)) k_ ∧ some k_ ≠ (v298 : Value).ownBlock)) (Kd.R_types (Kd.R_apart' (Kd.R_apart' (Kd.R_apart' (HO276.out) (Kd.N_typed HO285.out) (by decide)) (Kd.R_typed HO292.out) (by decide)) (Kd.N_typed HO299.out) (by decide)) BK293.out (by decide)) (fun k_ hk => ⟨⟨(.inr (hk.1.1.1.1.1.1)), ⟨hk.1.1.1.2, ⟨hk.1.1.2, hk.2⟩⟩⟩, hk.1.2⟩))).2.1 (Kd.R_F (Kd.R_mono (ok' := (fun k_ => ((fun k_ => (P0_ k_ ∨ w.heap.size ≤ k_) ∧ some k_ ≠ (.slice Ao51 y283.length co51 : Value).ownBlock ∧ some k_ ≠ (v291 : Value).ownBlock ∧ k_ ≠ gb293)) k_ ∧ some k_ ≠ (v298 : Value).ownBlock)) (Kd.R_types (Kd.R_apart' (Kd.R_apart' (Kd.R_apart' (HO276.out) (Kd.N_typed HO285.out) (by decide)) (Kd.R_typed HO292.out) (by decide)) (Kd.N_typed HO299.out) (by decide)) BK293.out (by decide)) (fun k_ hk => ⟨⟨(.inr (hk.1.1.1.1.1.1)), ⟨hk.1.1.1.2, ⟨hk.1.1.2, hk.2⟩⟩⟩, hk.1.2⟩))))); (case aB => exact (by repeat (first | (with_reducible first | exact HB.out | apply below_alloc | apply pw_below_drewN | apply below_drew1 | refine below_set ?_ GE293.out) | exact HB.out))); (case aF => exact (fun k_ hk => ⟨(.inr (Nat.le_trans (below_size (by repeat (first | (with_reducible first | exact HB.out | apply below_alloc | apply pw_below_drewN | apply below_drew1 | refine below_set ?_ GE293.out) | exact HB.out))) hk)), Kd.fresh' (Kd.N_lt (by (with_reducible repeat (first | apply Kd.N_alloc | apply Kd.N_drewN | apply Kd.N_drew)); exact HO285.out)) k_ hk, Kd.fresh' (Kd.R_lt (by (with_reducible repeat (first | apply Kd.R_alloc | apply Kd.R_drewN | apply Kd.R_drew)); exact HO292.out)) k_ hk, Kd.freshB (g := gb293) (o := .cells #[.string t286, .int .i64 t287, .string t288, .int .i64 t289] 31 (0, 0)) (by (with_reducible repeat (first | refine blk_drewN ?_ _ | refine blk_drew ?_ | refine blk_alloc ?_ _)); exact BK293.out) k_ hk⟩)); (case aO => exact (by (with_reducible repeat (first | apply Kd.N_alloc | apply Kd.N_drewN | apply Kd.N_drew)); exact Kd.N_mono HO299.out (fun _ hk => ⟨hk.1, ⟨hk.2.2.1, ⟨hk.2.2.2.1, hk.2.2.2.2⟩⟩⟩))); (case aS => exact (below_size (by repeat (first | (with_reducible first | exact HB.out | apply below_alloc | apply pw_below_drewN | apply below_drew1 | refine below_set ?_ GE293.out) | exact HB.out)))); (case aL => have := LMc36.out; omega); intro v301 w58 ho hb hg hat; rw [← Ny300.out] at ho; have n0_ := Aside0.mk (Kd.V_afterv (ok := (fun k_ => (P0_ k_ ∨ w.heap.size ≤ k_) ∧ some k_ ≠ (.slice Ao59 y274.length co59 : Value).ownBlock ∧ some k_ ≠ (.slice Ao51 y283.length co51 : Value).ownBlock ∧ some k_ ≠ (v291 : Value).ownBlock ∧ k_ ≠ gb293)) (by (with_reducible repeat (first | apply Kd.V_alloc | apply Kd.V_drewN | apply Kd.V_drew)); exact HO_0.out) hg hat); have n1_ := Aside0.mk (Kd.N_afterv (ok := (fun k_ => (P0_ k_ ∨ w.heap.size ≤ k_) ∧ some k_ ≠ (.slice Ao59 y274.length co59 : Value).ownBlock ∧ some k_ ≠ (v291 : Value).ownBlock ∧ k_ ≠ gb293)) (by (with_reducible repeat (first | apply Kd.N_alloc | apply Kd.N_drewN | apply Kd.N_drew)); exact HO285.out) hg hat); have n2_ := Aside0.mk (Kd.R_over' (by (with_reducible repeat (first | apply Kd.R_alloc | apply Kd.R_drewN | apply Kd.R_drew)); exact HO292.out) (Kd.N_typed (by (with_reducible repeat (first | apply Kd.N_alloc | apply Kd.N_drewN | apply Kd.N_drew)); exact HO299.out)) (by decide) hg); have n3_ := Aside0.mk (blk_grown (g := gb293) (o := .cells #[.string t286, .int .i64 t287, .string t288, .int .i64 t289] 31 (0, 0)) (by (with_reducible repeat (first | refine blk_drewN ?_ _ | refine blk_drew ?_ | refine blk_alloc ?_ _)); exact BK293.out) hg (Kd.N_ne HO299.out BK293.out (by decide))); have n4_ := Aside0.mk (hb); have n5_ := Aside0.mk (ho); have nz_ := Aside0.mk (Kd.R_over' (by (with_reducible repeat (first | apply Kd.R_alloc | apply Kd.R_drewN | apply Kd.R_drew)); exact HO276.out) (Kd.N_typed (by (with_reducible repeat (first | apply Kd.N_alloc | apply Kd.N_drewN | apply Kd.N_drew)); exact HO299.out)) (by decide) hg); clear HO_0; clear HO285; clear HO292; clear BK293; clear HB; clear HO299; clear HO276; have HO276 := nz_; clear nz_; have HO_0 := n0_; have HO285 := n1_; have HO292 := n2_; have BK293 := n3_; have HB := n4_; have HO302 := n5_; clear n0_ n1_ n2_ n3_ n4_ n5_; clear ho hb hg hat; obtain ⟨Ao60, co60, eo60⟩ := Kd.N_slice HO302.out; subst eo60) | ((with_reducible refine gate_callee (f := 11) rfl ?_); refine goesL_ (some 73) rfl rfl Tryz.func11 (by kernel_rfl) rfl #[.slice Ao60 y300.length co60, .string ((⟨#[47]⟩ : ByteArray) ++ a1)] rfl (by (try simp only [List.map_toArray, List.map_cons, List.map_nil]); first | done | rfl | (simp only [List.length_drop, List.length_take]; rfl)) ?_; (with_reducible refine (look_At.calls kj19 _ _ y300 ((⟨#[47]⟩ : ByteArray) ++ a1) t303 t304 t305 t306 t307 _ ?side1 ?side2 A37.out).mono ?_); (case side1 => repeat (first | exact (Kd.N_reads' HO302.out).2.2 | (with_reducible refine Kd.C_alloc ?_ _) | (with_reducible refine Kd.C_drewN ?_ _) | (with_reducible refine Kd.C_drew ?_))); (case side2 => exact (Kd.N_reads' HO302.out).2.1); rintro e w61 ⟨v308, rfl, ho0, hb⟩; refine ⟨_, rfl, ?_⟩; have nz_ := Aside0.mk (Kd.R_below (by (with_reducible repeat (first | apply Kd.R_alloc | apply Kd.R_drewN | apply Kd.R_drew)); exact HO276.out) hb); clear HO276; have HO276 := nz_; clear nz_; have n0_ := Aside0.mk (Kd.V_elder' (by (with_reducible repeat (first | apply Kd.V_alloc | apply Kd.V_drewN | apply Kd.V_drew)); exact HO_0.out) (Kd.R_base ho0) hb); have n1_ := Aside0.mk (Kd.N_elder' (by (with_reducible repeat (first | apply Kd.N_alloc | apply Kd.N_drewN | apply Kd.N_drew)); exact HO285.out) (Kd.R_base ho0) hb); have n2_ := Aside0.mk (Kd.R_elder' (by (with_reducible repeat (first | apply Kd.R_alloc | apply Kd.R_drewN | apply Kd.R_drew)); exact HO292.out) (Kd.R_base ho0) hb); have n3_ := Aside0.mk (Kd.N_elder' (by (with_reducible repeat (first | apply Kd.N_alloc | apply Kd.N_drewN | apply Kd.N_drew)); exact HO302.out) (Kd.R_base ho0) hb); have n4_ := Aside0.mk (Kd.R_lower (Kd.R_new' (Kd.R_newM (M := fun k_ => (w.heap.size ≤ k_)) ho0 (below_size (by repeat (first | (with_reducible first | exact HB.out | apply below_alloc | apply pw_below_drewN | apply below_drew1 | refine below_set ?_ GE293.out) | exact HB.out))) (fun k_ h_ => h_)) (Kd.R_lt (by (with_reducible repeat (first | apply Kd.R_alloc | apply Kd.R_drewN | apply Kd.R_drew)); exact HO292.out))) (below_size (by repeat (first | (with_reducible first | exact HB.out | apply below_alloc | apply pw_below_drewN | apply below_drew1 | refine below_set ?_ GE293.out) | exact HB.out)))); have n5_ := Aside0.mk (blk_below (g := gb293) (o := .cells #[.string t286, .int .i64 t287, .string t288, .int .i64 t289] 31 (0, 0)) (by (with_reducible repeat (first | refine blk_drewN ?_ _ | refine blk_drew ?_ | refine blk_alloc ?_ _)); exact BK293.out) hb); have n6_ := Aside0.mk (below_step (by repeat (first | (with_reducible first | exact HB.out | apply below_alloc | apply pw_below_drewN | apply below_drew1 | refine below_set ?_ GE293.out) | exact HB.out)) hb); clear HO_0; clear HO285; clear HO292; clear HO302; clear BK293; clear HB; have HO_0 := n0_; have HO285 := n1_; have HO292 := n2_; have HO302 := n3_; have HO309 := n4_; have BK293 := n5_; have HB := n6_; clear n0_ n1_ n2_ n3_ n4_ n5_ n6_; (try clear hb); (try clear hb2); (try clear hk); (try clear hi); (try clear ho0); have hE_v308 := errNil_of HO309.out) | ((with_reducible refine gate_dst (N := 12) rfl ?_); (try (refine gate_guard (by rfl) ?_; dsimp only)); refine box_event ?hg (N := 12) ?hd (cs := #[.string (⟨#[]⟩ : ByteArray), .int .i64 0, .string (⟨#[]⟩ : ByteArray), .int .i64 0]) (t := 31) ?hr ?_; (case hd => rfl); (case hg => rfl); (case hr => first | (go_simp; done) | (go_simp; rfl)); intro gb310 hg w62 hbox hb; have nz_ := Aside0.mk (Kd.R_below (by (with_reducible repeat (first | apply Kd.R_alloc | apply Kd.R_drewN | apply Kd.R_drew)); exact HO276.out) hb); clear HO276; have HO276 := nz_; clear nz_; have n0_ := Aside0.mk (Kd.V_below (Kd.V_elderB (by (with_reducible repeat (first | apply Kd.V_alloc | apply Kd.V_drewN | apply Kd.V_drew)); exact HO_0.out) gb310 (Nat.le_of_eq hg.symm)) hb); have n1_ := Aside0.mk (Kd.N_below (Kd.N_elderB (by (with_reducible repeat (first | apply Kd.N_alloc | apply Kd.N_drewN | apply Kd.N_drew)); exact HO285.out) gb310 (Nat.le_of_eq hg.symm)) hb); have n2_ := Aside0.mk (Kd.R_below (by (with_reducible repeat (first | apply Kd.R_alloc | apply Kd.R_drewN | apply Kd.R_drew)); exact HO292.out) hb); have n3_ := Aside0.mk (Kd.N_below (Kd.N_elderB (by (with_reducible repeat (first | apply Kd.N_alloc | apply Kd.N_drewN | apply Kd.N_drew)); exact HO302.out) gb310 (Nat.le_of_eq hg.symm)) hb); have n4_ := Aside0.mk (Kd.R_below (by (with_reducible repeat (first | apply Kd.R_alloc | apply Kd.R_drewN | apply Kd.R_drew)); exact HO309.out) hb); have n5_ := Aside0.mk (blk_below (g := gb293) (o := .cells #[.string t286, .int .i64 t287, .string t288, .int .i64 t289] 31 (0, 0)) (by (with_reducible repeat (first | refine blk_drewN ?_ _ | refine blk_drew ?_ | refine blk_alloc ?_ _)); exact BK293.out) hb); have n6_ := Aside0.mk (below_step (by repeat (first | (with_reducible first | exact HB.out | apply below_alloc | apply pw_below_drewN | apply below_drew1 | refine below_set ?_ GE293.out) | exact HB.out)) hb); have n7_ := Aside0.mk (hbox); have n8_ := Aside0.mk ((by rw [hg]; exact (below_size (by repeat (first | (with_reducible first | exact HB.out | apply below_alloc | apply pw_below_drewN | apply below_drew1 | refine below_set ?_ GE293.out) | exact HB.out))) : w.heap.size ≤ gb310)); have n9_ := Aside0.mk ((by rw [hg]; exact (below_size (by repeat (first | (with_reducible first | exact HB.out | apply below_alloc | apply pw_below_drewN | apply below_drew1 | refine below_set ?_ GE293.out) | exact HB.out))) : w.heap.size ≤ gb310)); have n10_ := Aside0.mk ((by rw [hg]; exact Nat.ne_of_lt (blk_lt (g := gb293) (o := .cells #[.string t286, .int .i64 t287, .string t288, .int .i64 t289] 31 (0, 0)) (by (with_reducible repeat (first | refine blk_drewN ?_ _ | refine blk_drew ?_ | refine blk_alloc ?_ _)); exact BK293.out)) : gb293 ≠ gb310)); have n11_ := Aside0.mk ((by rw [hg]; exact Nat.ne_of_gt (blk_lt (g := gb293) (o := .cells #[.string t286, .int .i64 t287, .string t288, .int .i64 t289] 31 (0, 0)) (by (with_reducible repeat (first | refine blk_drewN ?_ _ | refine blk_drew ?_ | refine blk_alloc ?_ _)); exact BK293.out)) : gb310 ≠ gb293)); clear HO_0; clear HO285; clear HO292; clear HO302; clear HO309; clear BK293; clear HB; have HO_0 := n0_; have HO285 := n1_; have HO292 := n2_; have HO302 := n3_; have HO309 := n4_; have BK293 := n5_; have HB := n6_; have BK310 := n7_; have GW310 := n8_; have GE310 := n9_; have NB293_310 := n10_; have NB310_293 := n11_; clear n0_ n1_ n2_ n3_ n4_ n5_ n6_ n7_ n8_ n9_ n10_ n11_; clear hb hbox hg; have hnb63 := NB310_293.out; have hnc63 := NB293_310.out; have hcz64_0 : w62.cell? ⟨gb310, 0, none⟩ = some (.string (⟨#[]⟩ : ByteArray)) := (blk_cell BK310.out 0).trans rfl; have hcz64_1 : w62.cell? ⟨gb310, 1, none⟩ = some (.int .i64 0) := (blk_cell BK310.out 1).trans rfl; have hcz64_2 : w62.cell? ⟨gb310, 2, none⟩ = some (.string (⟨#[]⟩ : ByteArray)) := (blk_cell BK310.out 2).trans rfl; have hcz64_3 : w62.cell? ⟨gb310, 3, none⟩ = some (.int .i64 0) := (blk_cell BK310.out 3).trans rfl; have hfz64_0 := blk_frozen BK310.out 0; have hfz64_1 := blk_frozen BK310.out 1; have hfz64_2 := blk_frozen BK310.out 2; have hfz64_3 := blk_frozen BK310.out 3))
                have n0_ : Aside0 (Kd.V (Kd.slice 26 k26) 27 ((((w62.setCell ⟨gb310, 0, none⟩ (.string t303)).setCell ⟨gb310, 1, none⟩ (.int .i64 t304)).setCell ⟨gb310, 2, none⟩ (.string t305)).setCell ⟨gb310, 3, none⟩ (.int .i64 t306)) w.heap.size (fun k_ => (P0_ k_ ∨ w.heap.size ≤ k_) ∧ some k_ ≠ (.slice Ao51 y283.length co51 : Value).ownBlock ∧ some k_ ≠ (v291 : Value).ownBlock ∧ some k_ ≠ (.slice Ao60 y300.length co60 : Value).ownBlock ∧ some k_ ≠ (v308 : Value).ownBlock ∧ k_ ≠ gb293 ∧ k_ ≠ gb310) (.slice A0 l0.length c0) l0) := ⟨by (with_reducible repeat (first | apply Kd.V_alloc | apply Kd.V_drewN | apply Kd.V_drew)); exact Kd.V_mono (Kd.V_far (p := ⟨gb310, 3, none⟩) (Kd.V_far (p := ⟨gb310, 2, none⟩) (Kd.V_far (p := ⟨gb310, 1, none⟩) (Kd.V_far (p := ⟨gb310, 0, none⟩) (Kd.V_mono HO_0.out (fun k_ hk => (⟨hk, hk.2⟩ : _ ∧ k_ ≠ gb310))) (fun _ hk => hk.2) (.string t303)) (fun _ hk => hk.2) (.int .i64 t304)) (fun _ hk => hk.2) (.string t305)) (fun _ hk => hk.2) (.int .i64 t306)) (fun _ hk => ⟨hk.1.1.1.1.1, ⟨hk.1.1.1.1.2.2.1, ⟨hk.1.1.1.1.2.2.2.1, ⟨hk.1.1.1.2, ⟨hk.1.1.2, ⟨hk.1.1.1.1.2.2.2.2, hk.1.2⟩⟩⟩⟩⟩⟩)⟩
                have n1_ : Aside0 (Kd.N (Kd.slice 26 k26) 27 ((((w62.setCell ⟨gb310, 0, none⟩ (.string t303)).setCell ⟨gb310, 1, none⟩ (.int .i64 t304)).setCell ⟨gb310, 2, none⟩ (.string t305)).setCell ⟨gb310, 3, none⟩ (.int .i64 t306)) w.heap.size (fun k_ => (P0_ k_ ∨ w.heap.size ≤ k_) ∧ some k_ ≠ (v291 : Value).ownBlock ∧ some k_ ≠ (.slice Ao60 y300.length co60 : Value).ownBlock ∧ some k_ ≠ (v308 : Value).ownBlock ∧ k_ ≠ gb293 ∧ k_ ≠ gb310) (.slice Ao51 y283.length co51) y283) := ⟨by (with_reducible repeat (first | apply Kd.N_alloc | apply Kd.N_drewN | apply Kd.N_drew)); exact Kd.N_mono (Kd.N_far (p := ⟨gb310, 3, none⟩) (Kd.N_far (p := ⟨gb310, 2, none⟩) (Kd.N_far (p := ⟨gb310, 1, none⟩) (Kd.N_far (p := ⟨gb310, 0, none⟩) (Kd.N_mono HO285.out (fun k_ hk => (⟨hk, hk.2⟩ : _ ∧ k_ ≠ gb310))) (fun _ hk => hk.2) (.string t303)) (fun _ hk => hk.2) (.int .i64 t304)) (fun _ hk => hk.2) (.string t305)) (fun _ hk => hk.2) (.int .i64 t306)) (fun _ hk => ⟨hk.1.1.1.1.1, ⟨hk.1.1.1.1.2.2.1, ⟨hk.1.1.1.2, ⟨hk.1.1.2, ⟨hk.1.1.1.1.2.2.2, hk.1.2⟩⟩⟩⟩⟩)⟩
                have n2_ : Aside0 (Kd.R kdF 91 ((((w62.setCell ⟨gb310, 0, none⟩ (.string t303)).setCell ⟨gb310, 1, none⟩ (.int .i64 t304)).setCell ⟨gb310, 2, none⟩ (.string t305)).setCell ⟨gb310, 3, none⟩ (.int .i64 t306)) w.heap.size (fun k_ => (w.heap.size ≤ k_) ∧ some k_ ≠ (v308 : Value).ownBlock) v291 t290) := ⟨by (with_reducible repeat (first | apply Kd.R_alloc | apply Kd.R_drewN | apply Kd.R_drew)); exact Kd.R_mono (Kd.R_far (p := ⟨gb310, 3, none⟩) (Kd.R_far (p := ⟨gb310, 2, none⟩) (Kd.R_far (p := ⟨gb310, 1, none⟩) (Kd.R_far (p := ⟨gb310, 0, none⟩) (Kd.R_types HO292.out BK310.out (by decide)) (fun _ hk => hk.2) (.string t303)) (fun _ hk => hk.2) (.int .i64 t304)) (fun _ hk => hk.2) (.string t305)) (fun _ hk => hk.2) (.int .i64 t306)) (fun _ hk => ⟨hk.1.1.1, hk.1.2⟩)⟩
                have n3_ : Aside0 (Kd.N (Kd.slice 26 k26) 27 ((((w62.setCell ⟨gb310, 0, none⟩ (.string t303)).setCell ⟨gb310, 1, none⟩ (.int .i64 t304)).setCell ⟨gb310, 2, none⟩ (.string t305)).setCell ⟨gb310, 3, none⟩ (.int .i64 t306)) w.heap.size (fun k_ => (P0_ k_ ∨ w.heap.size ≤ k_) ∧ some k_ ≠ (.slice Ao51 y283.length co51 : Value).ownBlock ∧ some k_ ≠ (v291 : Value).ownBlock ∧ some k_ ≠ (v308 : Value).ownBlock ∧ k_ ≠ gb293 ∧ k_ ≠ gb310) (.slice Ao60 y300.length co60) y300) := ⟨by (with_reducible repeat (first | apply Kd.N_alloc | apply Kd.N_drewN | apply Kd.N_drew)); exact Kd.N_mono (Kd.N_far (p := ⟨gb310, 3, none⟩) (Kd.N_far (p := ⟨gb310, 2, none⟩) (Kd.N_far (p := ⟨gb310, 1, none⟩) (Kd.N_far (p := ⟨gb310, 0, none⟩) (Kd.N_mono HO302.out (fun k_ hk => (⟨hk, hk.2⟩ : _ ∧ k_ ≠ gb310))) (fun _ hk => hk.2) (.string t303)) (fun _ hk => hk.2) (.int .i64 t304)) (fun _ hk => hk.2) (.string t305)) (fun _ hk => hk.2) (.int .i64 t306)) (fun _ hk => ⟨hk.1.1.1.1, ⟨hk.1.1.1.2.1, ⟨hk.1.1.1.2.2.1, ⟨hk.1.1.2, ⟨hk.1.1.1.2.2.2, hk.1.2⟩⟩⟩⟩⟩)⟩
                have n4_ : Aside0 (Kd.R kdF 91 ((((w62.setCell ⟨gb310, 0, none⟩ (.string t303)).setCell ⟨gb310, 1, none⟩ (.int .i64 t304)).setCell ⟨gb310, 2, none⟩ (.string t305)).setCell ⟨gb310, 3, none⟩ (.int .i64 t306)) w.heap.size (fun k_ => (w.heap.size ≤ k_) ∧ some k_ ≠ (v291 : Value).ownBlock) v308 t307) := ⟨by (with_reducible repeat (first | apply Kd.R_alloc | apply Kd.R_drewN | apply Kd.R_drew)); exact Kd.R_mono (Kd.R_far (p := ⟨gb310, 3, none⟩) (Kd.R_far (p := ⟨gb310, 2, none⟩) (Kd.R_far (p := ⟨gb310, 1, none⟩) (Kd.R_far (p := ⟨gb310, 0, none⟩) (Kd.R_types HO309.out BK310.out (by decide)) (fun _ hk => hk.2) (.string t303)) (fun _ hk => hk.2) (.int .i64 t304)) (fun _ hk => hk.2) (.string t305)) (fun _ hk => hk.2) (.int .i64 t306)) (fun _ hk => ⟨hk.1.1.1, hk.1.2⟩)⟩
                have n5_ : Aside0 (((((w62.setCell ⟨gb310, 0, none⟩ (.string t303)).setCell ⟨gb310, 1, none⟩ (.int .i64 t304)).setCell ⟨gb310, 2, none⟩ (.string t305)).setCell ⟨gb310, 3, none⟩ (.int .i64 t306)).heap[gb293]? = some (.cells #[.string t286, .int .i64 t287, .string t288, .int .i64 t289] 31 (0, 0))) := ⟨by (with_reducible repeat (first | refine blk_drewN ?_ _ | refine blk_drew ?_ | refine blk_alloc ?_ _)); refine blk_far ?_ NB293_310.out _; (with_reducible repeat (first | refine blk_drewN ?_ _ | refine blk_drew ?_ | refine blk_alloc ?_ _)); refine blk_far ?_ NB293_310.out _; (with_reducible repeat (first | refine blk_drewN ?_ _ | refine blk_drew ?_ | refine blk_alloc ?_ _)); refine blk_far ?_ NB293_310.out _; (with_reducible repeat (first | refine blk_drewN ?_ _ | refine blk_drew ?_ | refine blk_alloc ?_ _)); refine blk_far ?_ NB293_310.out _; (with_reducible repeat (first | refine blk_drewN ?_ _ | refine blk_drew ?_ | refine blk_alloc ?_ _)); exact BK293.out⟩
                have n6_ : Aside0 (((((w62.setCell ⟨gb310, 0, none⟩ (.string t303)).setCell ⟨gb310, 1, none⟩ (.int .i64 t304)).setCell ⟨gb310, 2, none⟩ (.string t305)).setCell ⟨gb310, 3, none⟩ (.int .i64 t306)).heap[gb310]? = some (.cells #[.string t303, .int .i64 t304, .string t305, .int .i64 t306] 31 (0, 0))) := ⟨by (with_reducible repeat (first | refine blk_drewN ?_ _ | refine blk_drew ?_ | refine blk_alloc ?_ _)); refine blk_put (cs := #[.string t303, .int .i64 t304, .string t305, .int .i64 0]) ?_ 3 _ rfl; (with_reducible repeat (first | refine blk_drewN ?_ _ | refine blk_drew ?_ | refine blk_alloc ?_ _)); refine blk_put (cs := #[.string t303, .int .i64 t304, .string (⟨#[]⟩ : ByteArray), .int .i64 0]) ?_ 2 _ rfl; (with_reducible repeat (first | refine blk_drewN ?_ _ | refine blk_drew ?_ | refine blk_alloc ?_ _)); refine blk_put (cs := #[.string t303, .int .i64 0, .string (⟨#[]⟩ : ByteArray), .int .i64 0]) ?_ 1 _ rfl; (with_reducible repeat (first | refine blk_drewN ?_ _ | refine blk_drew ?_ | refine blk_alloc ?_ _)); refine blk_put (cs := #[.string (⟨#[]⟩ : ByteArray), .int .i64 0, .string (⟨#[]⟩ : ByteArray), .int .i64 0]) ?_ 0 _ rfl; (with_reducible repeat (first | refine blk_drewN ?_ _ | refine blk_drew ?_ | refine blk_alloc ?_ _)); exact BK310.out⟩
                have n7_ : Aside0 (Below w.heap.size w ((((w62.setCell ⟨gb310, 0, none⟩ (.string t303)).setCell ⟨gb310, 1, none⟩ (.int .i64 t304)).setCell ⟨gb310, 2, none⟩ (.string t305)).setCell ⟨gb310, 3, none⟩ (.int .i64 t306))) := ⟨by repeat (first | (with_reducible first | exact HB.out | apply below_alloc | apply pw_below_drewN | apply below_drew1 | refine below_set ?_ GE293.out | refine below_set ?_ GE310.out) | exact HB.out)⟩
                have nz_ := Aside0.mk (Kd.R_far (p := ⟨gb310, 3, none⟩) (Kd.R_far (p := ⟨gb310, 2, none⟩) (Kd.R_far (p := ⟨gb310, 1, none⟩) (Kd.R_far (p := ⟨gb310, 0, none⟩) (Kd.R_types HO276.out BK310.out (by decide)) (fun _ hk => hk.2) (.string t303)) (fun _ hk => hk.2) (.int .i64 t304)) (fun _ hk => hk.2) (.string t305)) (fun _ hk => hk.2) (.int .i64 t306))
                clear HO276
                (try clear HO_0)
                (try clear HO285)
                (try clear HO292)
                (try clear HO302)
                (try clear HO309)
                (try clear BK293)
                (try clear BK310)
                (try clear HB)
                generalize ((((w62.setCell ⟨gb310, 0, none⟩ (.string t303)).setCell ⟨gb310, 1, none⟩ (.int .i64 t304)).setCell ⟨gb310, 2, none⟩ (.string t305)).setCell ⟨gb310, 3, none⟩ (.int .i64 t306)) = w65 at n0_ n1_ n2_ n3_ n4_ n5_ n6_ n7_ nz_ ⊢
                have HO276 := nz_
                clear nz_
                have HO_0 := n0_
                have HO285 := n1_
                have HO292 := n2_
                have HO302 := n3_
                have HO309 := n4_
                have BK293 := n5_
                have BK310 := n6_
                have HB := n7_
                clear n0_ n1_ n2_ n3_ n4_ n5_ n6_ n7_
                have n0_ := Aside0.mk (Kd.V_drew HO_0.out)
                have n1_ := Aside0.mk (Kd.N_drew HO285.out)
                have n2_ := Aside0.mk (Kd.R_drew HO292.out)
                have n3_ := Aside0.mk (Kd.N_drew HO302.out)
                have n4_ := Aside0.mk (Kd.R_drew HO309.out)
                have n5_ := Aside0.mk (blk_drew BK293.out)
                have n6_ := Aside0.mk (blk_drew BK310.out)
                have n7_ := Aside0.mk (below_drew1 HB.out)
                clear HO_0
                clear HO285
                clear HO292
                clear HO302
                clear HO309
                clear BK293
                clear BK310
                clear HB
                have HO_0 := n0_
                have HO285 := n1_
                have HO292 := n2_
                have HO302 := n3_
                have HO309 := n4_
                have BK293 := n5_
                have BK310 := n6_
                have HB := n7_
                clear n0_ n1_ n2_ n3_ n4_ n5_ n6_ n7_
                obtain ⟨Ao67, co67, eo67⟩ := Kd.R_slice HO292.out
                (first | subst eo67 | (injection eo67 with f1_ f2_ f3_; have f4_ := f1_.symm; have f5_ := f3_.symm; clear f1_ f2_ f3_; subst f4_; subst f5_))
                have nz_ := Aside0.mk (Kd.R_drew HO276.out)
                clear HO276
                have HO276 := nz_
                clear nz_
                have p313 : 0 ≤ (0 : Int) := (by omega)
                have q313 : 0 < (y274.length : Int) := of_decide_eq_true (by first | (with_reducible assumption) | assumption)
                obtain ⟨ad313, e313, hx313_0, hx313_1, hx313_2⟩ := at_T26 (Kd.R_reads' HO276.out).2.2 0 p313 q313
                cases e313
                have qi313 : (0 < y274.length) = True := eq_true (by omega)
                (try rw [show ((0 : Int)).toNat = 0 from rfl] at hx313_0)
                (try rw [show 0 * 3 = 0 from rfl] at hx313_0)
                (try rw [Addr.add_zero'] at hx313_0)
                (try rw [show ((0 : Int)).toNat = 0 from rfl] at hx313_1)
                (try rw [show 0 * 3 = 0 from rfl] at hx313_1)
                (try rw [Addr.add_zero'] at hx313_1)
                (try rw [show ((0 : Int)).toNat = 0 from rfl] at hx313_2)
                (try rw [show 0 * 3 = 0 from rfl] at hx313_2)
                (try rw [Addr.add_zero'] at hx313_2)
                refine start_ (n := 24) (S := fun w' => w'.cell? ⟨gb310, 0, none⟩ = some (.string t303) ∧ w'.cell? ⟨gb310, 1, none⟩ = some (.int .i64 t304) ∧ w'.cell? ⟨gb310, 2, none⟩ = some (.string t305) ∧ w'.cell? ⟨gb310, 3, none⟩ = some (.int .i64 t306) ∧ w'.cell? ad313 = some (.string ((rd_T26 y274 0).f0)) ∧ w'.cell? ⟨ad313.block, ad313.off + 1, none⟩ = some (.int .i64 ((rd_T26 y274 0).f1)) ∧ w'.cell? ⟨ad313.block, ad313.off + 2, none⟩ = some (.string ((rd_T26 y274 0).f2))) (ds := []) #[false, false, false, false, false, false, false, false, false, false, false, false, false, false, false, false, false, false, false, false, false, false, false, false] (by kernel_rfl) rfl rfl ⟨(blk_cell BK310.out 0).trans rfl, (blk_cell BK310.out 1).trans rfl, (blk_cell BK310.out 2).trans rfl, (blk_cell BK310.out 3).trans rfl, hx313_0, hx313_1, hx313_2⟩ (fun hHeld => ?_); refine with_tabW shalelaw12_LookWhite.tab10 shalelaw12_LookWhite.bits10 (fun HT_ HW_ => ?_)
                clear hx313_0 hx313_1 hx313_2 HO276
                generalize w65.drew = w66 at HO_0 HO285 HO292 HO302 HO309 BK293 BK310 HB hHeld ⊢
                refine pure_ (i := 0) (N := some 76) (v := ?_) (a' := ?_) #[true, false, false, false, false, false, false, false, false, false, false, false, false, false, false, false, false, false, false, false, false, false, false, false] rfl rfl (any_of HT_.out (by kernel_rfl)) (fun _ _ _ h => h) (Or.inl ⟨by rfl, ?_⟩) ?_ ?_
                rotate_left
                ·intro w'
                 go_simp
                 with_reducible rfl
                rotate_left
                ·simp only [Act.put, List.setIfInBounds_toArray, List.set_cons_zero, List.set_cons_succ, i64_w, i32_w]
                 rfl
                refine one_ (i := 1) (N := some 77) #[true, true, false, false, false, false, false, false, false, false, false, false, false, false, false, false, false, false, false, false, false, false, false, false] rfl rfl (one_of HT_.out (by kernel_rfl)) (by decide) (fun K hK => ?_)
                refine goes_ Tryz.func12 (by kernel_rfl) rfl #[(errV (.slice Ao67 t290.length co67))] (by rfl) rfl rfl (by (try simp only [List.map_toArray, List.map_cons, List.map_nil]); first | done | rfl | (simp only [List.length_drop, List.length_take]; rfl)) ?_
                with_reducible refine (fail_Code.calls _ _ t290 t311 _ ?side1 ?side2 ?side3 A38.out).mono ?_
                (case side1 => repeat (first | exact (Kd.R_reads' HO292.out).2.2 | (with_reducible refine Kd.C_alloc ?_ _) | (with_reducible refine Kd.C_drewN ?_ _) | (with_reducible refine Kd.C_drew ?_)))
                (case side2 => exact (Kd.R_reads' HO292.out).2.1)
                (case side3 => exact Gl.below HG_.out (by repeat (first | (with_reducible first | exact HB.out | apply below_alloc | apply pw_below_drewN | apply below_drew1 | refine below_set ?_ GE293.out | refine below_set ?_ GE310.out) | exact HB.out)))
                rintro e w68 ⟨rfl, hb⟩
                have HS4_ := (hb.cell (World.block_lt_of_cell? _ _ (hHeld.2.2.2.2.1))).trans (hHeld.2.2.2.2.1)
                have HS5_ := (hb.cell (World.block_lt_of_cell? _ _ (hHeld.2.2.2.2.2.1))).trans (hHeld.2.2.2.2.2.1)
                have HS6_ := (hb.cell (World.block_lt_of_cell? _ _ (hHeld.2.2.2.2.2.2))).trans (hHeld.2.2.2.2.2.2)
                refine ⟨_, rfl, ?_⟩
                have n0_ := Aside0.mk (Kd.V_below (by (with_reducible repeat (first | apply Kd.V_alloc | apply Kd.V_drewN | apply Kd.V_drew)); exact HO_0.out) hb)
                have n1_ := Aside0.mk (Kd.N_below (by (with_reducible repeat (first | apply Kd.N_alloc | apply Kd.N_drewN | apply Kd.N_drew)); exact HO285.out) hb)
                have n2_ := Aside0.mk (Kd.R_below (by (with_reducible repeat (first | apply Kd.R_alloc | apply Kd.R_drewN | apply Kd.R_drew)); exact HO292.out) hb)
                have n3_ := Aside0.mk (Kd.N_below (by (with_reducible repeat (first | apply Kd.N_alloc | apply Kd.N_drewN | apply Kd.N_drew)); exact HO302.out) hb)
                have n4_ := Aside0.mk (Kd.R_below (by (with_reducible repeat (first | apply Kd.R_alloc | apply Kd.R_drewN | apply Kd.R_drew)); exact HO309.out) hb)
                have n5_ := Aside0.mk (blk_below (g := gb293) (o := .cells #[.string t286, .int .i64 t287, .string t288, .int .i64 t289] 31 (0, 0)) (by (with_reducible repeat (first | refine blk_drewN ?_ _ | refine blk_drew ?_ | refine blk_alloc ?_ _)); exact BK293.out) hb)
                have n6_ := Aside0.mk (blk_below (g := gb310) (o := .cells #[.string t303, .int .i64 t304, .string t305, .int .i64 t306] 31 (0, 0)) (by (with_reducible repeat (first | refine blk_drewN ?_ _ | refine blk_drew ?_ | refine blk_alloc ?_ _)); exact BK310.out) hb)
                have n7_ := Aside0.mk (below_step (by repeat (first | (with_reducible first | exact HB.out | apply below_alloc | apply pw_below_drewN | apply below_drew1 | refine below_set ?_ GE293.out | refine below_set ?_ GE310.out) | exact HB.out)) hb)
                clear HO_0
                clear HO285
                clear HO292
                clear HO302
                clear HO309
                clear BK293
                clear BK310
                clear HB
                have HO_0 := n0_
                have HO285 := n1_
                have HO292 := n2_
                have HO302 := n3_
                have HO309 := n4_
                have BK293 := n5_
                have BK310 := n6_
                have HB := n7_
                clear n0_ n1_ n2_ n3_ n4_ n5_ n6_ n7_
                (try clear hb)
                (try clear hb2)
                (try clear hk)
                (try clear hi)
                obtain ⟨Ao69, co69, eo69⟩ := Kd.R_slice HO309.out
                (first | subst eo69 | (injection eo69 with f1_ f2_ f3_; have f4_ := f1_.symm; have f5_ := f3_.symm; clear f1_ f2_ f3_; subst f4_; subst f5_))
                refine hK.out _ _ ⟨(blk_cell BK310.out 0).trans rfl, (blk_cell BK310.out 1).trans rfl, (blk_cell BK310.out 2).trans rfl, (blk_cell BK310.out 3).trans rfl, HS4_, HS5_, HS6_⟩ (fun hHeld => ?_)
                clear hK K
                refine norm_ (a' := ?_) ?_ ?_
                rotate_left
                ·show Act.put _ (some 77) _ = _
                 simp only [Act.put, List.setIfInBounds_toArray, List.set_cons_zero, List.set_cons_succ, i64_w, i32_w]
                 rfl
                refine pure_ (i := 2) (N := some 78) (v := ?_) (a' := ?_) #[true, true, true, false, false, false, false, false, false, false, false, false, false, false, false, false, false, false, false, false, false, false, false, false] rfl rfl (any_of HT_.out (by kernel_rfl)) (fun _ _ _ h => h) (Or.inl ⟨by rfl, ?_⟩) ?_ ?_
                rotate_left
                ·intro w'
                 go_simp
                 with_reducible rfl
                rotate_left
                ·simp only [Act.put, List.setIfInBounds_toArray, List.set_cons_zero, List.set_cons_succ, i64_w, i32_w]
                 rfl
                refine pure_ (i := 3) (N := some 79) (v := ?_) (a' := ?_) #[true, true, true, true, false, false, false, false, false, false, false, false, false, false, false, false, false, false, false, false, false, false, false, false] rfl rfl (any_of HT_.out (by kernel_rfl)) (fun _ _ _ h => h) (Or.inl ⟨by rfl, ?_⟩) ?_ ?_
                rotate_left
                ·intro w'
                 go_simp
                 with_reducible rfl
                rotate_left
                ·simp only [Act.put, List.setIfInBounds_toArray, List.set_cons_zero, List.set_cons_succ, i64_w, i32_w]
                 rfl
                refine pure_ (i := 4) (N := some 80) (v := ?_) (a' := ?_) #[true, true, true, true, true, false, false, false, false, false, false, false, false, false, false, false, false, false, false, false, false, false, false, false] rfl rfl (any_of HT_.out (by kernel_rfl)) (fun _ _ _ h => h) (Or.inl ⟨by rfl, ?_⟩) ?_ ?_
                rotate_left
                ·intro w'
                 go_simp
                 with_reducible rfl
                rotate_left
                ·simp only [Act.put, List.setIfInBounds_toArray, List.set_cons_zero, List.set_cons_succ, i64_w, i32_w]
                 rfl
                refine one_ (i := 5) (N := some 81) #[true, true, true, true, true, true, false, false, false, false, false, false, false, false, false, false, false, false, false, false, false, false, false, false] rfl rfl (one_of HT_.out (by kernel_rfl)) (by decide) (fun K hK => ?_)
                refine goes_ Tryz.func12 (by kernel_rfl) rfl #[(errV (.slice Ao69 t307.length co69))] (by rfl) rfl rfl (by (try simp only [List.map_toArray, List.map_cons, List.map_nil]); first | done | rfl | (simp only [List.length_drop, List.length_take]; rfl)) ?_
                with_reducible refine (fail_Code.calls _ _ t307 t312 _ ?side1 ?side2 ?side3 A40.out).mono ?_
                (case side1 => repeat (first | exact (Kd.R_reads' HO309.out).2.2 | (with_reducible refine Kd.C_alloc ?_ _) | (with_reducible refine Kd.C_drewN ?_ _) | (with_reducible refine Kd.C_drew ?_)))
                (case side2 => exact (Kd.R_reads' HO309.out).2.1)
                (case side3 => exact Gl.below HG_.out (by repeat (first | (with_reducible first | exact HB.out | apply below_alloc | apply pw_below_drewN | apply below_drew1 | refine below_set ?_ GE293.out | refine below_set ?_ GE310.out) | exact HB.out)))
                rintro e w70 ⟨rfl, hb⟩
                have HS4_ := (hb.cell (World.block_lt_of_cell? _ _ (hHeld.2.2.2.2.1))).trans (hHeld.2.2.2.2.1)
                have HS5_ := (hb.cell (World.block_lt_of_cell? _ _ (hHeld.2.2.2.2.2.1))).trans (hHeld.2.2.2.2.2.1)
                have HS6_ := (hb.cell (World.block_lt_of_cell? _ _ (hHeld.2.2.2.2.2.2))).trans (hHeld.2.2.2.2.2.2)
                refine ⟨_, rfl, ?_⟩
                have n0_ := Aside0.mk (Kd.V_below (by (with_reducible repeat (first | apply Kd.V_alloc | apply Kd.V_drewN | apply Kd.V_drew)); exact HO_0.out) hb)
                have n1_ := Aside0.mk (Kd.N_below (by (with_reducible repeat (first | apply Kd.N_alloc | apply Kd.N_drewN | apply Kd.N_drew)); exact HO285.out) hb)
                have n2_ := Aside0.mk (Kd.R_below (by (with_reducible repeat (first | apply Kd.R_alloc | apply Kd.R_drewN | apply Kd.R_drew)); exact HO292.out) hb)
                have n3_ := Aside0.mk (Kd.N_below (by (with_reducible repeat (first | apply Kd.N_alloc | apply Kd.N_drewN | apply Kd.N_drew)); exact HO302.out) hb)
                have n4_ := Aside0.mk (Kd.R_below (by (with_reducible repeat (first | apply Kd.R_alloc | apply Kd.R_drewN | apply Kd.R_drew)); exact HO309.out) hb)
                have n5_ := Aside0.mk (blk_below (g := gb293) (o := .cells #[.string t286, .int .i64 t287, .string t288, .int .i64 t289] 31 (0, 0)) (by (with_reducible repeat (first | refine blk_drewN ?_ _ | refine blk_drew ?_ | refine blk_alloc ?_ _)); exact BK293.out) hb)
                have n6_ := Aside0.mk (blk_below (g := gb310) (o := .cells #[.string t303, .int .i64 t304, .string t305, .int .i64 t306] 31 (0, 0)) (by (with_reducible repeat (first | refine blk_drewN ?_ _ | refine blk_drew ?_ | refine blk_alloc ?_ _)); exact BK310.out) hb)
                have n7_ := Aside0.mk (below_step (by repeat (first | (with_reducible first | exact HB.out | apply below_alloc | apply pw_below_drewN | apply below_drew1 | refine below_set ?_ GE293.out | refine below_set ?_ GE310.out) | exact HB.out)) hb)
                clear HO_0
                clear HO285
                clear HO292
                clear HO302
                clear HO309
                clear BK293
                clear BK310
                clear HB
                have HO_0 := n0_
                have HO285 := n1_
                have HO292 := n2_
                have HO302 := n3_
                have HO309 := n4_
                have BK293 := n5_
                have BK310 := n6_
                have HB := n7_
                clear n0_ n1_ n2_ n3_ n4_ n5_ n6_ n7_
                (try clear hb)
                (try clear hb2)
                (try clear hk)
                (try clear hi)
                replace p313 := eq_true p313
                replace q313 := eq_true q313
                refine hK.out _ _ ⟨(blk_cell BK310.out 0).trans rfl, (blk_cell BK310.out 1).trans rfl, (blk_cell BK310.out 2).trans rfl, (blk_cell BK310.out 3).trans rfl, HS4_, HS5_, HS6_⟩ (fun hHeld => ?_)
                clear hK K
                refine norm_ (a' := ?_) ?_ ?_
                rotate_left
                ·show Act.put _ (some 81) _ = _
                 simp only [Act.put, List.setIfInBounds_toArray, List.set_cons_zero, List.set_cons_succ, i64_w, i32_w]
                 rfl
                refine pure_ (i := 6) (N := some 82) (v := ?_) (a' := ?_) #[true, true, true, true, true, true, true, false, false, false, false, false, false, false, false, false, false, false, false, false, false, false, false, false] rfl rfl (any_of HT_.out (by kernel_rfl)) (fun _ _ _ h => h) (Or.inl ⟨by rfl, ?_⟩) ?_ ?_
                rotate_left
                ·intro w'
                 go_simp
                 with_reducible rfl
                rotate_left
                ·simp only [Act.put, List.setIfInBounds_toArray, List.set_cons_zero, List.set_cons_succ, i64_w, i32_w]
                 rfl
                refine pure_ (i := 7) (N := some 83) (v := ?_) (a' := ?_) #[true, true, true, true, true, true, true, true, false, false, false, false, false, false, false, false, false, false, false, false, false, false, false, false] rfl rfl (any_of HT_.out (by kernel_rfl)) (fun _ _ _ h => h) (Or.inl ⟨by rfl, ?_⟩) ?_ ?_
                rotate_left
                ·intro w'
                 go_simp
                 with_reducible rfl
                rotate_left
                ·simp only [Act.put, List.setIfInBounds_toArray, List.set_cons_zero, List.set_cons_succ, i64_w, i32_w]
                 rfl
                refine pure_ (i := 8) (N := some 84) (v := ?_) (a' := ?_) #[true, true, true, true, true, true, true, true, true, false, false, false, false, false, false, false, false, false, false, false, false, false, false, false] rfl rfl (any_of HT_.out (by kernel_rfl)) (fun _ _ _ h => h) (Or.inl ⟨by rfl, ?_⟩) ?_ ?_
                rotate_left
                ·intro w'
                 go_simp
                 with_reducible rfl
                rotate_left
                ·simp only [Act.put, List.setIfInBounds_toArray, List.set_cons_zero, List.set_cons_succ, i64_w, i32_w]
                 rfl
                refine pure_ (i := 9) (N := some 85) (v := ?_) (a' := ?_) #[true, true, true, true, true, true, true, true, true, true, false, false, false, false, false, false, false, false, false, false, false, false, false, false] rfl rfl (any_of HT_.out (by kernel_rfl)) (fun _ _ _ h => h) (Or.inl ⟨by rfl, ?_⟩) ?_ ?_
                rotate_left
                ·intro w'
                 go_simp
                 with_reducible rfl
                rotate_left
                ·simp only [Act.put, List.setIfInBounds_toArray, List.set_cons_zero, List.set_cons_succ, i64_w, i32_w]
                 rfl
                refine pure_ (i := 11) (N := some 87) (v := ?_) (a' := ?_) #[true, true, true, true, true, true, true, true, true, true, false, true, false, false, false, false, false, false, false, false, false, false, false, false] rfl rfl (any_of HT_.out (by kernel_rfl)) (fun _ _ _ h => h) (Or.inl ⟨by rfl, ?_⟩) ?_ ?_
                rotate_left
                ·intro w'
                 go_simp
                 with_reducible rfl
                rotate_left
                ·simp only [Act.put, List.setIfInBounds_toArray, List.set_cons_zero, List.set_cons_succ, i64_w, i32_w]
                 rfl
                refine pure_ (i := 12) (N := some 88) (v := ?_) (a' := ?_) #[true, true, true, true, true, true, true, true, true, true, false, true, true, false, false, false, false, false, false, false, false, false, false, false] rfl rfl (any_of HT_.out (by kernel_rfl)) (fun _ _ _ h => h) (Or.inl ⟨by rfl, ?_⟩) ?_ ?_
                rotate_left
                ·intro w'
                 go_simp
                 with_reducible rfl
                rotate_left
                ·simp only [Act.put, List.setIfInBounds_toArray, List.set_cons_zero, List.set_cons_succ, i64_w, i32_w]
                 rfl
                refine take_ (i := 10) (N := some 86) (v := ?_) (a' := ?_) #[true, true, true, true, true, true, true, true, true, true, true, true, true, false, false, false, false, false, false, false, false, false, false, false] rfl rfl (take_ofW HT_.out HW_.out (by kernel_rfl)) (fun _ _ _ h => h) (Or.inl ⟨by rfl, ?_⟩) hHeld ?_ ?_
                rotate_left
                ·rintro w' ⟨s0, s1, s2, s3, s4, s5, s6⟩
                 go_simp
                 with_reducible rfl
                rotate_left
                ·simp only [Act.put, List.setIfInBounds_toArray, List.set_cons_zero, List.set_cons_succ, i64_w, i32_w]
                 rfl
                refine take_ (i := 13) (N := some 89) (v := ?_) (a' := ?_) #[true, true, true, true, true, true, true, true, true, true, true, true, true, true, false, false, false, false, false, false, false, false, false, false] rfl rfl (take_ofW HT_.out HW_.out (by kernel_rfl)) (fun _ _ _ h => h) (Or.inl ⟨by rfl, ?_⟩) hHeld ?_ ?_
                rotate_left
                ·rintro w' ⟨s0, s1, s2, s3, s4, s5, s6⟩
                 go_simp
                 with_reducible rfl
                rotate_left
                ·simp only [Act.put, List.setIfInBounds_toArray, List.set_cons_zero, List.set_cons_succ, i64_w, i32_w]
                 rfl
                refine pure_ (i := 14) (N := some 90) (v := ?_) (a' := ?_) #[true, true, true, true, true, true, true, true, true, true, true, true, true, true, true, false, false, false, false, false, false, false, false, false] rfl rfl (any_of HT_.out (by kernel_rfl)) (fun _ _ _ h => h) (Or.inl ⟨by rfl, ?_⟩) ?_ ?_
                rotate_left
                ·intro w'
                 go_simp
                 with_reducible rfl
                rotate_left
                ·simp only [Act.put, List.setIfInBounds_toArray, List.set_cons_zero, List.set_cons_succ, i64_w, i32_w]
                 rfl
                refine pure_ (i := 15) (N := some 91) (v := ?_) (a' := ?_) #[true, true, true, true, true, true, true, true, true, true, true, true, true, true, true, true, false, false, false, false, false, false, false, false] rfl rfl (any_of HT_.out (by kernel_rfl)) (fun _ _ _ h => h) (Or.inl ⟨by rfl, ?_⟩) ?_ ?_
                rotate_left
                ·intro w'
                 go_simp
                 with_reducible rfl
                rotate_left
                ·simp only [Act.put, List.setIfInBounds_toArray, List.set_cons_zero, List.set_cons_succ, i64_w, i32_w]
                 rfl
                refine pure_ (i := 16) (N := some 92) (v := ?_) (a' := ?_) #[true, true, true, true, true, true, true, true, true, true, true, true, true, true, true, true, true, false, false, false, false, false, false, false] rfl rfl (any_of HT_.out (by kernel_rfl)) (fun _ _ _ h => h) (Or.inl ⟨by rfl, ?_⟩) ?_ ?_
                rotate_left
                ·intro w'
                 go_simp
                 with_reducible rfl
                rotate_left
                ·simp only [Act.put, List.setIfInBounds_toArray, List.set_cons_zero, List.set_cons_succ, i64_w, i32_w]
                 rfl
                refine pure_ (i := 17) (N := some 93) (v := ?_) (a' := ?_) #[true, true, true, true, true, true, true, true, true, true, true, true, true, true, true, true, true, true, false, false, false, false, false, false] rfl rfl (any_of HT_.out (by kernel_rfl)) (fun _ _ _ h => h) (Or.inl ⟨by rfl, ?_⟩) ?_ ?_
                rotate_left
                ·intro w'
                 go_simp
                 with_reducible rfl
                rotate_left
                ·simp only [Act.put, List.setIfInBounds_toArray, List.set_cons_zero, List.set_cons_succ, i64_w, i32_w]
                 rfl
                refine pure_ (i := 19) (N := some 95) (v := ?_) (a' := ?_) #[true, true, true, true, true, true, true, true, true, true, true, true, true, true, true, true, true, true, false, true, false, false, false, false] rfl rfl (any_of HT_.out (by kernel_rfl)) (fun _ _ _ h => h) (Or.inl ⟨by rfl, ?_⟩) ?_ ?_
                rotate_left
                ·intro w'
                 go_simp
                 with_reducible rfl
                rotate_left
                ·simp only [Act.put, List.setIfInBounds_toArray, List.set_cons_zero, List.set_cons_succ, i64_w, i32_w]
                 rfl
                refine pure_ (i := 20) (N := some 96) (v := ?_) (a' := ?_) #[true, true, true, true, true, true, true, true, true, true, true, true, true, true, true, true, true, true, false, true, true, false, false, false] rfl rfl (any_of HT_.out (by kernel_rfl)) (fun _ _ _ h => h) (Or.inl ⟨by rfl, ?_⟩) ?_ ?_
                rotate_left
                ·intro w'
                 go_simp
                 with_reducible rfl
                rotate_left
                ·simp only [Act.put, List.setIfInBounds_toArray, List.set_cons_zero, List.set_cons_succ, i64_w, i32_w]
                 rfl
                refine take_ (i := 18) (N := some 94) (v := ?_) (a' := ?_) #[true, true, true, true, true, true, true, true, true, true, true, true, true, true, true, true, true, true, true, true, true, false, false, false] rfl rfl (take_ofW HT_.out HW_.out (by kernel_rfl)) (fun _ _ _ h => h) (Or.inl ⟨by rfl, ?_⟩) hHeld ?_ ?_
                rotate_left
                ·rintro w' ⟨s0, s1, s2, s3, s4, s5, s6⟩
                 go_simp
                 with_reducible rfl
                rotate_left
                ·simp only [Act.put, List.setIfInBounds_toArray, List.set_cons_zero, List.set_cons_succ, i64_w, i32_w]
                 rfl
                refine pure_ (i := 21) (N := some 97) (v := ?_) (a' := ?_) #[true, true, true, true, true, true, true, true, true, true, true, true, true, true, true, true, true, true, true, true, true, true, false, false] rfl rfl (any_of HT_.out (by kernel_rfl)) (fun _ _ _ h => h) (Or.inl ⟨by rfl, ?_⟩) ?_ ?_
                rotate_left
                ·intro w'
                 go_simp
                 with_reducible rfl
                rotate_left
                ·simp only [Act.put, List.setIfInBounds_toArray, List.set_cons_zero, List.set_cons_succ, i64_w, i32_w]
                 rfl
                refine pure_ (i := 22) (N := some 98) (v := ?_) (a' := ?_) #[true, true, true, true, true, true, true, true, true, true, true, true, true, true, true, true, true, true, true, true, true, true, true, false] rfl rfl (any_of HT_.out (by kernel_rfl)) (fun _ _ _ h => h) (Or.inl ⟨by rfl, ?_⟩) ?_ ?_
                rotate_left
                ·intro w'
                 go_simp
                 with_reducible rfl
                rotate_left
                ·simp only [Act.put, List.setIfInBounds_toArray, List.set_cons_zero, List.set_cons_succ, i64_w, i32_w]
                 rfl
                refine pure_ (i := 23) (N := some 6) (v := ?_) (a' := ?_) #[true, true, true, true, true, true, true, true, true, true, true, true, true, true, true, true, true, true, true, true, true, true, true, true] rfl rfl (any_of HT_.out (by kernel_rfl)) (fun _ _ _ h => h) (Or.inl ⟨by rfl, ?_⟩) ?_ ?_
                rotate_left
                ·intro w'
                 go_simp
                 with_reducible rfl
                rotate_left
                ·simp only [Act.put, List.setIfInBounds_toArray, List.set_cons_zero, List.set_cons_succ, i64_w, i32_w]
                 rfl
                refine done_ (done_of HT_.out (by kernel_rfl)) ?_
                try go_wp2
                go_ret
                exact ⟨by first | rfl | (simp [errW_none, errW_some] <;> rfl) | (simp [*, errW_none, errW_some] <;> rfl), by repeat (first | (with_reducible first | exact HB.out | apply below_alloc | apply pw_below_drewN | apply below_drew1 | refine below_set ?_ GE293.out | refine below_set ?_ GE310.out) | exact HB.out)⟩
               ·rw [if_neg c43] at H
                have c43b0 : (t303.toList == (((rd_T26 y274 0).f0).toList) && (t304 == ((rd_T26 y274 0).f1) && (t305.toList == (((rd_T26 y274 0).f2).toList)))) = false := by simpa using c43
                (try (have c43b1 : decide (t303.toList = (((rd_T26 y274 0).f0).toList) && (t304 == ((rd_T26 y274 0).f1) && (t305.toList == (((rd_T26 y274 0).f2).toList)))) = false := by simpa using c43))
                (try (have c43b2 : (t303.toList == (((rd_T26 y274 0).f0).toList) && (t304 == ((rd_T26 y274 0).f1) && (t305.toList == (((rd_T26 y274 0).f2).toList)))) = false := by simpa using c43))
                (try (have c43b3 : ¬ (t303.toList = (((rd_T26 y274 0).f0).toList) && (t304 == ((rd_T26 y274 0).f1) && (t305.toList == (((rd_T26 y274 0).f2).toList)))) := by simpa using c43))
                (try (have c43b8 := c43b0; simp only [beq_true, beq_false, Bool.true_beq, Bool.false_beq, bne, Bool.not_eq_true', Bool.not_eq_false', Bool.not_true, Bool.not_false] at c43b8))
                clear c43
                exact Bool.noConfusion ((Option.some.inj H).trans HRR_.out)
              ·rw [if_neg c42] at H
               exact absurd H (by simp)
             ·rw [if_neg c41] at H
              have c41b0 : (t312 == 0) = false := beq_eq_false_iff_ne.mpr c41
              have c41b1 : (t312 != 0) = true := bne_iff_ne.mpr c41
              exact Bool.noConfusion ((Option.some.inj H).trans HRR_.out)
            ·rw [if_neg c39] at H
             have c39b0 : (t311 == 3) = false := beq_eq_false_iff_ne.mpr c39
             have c39b1 : (t311 != 3) = true := bne_iff_ne.mpr c39
             exact Bool.noConfusion ((Option.some.inj H).trans HRR_.out)
           ·rw [if_neg c36] at H
            exact absurd H (by simp)
          ·rw [if_neg c35] at H
           exact absurd H (by simp)
         ·rw [if_neg c33] at H
          exact absurd H (by simp)
        ·rw [if_neg c32] at H
         exact absurd H (by simp)
    ·rw [if_neg c19] at H
     exact absurd H (by simp)

end Go.Proofs.YthfbcclbappbcaaGreatDoor.Print
