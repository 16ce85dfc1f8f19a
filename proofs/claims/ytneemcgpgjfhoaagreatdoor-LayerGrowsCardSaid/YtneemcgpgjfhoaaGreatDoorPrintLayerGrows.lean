import Derived.Test.YtneemcgpgjfhoaaGreatDoorPrint0
import Derived.Test.YtneemcgpgjfhoaaGreatDoorPrint1
import Derived.Test.YtneemcgpgjfhoaaGreatDoorPrint3
import Derived.Test.YtneemcgpgjfhoaaGreatDoorPrintF
import Derived.Test.YtneemcgpgjfhoaaGreatDoorPrintFi
import Derived.Test.YtneemcgpgjfhoaaGreatDoorPrintLay
import Derived.Test.YtneemcgpgjfhoaaGreatDoorPrintPut
import Derived.Test.YtneemcgpgjfhoaaGreatDoorPrintSa
namespace Go.Proofs.YtneemcgpgjfhoaaGreatDoor.Print
open Go.RowKit Go.Proofs.YtneemcgpgjfhoaaGreatDoorW.PrintWords Go.Proofs.YtneemcgpgjfhoaaGreatDoorW.PrintLast Go.Proofs.YtneemcgpgjfhoaaGreatDoorW.PrintMore
attribute [local go_sem] max2_int min2_int max_two min_two max_three min_three max_four min_four   -- for this text's walks alone
set_option linter.unusedVariables false
set_option linter.unusedSimpArgs false
attribute [local go_sem high] eqA31
mutual
def shalelaw09_LayerGrows.j0 : Nat → List (S31) → Bool → Option (Bool)
 | 0, _, _ => none
 | k + 1, x0, x23 => if x23 = true then ((shalelaw09_awake.f k).bind fun t213 => (some t213)) else (shalelaw09_LayerGrows.l0 k x0 ([] : List (S31)) 0)
def shalelaw09_LayerGrows.l0 : Nat → List (S31) → List (S31) → Int → Option (Bool)
 | 0, _, _, _ => none
 | k + 1, x0, x3, x4 => if x4 < (x0.length : Int) then (if 0 ≤ x4 then ((layer_Put.f x3 ((rd_T31 x0 x4).f0) ((rd_T31 x0 x4).f1) ((rd_T31 x0 x4).f2)).bind fun bt215 => ((fail_Code.f bt215.2).bind fun t221 => (if t221 = 0 then (if (bt215.1.length : Int) = (wrap64 (x4 + 1)) then (shalelaw09_LayerGrows.l0 k x0 bt215.1 (wrap64 (x4 + 1))) else (some false)) else (some false)))) else (none)) else (shalelaw09_LayerGrows.l1 k x0 x3 0)
def shalelaw09_LayerGrows.l1 : Nat → List (S31) → List (S31) → Int → Option (Bool)
 | 0, _, _, _ => none
 | k + 1, x0, x3, x7 => if x7 < (x0.length : Int) then (if 0 ≤ x7 then ((layer_Put.f x3 ((rd_T31 x0 x7).f0) ((rd_T31 x0 x7).f1) ((rd_T31 x0 x7).f2)).bind fun bt224 => ((layer_Find.f k x3 ((rd_T31 x0 x7).f0)).bind fun bt231 => ((fail_Code.f bt224.2).bind fun t236 => (if t236 = 0 then ((shalelaw09_Same.f k bt224.1 x3).bind fun t237 => (if t237 = 0 then (some false) else (if bt231.2.2.2 = true then (if (!(bt231.1.toList == (((rd_T31 x0 x7).f0).toList)) || (!(bt231.2.1 == ((rd_T31 x0 x7).f1)) || (!(bt231.2.2.1.toList == (((rd_T31 x0 x7).f2).toList))))) = true then (some false) else (shalelaw09_LayerGrows.l1 k x0 x3 (wrap64 (x7 + 1)))) else (some false)))) else (some false))))) else (none)) else ((shalelaw09_Same.f k x3 x0).bind fun t222 => (some (t222 == 1)))
end
def shalelaw09_LayerGrows.f (k : Nat) (l0 : List (S31)) : Option (Bool) := (shalelaw09_awake.f k).bind fun t210 => (if t210 = true then ((shalelaw09_Size.f k l0).bind fun t211 => (if t211 = 0 then (shalelaw09_LayerGrows.j0 k l0 true) else ((layer_Right.f k l0).bind fun t212 => (shalelaw09_LayerGrows.j0 k l0 (!t212))))) else (shalelaw09_LayerGrows.j0 k l0 true))
theorem shalelaw09_LayerGrows.mono_l : ∀ k, (∀ y0 y1, LeO (shalelaw09_LayerGrows.j0 k y0 y1) (shalelaw09_LayerGrows.j0 (k + 1) y0 y1)) ∧ (∀ y0 y1 y2, LeO (shalelaw09_LayerGrows.l0 k y0 y1 y2) (shalelaw09_LayerGrows.l0 (k + 1) y0 y1 y2)) ∧ (∀ y0 y1 y2, LeO (shalelaw09_LayerGrows.l1 k y0 y1 y2) (shalelaw09_LayerGrows.l1 (k + 1) y0 y1 y2))
 | 0 => ⟨fun _ _ r h => by simp [shalelaw09_LayerGrows.j0] at h, fun _ _ _ r h => by simp [shalelaw09_LayerGrows.l0] at h, fun _ _ _ r h => by simp [shalelaw09_LayerGrows.l1] at h⟩
 | k + 1 => by
  obtain ⟨ih0, ih1, ih2⟩ := shalelaw09_LayerGrows.mono_l k
  refine ⟨?_, ?_, ?_⟩
  ·intro y0 y1
   unfold shalelaw09_LayerGrows.j0
   repeat' first
   | (with_reducible exact ih0 _ _)
   | (with_reducible exact ih1 _ _ _)
   | (with_reducible exact ih2 _ _ _)
   | (with_reducible exact layer_Find.mono _ _ _)
   | (with_reducible exact layer_Right.mono _ _)
   | (with_reducible exact shalelaw09_Same.mono _ _ _)
   | (with_reducible exact shalelaw09_Size.mono _ _)
   | (with_reducible exact shalelaw09_awake.mono _)
   | (with_reducible exact LeO.refl _)
   | (with_reducible exact LeO.none _)
   | (with_reducible refine LeO.ite ?_ ?_)
   | (with_reducible refine LeO.bind ?_ (fun _ => ?_))
   | exact ih0 _ _
   | exact ih1 _ _ _
   | exact ih2 _ _ _
   | exact layer_Find.mono _ _ _
   | exact layer_Right.mono _ _
   | exact shalelaw09_Same.mono _ _ _
   | exact shalelaw09_Size.mono _ _
   | exact shalelaw09_awake.mono _
   | exact LeO.none _
   | refine LeO.ite ?_ ?_
   | refine LeO.bind ?_ (fun _ => ?_)
  ·intro y0 y1 y2
   unfold shalelaw09_LayerGrows.l0
   repeat' first
   | (with_reducible exact ih0 _ _)
   | (with_reducible exact ih1 _ _ _)
   | (with_reducible exact ih2 _ _ _)
   | (with_reducible exact layer_Find.mono _ _ _)
   | (with_reducible exact layer_Right.mono _ _)
   | (with_reducible exact shalelaw09_Same.mono _ _ _)
   | (with_reducible exact shalelaw09_Size.mono _ _)
   | (with_reducible exact shalelaw09_awake.mono _)
   | (with_reducible exact LeO.refl _)
   | (with_reducible exact LeO.none _)
   | (with_reducible refine LeO.ite ?_ ?_)
   | (with_reducible refine LeO.bind ?_ (fun _ => ?_))
   | exact ih0 _ _
   | exact ih1 _ _ _
   | exact ih2 _ _ _
   | exact layer_Find.mono _ _ _
   | exact layer_Right.mono _ _
   | exact shalelaw09_Same.mono _ _ _
   | exact shalelaw09_Size.mono _ _
   | exact shalelaw09_awake.mono _
   | exact LeO.none _
   | refine LeO.ite ?_ ?_
   | refine LeO.bind ?_ (fun _ => ?_)
  ·intro y0 y1 y2
   unfold shalelaw09_LayerGrows.l1
   repeat' first
   | (with_reducible exact ih0 _ _)
   | (with_reducible exact ih1 _ _ _)
   | (with_reducible exact ih2 _ _ _)
   | (with_reducible exact layer_Find.mono _ _ _)
   | (with_reducible exact layer_Right.mono _ _)
   | (with_reducible exact shalelaw09_Same.mono _ _ _)
   | (with_reducible exact shalelaw09_Size.mono _ _)
   | (with_reducible exact shalelaw09_awake.mono _)
   | (with_reducible exact LeO.refl _)
   | (with_reducible exact LeO.none _)
   | (with_reducible refine LeO.ite ?_ ?_)
   | (with_reducible refine LeO.bind ?_ (fun _ => ?_))
   | exact ih0 _ _
   | exact ih1 _ _ _
   | exact ih2 _ _ _
   | exact layer_Find.mono _ _ _
   | exact layer_Right.mono _ _
   | exact shalelaw09_Same.mono _ _ _
   | exact shalelaw09_Size.mono _ _
   | exact shalelaw09_awake.mono _
   | exact LeO.none _
   | refine LeO.ite ?_ ?_
   | refine LeO.bind ?_ (fun _ => ?_)
theorem shalelaw09_LayerGrows.mono : ∀ a0 k, LeO (shalelaw09_LayerGrows.f k a0) (shalelaw09_LayerGrows.f (k + 1) a0) := by
 intro a0 k
 obtain ⟨ih0, ih1, ih2⟩ := shalelaw09_LayerGrows.mono_l k
 unfold shalelaw09_LayerGrows.f
 repeat' first
   | (with_reducible exact ih0 _ _)
   | (with_reducible exact ih1 _ _ _)
   | (with_reducible exact ih2 _ _ _)
   | (with_reducible exact layer_Find.mono _ _ _)
   | (with_reducible exact layer_Right.mono _ _)
   | (with_reducible exact shalelaw09_Same.mono _ _ _)
   | (with_reducible exact shalelaw09_Size.mono _ _)
   | (with_reducible exact shalelaw09_awake.mono _)
   | (with_reducible exact LeO.refl _)
   | (with_reducible exact LeO.none _)
   | (with_reducible refine LeO.ite ?_ ?_)
   | (with_reducible refine LeO.bind ?_ (fun _ => ?_))
   | exact ih0 _ _
   | exact ih1 _ _ _
   | exact ih2 _ _ _
   | exact layer_Find.mono _ _ _
   | exact layer_Right.mono _ _
   | exact shalelaw09_Same.mono _ _ _
   | exact shalelaw09_Size.mono _ _
   | exact shalelaw09_awake.mono _
   | exact LeO.none _
   | refine LeO.ite ?_ ?_
   | refine LeO.bind ?_ (fun _ => ?_)
def shalelaw09_LayerGrows.T16 : Bool × List (List Nat × List Nat) := (true, [([], []), ([0], [0]), ([1], [1]), ([2, 1], [2]), ([3], [3]), ([3], [3]), ([4, 5, 3, 3], [3, 4, 5]), ([6, 3], [3, 6]), ([3, 7], [3, 7]), ([8, 6], [8]), ([9], [9]), ([10, 9], [9, 10]), ([9, 11], [9, 11]), ([12, 9], [12]), ([13], [13]), ([13], [13]), ([13], [13]), ([15, 16, 13], [13, 15, 16]), ([17, 13], [13, 17]), ([14, 18, 13], [13, 14, 18]), ([13, 19], [13, 19])])
def shalelaw09_LayerGrows.B16 : List Nat := [0, 1, 3, 7, 15, 15, 63, 127, 255, 511, 1023, 2047, 4095, 8191, 16383, 16383, 16383, 114687, 245759, 524287, 1048575]
theorem shalelaw09_LayerGrows.tab16 : rtab .any (opsOf Tryz.f3 16) = shalelaw09_LayerGrows.T16 := by kernel_rfl
theorem shalelaw09_LayerGrows.bits16 : waitsOk shalelaw09_LayerGrows.T16.2 shalelaw09_LayerGrows.B16 = true := by kernel_rfl
set_option maxHeartbeats 8000000 in
set_option maxRecDepth 100000 in
theorem shalelaw09_LayerGrows.calls (k : Nat) (A0 : Option Addr) (c0 : Nat) (l0 : List (S31)) (r : Bool) (w : World) (hr0 : Kd.C k31 w A0 l0.length l0) (hc0 : l0.length ≤ c0) (hG : Gl w) (h : shalelaw09_LayerGrows.f k l0 = some r) (hr : r = true) :
  Calls Tryz.prog 3 #[.slice A0 l0.length c0] w fun e w' => e = .returned (.bool r) ∧ Below w.heap.size w w' := by
 have hu31 := Tryz.underlying31
 have HR0 := Aside0.mk hr0
 have HC0 := Aside0.mk hc0
 clear hr0 hc0
 have HB := Aside0.mk (Below.refl w.heap.size w)
 have HG_ := Aside0.mk hG
 clear hG
 have H : ((shalelaw09_awake.f k).bind fun t210 => (if t210 = true then ((shalelaw09_Size.f k l0).bind fun t211 => (if t211 = 0 then (shalelaw09_LayerGrows.j0 k l0 true) else ((layer_Right.f k l0).bind fun t212 => (shalelaw09_LayerGrows.j0 k l0 (!t212))))) else (shalelaw09_LayerGrows.j0 k l0 true))) = some r := h
 clear h
 have HRR_ := Aside0.mk hr
 clear hr
 have HC2 := Aside0.mk H
 clear H
 go_enter Tryz.func3, Tryz.ntmps3
 go_upto_region 1 with (fail)
 go_cut [23] (fun v23 wc => ∃ (kq : Nat) (x23_1 : Bool), v23 = .bool x23_1 ∧ Aside0 (shalelaw09_LayerGrows.j0 kq l0 x23_1 = some r) ∧ Aside0 (kq ≤ k) ∧ Aside0 (Below w.heap.size w wc))
 case first =>
  have H := HC2.out
  clear HC2
  replace H := Option.bind_eq_some_iff.mp H
  obtain ⟨t210, A30, H⟩ := H
  replace H : (if t210 = true then ((shalelaw09_Size.f k l0).bind fun t211 => (if t211 = 0 then (shalelaw09_LayerGrows.j0 k l0 true) else ((layer_Right.f k l0).bind fun t212 => (shalelaw09_LayerGrows.j0 k l0 (!t212))))) else (shalelaw09_LayerGrows.j0 k l0 true)) = some r := H
  have A3 := Aside0.mk A30
  clear A30
  by_cases c4 : t210 = true
  ·subst c4
   have H1 : ((shalelaw09_Size.f k l0).bind fun t211 => (if t211 = 0 then (shalelaw09_LayerGrows.j0 k l0 true) else ((layer_Right.f k l0).bind fun t212 => (shalelaw09_LayerGrows.j0 k l0 (!t212))))) = some r := by rw [if_pos rfl] at H; exact H
   clear H
   have H := H1
   clear H1
   replace H := Option.bind_eq_some_iff.mp H
   obtain ⟨t211, A50, H⟩ := H
   replace H : (if t211 = 0 then (shalelaw09_LayerGrows.j0 k l0 true) else ((layer_Right.f k l0).bind fun t212 => (shalelaw09_LayerGrows.j0 k l0 (!t212)))) = some r := H
   have A5 := Aside0.mk A50
   clear A50
   by_cases c6 : t211 = 0
   ·rw [if_pos c6] at H
    have c6b0 : (t211 == 0) = true := beq_iff_eq.mpr c6
    have c6b1 : (t211 != 0) = false := bne_eq_false_iff_eq.mpr c6
    clear c6
    (first | rw [c6b0] | (simp only [i64_w, i32_w]; rw [c6b0]) | skip)
    have H' := Aside0.mk H
    clear H
    go_wp2_with (first | ((with_reducible refine gate_callee (f := 5) rfl ?_); refine goesL_ (some 12) rfl rfl Tryz.func5 (by kernel_rfl) rfl #[] rfl (by (try simp only [List.map_toArray, List.map_cons, List.map_nil]); first | done | rfl | (simp only [List.length_drop, List.length_take]; rfl)) ?_; (with_reducible refine (shalelaw09_awake.calls k  true _ ?side1 A3.out).mono ?_); (case side1 => exact Gl.below HG_.out (by repeat (first | (with_reducible first | exact HB.out | apply below_alloc | apply pw_below_drewN | apply below_drew1) | exact HB.out))); rintro e w7 ⟨rfl, hb⟩; refine ⟨_, rfl, ?_⟩; have n0_ := Aside0.mk (below_step (by repeat (first | (with_reducible first | exact HB.out | apply below_alloc | apply pw_below_drewN | apply below_drew1) | exact HB.out)) hb); clear HB; have HB := n0_; clear n0_; (try clear hb); (try clear hb2); (try clear hk); (try clear hi)) | (go_at_call 6; (with_reducible refine (shalelaw09_Size.calls k _ _ l0 t211 _ ?side1 ?side2 A5.out).mono ?_); (case side1 => repeat (first | exact (Kd.C_below HR0.out HB.out) | (with_reducible refine Kd.C_alloc ?_ _) | (with_reducible refine Kd.C_drewN ?_ _) | (with_reducible refine Kd.C_drew ?_))); (case side2 => exact HC0.out); rintro e w' ⟨rfl, ⟨nd, rfl⟩⟩))
    go_meet
    case rel => exact ⟨_, (true), (by first | rfl | (simp; done) | (simp [*]; done)), H', ⟨by first | omega | exact Nat.le_refl _⟩, ⟨by repeat (first | (with_reducible first | exact HB.out | apply below_alloc | apply pw_below_drewN | apply below_drew1) | exact HB.out)⟩⟩
   ·rw [if_neg c6] at H
    have c6b0 : (t211 == 0) = false := beq_eq_false_iff_ne.mpr c6
    have c6b1 : (t211 != 0) = true := bne_iff_ne.mpr c6
    (first | rw [c6b0] | (simp only [i64_w, i32_w]; rw [c6b0]) | skip)
    replace H := Option.bind_eq_some_iff.mp H
    obtain ⟨t212, A80, H⟩ := H
    replace H : (shalelaw09_LayerGrows.j0 k l0 (!t212)) = some r := H
    have A8 := Aside0.mk A80
    clear A80
    have H' := Aside0.mk H
    clear H
    go_wp2_with (first | ((with_reducible refine gate_callee (f := 5) rfl ?_); refine goesL_ (some 12) rfl rfl Tryz.func5 (by kernel_rfl) rfl #[] rfl (by (try simp only [List.map_toArray, List.map_cons, List.map_nil]); first | done | rfl | (simp only [List.length_drop, List.length_take]; rfl)) ?_; (with_reducible refine (shalelaw09_awake.calls k  true _ ?side1 A3.out).mono ?_); (case side1 => exact Gl.below HG_.out (by repeat (first | (with_reducible first | exact HB.out | apply below_alloc | apply pw_below_drewN | apply below_drew1) | exact HB.out))); rintro e w9 ⟨rfl, hb⟩; refine ⟨_, rfl, ?_⟩; have n0_ := Aside0.mk (below_step (by repeat (first | (with_reducible first | exact HB.out | apply below_alloc | apply pw_below_drewN | apply below_drew1) | exact HB.out)) hb); clear HB; have HB := n0_; clear n0_; (try clear hb); (try clear hb2); (try clear hk); (try clear hi)) | (go_at_call 6; (with_reducible refine (shalelaw09_Size.calls k _ _ l0 t211 _ ?side1 ?side2 A5.out).mono ?_); (case side1 => repeat (first | exact (Kd.C_below HR0.out HB.out) | (with_reducible refine Kd.C_alloc ?_ _) | (with_reducible refine Kd.C_drewN ?_ _) | (with_reducible refine Kd.C_drew ?_))); (case side2 => exact HC0.out); rintro e w' ⟨rfl, ⟨nd, rfl⟩⟩) | (go_at_call 7; (with_reducible refine (layer_Right.calls k _ _ l0 t212 _ ?side1 ?side2 A8.out).mono ?_); (case side1 => repeat (first | exact (Kd.C_below HR0.out (by repeat (first | (with_reducible first | exact HB.out | apply below_alloc | apply pw_below_drewN | apply below_drew1) | exact HB.out))) | (with_reducible refine Kd.C_alloc ?_ _) | (with_reducible refine Kd.C_drewN ?_ _) | (with_reducible refine Kd.C_drew ?_))); (case side2 => exact HC0.out); rintro e w10 ⟨rfl, hb⟩; have n0_ := Aside0.mk (below_step (by repeat (first | (with_reducible first | exact HB.out | apply below_alloc | apply pw_below_drewN | apply below_drew1) | exact HB.out)) hb); clear HB; have HB := n0_; clear n0_; (try clear hb); (try clear hb2); (try clear hk); (try clear hi)))
    go_meet
    case rel => exact ⟨_, (!t212), (by first | rfl | (simp; done) | (simp [*]; done)), H', ⟨by first | omega | exact Nat.le_refl _⟩, ⟨by repeat (first | (with_reducible first | exact HB.out | apply below_alloc | apply pw_below_drewN | apply below_drew1) | exact HB.out)⟩⟩
  ·replace c4 := Bool.eq_false_iff.mpr c4
   subst c4
   have H1 : (shalelaw09_LayerGrows.j0 k l0 true) = some r := by rw [if_neg (show ¬ (false = true) by decide)] at H; exact H
   clear H
   have H := H1
   clear H1
   have H' := Aside0.mk H
   clear H
   go_wp2_with (first | ((with_reducible refine gate_callee (f := 5) rfl ?_); refine goesL_ (some 12) rfl rfl Tryz.func5 (by kernel_rfl) rfl #[] rfl (by (try simp only [List.map_toArray, List.map_cons, List.map_nil]); first | done | rfl | (simp only [List.length_drop, List.length_take]; rfl)) ?_; (with_reducible refine (shalelaw09_awake.calls k  false _ ?side1 A3.out).mono ?_); (case side1 => exact Gl.below HG_.out (by repeat (first | (with_reducible first | exact HB.out | apply below_alloc | apply pw_below_drewN | apply below_drew1) | exact HB.out))); rintro e w11 ⟨rfl, hb⟩; refine ⟨_, rfl, ?_⟩; have n0_ := Aside0.mk (below_step (by repeat (first | (with_reducible first | exact HB.out | apply below_alloc | apply pw_below_drewN | apply below_drew1) | exact HB.out)) hb); clear HB; have HB := n0_; clear n0_; (try clear hb); (try clear hb2); (try clear hk); (try clear hi)))
   go_meet
   case rel => exact ⟨_, (true), (by first | rfl | (simp; done) | (simp [*]; done)), H', ⟨by first | omega | exact Nat.le_refl _⟩, ⟨by repeat (first | (with_reducible first | exact HB.out | apply below_alloc | apply pw_below_drewN | apply below_drew1) | exact HB.out)⟩⟩
 case rest =>
  clear HC2
  try clear p2
  try clear c3
  try clear c4
  try clear c5
  try clear c6
  try clear c6b0
  try clear c6b1
  obtain ⟨kq, x23_1, rfl, HA, HJ1, HB⟩ := hcut
  cases kq with
  | zero => exact absurd HA.out (by simp [shalelaw09_LayerGrows.j0])
  | succ kj1 =>
   have H := HA.out
   clear HA
   simp only [shalelaw09_LayerGrows.j0] at H
   by_cases c12 : x23_1 = true
   ·subst c12
    have H1 : ((shalelaw09_awake.f kj1).bind fun t213 => (some t213)) = some r := by rw [if_pos rfl] at H; exact H
    clear H
    have H := H1
    clear H1
    replace H := Option.bind_eq_some_iff.mp H
    obtain ⟨t213, A130, H⟩ := H
    replace H : (some t213) = some r := H
    have A13 := Aside0.mk A130
    clear A130
    obtain rfl := Option.some.inj H
    go_wp2_with (first | ((with_reducible refine gate_callee (f := 5) rfl ?_); refine goesL_ (some 24) rfl rfl Tryz.func5 (by kernel_rfl) rfl #[] rfl (by (try simp only [List.map_toArray, List.map_cons, List.map_nil]); first | done | rfl | (simp only [List.length_drop, List.length_take]; rfl)) ?_; (with_reducible refine (shalelaw09_awake.calls kj1  t213 _ ?side1 A13.out).mono ?_); (case side1 => exact Gl.below HG_.out (by repeat (first | (with_reducible first | exact HB.out | apply below_alloc | apply pw_below_drewN | apply below_drew1) | exact HB.out))); rintro e w14 ⟨rfl, hb⟩; refine ⟨_, rfl, ?_⟩; have n0_ := Aside0.mk (below_step (by repeat (first | (with_reducible first | exact HB.out | apply below_alloc | apply pw_below_drewN | apply below_drew1) | exact HB.out)) hb); clear HB; have HB := n0_; clear n0_; (try clear hb); (try clear hb2); (try clear hk); (try clear hi)))
    go_ret
    exact ⟨by first | rfl | (simp [errW_none, errW_some] <;> rfl) | (simp [*, errW_none, errW_some] <;> rfl), by repeat (first | (with_reducible first | exact HB.out | apply below_alloc | apply pw_below_drewN | apply below_drew1) | exact HB.out)⟩
   ·replace c12 := Bool.eq_false_iff.mpr c12
    subst c12
    have H1 : (shalelaw09_LayerGrows.l0 kj1 l0 ([] : List (S31)) 0) = some r := by rw [if_neg (show ¬ (false = true) by decide)] at H; exact H
    clear H
    have H := H1
    clear H1
    have H' := Aside0.mk H
    clear H
    go_wp2
    go_loopg [3, 4] kj1 (fun kq v3 v4 w' => ∃ (x3_2 : List (S31)) (x4_2 : Int), v4 = .int .i64 x4_2 ∧ Aside0 (shalelaw09_LayerGrows.l0 kq l0 x3_2 x4_2 = some r) ∧ Aside0 (kq ≤ kj1) ∧ Aside0 (Kd.R k31 31 w' w.heap.size (fun _ => True) v3 x3_2) ∧ Aside0 (Below w.heap.size w w'))
    case atStart => exact ⟨(([] : List (S31))), (0), (by first | rfl | (simp; done) | (simp [*]; done)), H', ⟨Nat.le_refl _⟩, ⟨by first | exact Kd.R_nil _ _ _ _ _ | exact Kd.N_nil _ _ _ _ _ | exact Kd.V_nil _ _ _ _ _ | exact Kd.Q_nil _ _ _ _ _ | exact Kd.S_nil _ _ _ _ _⟩, ⟨by repeat (first | (with_reducible first | exact HB.out | apply below_alloc | apply pw_below_drewN | apply below_drew1) | exact HB.out)⟩⟩
    case round =>
     clear H'
     try clear c1
     try clear p2
     try clear c3
     try clear c4
     try clear c5
     try clear c6
     try clear c6b0
     try clear c6b1
     try clear c12
     try clear p2
     obtain ⟨x3_2, x4_2, rfl, HA, HK2, HO_3, HB⟩ := hrel
     cases gk with
     | zero => exact absurd HA.out (by simp [shalelaw09_LayerGrows.l0])
     | succ k2 =>
      have H := HA.out
      clear HA
      simp only [shalelaw09_LayerGrows.l0] at H
      by_cases c15 : x4_2 < (l0.length : Int)
      ·rw [if_pos c15] at H
       have c15b0 : decide (x4_2 < (l0.length : Int)) = true := decide_eq_true c15
       clear c15
       by_cases c16 : 0 ≤ x4_2
       ·rw [if_pos c16] at H
        have c16b0 : decide (0 ≤ x4_2) = true := decide_eq_true c16
        clear c16
        replace H := Option.bind_eq_some_iff.mp H
        obtain ⟨⟨t215, t218⟩, A170, H⟩ := H
        replace H : ((fail_Code.f t218).bind fun t221 => (if t221 = 0 then (if (t215.length : Int) = (wrap64 (x4_2 + 1)) then (shalelaw09_LayerGrows.l0 k2 l0 t215 (wrap64 (x4_2 + 1))) else (some false)) else (some false))) = some r := H
        have A17 := Aside0.mk A170
        clear A170
        replace H := Option.bind_eq_some_iff.mp H
        obtain ⟨t221, A180, H⟩ := H
        replace H : (if t221 = 0 then (if (t215.length : Int) = (wrap64 (x4_2 + 1)) then (shalelaw09_LayerGrows.l0 k2 l0 t215 (wrap64 (x4_2 + 1))) else (some false)) else (some false)) = some r := H
        have A18 := Aside0.mk A180
        clear A180
        by_cases c19 : t221 = 0
        ·rw [if_pos c19] at H
         have c19b0 : (t221 == 0) = true := beq_iff_eq.mpr c19
         have c19b1 : (t221 != 0) = false := bne_eq_false_iff_eq.mpr c19
         clear c19
         by_cases c20 : (t215.length : Int) = (wrap64 (x4_2 + 1))
         ·rw [if_pos c20] at H
          have c20b0 : ((t215.length : Int) == (wrap64 (x4_2 + 1))) = true := beq_iff_eq.mpr c20
          have c20b1 : ((t215.length : Int) != (wrap64 (x4_2 + 1))) = false := bne_eq_false_iff_eq.mpr c20
          clear c20
          have H' := Aside0.mk H
          clear H
          have p214 : 0 ≤ (x4_2 : Int) := of_decide_eq_true (by first | (with_reducible assumption) | assumption)
          have q214 : x4_2 < (l0.length : Int) := of_decide_eq_true (by first | (with_reducible assumption) | assumption)
          obtain ⟨ad214, e214, hx214_0, hx214_1, hx214_2⟩ := at_T31 HR0.out x4_2 p214 q214
          cases e214
          replace hx214_0 := (HB.out.cell (World.block_lt_of_cell? w _ hx214_0)).trans hx214_0
          replace hx214_1 := (HB.out.cell (World.block_lt_of_cell? w _ hx214_1)).trans hx214_1
          replace hx214_2 := (HB.out.cell (World.block_lt_of_cell? w _ hx214_2)).trans hx214_2
          replace p214 := eq_true p214
          replace q214 := eq_true q214
          obtain ⟨Ao21, co21, eo21⟩ := Kd.R_slice HO_3.out
          subst eo21
          go_wp2_with (first | ((with_reducible refine gate_callee (f := 8) rfl ?_); refine goesL_ (some 37) rfl rfl Tryz.func8 (by kernel_rfl) rfl #[.slice Ao21 x3_2.length co21, .agg #[.string ((rd_T31 l0 x4_2).f0), .int .i64 ((rd_T31 l0 x4_2).f1), .string ((rd_T31 l0 x4_2).f2)]] rfl (by (try simp only [List.map_toArray, List.map_cons, List.map_nil]); first | done | rfl | (simp only [List.length_drop, List.length_take]; rfl)) ?_; (with_reducible refine (layer_Put.calls _ _ x3_2 ((rd_T31 l0 x4_2).f0) ((rd_T31 l0 x4_2).f1) ((rd_T31 l0 x4_2).f2) t215 t218 _ ?side1 ?side2 A17.out).mono ?_); (case side1 => repeat (first | exact (Kd.R_reads' HO_3.out).2.2 | (with_reducible refine Kd.C_alloc ?_ _) | (with_reducible refine Kd.C_drewN ?_ _) | (with_reducible refine Kd.C_drew ?_))); (case side2 => exact (Kd.R_reads' HO_3.out).2.1); rintro e w22 ⟨v216, v219, rfl, ho0, ho1, hb⟩; refine ⟨_, rfl, ?_⟩; have n0_ := Aside0.mk (Kd.R_elder' (by (with_reducible repeat (first | apply Kd.R_alloc | apply Kd.R_drewN | apply Kd.R_drew)); exact HO_3.out) (Kd.R_base ho0) hb); have n1_ := Aside0.mk (Kd.R_lower (Kd.R_new' ho0 (Kd.R_lt (by (with_reducible repeat (first | apply Kd.R_alloc | apply Kd.R_drewN | apply Kd.R_drew)); exact HO_3.out))) (below_size (by repeat (first | (with_reducible first | exact HB.out | apply below_alloc | apply pw_below_drewN | apply below_drew1) | exact HB.out)))); have n2_ := Aside0.mk (Kd.R_lower ho1 (below_size (by repeat (first | (with_reducible first | exact HB.out | apply below_alloc | apply pw_below_drewN | apply below_drew1) | exact HB.out)))); have n3_ := Aside0.mk (below_step (by repeat (first | (with_reducible first | exact HB.out | apply below_alloc | apply pw_below_drewN | apply below_drew1) | exact HB.out)) hb); clear HO_3; clear HB; have HO_3 := n0_; have HO217 := n1_; have HO220 := n2_; have HB := n3_; clear n0_ n1_ n2_ n3_; (try clear hb); (try clear hb2); (try clear hk); (try clear hi); (try clear ho0); (try clear ho1); have hE_v219 := errNil_of HO220.out; obtain ⟨Ao23, co23, eo23⟩ := Kd.R_slice HO220.out; subst eo23) | ((with_reducible refine gate_callee (f := 9) rfl ?_); refine goesL_ (some 41) rfl rfl Tryz.func9 (by kernel_rfl) rfl #[(errV (.slice Ao23 t218.length co23))] rfl (by (try simp only [List.map_toArray, List.map_cons, List.map_nil]); first | done | rfl | (simp only [List.length_drop, List.length_take]; rfl)) ?_; (with_reducible refine (fail_Code.calls _ _ t218 t221 _ ?side1 ?side2 ?side3 A18.out).mono ?_); (case side1 => repeat (first | exact (Kd.R_reads' HO220.out).2.2 | (with_reducible refine Kd.C_alloc ?_ _) | (with_reducible refine Kd.C_drewN ?_ _) | (with_reducible refine Kd.C_drew ?_))); (case side2 => exact (Kd.R_reads' HO220.out).2.1); (case side3 => exact Gl.below HG_.out (by repeat (first | (with_reducible first | exact HB.out | apply below_alloc | apply pw_below_drewN | apply below_drew1) | exact HB.out))); rintro e w24 ⟨rfl, hb⟩; refine ⟨_, rfl, ?_⟩; have n0_ := Aside0.mk (Kd.R_below (by (with_reducible repeat (first | apply Kd.R_alloc | apply Kd.R_drewN | apply Kd.R_drew)); exact HO_3.out) hb); have n1_ := Aside0.mk (Kd.R_below (by (with_reducible repeat (first | apply Kd.R_alloc | apply Kd.R_drewN | apply Kd.R_drew)); exact HO217.out) hb); have n2_ := Aside0.mk (Kd.R_below (by (with_reducible repeat (first | apply Kd.R_alloc | apply Kd.R_drewN | apply Kd.R_drew)); exact HO220.out) hb); have n3_ := Aside0.mk (below_step (by repeat (first | (with_reducible first | exact HB.out | apply below_alloc | apply pw_below_drewN | apply below_drew1) | exact HB.out)) hb); clear HO_3; clear HO217; clear HO220; clear HB; have HO_3 := n0_; have HO217 := n1_; have HO220 := n2_; have HB := n3_; clear n0_ n1_ n2_ n3_; (try clear hb); (try clear hb2); (try clear hk); (try clear hi); obtain ⟨Ao25, co25, eo25⟩ := Kd.R_slice HO217.out; subst eo25))
          go_roundg k2
          case measure => have := HJ1.out; have := HK2.out; omega
          case rel => exact ⟨(t215), (wrap64 (x4_2 + 1)), (by first | rfl | (simp; done) | (simp [*]; done)), H', ⟨by have := HJ1.out; have := HK2.out; omega⟩, ⟨by (with_reducible repeat (first | apply Kd.R_alloc | apply Kd.R_drewN | apply Kd.R_drew)); exact Kd.R_mono HO217.out (fun _ hk => trivial)⟩, ⟨by repeat (first | (with_reducible first | exact HB.out | apply below_alloc | apply pw_below_drewN | apply below_drew1) | exact HB.out)⟩⟩
         ·rw [if_neg c20] at H
          have c20b0 : ((t215.length : Int) == (wrap64 (x4_2 + 1))) = false := beq_eq_false_iff_ne.mpr c20
          have c20b1 : ((t215.length : Int) != (wrap64 (x4_2 + 1))) = true := bne_iff_ne.mpr c20
          exact Bool.noConfusion ((Option.some.inj H).trans HRR_.out)
        ·rw [if_neg c19] at H
         have c19b0 : (t221 == 0) = false := beq_eq_false_iff_ne.mpr c19
         have c19b1 : (t221 != 0) = true := bne_iff_ne.mpr c19
         exact Bool.noConfusion ((Option.some.inj H).trans HRR_.out)
       ·rw [if_neg c16] at H
        exact absurd H (by simp)
      ·rw [if_neg c15] at H
       have c15b0 : decide (x4_2 < (l0.length : Int)) = false := decide_eq_false c15
       clear c15
       have H' := Aside0.mk H
       clear H
       go_wp2
       go_loopg [7] k2 (fun kq v7 w' => ∃ (x7_3 : Int), v7 = .int .i64 x7_3 ∧ Aside0 (shalelaw09_LayerGrows.l1 kq l0 x3_2 x7_3 = some r) ∧ Aside0 (kq ≤ k2) ∧ Aside0 (Kd.R k31 31 w' w.heap.size (fun _ => True) u3 x3_2) ∧ Aside0 (Below w.heap.size w w'))
       case atStart => exact ⟨(0), (by first | rfl | (simp; done) | (simp [*]; done)), H', ⟨Nat.le_refl _⟩, ⟨by (with_reducible repeat (first | apply Kd.R_alloc | apply Kd.R_drewN | apply Kd.R_drew)); exact HO_3.out⟩, ⟨by repeat (first | (with_reducible first | exact HB.out | apply below_alloc | apply pw_below_drewN | apply below_drew1) | exact HB.out)⟩⟩
       case round =>
        clear H'
        try clear c1
        try clear c2
        try clear p2
        try clear q2
        try clear hx2
        try clear c3
        try clear c4
        try clear c5
        try clear c6
        try clear c6b0
        try clear c6b1
        try clear p6
        try clear c8
        try clear c9
        try clear c12
        try clear c15
        try clear c15b0
        try clear c16
        try clear c16b0
        try clear c19
        try clear c19b0
        try clear c19b1
        try clear c20
        try clear c20b0
        try clear c20b1
        try clear p21
        try clear q21
        try clear hx21
        try clear hx214_0
        try clear hx214_1
        try clear hx214_2
        try clear p2
        try clear p214
        try clear q214
        obtain ⟨x7_3, rfl, HA, HK3, HO_3, HB⟩ := hrel
        cases gk with
        | zero => exact absurd HA.out (by simp [shalelaw09_LayerGrows.l1])
        | succ k3 =>
         have H := HA.out
         clear HA
         simp only [shalelaw09_LayerGrows.l1] at H
         by_cases c26 : x7_3 < (l0.length : Int)
         ·rw [if_pos c26] at H
          have c26b0 : decide (x7_3 < (l0.length : Int)) = true := decide_eq_true c26
          clear c26
          by_cases c27 : 0 ≤ x7_3
          ·rw [if_pos c27] at H
           have c27b0 : decide (0 ≤ x7_3) = true := decide_eq_true c27
           clear c27
           replace H := Option.bind_eq_some_iff.mp H
           obtain ⟨⟨t224, t227⟩, A280, H⟩ := H
           replace H : ((layer_Find.f k3 x3_2 ((rd_T31 l0 x7_3).f0)).bind fun bt231 => ((fail_Code.f t227).bind fun t236 => (if t236 = 0 then ((shalelaw09_Same.f k3 t224 x3_2).bind fun t237 => (if t237 = 0 then (some false) else (if bt231.2.2.2 = true then (if (!(bt231.1.toList == (((rd_T31 l0 x7_3).f0).toList)) || (!(bt231.2.1 == ((rd_T31 l0 x7_3).f1)) || (!(bt231.2.2.1.toList == (((rd_T31 l0 x7_3).f2).toList))))) = true then (some false) else (shalelaw09_LayerGrows.l1 k3 l0 x3_2 (wrap64 (x7_3 + 1)))) else (some false)))) else (some false)))) = some r := H
           have A28 := Aside0.mk A280
           clear A280
           replace H := Option.bind_eq_some_iff.mp H
           obtain ⟨⟨t231, t232, t233, t234⟩, A290, H⟩ := H
           replace H : ((fail_Code.f t227).bind fun t236 => (if t236 = 0 then ((shalelaw09_Same.f k3 t224 x3_2).bind fun t237 => (if t237 = 0 then (some false) else (if t234 = true then (if (!(t231.toList == (((rd_T31 l0 x7_3).f0).toList)) || (!(t232 == ((rd_T31 l0 x7_3).f1)) || (!(t233.toList == (((rd_T31 l0 x7_3).f2).toList))))) = true then (some false) else (shalelaw09_LayerGrows.l1 k3 l0 x3_2 (wrap64 (x7_3 + 1)))) else (some false)))) else (some false))) = some r := H
           have A29 := Aside0.mk A290
           clear A290
           replace H := Option.bind_eq_some_iff.mp H
           obtain ⟨t236, A300, H⟩ := H
           replace H : (if t236 = 0 then ((shalelaw09_Same.f k3 t224 x3_2).bind fun t237 => (if t237 = 0 then (some false) else (if t234 = true then (if (!(t231.toList == (((rd_T31 l0 x7_3).f0).toList)) || (!(t232 == ((rd_T31 l0 x7_3).f1)) || (!(t233.toList == (((rd_T31 l0 x7_3).f2).toList))))) = true then (some false) else (shalelaw09_LayerGrows.l1 k3 l0 x3_2 (wrap64 (x7_3 + 1)))) else (some false)))) else (some false)) = some r := H
           have A30 := Aside0.mk A300
           clear A300
           by_cases c31 : t236 = 0
           ·rw [if_pos c31] at H
            have c31b0 : (t236 == 0) = true := beq_iff_eq.mpr c31
            have c31b1 : (t236 != 0) = false := bne_eq_false_iff_eq.mpr c31
            clear c31
            replace H := Option.bind_eq_some_iff.mp H
            obtain ⟨t237, A320, H⟩ := H
            replace H : (if t237 = 0 then (some false) else (if t234 = true then (if (!(t231.toList == (((rd_T31 l0 x7_3).f0).toList)) || (!(t232 == ((rd_T31 l0 x7_3).f1)) || (!(t233.toList == (((rd_T31 l0 x7_3).f2).toList))))) = true then (some false) else (shalelaw09_LayerGrows.l1 k3 l0 x3_2 (wrap64 (x7_3 + 1)))) else (some false))) = some r := H
            have A32 := Aside0.mk A320
            clear A320
            by_cases c33 : t237 = 0
            ·rw [if_pos c33] at H
             have c33b0 : (t237 == 0) = true := beq_iff_eq.mpr c33
             have c33b1 : (t237 != 0) = false := bne_eq_false_iff_eq.mpr c33
             clear c33
             exact Bool.noConfusion ((Option.some.inj H).trans HRR_.out)
            ·rw [if_neg c33] at H
             have c33b0 : (t237 == 0) = false := beq_eq_false_iff_ne.mpr c33
             have c33b1 : (t237 != 0) = true := bne_iff_ne.mpr c33
             by_cases c34 : t234 = true
             ·subst c34
              have H1 : (if (!(t231.toList == (((rd_T31 l0 x7_3).f0).toList)) || (!(t232 == ((rd_T31 l0 x7_3).f1)) || (!(t233.toList == (((rd_T31 l0 x7_3).f2).toList))))) = true then (some false) else (shalelaw09_LayerGrows.l1 k3 l0 x3_2 (wrap64 (x7_3 + 1)))) = some r := by rw [if_pos rfl] at H; exact H
              clear H
              have H := H1
              clear H1
              by_cases c35 : (!(t231.toList == (((rd_T31 l0 x7_3).f0).toList)) || (!(t232 == ((rd_T31 l0 x7_3).f1)) || (!(t233.toList == (((rd_T31 l0 x7_3).f2).toList))))) = true
              ·rw [if_pos c35] at H
               have c35b0 : (!(t231.toList == (((rd_T31 l0 x7_3).f0).toList)) || (!(t232 == ((rd_T31 l0 x7_3).f1)) || (!(t233.toList == (((rd_T31 l0 x7_3).f2).toList))))) = true := c35
               (try (have c35b8 := c35b0; simp only [beq_true, beq_false, Bool.true_beq, Bool.false_beq, bne, Bool.not_eq_true', Bool.not_eq_false', Bool.not_true, Bool.not_false] at c35b8))
               clear c35
               exact Bool.noConfusion ((Option.some.inj H).trans HRR_.out)
              ·rw [if_neg c35] at H
               have c35b0 : (!(t231.toList == (((rd_T31 l0 x7_3).f0).toList)) || (!(t232 == ((rd_T31 l0 x7_3).f1)) || (!(t233.toList == (((rd_T31 l0 x7_3).f2).toList))))) = false := by simpa using c35
               (try (have c35b8 := c35b0; simp only [beq_true, beq_false, Bool.true_beq, Bool.false_beq, bne, Bool.not_eq_true', Bool.not_eq_false', Bool.not_true, Bool.not_false] at c35b8))
               clear c35
               have H' := Aside0.mk H
               clear H
               have p223 : 0 ≤ (x7_3 : Int) := of_decide_eq_true (by first | (with_reducible assumption) | assumption)
               have q223 : x7_3 < (l0.length : Int) := of_decide_eq_true (by first | (with_reducible assumption) | assumption)
               obtain ⟨ad223, e223, hx223_0, hx223_1, hx223_2⟩ := at_T31 HR0.out x7_3 p223 q223
               cases e223
               replace hx223_0 := (HB.out.cell (World.block_lt_of_cell? w _ hx223_0)).trans hx223_0
               replace hx223_1 := (HB.out.cell (World.block_lt_of_cell? w _ hx223_1)).trans hx223_1
               replace hx223_2 := (HB.out.cell (World.block_lt_of_cell? w _ hx223_2)).trans hx223_2
               replace p223 := eq_true p223
               replace q223 := eq_true q223
               obtain ⟨Ao36, co36, eo36⟩ := Kd.R_slice HO_3.out
               subst eo36
               try go_wp2_with (first | ((with_reducible refine gate_callee (f := 8) rfl ?_); refine goesL_ (some 63) rfl rfl Tryz.func8 (by kernel_rfl) rfl #[.slice Ao36 x3_2.length co36, .agg #[.string ((rd_T31 l0 x7_3).f0), .int .i64 ((rd_T31 l0 x7_3).f1), .string ((rd_T31 l0 x7_3).f2)]] rfl (by (try simp only [List.map_toArray, List.map_cons, List.map_nil]); first | done | rfl | (simp only [List.length_drop, List.length_take]; rfl)) ?_; (with_reducible refine (layer_Put.calls _ _ x3_2 ((rd_T31 l0 x7_3).f0) ((rd_T31 l0 x7_3).f1) ((rd_T31 l0 x7_3).f2) t224 t227 _ ?side1 ?side2 A28.out).mono ?_); (case side1 => repeat (first | exact (Kd.R_reads' HO_3.out).2.2 | (with_reducible refine Kd.C_alloc ?_ _) | (with_reducible refine Kd.C_drewN ?_ _) | (with_reducible refine Kd.C_drew ?_))); (case side2 => exact (Kd.R_reads' HO_3.out).2.1); rintro e w37 ⟨v225, v228, rfl, ho0, ho1, hb⟩; refine ⟨_, rfl, ?_⟩; have n0_ := Aside0.mk (Kd.R_elder' (by (with_reducible repeat (first | apply Kd.R_alloc | apply Kd.R_drewN | apply Kd.R_drew)); exact HO_3.out) (Kd.R_base ho0) hb); have n1_ := Aside0.mk (Kd.R_lower (Kd.R_new' ho0 (Kd.R_lt (by (with_reducible repeat (first | apply Kd.R_alloc | apply Kd.R_drewN | apply Kd.R_drew)); exact HO_3.out))) (below_size (by repeat (first | (with_reducible first | exact HB.out | apply below_alloc | apply pw_below_drewN | apply below_drew1) | exact HB.out)))); have n2_ := Aside0.mk (Kd.R_lower ho1 (below_size (by repeat (first | (with_reducible first | exact HB.out | apply below_alloc | apply pw_below_drewN | apply below_drew1) | exact HB.out)))); have n3_ := Aside0.mk (below_step (by repeat (first | (with_reducible first | exact HB.out | apply below_alloc | apply pw_below_drewN | apply below_drew1) | exact HB.out)) hb); clear HO_3; clear HB; have HO_3 := n0_; have HO226 := n1_; have HO229 := n2_; have HB := n3_; clear n0_ n1_ n2_ n3_; (try clear hb); (try clear hb2); (try clear hk); (try clear hi); (try clear ho0); (try clear ho1); have hE_v228 := errNil_of HO229.out; have p230 : 0 ≤ (x7_3 : Int) := of_decide_eq_true (by first | (with_reducible assumption) | assumption); have q230 : x7_3 < (l0.length : Int) := of_decide_eq_true (by first | (with_reducible assumption) | assumption); obtain ⟨ad230, e230, hx230_0, hx230_1, hx230_2⟩ := at_T31 HR0.out x7_3 p230 q230; obtain rfl : ad223 = ad230 := (by injection e230); replace hx230_0 := (HB.out.cell (World.block_lt_of_cell? w _ hx230_0)).trans hx230_0; replace hx230_1 := (HB.out.cell (World.block_lt_of_cell? w _ hx230_1)).trans hx230_1; replace hx230_2 := (HB.out.cell (World.block_lt_of_cell? w _ hx230_2)).trans hx230_2; replace p230 := eq_true p230; replace q230 := eq_true q230) | ((with_reducible refine gate_callee (f := 10) rfl ?_); refine goesL_ (some 73) rfl rfl Tryz.func10 (by kernel_rfl) rfl #[.slice Ao36 x3_2.length co36, .string ((rd_T31 l0 x7_3).f0)] rfl (by (try simp only [List.map_toArray, List.map_cons, List.map_nil]); first | done | rfl | (simp only [List.length_drop, List.length_take]; rfl)) ?_; (with_reducible refine (layer_Find.calls k3 _ _ x3_2 ((rd_T31 l0 x7_3).f0) t231 t232 t233 true _ ?side1 ?side2 A29.out).mono ?_); (case side1 => repeat (first | exact (Kd.R_reads' HO_3.out).2.2 | (with_reducible refine Kd.C_alloc ?_ _) | (with_reducible refine Kd.C_drewN ?_ _) | (with_reducible refine Kd.C_drew ?_))); (case side2 => exact (Kd.R_reads' HO_3.out).2.1); rintro e w38 ⟨rfl, hb⟩; refine ⟨_, rfl, ?_⟩; have n0_ := Aside0.mk (Kd.R_below (by (with_reducible repeat (first | apply Kd.R_alloc | apply Kd.R_drewN | apply Kd.R_drew)); exact HO_3.out) hb); have n1_ := Aside0.mk (Kd.R_below (by (with_reducible repeat (first | apply Kd.R_alloc | apply Kd.R_drewN | apply Kd.R_drew)); exact HO226.out) hb); have n2_ := Aside0.mk (Kd.R_below (by (with_reducible repeat (first | apply Kd.R_alloc | apply Kd.R_drewN | apply Kd.R_drew)); exact HO229.out) hb); have n3_ := Aside0.mk (below_step (by repeat (first | (with_reducible first | exact HB.out | apply below_alloc | apply pw_below_drewN | apply below_drew1) | exact HB.out)) hb); clear HO_3; clear HO226; clear HO229; clear HB; have HO_3 := n0_; have HO226 := n1_; have HO229 := n2_; have HB := n3_; clear n0_ n1_ n2_ n3_; (try clear hb); (try clear hb2); (try clear hk); (try clear hi)) | ((with_reducible refine gate_dst (N := 10) rfl ?_); (try (refine gate_guard (by rfl) ?_; dsimp only)); refine box_event ?hg (N := 10) ?hd (cs := #[.string (⟨#[]⟩ : ByteArray), .int .i64 0, .string (⟨#[]⟩ : ByteArray)]) (t := 31) ?hr ?_; (case hd => rfl); (case hg => rfl); (case hr => first | (go_simp; done) | (go_simp; rfl)); intro gb235 hg w39 hbox hb; have n0_ := Aside0.mk (Kd.R_below (Kd.R_elderB (by (with_reducible repeat (first | apply Kd.R_alloc | apply Kd.R_drewN | apply Kd.R_drew)); exact HO_3.out) gb235 (Nat.le_of_eq hg.symm)) hb); have n1_ := Aside0.mk (Kd.R_below (Kd.R_elderB (by (with_reducible repeat (first | apply Kd.R_alloc | apply Kd.R_drewN | apply Kd.R_drew)); exact HO226.out) gb235 (Nat.le_of_eq hg.symm)) hb); have n2_ := Aside0.mk (Kd.R_below (by (with_reducible repeat (first | apply Kd.R_alloc | apply Kd.R_drewN | apply Kd.R_drew)); exact HO229.out) hb); have n3_ := Aside0.mk (below_step (by repeat (first | (with_reducible first | exact HB.out | apply below_alloc | apply pw_below_drewN | apply below_drew1) | exact HB.out)) hb); have n4_ := Aside0.mk (hbox); have n5_ := Aside0.mk ((by rw [hg]; exact (below_size (by repeat (first | (with_reducible first | exact HB.out | apply below_alloc | apply pw_below_drewN | apply below_drew1) | exact HB.out))) : w.heap.size ≤ gb235)); have n6_ := Aside0.mk ((by rw [hg]; exact (below_size (by repeat (first | (with_reducible first | exact HB.out | apply below_alloc | apply pw_below_drewN | apply below_drew1) | exact HB.out))) : w.heap.size ≤ gb235)); clear HO_3; clear HO226; clear HO229; clear HB; have HO_3 := n0_; have HO226 := n1_; have HO229 := n2_; have HB := n3_; have BK235 := n4_; have GW235 := n5_; have GE235 := n6_; clear n0_ n1_ n2_ n3_ n4_ n5_ n6_; clear hb hbox hg; have hcz40_0 : w39.cell? ⟨gb235, 0, none⟩ = some (.string (⟨#[]⟩ : ByteArray)) := (blk_cell BK235.out 0).trans rfl; have hcz40_1 : w39.cell? ⟨gb235, 1, none⟩ = some (.int .i64 0) := (blk_cell BK235.out 1).trans rfl; have hcz40_2 : w39.cell? ⟨gb235, 2, none⟩ = some (.string (⟨#[]⟩ : ByteArray)) := (blk_cell BK235.out 2).trans rfl; have hfz40_0 := blk_frozen BK235.out 0; have hfz40_1 := blk_frozen BK235.out 1; have hfz40_2 := blk_frozen BK235.out 2))
               have n0_ : Aside0 (Kd.R k31 31 (((w39.setCell ⟨gb235, 0, none⟩ (.string t231)).setCell ⟨gb235, 1, none⟩ (.int .i64 t232)).setCell ⟨gb235, 2, none⟩ (.string t233)) w.heap.size (fun k_ => some k_ ≠ (v225 : Value).ownBlock ∧ k_ ≠ gb235) (.slice Ao36 x3_2.length co36) x3_2) := ⟨by (with_reducible repeat (first | apply Kd.R_alloc | apply Kd.R_drewN | apply Kd.R_drew)); exact Kd.R_mono (Kd.R_far (p := ⟨gb235, 2, none⟩) (Kd.R_far (p := ⟨gb235, 1, none⟩) (Kd.R_far (p := ⟨gb235, 0, none⟩) (Kd.R_mono HO_3.out (fun k_ hk => (⟨hk, hk.2⟩ : _ ∧ k_ ≠ gb235))) (fun _ hk => hk.2) (.string t231)) (fun _ hk => hk.2) (.int .i64 t232)) (fun _ hk => hk.2) (.string t233)) (fun _ hk => ⟨hk.1.1.2, hk.1.2⟩)⟩
               have n1_ : Aside0 (Kd.R k31 31 (((w39.setCell ⟨gb235, 0, none⟩ (.string t231)).setCell ⟨gb235, 1, none⟩ (.int .i64 t232)).setCell ⟨gb235, 2, none⟩ (.string t233)) w.heap.size (fun k_ => some k_ ≠ (.slice Ao36 x3_2.length co36 : Value).ownBlock ∧ k_ ≠ gb235) v225 t224) := ⟨by (with_reducible repeat (first | apply Kd.R_alloc | apply Kd.R_drewN | apply Kd.R_drew)); exact Kd.R_mono (Kd.R_far (p := ⟨gb235, 2, none⟩) (Kd.R_far (p := ⟨gb235, 1, none⟩) (Kd.R_far (p := ⟨gb235, 0, none⟩) (Kd.R_mono HO226.out (fun k_ hk => (⟨hk, hk.2⟩ : _ ∧ k_ ≠ gb235))) (fun _ hk => hk.2) (.string t231)) (fun _ hk => hk.2) (.int .i64 t232)) (fun _ hk => hk.2) (.string t233)) (fun _ hk => ⟨hk.1.1.2, hk.1.2⟩)⟩
               have n2_ : Aside0 (Kd.R kdF 68 (((w39.setCell ⟨gb235, 0, none⟩ (.string t231)).setCell ⟨gb235, 1, none⟩ (.int .i64 t232)).setCell ⟨gb235, 2, none⟩ (.string t233)) w.heap.size (fun _ => True) v228 t227) := ⟨by (with_reducible repeat (first | apply Kd.R_alloc | apply Kd.R_drewN | apply Kd.R_drew)); exact Kd.R_mono (Kd.R_far (p := ⟨gb235, 2, none⟩) (Kd.R_far (p := ⟨gb235, 1, none⟩) (Kd.R_far (p := ⟨gb235, 0, none⟩) (Kd.R_types HO229.out BK235.out (by decide)) (fun _ hk => hk.2) (.string t231)) (fun _ hk => hk.2) (.int .i64 t232)) (fun _ hk => hk.2) (.string t233)) (fun _ hk => trivial)⟩
               have n3_ : Aside0 ((((w39.setCell ⟨gb235, 0, none⟩ (.string t231)).setCell ⟨gb235, 1, none⟩ (.int .i64 t232)).setCell ⟨gb235, 2, none⟩ (.string t233)).heap[gb235]? = some (.cells #[.string t231, .int .i64 t232, .string t233] 31 (0, 0))) := ⟨by (with_reducible repeat (first | refine blk_drewN ?_ _ | refine blk_drew ?_ | refine blk_alloc ?_ _)); refine blk_put (cs := #[.string t231, .int .i64 t232, .string (⟨#[]⟩ : ByteArray)]) ?_ 2 _ rfl; (with_reducible repeat (first | refine blk_drewN ?_ _ | refine blk_drew ?_ | refine blk_alloc ?_ _)); refine blk_put (cs := #[.string t231, .int .i64 0, .string (⟨#[]⟩ : ByteArray)]) ?_ 1 _ rfl; (with_reducible repeat (first | refine blk_drewN ?_ _ | refine blk_drew ?_ | refine blk_alloc ?_ _)); refine blk_put (cs := #[.string (⟨#[]⟩ : ByteArray), .int .i64 0, .string (⟨#[]⟩ : ByteArray)]) ?_ 0 _ rfl; (with_reducible repeat (first | refine blk_drewN ?_ _ | refine blk_drew ?_ | refine blk_alloc ?_ _)); exact BK235.out⟩
               have n4_ : Aside0 (Below w.heap.size w (((w39.setCell ⟨gb235, 0, none⟩ (.string t231)).setCell ⟨gb235, 1, none⟩ (.int .i64 t232)).setCell ⟨gb235, 2, none⟩ (.string t233))) := ⟨by repeat (first | (with_reducible first | exact HB.out | apply below_alloc | apply pw_below_drewN | apply below_drew1 | refine below_set ?_ GE235.out) | exact HB.out)⟩
               (try clear HO_3)
               (try clear HO226)
               (try clear HO229)
               (try clear BK235)
               (try clear HB)
               generalize (((w39.setCell ⟨gb235, 0, none⟩ (.string t231)).setCell ⟨gb235, 1, none⟩ (.int .i64 t232)).setCell ⟨gb235, 2, none⟩ (.string t233)) = w41 at n0_ n1_ n2_ n3_ n4_ ⊢
               have HO_3 := n0_
               have HO226 := n1_
               have HO229 := n2_
               have BK235 := n3_
               have HB := n4_
               clear n0_ n1_ n2_ n3_ n4_
               have n0_ := Aside0.mk (Kd.R_drew HO_3.out)
               have n1_ := Aside0.mk (Kd.R_drew HO226.out)
               have n2_ := Aside0.mk (Kd.R_drew HO229.out)
               have n3_ := Aside0.mk (blk_drew BK235.out)
               have n4_ := Aside0.mk (below_drew1 HB.out)
               clear HO_3
               clear HO226
               clear HO229
               clear BK235
               clear HB
               have HO_3 := n0_
               have HO226 := n1_
               have HO229 := n2_
               have BK235 := n3_
               have HB := n4_
               clear n0_ n1_ n2_ n3_ n4_
               obtain ⟨Ao43, co43, eo43⟩ := Kd.R_slice HO229.out
               (first | subst eo43 | (injection eo43 with f1_ f2_ f3_; have f4_ := f1_.symm; have f5_ := f3_.symm; clear f1_ f2_ f3_; subst f4_; subst f5_))
               have p238 : 0 ≤ (x7_3 : Int) := of_decide_eq_true (by first | (with_reducible assumption) | assumption)
               have q238 : x7_3 < (l0.length : Int) := of_decide_eq_true (by first | (with_reducible assumption) | assumption)
               obtain ⟨ad238, e238, hx238_0, hx238_1, hx238_2⟩ := at_T31 HR0.out x7_3 p238 q238
               have hw238_2 := hx238_2
               have hw238_1 := hx238_1
               have hw238_0 := hx238_0
               obtain rfl : ad223 = ad238 := (by injection e238)
               replace hx238_0 := (HB.out.cell (World.block_lt_of_cell? w _ hx238_0)).trans hx238_0
               replace hx238_1 := (HB.out.cell (World.block_lt_of_cell? w _ hx238_1)).trans hx238_1
               replace hx238_2 := (HB.out.cell (World.block_lt_of_cell? w _ hx238_2)).trans hx238_2
               replace p238 := eq_true p238
               replace q238 := eq_true q238
               refine start_ (n := 21) (S := fun w' => w'.cell? ⟨gb235, 0, none⟩ = some (.string t231) ∧ w'.cell? ⟨gb235, 1, none⟩ = some (.int .i64 t232) ∧ w'.cell? ⟨gb235, 2, none⟩ = some (.string t233) ∧ w'.cell? (ad223.add ((x7_3).toNat * 3)) = some (.string ((rd_T31 l0 x7_3).f0)) ∧ w'.cell? ⟨(ad223.add ((x7_3).toNat * 3)).block, (ad223.add ((x7_3).toNat * 3)).off + 1, none⟩ = some (.int .i64 ((rd_T31 l0 x7_3).f1)) ∧ w'.cell? ⟨(ad223.add ((x7_3).toNat * 3)).block, (ad223.add ((x7_3).toNat * 3)).off + 2, none⟩ = some (.string ((rd_T31 l0 x7_3).f2))) (ds := []) #[false, false, false, false, false, false, false, false, false, false, false, false, false, false, false, false, false, false, false, false, false] (by kernel_rfl) rfl rfl ⟨(blk_cell BK235.out 0).trans rfl, (blk_cell BK235.out 1).trans rfl, (blk_cell BK235.out 2).trans rfl, ((HB.out.cell (World.block_lt_of_cell? w _ hw238_0)).trans hw238_0), ((HB.out.cell (World.block_lt_of_cell? w _ hw238_1)).trans hw238_1), ((HB.out.cell (World.block_lt_of_cell? w _ hw238_2)).trans hw238_2)⟩ (fun hHeld => ?_); refine with_tabW shalelaw09_LayerGrows.tab16 shalelaw09_LayerGrows.bits16 (fun HT_ HW_ => ?_)
               generalize w41.drew = w42 at HO_3 HO226 HO229 BK235 HB hx238_0 hx238_1 hx238_2 hHeld ⊢
               refine pure_ (i := 0) (N := some 76) (v := ?_) (a' := ?_) #[true, false, false, false, false, false, false, false, false, false, false, false, false, false, false, false, false, false, false, false, false] rfl rfl (any_of HT_.out (by kernel_rfl)) (fun _ _ _ h => h) (Or.inl ⟨by rfl, ?_⟩) ?_ ?_
               rotate_left
               ·intro w'
                go_simp
                with_reducible rfl
               rotate_left
               ·simp only [Act.put, List.setIfInBounds_toArray, List.set_cons_zero, List.set_cons_succ, i64_w, i32_w]
                rfl
               refine one_ (i := 1) (N := some 77) #[true, true, false, false, false, false, false, false, false, false, false, false, false, false, false, false, false, false, false, false, false] rfl rfl (one_of HT_.out (by kernel_rfl)) (by decide) (fun K hK => ?_)
               refine goes_ Tryz.func9 (by kernel_rfl) rfl #[(errV (.slice Ao43 t227.length co43))] (by rfl) rfl rfl (by (try simp only [List.map_toArray, List.map_cons, List.map_nil]); first | done | rfl | (simp only [List.length_drop, List.length_take]; rfl)) ?_
               with_reducible refine (fail_Code.calls _ _ t227 t236 _ ?side1 ?side2 ?side3 A30.out).mono ?_
               (case side1 => repeat (first | exact (Kd.R_reads' HO229.out).2.2 | (with_reducible refine Kd.C_alloc ?_ _) | (with_reducible refine Kd.C_drewN ?_ _) | (with_reducible refine Kd.C_drew ?_)))
               (case side2 => exact (Kd.R_reads' HO229.out).2.1)
               (case side3 => exact Gl.below HG_.out (by repeat (first | (with_reducible first | exact HB.out | apply below_alloc | apply pw_below_drewN | apply below_drew1 | refine below_set ?_ GE235.out) | exact HB.out)))
               rintro e w44 ⟨rfl, hb⟩
               refine ⟨_, rfl, ?_⟩
               have n0_ := Aside0.mk (Kd.R_below (by (with_reducible repeat (first | apply Kd.R_alloc | apply Kd.R_drewN | apply Kd.R_drew)); exact HO_3.out) hb)
               have n1_ := Aside0.mk (Kd.R_below (by (with_reducible repeat (first | apply Kd.R_alloc | apply Kd.R_drewN | apply Kd.R_drew)); exact HO226.out) hb)
               have n2_ := Aside0.mk (Kd.R_below (by (with_reducible repeat (first | apply Kd.R_alloc | apply Kd.R_drewN | apply Kd.R_drew)); exact HO229.out) hb)
               have n3_ := Aside0.mk (blk_below (g := gb235) (o := .cells #[.string t231, .int .i64 t232, .string t233] 31 (0, 0)) (by (with_reducible repeat (first | refine blk_drewN ?_ _ | refine blk_drew ?_ | refine blk_alloc ?_ _)); exact BK235.out) hb)
               have n4_ := Aside0.mk (below_step (by repeat (first | (with_reducible first | exact HB.out | apply below_alloc | apply pw_below_drewN | apply below_drew1 | refine below_set ?_ GE235.out) | exact HB.out)) hb)
               clear HO_3
               clear HO226
               clear HO229
               clear BK235
               clear HB
               have HO_3 := n0_
               have HO226 := n1_
               have HO229 := n2_
               have BK235 := n3_
               have HB := n4_
               clear n0_ n1_ n2_ n3_ n4_
               (try clear hb)
               (try clear hb2)
               (try clear hk)
               (try clear hi)
               obtain ⟨Ao45, co45, eo45⟩ := Kd.R_slice HO226.out
               (first | subst eo45 | (injection eo45 with f1_ f2_ f3_; have f4_ := f1_.symm; have f5_ := f3_.symm; clear f1_ f2_ f3_; subst f4_; subst f5_))
               refine hK.out _ _ ⟨(blk_cell BK235.out 0).trans rfl, (blk_cell BK235.out 1).trans rfl, (blk_cell BK235.out 2).trans rfl, ((HB.out.cell (World.block_lt_of_cell? w _ hw238_0)).trans hw238_0), ((HB.out.cell (World.block_lt_of_cell? w _ hw238_1)).trans hw238_1), ((HB.out.cell (World.block_lt_of_cell? w _ hw238_2)).trans hw238_2)⟩ (fun hHeld => ?_)
               clear hK K
               refine norm_ (a' := ?_) ?_ ?_
               rotate_left
               ·show Act.put _ (some 77) _ = _
                simp only [Act.put, List.setIfInBounds_toArray, List.set_cons_zero, List.set_cons_succ, i64_w, i32_w]
                rfl
               refine pure_ (i := 2) (N := some 78) (v := ?_) (a' := ?_) #[true, true, true, false, false, false, false, false, false, false, false, false, false, false, false, false, false, false, false, false, false] rfl rfl (any_of HT_.out (by kernel_rfl)) (fun _ _ _ h => h) (Or.inl ⟨by rfl, ?_⟩) ?_ ?_
               rotate_left
               ·intro w'
                go_simp
                with_reducible rfl
               rotate_left
               ·simp only [Act.put, List.setIfInBounds_toArray, List.set_cons_zero, List.set_cons_succ, i64_w, i32_w]
                rfl
               refine pure_ (i := 3) (N := some 79) (v := ?_) (a' := ?_) #[true, true, true, true, false, false, false, false, false, false, false, false, false, false, false, false, false, false, false, false, false] rfl rfl (any_of HT_.out (by kernel_rfl)) (fun _ _ _ h => h) (Or.inl ⟨by rfl, ?_⟩) ?_ ?_
               rotate_left
               ·intro w'
                go_simp
                with_reducible rfl
               rotate_left
               ·simp only [Act.put, List.setIfInBounds_toArray, List.set_cons_zero, List.set_cons_succ, i64_w, i32_w]
                rfl
               refine pure_ (i := 4) (N := some 80) (v := ?_) (a' := ?_) #[true, true, true, true, true, false, false, false, false, false, false, false, false, false, false, false, false, false, false, false, false] rfl rfl (any_of HT_.out (by kernel_rfl)) (fun _ _ _ h => h) (Or.inl ⟨by rfl, ?_⟩) ?_ ?_
               rotate_left
               ·intro w'
                go_simp
                with_reducible rfl
               rotate_left
               ·simp only [Act.put, List.setIfInBounds_toArray, List.set_cons_zero, List.set_cons_succ, i64_w, i32_w]
                rfl
               refine pure_ (i := 5) (N := some 81) (v := ?_) (a' := ?_) #[true, true, true, true, true, true, false, false, false, false, false, false, false, false, false, false, false, false, false, false, false] rfl rfl (any_of HT_.out (by kernel_rfl)) (fun _ _ _ h => h) (Or.inl ⟨by rfl, ?_⟩) ?_ ?_
               rotate_left
               ·intro w'
                go_simp
                with_reducible rfl
               rotate_left
               ·simp only [Act.put, List.setIfInBounds_toArray, List.set_cons_zero, List.set_cons_succ, i64_w, i32_w]
                rfl
               refine one_ (i := 6) (N := some 82) #[true, true, true, true, true, true, true, false, false, false, false, false, false, false, false, false, false, false, false, false, false] rfl rfl (one_of HT_.out (by kernel_rfl)) (by decide) (fun K hK => ?_)
               refine goes_ Tryz.func11 (by kernel_rfl) rfl #[.slice Ao45 t224.length co45, .slice Ao36 x3_2.length co36] (by rfl) rfl rfl (by (try simp only [List.map_toArray, List.map_cons, List.map_nil]); first | done | rfl | (simp only [List.length_drop, List.length_take]; rfl)) ?_
               with_reducible refine (shalelaw09_Same.calls k3 _ _ t224 _ _ x3_2 t237 _ ?side1 ?side2 ?side3 ?side4 A32.out).mono ?_
               (case side1 => repeat (first | exact (Kd.R_reads' HO226.out).2.2 | (with_reducible refine Kd.C_alloc ?_ _) | (with_reducible refine Kd.C_drewN ?_ _) | (with_reducible refine Kd.C_drew ?_)))
               (case side2 => exact (Kd.R_reads' HO226.out).2.1)
               (case side3 => repeat (first | exact (Kd.R_reads' HO_3.out).2.2 | (with_reducible refine Kd.C_alloc ?_ _) | (with_reducible refine Kd.C_drewN ?_ _) | (with_reducible refine Kd.C_drew ?_)))
               (case side4 => exact (Kd.R_reads' HO_3.out).2.1)
               rintro e w' ⟨rfl, ⟨nd, rfl⟩⟩
               refine ⟨_, rfl, ?_⟩
               refine hK.out _ _ ⟨(blk_cell BK235.out 0).trans rfl, (blk_cell BK235.out 1).trans rfl, (blk_cell BK235.out 2).trans rfl, ((HB.out.cell (World.block_lt_of_cell? w _ hw238_0)).trans hw238_0), ((HB.out.cell (World.block_lt_of_cell? w _ hw238_1)).trans hw238_1), ((HB.out.cell (World.block_lt_of_cell? w _ hw238_2)).trans hw238_2)⟩ (fun hHeld => ?_)
               clear hK K
               refine norm_ (a' := ?_) ?_ ?_
               rotate_left
               ·show Act.put _ (some 82) _ = _
                simp only [Act.put, List.setIfInBounds_toArray, List.set_cons_zero, List.set_cons_succ, i64_w, i32_w]
                rfl
               refine pure_ (i := 7) (N := some 83) (v := ?_) (a' := ?_) #[true, true, true, true, true, true, true, true, false, false, false, false, false, false, false, false, false, false, false, false, false] rfl rfl (any_of HT_.out (by kernel_rfl)) (fun _ _ _ h => h) (Or.inl ⟨by rfl, ?_⟩) ?_ ?_
               rotate_left
               ·intro w'
                go_simp
                with_reducible rfl
               rotate_left
               ·simp only [Act.put, List.setIfInBounds_toArray, List.set_cons_zero, List.set_cons_succ, i64_w, i32_w]
                rfl
               refine pure_ (i := 8) (N := some 84) (v := ?_) (a' := ?_) #[true, true, true, true, true, true, true, true, true, false, false, false, false, false, false, false, false, false, false, false, false] rfl rfl (any_of HT_.out (by kernel_rfl)) (fun _ _ _ h => h) (Or.inl ⟨by rfl, ?_⟩) ?_ ?_
               rotate_left
               ·intro w'
                go_simp
                with_reducible rfl
               rotate_left
               ·simp only [Act.put, List.setIfInBounds_toArray, List.set_cons_zero, List.set_cons_succ, i64_w, i32_w]
                rfl
               refine pure_ (i := 9) (N := some 85) (v := ?_) (a' := ?_) #[true, true, true, true, true, true, true, true, true, true, false, false, false, false, false, false, false, false, false, false, false] rfl rfl (any_of HT_.out (by kernel_rfl)) (fun _ _ _ h => h) (Or.inl ⟨by rfl, ?_⟩) ?_ ?_
               rotate_left
               ·intro w'
                go_simp
                with_reducible rfl
               rotate_left
               ·simp only [Act.put, List.setIfInBounds_toArray, List.set_cons_zero, List.set_cons_succ, i64_w, i32_w]
                rfl
               refine pure_ (i := 10) (N := some 86) (v := ?_) (a' := ?_) #[true, true, true, true, true, true, true, true, true, true, true, false, false, false, false, false, false, false, false, false, false] rfl rfl (any_of HT_.out (by kernel_rfl)) (fun _ _ _ h => h) (Or.inl ⟨by rfl, ?_⟩) ?_ ?_
               rotate_left
               ·intro w'
                go_simp
                with_reducible rfl
               rotate_left
               ·simp only [Act.put, List.setIfInBounds_toArray, List.set_cons_zero, List.set_cons_succ, i64_w, i32_w]
                rfl
               refine pure_ (i := 11) (N := some 87) (v := ?_) (a' := ?_) #[true, true, true, true, true, true, true, true, true, true, true, true, false, false, false, false, false, false, false, false, false] rfl rfl (any_of HT_.out (by kernel_rfl)) (fun _ _ _ h => h) (Or.inl ⟨by rfl, ?_⟩) ?_ ?_
               rotate_left
               ·intro w'
                go_simp
                with_reducible rfl
               rotate_left
               ·simp only [Act.put, List.setIfInBounds_toArray, List.set_cons_zero, List.set_cons_succ, i64_w, i32_w]
                rfl
               refine pure_ (i := 12) (N := some 88) (v := ?_) (a' := ?_) #[true, true, true, true, true, true, true, true, true, true, true, true, true, false, false, false, false, false, false, false, false] rfl rfl (any_of HT_.out (by kernel_rfl)) (fun _ _ _ h => h) (Or.inl ⟨by rfl, ?_⟩) ?_ ?_
               rotate_left
               ·intro w'
                go_simp
                with_reducible rfl
               rotate_left
               ·simp only [Act.put, List.setIfInBounds_toArray, List.set_cons_zero, List.set_cons_succ, i64_w, i32_w]
                rfl
               refine pure_ (i := 13) (N := some 89) (v := ?_) (a' := ?_) #[true, true, true, true, true, true, true, true, true, true, true, true, true, true, false, false, false, false, false, false, false] rfl rfl (any_of HT_.out (by kernel_rfl)) (fun _ _ _ h => h) (Or.inl ⟨by rfl, ?_⟩) ?_ ?_
               rotate_left
               ·intro w'
                go_simp
                with_reducible rfl
               rotate_left
               ·simp only [Act.put, List.setIfInBounds_toArray, List.set_cons_zero, List.set_cons_succ, i64_w, i32_w]
                rfl
               refine pure_ (i := 15) (N := some 91) (v := ?_) (a' := ?_) #[true, true, true, true, true, true, true, true, true, true, true, true, true, true, false, true, false, false, false, false, false] rfl rfl (any_of HT_.out (by kernel_rfl)) (fun _ _ _ h => h) (Or.inl ⟨by rfl, ?_⟩) ?_ ?_
               rotate_left
               ·intro w'
                go_simp
                with_reducible rfl
               rotate_left
               ·simp only [Act.put, List.setIfInBounds_toArray, List.set_cons_zero, List.set_cons_succ, i64_w, i32_w]
                rfl
               refine pure_ (i := 16) (N := some 92) (v := ?_) (a' := ?_) #[true, true, true, true, true, true, true, true, true, true, true, true, true, true, false, true, true, false, false, false, false] rfl rfl (any_of HT_.out (by kernel_rfl)) (fun _ _ _ h => h) (Or.inl ⟨by rfl, ?_⟩) ?_ ?_
               rotate_left
               ·intro w'
                go_simp
                with_reducible rfl
               rotate_left
               ·simp only [Act.put, List.setIfInBounds_toArray, List.set_cons_zero, List.set_cons_succ, i64_w, i32_w]
                rfl
               refine pure_ (i := 17) (N := some 93) (v := ?_) (a' := ?_) #[true, true, true, true, true, true, true, true, true, true, true, true, true, true, false, true, true, true, false, false, false] rfl rfl (any_of HT_.out (by kernel_rfl)) (fun _ _ _ h => h) (Or.inl ⟨by rfl, ?_⟩) ?_ ?_
               rotate_left
               ·intro w'
                go_simp
                with_reducible rfl
               rotate_left
               ·simp only [Act.put, List.setIfInBounds_toArray, List.set_cons_zero, List.set_cons_succ, i64_w, i32_w]
                rfl
               refine take_ (i := 14) (N := some 90) (v := ?_) (a' := ?_) #[true, true, true, true, true, true, true, true, true, true, true, true, true, true, true, true, true, true, false, false, false] rfl rfl (take_ofW HT_.out HW_.out (by kernel_rfl)) (fun _ _ _ h => h) (Or.inl ⟨by rfl, ?_⟩) hHeld ?_ ?_
               rotate_left
               ·rintro w' ⟨s0, s1, s2, s3, s4, s5⟩
                go_simp
                with_reducible rfl
               rotate_left
               ·simp only [Act.put, List.setIfInBounds_toArray, List.set_cons_zero, List.set_cons_succ, i64_w, i32_w]
                rfl
               refine take_ (i := 18) (N := some 94) (v := ?_) (a' := ?_) #[true, true, true, true, true, true, true, true, true, true, true, true, true, true, true, true, true, true, true, false, false] rfl rfl (take_ofW HT_.out HW_.out (by kernel_rfl)) (fun _ _ _ h => h) (Or.inl ⟨by rfl, ?_⟩) hHeld ?_ ?_
               rotate_left
               ·rintro w' ⟨s0, s1, s2, s3, s4, s5⟩
                go_simp
                with_reducible rfl
               rotate_left
               ·simp only [Act.put, List.setIfInBounds_toArray, List.set_cons_zero, List.set_cons_succ, i64_w, i32_w]
                rfl
               refine pure_ (i := 19) (N := some 95) (v := ?_) (a' := ?_) #[true, true, true, true, true, true, true, true, true, true, true, true, true, true, true, true, true, true, true, true, false] rfl rfl (any_of HT_.out (by kernel_rfl)) (fun _ _ _ h => h) (Or.inl ⟨by rfl, ?_⟩) ?_ ?_
               rotate_left
               ·intro w'
                go_simp
                with_reducible rfl
               rotate_left
               ·simp only [Act.put, List.setIfInBounds_toArray, List.set_cons_zero, List.set_cons_succ, i64_w, i32_w]
                rfl
               refine pure_ (i := 20) (N := some 96) (v := ?_) (a' := ?_) #[true, true, true, true, true, true, true, true, true, true, true, true, true, true, true, true, true, true, true, true, true] rfl rfl (any_of HT_.out (by kernel_rfl)) (fun _ _ _ h => h) (Or.inl ⟨by rfl, ?_⟩) ?_ ?_
               rotate_left
               ·intro w'
                go_simp
                with_reducible rfl
               rotate_left
               ·simp only [Act.put, List.setIfInBounds_toArray, List.set_cons_zero, List.set_cons_succ, i64_w, i32_w]
                rfl
               refine done_ (done_of HT_.out (by kernel_rfl)) ?_
               try go_wp2
               go_roundg k3
               case measure => have := HJ1.out; have := HK2.out; have := HK3.out; omega
               case rel => exact ⟨(wrap64 (x7_3 + 1)), (by first | rfl | (simp; done) | (simp [*]; done)), H', ⟨by have := HJ1.out; have := HK2.out; have := HK3.out; omega⟩, ⟨by (with_reducible repeat (first | apply Kd.R_alloc | apply Kd.R_drewN | apply Kd.R_drew)); exact Kd.R_mono HO_3.out (fun _ hk => trivial)⟩, ⟨by repeat (first | (with_reducible first | exact HB.out | apply below_alloc | apply pw_below_drewN | apply below_drew1 | refine below_set ?_ GE235.out) | exact HB.out)⟩⟩
             ·replace c34 := Bool.eq_false_iff.mpr c34
              subst c34
              have H1 : (some false) = some r := by rw [if_neg (show ¬ (false = true) by decide)] at H; exact H
              clear H
              have H := H1
              clear H1
              exact Bool.noConfusion ((Option.some.inj H).trans HRR_.out)
           ·rw [if_neg c31] at H
            have c31b0 : (t236 == 0) = false := beq_eq_false_iff_ne.mpr c31
            have c31b1 : (t236 != 0) = true := bne_iff_ne.mpr c31
            exact Bool.noConfusion ((Option.some.inj H).trans HRR_.out)
          ·rw [if_neg c27] at H
           exact absurd H (by simp)
         ·rw [if_neg c26] at H
          have c26b0 : decide (x7_3 < (l0.length : Int)) = false := decide_eq_false c26
          clear c26
          replace H := Option.bind_eq_some_iff.mp H
          obtain ⟨t222, A460, H⟩ := H
          replace H : (some (t222 == 1)) = some r := H
          have A46 := Aside0.mk A460
          clear A460
          obtain rfl := Option.some.inj H
          obtain ⟨Ao47, co47, eo47⟩ := Kd.R_slice HO_3.out
          subst eo47
          go_wp2_with (first | ((with_reducible refine gate_callee (f := 11) rfl ?_); refine goesL_ (some 99) rfl rfl Tryz.func11 (by kernel_rfl) rfl #[.slice Ao47 x3_2.length co47, .slice A0 l0.length c0] rfl (by (try simp only [List.map_toArray, List.map_cons, List.map_nil]); first | done | rfl | (simp only [List.length_drop, List.length_take]; rfl)) ?_; (with_reducible refine (shalelaw09_Same.calls k3 _ _ x3_2 _ _ l0 t222 _ ?side1 ?side2 ?side3 ?side4 A46.out).mono ?_); (case side1 => repeat (first | exact (Kd.R_reads' HO_3.out).2.2 | (with_reducible refine Kd.C_alloc ?_ _) | (with_reducible refine Kd.C_drewN ?_ _) | (with_reducible refine Kd.C_drew ?_))); (case side2 => exact (Kd.R_reads' HO_3.out).2.1); (case side3 => repeat (first | exact (Kd.C_below HR0.out HB.out) | (with_reducible refine Kd.C_alloc ?_ _) | (with_reducible refine Kd.C_drewN ?_ _) | (with_reducible refine Kd.C_drew ?_))); (case side4 => exact HC0.out); rintro e w' ⟨rfl, ⟨nd, rfl⟩⟩; refine ⟨_, rfl, ?_⟩))
          go_ret
          exact ⟨by first | rfl | (simp [errW_none, errW_some] <;> rfl) | (simp [*, errW_none, errW_some] <;> rfl), by repeat (first | (with_reducible first | exact HB.out | apply below_alloc | apply pw_below_drewN | apply below_drew1) | exact HB.out)⟩

end Go.Proofs.YtneemcgpgjfhoaaGreatDoor.Print
