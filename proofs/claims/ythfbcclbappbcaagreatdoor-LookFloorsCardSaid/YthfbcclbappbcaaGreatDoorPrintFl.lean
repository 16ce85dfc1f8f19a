import Derived.Test.YthfbcclbappbcaaGreatDoorPrint0
import Derived.Test.YthfbcclbappbcaaGreatDoorPrint1
import Derived.Test.YthfbcclbappbcaaGreatDoorPrint9
import Derived.Test.YthfbcclbappbcaaGreatDoorPrintKi
import Derived.Test.YthfbcclbappbcaaGreatDoorPrintOv
namespace Go.Proofs.YthfbcclbappbcaaGreatDoor.Print
open Go.RowKit Go.Proofs.YthfbcclbappbcaaGreatDoorW.PrintWords Go.Proofs.YthfbcclbappbcaaGreatDoorW.PrintLast Go.Proofs.YthfbcclbappbcaaGreatDoorW.PrintMore
attribute [local go_sem] max2_int min2_int max_two min_two max_three min_three max_four min_four   -- for this text's walks alone
set_option linter.unusedVariables false
set_option linter.unusedSimpArgs false
mutual
def z14.l0 : Nat → List (List (S26)) → ByteArray → Int → Int → Option (Int)
 | 0, _, _, _, _ => none
 | k + 1, x0, x1, x5, x6 => if x6 ≤ (x0.length : Int) then (z14.l1 k x0 x1 x5 x6 0) else (some x5)
def z14.l1 : Nat → List (List (S26)) → ByteArray → Int → Int → Int → Option (Int)
 | 0, _, _, _, _, _ => none
 | k + 1, x0, x1, x5, x6, x7 => if 0 ≤ (wrap64 (x6 - 1)) then (if (wrap64 (x6 - 1)) < (x0.length : Int) then (if x7 < ((rd_L4 x0 (wrap64 (x6 - 1))).length : Int) then (if 0 ≤ x7 then (if ((rd_T26 (rd_L4 x0 (wrap64 (x6 - 1))) x7).f0).toList = x1.toList then (if (wrap64 (x6 - 1)) ≤ (x0.length : Int) then ((z12.f k (x0.take ((wrap64 (x6 - 1)) : Int).toNat)).bind fun t484 => ((z22.f k t484 x1).bind fun bt487 => (if ((rd_T26 (rd_L4 x0 (wrap64 (x6 - 1))) x7).f1) = 4 then (z14.l1 k x0 x1 (mx x5 (wrap64 (x6 - 1))) x6 (wrap64 (x7 + 1))) else (if ((rd_T26 (rd_L4 x0 (wrap64 (x6 - 1))) x7).f1) = 2 then (if bt487.2 = 0 then (if bt487.1 = 2 then (z14.l1 k x0 x1 x5 x6 (wrap64 (x7 + 1))) else (z14.l1 k x0 x1 (mx x5 (wrap64 (x6 - 1))) x6 (wrap64 (x7 + 1)))) else (z14.l1 k x0 x1 (mx x5 (wrap64 (x6 - 1))) x6 (wrap64 (x7 + 1)))) else (z14.l1 k x0 x1 x5 x6 (wrap64 (x7 + 1))))))) else (none)) else (z14.l1 k x0 x1 x5 x6 (wrap64 (x7 + 1)))) else (none)) else (z14.l0 k x0 x1 x5 (wrap64 (x6 + 1)))) else (none)) else (none)
def z14.f : Nat → List (List (S26)) → ByteArray → Option (Int)
 | 0, _, _ => none
 | k + 1, l0, a1 => if a1.toList = ([47] : List UInt8) then (some 0) else ((z2.f k a1).bind fun t474 => ((z14.f k l0 t474).bind fun t475 => (z14.l0 k l0 a1 t475 1)))
end
theorem z14.mono_l : ∀ k, (∀ y0 y1, LeO (z14.f k y0 y1) (z14.f (k + 1) y0 y1)) ∧ (∀ y0 y1 y2 y3, LeO (z14.l0 k y0 y1 y2 y3) (z14.l0 (k + 1) y0 y1 y2 y3)) ∧ (∀ y0 y1 y2 y3 y4, LeO (z14.l1 k y0 y1 y2 y3 y4) (z14.l1 (k + 1) y0 y1 y2 y3 y4))
 | 0 => ⟨fun _ _ r h => by simp [z14.f] at h, fun _ _ _ _ r h => by simp [z14.l0] at h, fun _ _ _ _ _ r h => by simp [z14.l1] at h⟩
 | k + 1 => by
  obtain ⟨ih0, ih1, ih2⟩ := z14.mono_l k
  refine ⟨?_, ?_, ?_⟩
  ·intro y0 y1
   unfold z14.f
   repeat' first
   | (with_reducible exact ih0 _ _)
   | (with_reducible exact ih1 _ _ _ _)
   | (with_reducible exact ih2 _ _ _ _ _)
   | (with_reducible exact z2.mono _ _)
   | (with_reducible exact z12.mono _ _)
   | (with_reducible exact z22.mono _ _ _)
   | (with_reducible exact LeO.refl _)
   | (with_reducible exact LeO.none _)
   | (with_reducible refine LeO.ite ?_ ?_)
   | (with_reducible refine LeO.bind ?_ (fun _ => ?_))
   | exact ih0 _ _
   | exact ih1 _ _ _ _
   | exact ih2 _ _ _ _ _
   | exact z2.mono _ _
   | exact z12.mono _ _
   | exact z22.mono _ _ _
   | exact LeO.none _
   | refine LeO.ite ?_ ?_
   | refine LeO.bind ?_ (fun _ => ?_)
  ·intro y0 y1 y2 y3
   unfold z14.l0
   repeat' first
   | (with_reducible exact ih0 _ _)
   | (with_reducible exact ih1 _ _ _ _)
   | (with_reducible exact ih2 _ _ _ _ _)
   | (with_reducible exact z2.mono _ _)
   | (with_reducible exact z12.mono _ _)
   | (with_reducible exact z22.mono _ _ _)
   | (with_reducible exact LeO.refl _)
   | (with_reducible exact LeO.none _)
   | (with_reducible refine LeO.ite ?_ ?_)
   | (with_reducible refine LeO.bind ?_ (fun _ => ?_))
   | exact ih0 _ _
   | exact ih1 _ _ _ _
   | exact ih2 _ _ _ _ _
   | exact z2.mono _ _
   | exact z12.mono _ _
   | exact z22.mono _ _ _
   | exact LeO.none _
   | refine LeO.ite ?_ ?_
   | refine LeO.bind ?_ (fun _ => ?_)
  ·intro y0 y1 y2 y3 y4
   unfold z14.l1
   repeat' first
   | (with_reducible exact ih0 _ _)
   | (with_reducible exact ih1 _ _ _ _)
   | (with_reducible exact ih2 _ _ _ _ _)
   | (with_reducible exact z2.mono _ _)
   | (with_reducible exact z12.mono _ _)
   | (with_reducible exact z22.mono _ _ _)
   | (with_reducible exact LeO.refl _)
   | (with_reducible exact LeO.none _)
   | (with_reducible refine LeO.ite ?_ ?_)
   | (with_reducible refine LeO.bind ?_ (fun _ => ?_))
   | exact ih0 _ _
   | exact ih1 _ _ _ _
   | exact ih2 _ _ _ _ _
   | exact z2.mono _ _
   | exact z12.mono _ _
   | exact z22.mono _ _ _
   | exact LeO.none _
   | refine LeO.ite ?_ ?_
   | refine LeO.bind ?_ (fun _ => ?_)
theorem z14.mono : ∀ a0 a1 k, LeO (z14.f k a0 a1) (z14.f (k + 1) a0 a1) := by
 intro a0 a1 k
 obtain ⟨ih0, ih1, ih2⟩ := z14.mono_l k
 exact ih0 a0 a1
set_option maxHeartbeats 8000000 in
set_option maxRecDepth 100000 in
theorem z14.calls (k : Nat) : ∀ (A0 : Option Addr) (c0 : Nat) (l0 : List (List (S26))) (a1 : ByteArray) (r : Int) (w : World) (hr0 : Kd.C (Kd.slice 26 k26) w A0 l0.length l0) (hc0 : l0.length ≤ c0) (h : z14.f k l0 a1 = some r),
  Calls Tryz.prog 27 #[.slice A0 l0.length c0, .string a1] w fun e w' => e = .returned (.int .i64 r) ∧ Below w.heap.size w w' := by
 induction k using Nat.strongRecOn with
 | _ k ih =>
 intro A0 c0 l0 a1 r w hr0 hc0 h
 cases k with
 | zero => exact absurd h (by simp [z14.f])
 | succ k =>
 simp only [z14.f] at h
 have hu26 := Tryz.underlying26
 have HR0 := Aside0.mk hr0
 have HC0 := Aside0.mk hc0
 clear hr0 hc0
 have HB := Aside0.mk (Below.refl w.heap.size w)
 have H : (if a1.toList = ([47] : List UInt8) then (some 0) else ((z2.f k a1).bind fun t474 => ((z14.f k l0 t474).bind fun t475 => (z14.l0 k l0 a1 t475 1)))) = some r := h
 clear h
 by_cases c3 : a1.toList = ([47] : List UInt8)
 ·rw [if_pos c3] at H
  have c3b0 : (a1.toList == ([47] : List UInt8)) = true := beq_iff_eq.mpr c3
  have c3b1 : (a1.toList != ([47] : List UInt8)) = false := bne_eq_false_iff_eq.mpr c3
  clear c3
  obtain rfl := Option.some.inj H
  go_enter Tryz.func27, Tryz.ntmps27
  go_wp2
  go_ret
  exact ⟨by first | rfl | (simp [qn, qe] <;> rfl) | (simp [*, qn, qe] <;> rfl), by repeat (first | (with_reducible first | exact HB.out | apply qA | apply qN | apply qD) | exact HB.out)⟩
 ·rw [if_neg c3] at H
  have c3b0 : (a1.toList == ([47] : List UInt8)) = false := beq_eq_false_iff_ne.mpr c3
  have c3b1 : (a1.toList != ([47] : List UInt8)) = true := bne_iff_ne.mpr c3
  replace H := Option.bind_eq_some_iff.mp H
  obtain ⟨t474, A40, H⟩ := H
  replace H : ((z14.f k l0 t474).bind fun t475 => (z14.l0 k l0 a1 t475 1)) = some r := H
  have A4 := Aside0.mk A40
  clear A40
  replace H := Option.bind_eq_some_iff.mp H
  obtain ⟨t475, A50, H⟩ := H
  replace H : (z14.l0 k l0 a1 t475 1) = some r := H
  have A5 := Aside0.mk A50
  clear A50
  have H' := Aside0.mk H
  clear H
  go_enter Tryz.func27, Tryz.ntmps27
  go_wp2_with (first | ((with_reducible refine qg (f := 45) rfl ?_); refine goesL_ (some 15) rfl rfl Tryz.func45 (by kernel_rfl) rfl #[.string a1] rfl (by (try simp only [List.map_toArray, List.map_cons, List.map_nil]); first | done | rfl | (simp only [List.length_drop, List.length_take]; rfl)) ?_; (with_reducible refine (z2.calls k a1 t474 _ A4.out).mono ?_); rintro e w6 ⟨rfl, hb⟩; refine ⟨_, rfl, ?_⟩; have n0_ := Aside0.mk (qT (by repeat (first | (with_reducible first | exact HB.out | apply qA | apply qN | apply qD) | exact HB.out)) hb); clear HB; have HB := n0_; clear n0_; (try clear hb); (try clear hb2); (try clear hk); (try clear hi)) | ((with_reducible refine qg (f := 27) rfl ?_); refine goesL_ (some 16) rfl rfl Tryz.func27 (by kernel_rfl) rfl #[.slice A0 l0.length c0, .string t474] rfl (by (try simp only [List.map_toArray, List.map_cons, List.map_nil]); first | done | rfl | (simp only [List.length_drop, List.length_take]; rfl)) ?_; (with_reducible refine (ih k (by omega) _ _ l0 t474 t475 _ ?side1 ?side2 A5.out).mono ?_); (case side1 => repeat (first | exact (Kd.C_below HR0.out HB.out) | (with_reducible refine Kd.C_alloc ?_ _) | (with_reducible refine Kd.C_drewN ?_ _) | (with_reducible refine Kd.C_drew ?_))); (case side2 => exact HC0.out); rintro e w7 ⟨rfl, hb⟩; refine ⟨_, rfl, ?_⟩; have n0_ := Aside0.mk (qT (by repeat (first | (with_reducible first | exact HB.out | apply qA | apply qN | apply qD) | exact HB.out)) hb); clear HB; have HB := n0_; clear n0_; (try clear hb); (try clear hb2); (try clear hk); (try clear hi)))
  go_loopg [5, 6] k (fun kq v5 v6 w' => ∃ (x5_1 : Int) (x6_1 : Int), v5 = .int .i64 x5_1 ∧ v6 = .int .i64 x6_1 ∧ Aside0 (z14.l0 kq l0 a1 x5_1 x6_1 = some r) ∧ Aside0 (kq ≤ k) ∧ Aside0 (Below w.heap.size w w'))
  case atStart => exact ⟨(t475), (1), (by first | rfl | (simp; done) | (simp [*]; done)), (by first | rfl | (simp; done) | (simp [*]; done)), H', ⟨Nat.le_refl _⟩, ⟨by repeat (first | (with_reducible first | exact HB.out | apply qA | apply qN | apply qD) | exact HB.out)⟩⟩
  case round =>
   clear H'
   try clear c2
   try clear p2
   try clear c3
   try clear c3b0
   try clear c3b1
   try clear c4
   obtain ⟨x5_1, x6_1, rfl, rfl, HA, HK1, HB⟩ := hrel
   cases gk with
   | zero => exact absurd HA.out (by simp [z14.l0])
   | succ k1 =>
    have H := HA.out
    clear HA
    simp only [z14.l0] at H
    by_cases c8 : x6_1 ≤ (l0.length : Int)
    ·rw [if_pos c8] at H
     have c8b0 : decide (x6_1 ≤ (l0.length : Int)) = true := decide_eq_true c8
     clear c8
     have H' := Aside0.mk H
     clear H
     go_wp2
     go_loopg [5, 7] k1 (fun kq v5 v7 w' => ∃ (x5_2 : Int) (x7_2 : Int), v5 = .int .i64 x5_2 ∧ v7 = .int .i64 x7_2 ∧ Aside0 (z14.l1 kq l0 a1 x5_2 x6_1 x7_2 = some r) ∧ Aside0 (kq ≤ k1) ∧ Aside0 (Below w.heap.size w w'))
     case atStart => exact ⟨(x5_1), (0), (by first | rfl | (simp; done) | (simp [*]; done)), (by first | rfl | (simp; done) | (simp [*]; done)), H', ⟨Nat.le_refl _⟩, ⟨by repeat (first | (with_reducible first | exact HB.out | apply qA | apply qN | apply qD) | exact HB.out)⟩⟩
     case round =>
      clear H'
      try clear c2
      try clear p2
      try clear c3
      try clear c3b0
      try clear c3b1
      try clear c4
      try clear c8
      try clear c8b0
      try clear p2
      obtain ⟨x5_2, x7_2, rfl, rfl, HA, HK2, HB⟩ := hrel
      cases gk with
      | zero => exact absurd HA.out (by simp [z14.l1])
      | succ k2 =>
       have H := HA.out
       clear HA
       simp only [z14.l1] at H
       obtain ⟨ji9, hji9⟩ : ∃ j_ : Int, (wrap64 (x6_1 - 1)) = j_ := ⟨_, rfl⟩
       replace H : (if 0 ≤ (ji9) then (if (ji9) < (l0.length : Int) then (if x7_2 < ((rd_L4 l0 (ji9)).length : Int) then (if 0 ≤ x7_2 then (if ((rd_T26 (rd_L4 l0 (ji9)) x7_2).f0).toList = a1.toList then (if (ji9) ≤ (l0.length : Int) then ((z12.f k2 (l0.take ((ji9) : Int).toNat)).bind fun t484 => ((z22.f k2 t484 a1).bind fun bt487 => (if ((rd_T26 (rd_L4 l0 (ji9)) x7_2).f1) = 4 then (z14.l1 k2 l0 a1 (mx x5_2 (ji9)) x6_1 (wrap64 (x7_2 + 1))) else (if ((rd_T26 (rd_L4 l0 (ji9)) x7_2).f1) = 2 then (if bt487.2 = 0 then (if bt487.1 = 2 then (z14.l1 k2 l0 a1 x5_2 x6_1 (wrap64 (x7_2 + 1))) else (z14.l1 k2 l0 a1 (mx x5_2 (ji9)) x6_1 (wrap64 (x7_2 + 1)))) else (z14.l1 k2 l0 a1 (mx x5_2 (ji9)) x6_1 (wrap64 (x7_2 + 1)))) else (z14.l1 k2 l0 a1 x5_2 x6_1 (wrap64 (x7_2 + 1))))))) else (none)) else (z14.l1 k2 l0 a1 x5_2 x6_1 (wrap64 (x7_2 + 1)))) else (none)) else (z14.l0 k2 l0 a1 x5_2 (wrap64 (x6_1 + 1)))) else (none)) else (none)) = some r := by first | (rw [hji9] at H; exact H) | (simp only [hji9] at H ⊢; exact H)
       have hji9w : (IntKind.i64.wrap (x6_1 - 1)) = ji9 := (i64_w _).trans hji9
       by_cases c10 : 0 ≤ (ji9)
       ·rw [if_pos c10] at H
        have c10b0 : decide (0 ≤ (ji9)) = true := decide_eq_true c10
        clear c10
        by_cases c11 : (ji9) < (l0.length : Int)
        ·rw [if_pos c11] at H
         have c11b0 : decide ((ji9) < (l0.length : Int)) = true := decide_eq_true c11
         clear c11
         by_cases c12 : x7_2 < ((rd_L4 l0 (ji9)).length : Int)
         ·rw [if_pos c12] at H
          have c12b0 : decide (x7_2 < ((rd_L4 l0 (ji9)).length : Int)) = true := decide_eq_true c12
          clear c12
          by_cases c13 : 0 ≤ x7_2
          ·rw [if_pos c13] at H
           have c13b0 : decide (0 ≤ x7_2) = true := decide_eq_true c13
           clear c13
           by_cases c14 : ((rd_T26 (rd_L4 l0 (ji9)) x7_2).f0).toList = a1.toList
           ·rw [if_pos c14] at H
            have c14b0 : (((rd_T26 (rd_L4 l0 (ji9)) x7_2).f0).toList == a1.toList) = true := beq_iff_eq.mpr c14
            have c14b1 : (((rd_T26 (rd_L4 l0 (ji9)) x7_2).f0).toList != a1.toList) = false := bne_eq_false_iff_eq.mpr c14
            clear c14
            have c15b0 := eq_true (of_decide_eq_true (by first | (with_reducible assumption) | assumption) : 0 ≤ (ji9))
            by_cases c16 : (ji9) ≤ (l0.length : Int)
            ·rw [if_pos c16] at H
             have c16b0 := eq_true c16
             have c16b1 : decide ((ji9) ≤ (l0.length : Int)) = true := decide_eq_true c16
             clear c16
             obtain ⟨y480, hy480⟩ : ∃ y_ : List (List (S26)), y_ = (l0.take ((ji9) : Int).toNat) := ⟨_, rfl⟩
             replace H : ((z12.f k2 y480).bind fun t484 => ((z22.f k2 t484 a1).bind fun bt487 => (if ((rd_T26 (rd_L4 l0 (ji9)) x7_2).f1) = 4 then (z14.l1 k2 l0 a1 (mx x5_2 (ji9)) x6_1 (wrap64 (x7_2 + 1))) else (if ((rd_T26 (rd_L4 l0 (ji9)) x7_2).f1) = 2 then (if bt487.2 = 0 then (if bt487.1 = 2 then (z14.l1 k2 l0 a1 x5_2 x6_1 (wrap64 (x7_2 + 1))) else (z14.l1 k2 l0 a1 (mx x5_2 (ji9)) x6_1 (wrap64 (x7_2 + 1)))) else (z14.l1 k2 l0 a1 (mx x5_2 (ji9)) x6_1 (wrap64 (x7_2 + 1)))) else (z14.l1 k2 l0 a1 x5_2 x6_1 (wrap64 (x7_2 + 1))))))) = some r := by first | (rw [hy480]; with_reducible exact H) | (have H2_ := (Option.bind_some _ _).symm.trans H; rw [hy480]; with_reducible exact H2_) | (have H2_ := (Option.bind_some _ _).symm.trans H; with_reducible exact H2_) | with_reducible exact H | (rw [hy480]; exact H) | exact H
             have Ny480 := Aside0.mk hy480
             clear hy480
             replace H := Option.bind_eq_some_iff.mp H
             obtain ⟨t484, A170, H⟩ := H
             replace H : ((z22.f k2 t484 a1).bind fun bt487 => (if ((rd_T26 (rd_L4 l0 (ji9)) x7_2).f1) = 4 then (z14.l1 k2 l0 a1 (mx x5_2 (ji9)) x6_1 (wrap64 (x7_2 + 1))) else (if ((rd_T26 (rd_L4 l0 (ji9)) x7_2).f1) = 2 then (if bt487.2 = 0 then (if bt487.1 = 2 then (z14.l1 k2 l0 a1 x5_2 x6_1 (wrap64 (x7_2 + 1))) else (z14.l1 k2 l0 a1 (mx x5_2 (ji9)) x6_1 (wrap64 (x7_2 + 1)))) else (z14.l1 k2 l0 a1 (mx x5_2 (ji9)) x6_1 (wrap64 (x7_2 + 1)))) else (z14.l1 k2 l0 a1 x5_2 x6_1 (wrap64 (x7_2 + 1)))))) = some r := H
             have A17 := Aside0.mk A170
             clear A170
             replace H := Option.bind_eq_some_iff.mp H
             obtain ⟨⟨t487, t488⟩, A180, H⟩ := H
             replace H : (if ((rd_T26 (rd_L4 l0 (ji9)) x7_2).f1) = 4 then (z14.l1 k2 l0 a1 (mx x5_2 (ji9)) x6_1 (wrap64 (x7_2 + 1))) else (if ((rd_T26 (rd_L4 l0 (ji9)) x7_2).f1) = 2 then (if t488 = 0 then (if t487 = 2 then (z14.l1 k2 l0 a1 x5_2 x6_1 (wrap64 (x7_2 + 1))) else (z14.l1 k2 l0 a1 (mx x5_2 (ji9)) x6_1 (wrap64 (x7_2 + 1)))) else (z14.l1 k2 l0 a1 (mx x5_2 (ji9)) x6_1 (wrap64 (x7_2 + 1)))) else (z14.l1 k2 l0 a1 x5_2 x6_1 (wrap64 (x7_2 + 1))))) = some r := H
             have A18 := Aside0.mk A180
             clear A180
             by_cases c19 : ((rd_T26 (rd_L4 l0 (ji9)) x7_2).f1) = 4
             ·rw [if_pos c19] at H
              have c19b0 : (((rd_T26 (rd_L4 l0 (ji9)) x7_2).f1) == 4) = true := beq_iff_eq.mpr c19
              have c19b1 : (((rd_T26 (rd_L4 l0 (ji9)) x7_2).f1) != 4) = false := bne_eq_false_iff_eq.mpr c19
              clear c19
              obtain ⟨ji20, hji20⟩ : ∃ j_ : Int, (mx x5_2 (ji9)) = j_ := ⟨_, rfl⟩
              replace H : (z14.l1 k2 l0 a1 ji20 x6_1 (wrap64 (x7_2 + 1))) = some r := by first | (rw [hji20] at H; exact H) | (simp only [hji20] at H ⊢; exact H)
              (try rw [hji20] at A17)
              (try rw [hji20] at A18)
              have hji20_ : (if x5_2 < (ji9) then (ji9) else x5_2) = ji20 := hji20
              have H' := Aside0.mk H
              clear H
              have p476 : 0 ≤ ((ji9) : Int) := of_decide_eq_true (by first | (with_reducible assumption) | assumption)
              have q476 : (ji9) < (l0.length : Int) := of_decide_eq_true (by first | (with_reducible assumption) | assumption)
              obtain ⟨ad476, A476_0, c476_0, e476, hx476_0, hl476_0, hi476_0⟩ := at_L4 HR0.out (ji9) p476 q476
              cases e476
              replace hx476_0 := (HB.out.cell (World.block_lt_of_cell? w _ hx476_0)).trans hx476_0
              have HR476_0 := Aside0.mk hi476_0
              have HC476_0 := Aside0.mk hl476_0
              clear hi476_0 hl476_0
              replace p476 := eq_true p476
              replace q476 := eq_true q476
              have p477 : 0 ≤ ((ji9) : Int) := of_decide_eq_true (by first | (with_reducible assumption) | assumption)
              have q477 : (ji9) < (l0.length : Int) := of_decide_eq_true (by first | (with_reducible assumption) | assumption)
              obtain ⟨ad477, A477_0, c477_0, e477, hx477_0, hl477_0, hi477_0⟩ := at_L4 HR0.out (ji9) p477 q477
              obtain rfl : ad476 = ad477 := (by injection e477)
              replace hx477_0 := (HB.out.cell (World.block_lt_of_cell? w _ hx477_0)).trans hx477_0
              have HR477_0 := Aside0.mk hi477_0
              have HC477_0 := Aside0.mk hl477_0
              clear hi477_0 hl477_0
              replace p477 := eq_true p477
              replace q477 := eq_true q477
              have ea_ := Option.some.inj (hx476_0.symm.trans hx477_0)
              injection ea_ with ea_ en_ ec_
              subst ea_
              subst ec_
              clear en_
              have p478 : 0 ≤ (x7_2 : Int) := of_decide_eq_true (by first | (with_reducible assumption) | assumption)
              have q478 : x7_2 < ((rd_L4 l0 (ji9)).length : Int) := of_decide_eq_true (by first | (with_reducible assumption) | assumption)
              obtain ⟨ad478, e478, hx478_0, hx478_1, hx478_2⟩ := at_T26 HR477_0.out x7_2 p478 q478
              cases e478
              replace hx478_0 := (HB.out.cell (World.block_lt_of_cell? w _ hx478_0)).trans hx478_0
              replace hx478_1 := (HB.out.cell (World.block_lt_of_cell? w _ hx478_1)).trans hx478_1
              replace hx478_2 := (HB.out.cell (World.block_lt_of_cell? w _ hx478_2)).trans hx478_2
              replace p478 := eq_true p478
              replace q478 := eq_true q478
              go_wp2_with (first | ((with_reducible refine qd (N := 8) rfl ?_); refine qx ?hg (N := 8) ?hd (cs := #[.string (⟨#[]⟩ : ByteArray), .int .i64 0, .string (⟨#[]⟩ : ByteArray)]) (t := 26) ?hr ?_; (case hd => rfl); (case hg => rfl); (case hr => first | (go_simp; done) | (go_simp; rfl)); intro gb479 hg w21 hbox hb; have n0_ := Aside0.mk (qT (by repeat (first | (with_reducible first | exact HB.out | apply qA | apply qN | apply qD) | exact HB.out)) hb); have n1_ := Aside0.mk (hbox); have n2_ := Aside0.mk ((by rw [hg]; exact (qZ (by repeat (first | (with_reducible first | exact HB.out | apply qA | apply qN | apply qD) | exact HB.out))) : w.heap.size ≤ gb479)); have n3_ := Aside0.mk ((by rw [hg]; exact (qZ (by repeat (first | (with_reducible first | exact HB.out | apply qA | apply qN | apply qD) | exact HB.out))) : w.heap.size ≤ gb479)); clear HB; have HB := n0_; have BK479 := n1_; have GW479 := n2_; have GE479 := n3_; clear n0_ n1_ n2_ n3_; clear hb hbox hg; have hcz22_0 : w21.cell? ⟨gb479, 0, none⟩ = some (.string (⟨#[]⟩ : ByteArray)) := (qC BK479.out 0).trans rfl; have hcz22_1 : w21.cell? ⟨gb479, 1, none⟩ = some (.int .i64 0) := (qC BK479.out 1).trans rfl; have hcz22_2 : w21.cell? ⟨gb479, 2, none⟩ = some (.string (⟨#[]⟩ : ByteArray)) := (qC BK479.out 2).trans rfl; have hfz22_0 := qF BK479.out 0; have hfz22_1 := qF BK479.out 1; have hfz22_2 := qF BK479.out 2) | ((with_reducible refine gate_store (t := 26) (p := 8) rfl ?_); refine store_event (t := 26) (p := 8) (v := ?vo_w23) (w1 := (((w21.setCell ⟨gb479, 0, none⟩ (.string ((rd_T26 (rd_L4 l0 (ji9)) x7_2).f0))).setCell ⟨gb479, 1, none⟩ (.int .i64 ((rd_T26 (rd_L4 l0 (ji9)) x7_2).f1))).setCell ⟨gb479, 2, none⟩ (.string ((rd_T26 (rd_L4 l0 (ji9)) x7_2).f2)))) ?hg ?ho ?hn ?hr ?_; (case ho => rfl); (case hg => rfl); (case hn => rfl); (case hr => first | (go_simp; done) | (go_simp; rfl)); intro w23 hw; have n0_ : Aside0 (w23.heap[gb479]? = some (.cells #[.string ((rd_T26 (rd_L4 l0 (ji9)) x7_2).f0), .int .i64 ((rd_T26 (rd_L4 l0 (ji9)) x7_2).f1), .string ((rd_T26 (rd_L4 l0 (ji9)) x7_2).f2)] 26 (0, 0))) := ⟨(by rw [hw]; exact (by (with_reducible repeat (first | refine qM ?_ _ | refine qW ?_ | refine qL ?_ _)); refine qu (cs := #[.string ((rd_T26 (rd_L4 l0 (ji9)) x7_2).f0), .int .i64 ((rd_T26 (rd_L4 l0 (ji9)) x7_2).f1), .string (⟨#[]⟩ : ByteArray)]) ?_ 2 _ rfl; (with_reducible repeat (first | refine qM ?_ _ | refine qW ?_ | refine qL ?_ _)); refine qu (cs := #[.string ((rd_T26 (rd_L4 l0 (ji9)) x7_2).f0), .int .i64 0, .string (⟨#[]⟩ : ByteArray)]) ?_ 1 _ rfl; (with_reducible repeat (first | refine qM ?_ _ | refine qW ?_ | refine qL ?_ _)); refine qu (cs := #[.string (⟨#[]⟩ : ByteArray), .int .i64 0, .string (⟨#[]⟩ : ByteArray)]) ?_ 0 _ rfl; (with_reducible repeat (first | refine qM ?_ _ | refine qW ?_ | refine qL ?_ _)); exact BK479.out))⟩; have n1_ : Aside0 (Below w.heap.size w w23) := ⟨(by rw [hw]; exact (by repeat (first | (with_reducible first | exact HB.out | apply qA | apply qN | apply qD | refine qS ?_ GE479.out) | exact HB.out)))⟩; clear hw; clear BK479; clear HB; have BK479 := n0_; have HB := n1_; clear n0_ n1_; have hcz24_0 : w23.cell? ⟨gb479, 0, none⟩ = some (.string ((rd_T26 (rd_L4 l0 (ji9)) x7_2).f0)) := (qC BK479.out 0).trans rfl; have hcz24_1 : w23.cell? ⟨gb479, 1, none⟩ = some (.int .i64 ((rd_T26 (rd_L4 l0 (ji9)) x7_2).f1)) := (qC BK479.out 1).trans rfl; have hcz24_2 : w23.cell? ⟨gb479, 2, none⟩ = some (.string ((rd_T26 (rd_L4 l0 (ji9)) x7_2).f2)) := (qC BK479.out 2).trans rfl; have hfz24_0 := qF BK479.out 0; have hfz24_1 := qF BK479.out 1; have hfz24_2 := qF BK479.out 2; have q25 : ((ji9) : Int) ≤ ((l0.length : Int) : Int) := of_decide_eq_true (by first | (with_reducible assumption) | assumption); obtain ⟨i025, hi025, _, hsz25, _⟩ := info_parts info27; have hroom25 : l0.length ≤ c0 := HC0.out; have hC25 : Kd.C (Kd.slice 26 k26) _ (some ad476) l0.length l0 := HR0.out; have hcut25 := cut_to (P := Tryz.prog) 22 27 .i64 Tryz.underlying22 hi025 (some ad476) l0.length c0 (ji9) (of_decide_eq_true (by first | (with_reducible assumption) | assumption)) q25 hroom25; have hr25 := Kd.C_take (m := ((ji9) : Int).toNat) hC25 (by omega); have hy25 : y480.length = ((ji9) : Int).toNat := (by rw [Ny480.out, List.length_take]; omega); rw [← Ny480.out] at hr25; rw [← hy25] at hcut25; have HR483 := Aside0.mk hr25; have HC483 := Aside0.mk (show y480.length ≤ c0 from by omega); clear hr25 hC25 hroom25 hi025 hsz25; have KY25 := Aside0.mk hy25; clear hy25; replace q25 := eq_true q25) | ((with_reducible refine qg (f := 24) rfl ?_); refine goesL_ (some 50) rfl rfl Tryz.func24 (by kernel_rfl) rfl #[.slice (some ad476) y480.length c0] rfl (by (try simp only [List.map_toArray, List.map_cons, List.map_nil]); first | done | rfl | (simp only [List.length_drop, List.length_take]; rfl)) ?_; (with_reducible refine (z12.calls k2 _ _ y480 t484 _ ?side1 ?side2 A17.out).mono ?_); (case side1 => repeat (first | exact (Kd.C_below HR483.out HB.out) | (with_reducible refine Kd.C_alloc ?_ _) | (with_reducible refine Kd.C_drewN ?_ _) | (with_reducible refine Kd.C_drew ?_))); (case side2 => exact HC483.out); rintro e w26 ⟨v485, rfl, ho0, hb⟩; refine ⟨_, rfl, ?_⟩; have n0_ := Aside0.mk (Kd.R_lower (Kd.R_newB ho0 (g := gb479) (o := .cells #[.string ((rd_T26 (rd_L4 l0 (ji9)) x7_2).f0), .int .i64 ((rd_T26 (rd_L4 l0 (ji9)) x7_2).f1), .string ((rd_T26 (rd_L4 l0 (ji9)) x7_2).f2)] 26 (0, 0)) (by (with_reducible repeat (first | refine qM ?_ _ | refine qW ?_ | refine qL ?_ _)); exact BK479.out)) (qZ (by repeat (first | (with_reducible first | exact HB.out | apply qA | apply qN | apply qD | refine qS ?_ GE479.out) | exact HB.out)))); have n1_ := Aside0.mk (qb (g := gb479) (o := .cells #[.string ((rd_T26 (rd_L4 l0 (ji9)) x7_2).f0), .int .i64 ((rd_T26 (rd_L4 l0 (ji9)) x7_2).f1), .string ((rd_T26 (rd_L4 l0 (ji9)) x7_2).f2)] 26 (0, 0)) (by (with_reducible repeat (first | refine qM ?_ _ | refine qW ?_ | refine qL ?_ _)); exact BK479.out) hb); have n2_ := Aside0.mk (qT (by repeat (first | (with_reducible first | exact HB.out | apply qA | apply qN | apply qD | refine qS ?_ GE479.out) | exact HB.out)) hb); clear BK479; clear HB; have HO486 := n0_; have BK479 := n1_; have HB := n2_; clear n0_ n1_ n2_; (try clear hb); (try clear hb2); (try clear hk); (try clear hi); (try clear ho0); obtain ⟨Ao27, co27, eo27⟩ := Kd.R_slice HO486.out; subst eo27) | ((with_reducible refine qg (f := 40) rfl ?_); refine goesL_ (some 52) rfl rfl Tryz.func40 (by kernel_rfl) rfl #[.slice Ao27 t484.length co27, .string a1] rfl (by (try simp only [List.map_toArray, List.map_cons, List.map_nil]); first | done | rfl | (simp only [List.length_drop, List.length_take]; rfl)) ?_; (with_reducible refine (z22.calls k2 _ _ t484 a1 t487 t488 _ ?side1 ?side2 A18.out).mono ?_); (case side1 => repeat (first | exact (Kd.R_reads' HO486.out).2.2 | (with_reducible refine Kd.C_alloc ?_ _) | (with_reducible refine Kd.C_drewN ?_ _) | (with_reducible refine Kd.C_drew ?_))); (case side2 => exact (Kd.R_reads' HO486.out).2.1); rintro e w28 ⟨rfl, hb⟩; refine ⟨_, rfl, ?_⟩; have n0_ := Aside0.mk (Kd.R_below (by (with_reducible repeat (first | apply Kd.R_alloc | apply Kd.R_drewN | apply Kd.R_drew)); exact HO486.out) hb); have n1_ := Aside0.mk (qb (g := gb479) (o := .cells #[.string ((rd_T26 (rd_L4 l0 (ji9)) x7_2).f0), .int .i64 ((rd_T26 (rd_L4 l0 (ji9)) x7_2).f1), .string ((rd_T26 (rd_L4 l0 (ji9)) x7_2).f2)] 26 (0, 0)) (by (with_reducible repeat (first | refine qM ?_ _ | refine qW ?_ | refine qL ?_ _)); exact BK479.out) hb); have n2_ := Aside0.mk (qT (by repeat (first | (with_reducible first | exact HB.out | apply qA | apply qN | apply qD | refine qS ?_ GE479.out) | exact HB.out)) hb); clear HO486; clear BK479; clear HB; have HO486 := n0_; have BK479 := n1_; have HB := n2_; clear n0_ n1_ n2_; (try clear hb); (try clear hb2); (try clear hk); (try clear hi); have hcz29_0 : w28.cell? ⟨gb479, 0, none⟩ = some (.string ((rd_T26 (rd_L4 l0 (ji9)) x7_2).f0)) := (qC BK479.out 0).trans rfl; have hcz29_1 : w28.cell? ⟨gb479, 1, none⟩ = some (.int .i64 ((rd_T26 (rd_L4 l0 (ji9)) x7_2).f1)) := (qC BK479.out 1).trans rfl; have hcz29_2 : w28.cell? ⟨gb479, 2, none⟩ = some (.string ((rd_T26 (rd_L4 l0 (ji9)) x7_2).f2)) := (qC BK479.out 2).trans rfl; have hfz29_0 := qF BK479.out 0; have hfz29_1 := qF BK479.out 1; have hfz29_2 := qF BK479.out 2))
              go_roundg k2
              case measure => have := HK1.out; have := HK2.out; omega
              case rel => exact ⟨(ji20), (wrap64 (x7_2 + 1)), (by first | rfl | (simp; done) | (simp only [← hji20] <;> (first | rfl | simp)) | (simp [*]; done)), (by first | rfl | (simp; done) | (simp [*]; done)), H', ⟨by have := HK1.out; have := HK2.out; omega⟩, ⟨by repeat (first | (with_reducible first | exact HB.out | apply qA | apply qN | apply qD | refine qS ?_ GE479.out) | exact HB.out)⟩⟩
             ·rw [if_neg c19] at H
              have c19b0 : (((rd_T26 (rd_L4 l0 (ji9)) x7_2).f1) == 4) = false := beq_eq_false_iff_ne.mpr c19
              have c19b1 : (((rd_T26 (rd_L4 l0 (ji9)) x7_2).f1) != 4) = true := bne_iff_ne.mpr c19
              by_cases c30 : ((rd_T26 (rd_L4 l0 (ji9)) x7_2).f1) = 2
              ·rw [if_pos c30] at H
               have c30b0 : (((rd_T26 (rd_L4 l0 (ji9)) x7_2).f1) == 2) = true := beq_iff_eq.mpr c30
               have c30b1 : (((rd_T26 (rd_L4 l0 (ji9)) x7_2).f1) != 2) = false := bne_eq_false_iff_eq.mpr c30
               clear c30
               by_cases c31 : t488 = 0
               ·rw [if_pos c31] at H
                have c31b0 : (t488 == 0) = true := beq_iff_eq.mpr c31
                have c31b1 : (t488 != 0) = false := bne_eq_false_iff_eq.mpr c31
                clear c31
                by_cases c32 : t487 = 2
                ·rw [if_pos c32] at H
                 have c32b0 : (t487 == 2) = true := beq_iff_eq.mpr c32
                 have c32b1 : (t487 != 2) = false := bne_eq_false_iff_eq.mpr c32
                 clear c32
                 have H' := Aside0.mk H
                 clear H
                 have p476 : 0 ≤ ((ji9) : Int) := of_decide_eq_true (by first | (with_reducible assumption) | assumption)
                 have q476 : (ji9) < (l0.length : Int) := of_decide_eq_true (by first | (with_reducible assumption) | assumption)
                 obtain ⟨ad476, A476_0, c476_0, e476, hx476_0, hl476_0, hi476_0⟩ := at_L4 HR0.out (ji9) p476 q476
                 cases e476
                 replace hx476_0 := (HB.out.cell (World.block_lt_of_cell? w _ hx476_0)).trans hx476_0
                 have HR476_0 := Aside0.mk hi476_0
                 have HC476_0 := Aside0.mk hl476_0
                 clear hi476_0 hl476_0
                 replace p476 := eq_true p476
                 replace q476 := eq_true q476
                 have p477 : 0 ≤ ((ji9) : Int) := of_decide_eq_true (by first | (with_reducible assumption) | assumption)
                 have q477 : (ji9) < (l0.length : Int) := of_decide_eq_true (by first | (with_reducible assumption) | assumption)
                 obtain ⟨ad477, A477_0, c477_0, e477, hx477_0, hl477_0, hi477_0⟩ := at_L4 HR0.out (ji9) p477 q477
                 obtain rfl : ad476 = ad477 := (by injection e477)
                 replace hx477_0 := (HB.out.cell (World.block_lt_of_cell? w _ hx477_0)).trans hx477_0
                 have HR477_0 := Aside0.mk hi477_0
                 have HC477_0 := Aside0.mk hl477_0
                 clear hi477_0 hl477_0
                 replace p477 := eq_true p477
                 replace q477 := eq_true q477
                 have ea_ := Option.some.inj (hx476_0.symm.trans hx477_0)
                 injection ea_ with ea_ en_ ec_
                 subst ea_
                 subst ec_
                 clear en_
                 have p478 : 0 ≤ (x7_2 : Int) := of_decide_eq_true (by first | (with_reducible assumption) | assumption)
                 have q478 : x7_2 < ((rd_L4 l0 (ji9)).length : Int) := of_decide_eq_true (by first | (with_reducible assumption) | assumption)
                 obtain ⟨ad478, e478, hx478_0, hx478_1, hx478_2⟩ := at_T26 HR477_0.out x7_2 p478 q478
                 cases e478
                 replace hx478_0 := (HB.out.cell (World.block_lt_of_cell? w _ hx478_0)).trans hx478_0
                 replace hx478_1 := (HB.out.cell (World.block_lt_of_cell? w _ hx478_1)).trans hx478_1
                 replace hx478_2 := (HB.out.cell (World.block_lt_of_cell? w _ hx478_2)).trans hx478_2
                 replace p478 := eq_true p478
                 replace q478 := eq_true q478
                 go_wp2_with (first | ((with_reducible refine qd (N := 8) rfl ?_); refine qx ?hg (N := 8) ?hd (cs := #[.string (⟨#[]⟩ : ByteArray), .int .i64 0, .string (⟨#[]⟩ : ByteArray)]) (t := 26) ?hr ?_; (case hd => rfl); (case hg => rfl); (case hr => first | (go_simp; done) | (go_simp; rfl)); intro gb479 hg w33 hbox hb; have n0_ := Aside0.mk (qT (by repeat (first | (with_reducible first | exact HB.out | apply qA | apply qN | apply qD) | exact HB.out)) hb); have n1_ := Aside0.mk (hbox); have n2_ := Aside0.mk ((by rw [hg]; exact (qZ (by repeat (first | (with_reducible first | exact HB.out | apply qA | apply qN | apply qD) | exact HB.out))) : w.heap.size ≤ gb479)); have n3_ := Aside0.mk ((by rw [hg]; exact (qZ (by repeat (first | (with_reducible first | exact HB.out | apply qA | apply qN | apply qD) | exact HB.out))) : w.heap.size ≤ gb479)); clear HB; have HB := n0_; have BK479 := n1_; have GW479 := n2_; have GE479 := n3_; clear n0_ n1_ n2_ n3_; clear hb hbox hg; have hcz34_0 : w33.cell? ⟨gb479, 0, none⟩ = some (.string (⟨#[]⟩ : ByteArray)) := (qC BK479.out 0).trans rfl; have hcz34_1 : w33.cell? ⟨gb479, 1, none⟩ = some (.int .i64 0) := (qC BK479.out 1).trans rfl; have hcz34_2 : w33.cell? ⟨gb479, 2, none⟩ = some (.string (⟨#[]⟩ : ByteArray)) := (qC BK479.out 2).trans rfl; have hfz34_0 := qF BK479.out 0; have hfz34_1 := qF BK479.out 1; have hfz34_2 := qF BK479.out 2) | ((with_reducible refine gate_store (t := 26) (p := 8) rfl ?_); refine store_event (t := 26) (p := 8) (v := ?vo_w35) (w1 := (((w33.setCell ⟨gb479, 0, none⟩ (.string ((rd_T26 (rd_L4 l0 (ji9)) x7_2).f0))).setCell ⟨gb479, 1, none⟩ (.int .i64 ((rd_T26 (rd_L4 l0 (ji9)) x7_2).f1))).setCell ⟨gb479, 2, none⟩ (.string ((rd_T26 (rd_L4 l0 (ji9)) x7_2).f2)))) ?hg ?ho ?hn ?hr ?_; (case ho => rfl); (case hg => rfl); (case hn => rfl); (case hr => first | (go_simp; done) | (go_simp; rfl)); intro w35 hw; have n0_ : Aside0 (w35.heap[gb479]? = some (.cells #[.string ((rd_T26 (rd_L4 l0 (ji9)) x7_2).f0), .int .i64 ((rd_T26 (rd_L4 l0 (ji9)) x7_2).f1), .string ((rd_T26 (rd_L4 l0 (ji9)) x7_2).f2)] 26 (0, 0))) := ⟨(by rw [hw]; exact (by (with_reducible repeat (first | refine qM ?_ _ | refine qW ?_ | refine qL ?_ _)); refine qu (cs := #[.string ((rd_T26 (rd_L4 l0 (ji9)) x7_2).f0), .int .i64 ((rd_T26 (rd_L4 l0 (ji9)) x7_2).f1), .string (⟨#[]⟩ : ByteArray)]) ?_ 2 _ rfl; (with_reducible repeat (first | refine qM ?_ _ | refine qW ?_ | refine qL ?_ _)); refine qu (cs := #[.string ((rd_T26 (rd_L4 l0 (ji9)) x7_2).f0), .int .i64 0, .string (⟨#[]⟩ : ByteArray)]) ?_ 1 _ rfl; (with_reducible repeat (first | refine qM ?_ _ | refine qW ?_ | refine qL ?_ _)); refine qu (cs := #[.string (⟨#[]⟩ : ByteArray), .int .i64 0, .string (⟨#[]⟩ : ByteArray)]) ?_ 0 _ rfl; (with_reducible repeat (first | refine qM ?_ _ | refine qW ?_ | refine qL ?_ _)); exact BK479.out))⟩; have n1_ : Aside0 (Below w.heap.size w w35) := ⟨(by rw [hw]; exact (by repeat (first | (with_reducible first | exact HB.out | apply qA | apply qN | apply qD | refine qS ?_ GE479.out) | exact HB.out)))⟩; clear hw; clear BK479; clear HB; have BK479 := n0_; have HB := n1_; clear n0_ n1_; have hcz36_0 : w35.cell? ⟨gb479, 0, none⟩ = some (.string ((rd_T26 (rd_L4 l0 (ji9)) x7_2).f0)) := (qC BK479.out 0).trans rfl; have hcz36_1 : w35.cell? ⟨gb479, 1, none⟩ = some (.int .i64 ((rd_T26 (rd_L4 l0 (ji9)) x7_2).f1)) := (qC BK479.out 1).trans rfl; have hcz36_2 : w35.cell? ⟨gb479, 2, none⟩ = some (.string ((rd_T26 (rd_L4 l0 (ji9)) x7_2).f2)) := (qC BK479.out 2).trans rfl; have hfz36_0 := qF BK479.out 0; have hfz36_1 := qF BK479.out 1; have hfz36_2 := qF BK479.out 2; have q37 : ((ji9) : Int) ≤ ((l0.length : Int) : Int) := of_decide_eq_true (by first | (with_reducible assumption) | assumption); obtain ⟨i037, hi037, _, hsz37, _⟩ := info_parts info27; have hroom37 : l0.length ≤ c0 := HC0.out; have hC37 : Kd.C (Kd.slice 26 k26) _ (some ad476) l0.length l0 := HR0.out; have hcut37 := cut_to (P := Tryz.prog) 22 27 .i64 Tryz.underlying22 hi037 (some ad476) l0.length c0 (ji9) (of_decide_eq_true (by first | (with_reducible assumption) | assumption)) q37 hroom37; have hr37 := Kd.C_take (m := ((ji9) : Int).toNat) hC37 (by omega); have hy37 : y480.length = ((ji9) : Int).toNat := (by rw [Ny480.out, List.length_take]; omega); rw [← Ny480.out] at hr37; rw [← hy37] at hcut37; have HR483 := Aside0.mk hr37; have HC483 := Aside0.mk (show y480.length ≤ c0 from by omega); clear hr37 hC37 hroom37 hi037 hsz37; have KY37 := Aside0.mk hy37; clear hy37; replace q37 := eq_true q37) | ((with_reducible refine qg (f := 24) rfl ?_); refine goesL_ (some 50) rfl rfl Tryz.func24 (by kernel_rfl) rfl #[.slice (some ad476) y480.length c0] rfl (by (try simp only [List.map_toArray, List.map_cons, List.map_nil]); first | done | rfl | (simp only [List.length_drop, List.length_take]; rfl)) ?_; (with_reducible refine (z12.calls k2 _ _ y480 t484 _ ?side1 ?side2 A17.out).mono ?_); (case side1 => repeat (first | exact (Kd.C_below HR483.out HB.out) | (with_reducible refine Kd.C_alloc ?_ _) | (with_reducible refine Kd.C_drewN ?_ _) | (with_reducible refine Kd.C_drew ?_))); (case side2 => exact HC483.out); rintro e w38 ⟨v485, rfl, ho0, hb⟩; refine ⟨_, rfl, ?_⟩; have n0_ := Aside0.mk (Kd.R_lower (Kd.R_newB ho0 (g := gb479) (o := .cells #[.string ((rd_T26 (rd_L4 l0 (ji9)) x7_2).f0), .int .i64 ((rd_T26 (rd_L4 l0 (ji9)) x7_2).f1), .string ((rd_T26 (rd_L4 l0 (ji9)) x7_2).f2)] 26 (0, 0)) (by (with_reducible repeat (first | refine qM ?_ _ | refine qW ?_ | refine qL ?_ _)); exact BK479.out)) (qZ (by repeat (first | (with_reducible first | exact HB.out | apply qA | apply qN | apply qD | refine qS ?_ GE479.out) | exact HB.out)))); have n1_ := Aside0.mk (qb (g := gb479) (o := .cells #[.string ((rd_T26 (rd_L4 l0 (ji9)) x7_2).f0), .int .i64 ((rd_T26 (rd_L4 l0 (ji9)) x7_2).f1), .string ((rd_T26 (rd_L4 l0 (ji9)) x7_2).f2)] 26 (0, 0)) (by (with_reducible repeat (first | refine qM ?_ _ | refine qW ?_ | refine qL ?_ _)); exact BK479.out) hb); have n2_ := Aside0.mk (qT (by repeat (first | (with_reducible first | exact HB.out | apply qA | apply qN | apply qD | refine qS ?_ GE479.out) | exact HB.out)) hb); clear BK479; clear HB; have HO486 := n0_; have BK479 := n1_; have HB := n2_; clear n0_ n1_ n2_; (try clear hb); (try clear hb2); (try clear hk); (try clear hi); (try clear ho0); obtain ⟨Ao39, co39, eo39⟩ := Kd.R_slice HO486.out; subst eo39) | ((with_reducible refine qg (f := 40) rfl ?_); refine goesL_ (some 52) rfl rfl Tryz.func40 (by kernel_rfl) rfl #[.slice Ao39 t484.length co39, .string a1] rfl (by (try simp only [List.map_toArray, List.map_cons, List.map_nil]); first | done | rfl | (simp only [List.length_drop, List.length_take]; rfl)) ?_; (with_reducible refine (z22.calls k2 _ _ t484 a1 t487 t488 _ ?side1 ?side2 A18.out).mono ?_); (case side1 => repeat (first | exact (Kd.R_reads' HO486.out).2.2 | (with_reducible refine Kd.C_alloc ?_ _) | (with_reducible refine Kd.C_drewN ?_ _) | (with_reducible refine Kd.C_drew ?_))); (case side2 => exact (Kd.R_reads' HO486.out).2.1); rintro e w40 ⟨rfl, hb⟩; refine ⟨_, rfl, ?_⟩; have n0_ := Aside0.mk (Kd.R_below (by (with_reducible repeat (first | apply Kd.R_alloc | apply Kd.R_drewN | apply Kd.R_drew)); exact HO486.out) hb); have n1_ := Aside0.mk (qb (g := gb479) (o := .cells #[.string ((rd_T26 (rd_L4 l0 (ji9)) x7_2).f0), .int .i64 ((rd_T26 (rd_L4 l0 (ji9)) x7_2).f1), .string ((rd_T26 (rd_L4 l0 (ji9)) x7_2).f2)] 26 (0, 0)) (by (with_reducible repeat (first | refine qM ?_ _ | refine qW ?_ | refine qL ?_ _)); exact BK479.out) hb); have n2_ := Aside0.mk (qT (by repeat (first | (with_reducible first | exact HB.out | apply qA | apply qN | apply qD | refine qS ?_ GE479.out) | exact HB.out)) hb); clear HO486; clear BK479; clear HB; have HO486 := n0_; have BK479 := n1_; have HB := n2_; clear n0_ n1_ n2_; (try clear hb); (try clear hb2); (try clear hk); (try clear hi); have hcz41_0 : w40.cell? ⟨gb479, 0, none⟩ = some (.string ((rd_T26 (rd_L4 l0 (ji9)) x7_2).f0)) := (qC BK479.out 0).trans rfl; have hcz41_1 : w40.cell? ⟨gb479, 1, none⟩ = some (.int .i64 ((rd_T26 (rd_L4 l0 (ji9)) x7_2).f1)) := (qC BK479.out 1).trans rfl; have hcz41_2 : w40.cell? ⟨gb479, 2, none⟩ = some (.string ((rd_T26 (rd_L4 l0 (ji9)) x7_2).f2)) := (qC BK479.out 2).trans rfl; have hfz41_0 := qF BK479.out 0; have hfz41_1 := qF BK479.out 1; have hfz41_2 := qF BK479.out 2))
                 go_roundg k2
                 case measure => have := HK1.out; have := HK2.out; omega
                 case rel => exact ⟨(x5_2), (wrap64 (x7_2 + 1)), (by first | rfl | (simp; done) | (simp [*]; done)), (by first | rfl | (simp; done) | (simp [*]; done)), H', ⟨by have := HK1.out; have := HK2.out; omega⟩, ⟨by repeat (first | (with_reducible first | exact HB.out | apply qA | apply qN | apply qD | refine qS ?_ GE479.out) | exact HB.out)⟩⟩
                ·rw [if_neg c32] at H
                 have c32b0 : (t487 == 2) = false := beq_eq_false_iff_ne.mpr c32
                 have c32b1 : (t487 != 2) = true := bne_iff_ne.mpr c32
                 obtain ⟨ji42, hji42⟩ : ∃ j_ : Int, (mx x5_2 (ji9)) = j_ := ⟨_, rfl⟩
                 replace H : (z14.l1 k2 l0 a1 ji42 x6_1 (wrap64 (x7_2 + 1))) = some r := by first | (rw [hji42] at H; exact H) | (simp only [hji42] at H ⊢; exact H)
                 (try rw [hji42] at A17)
                 (try rw [hji42] at A18)
                 have hji42_ : (if x5_2 < (ji9) then (ji9) else x5_2) = ji42 := hji42
                 have H' := Aside0.mk H
                 clear H
                 have p476 : 0 ≤ ((ji9) : Int) := of_decide_eq_true (by first | (with_reducible assumption) | assumption)
                 have q476 : (ji9) < (l0.length : Int) := of_decide_eq_true (by first | (with_reducible assumption) | assumption)
                 obtain ⟨ad476, A476_0, c476_0, e476, hx476_0, hl476_0, hi476_0⟩ := at_L4 HR0.out (ji9) p476 q476
                 cases e476
                 replace hx476_0 := (HB.out.cell (World.block_lt_of_cell? w _ hx476_0)).trans hx476_0
                 have HR476_0 := Aside0.mk hi476_0
                 have HC476_0 := Aside0.mk hl476_0
                 clear hi476_0 hl476_0
                 replace p476 := eq_true p476
                 replace q476 := eq_true q476
                 have p477 : 0 ≤ ((ji9) : Int) := of_decide_eq_true (by first | (with_reducible assumption) | assumption)
                 have q477 : (ji9) < (l0.length : Int) := of_decide_eq_true (by first | (with_reducible assumption) | assumption)
                 obtain ⟨ad477, A477_0, c477_0, e477, hx477_0, hl477_0, hi477_0⟩ := at_L4 HR0.out (ji9) p477 q477
                 obtain rfl : ad476 = ad477 := (by injection e477)
                 replace hx477_0 := (HB.out.cell (World.block_lt_of_cell? w _ hx477_0)).trans hx477_0
                 have HR477_0 := Aside0.mk hi477_0
                 have HC477_0 := Aside0.mk hl477_0
                 clear hi477_0 hl477_0
                 replace p477 := eq_true p477
                 replace q477 := eq_true q477
                 have ea_ := Option.some.inj (hx476_0.symm.trans hx477_0)
                 injection ea_ with ea_ en_ ec_
                 subst ea_
                 subst ec_
                 clear en_
                 have p478 : 0 ≤ (x7_2 : Int) := of_decide_eq_true (by first | (with_reducible assumption) | assumption)
                 have q478 : x7_2 < ((rd_L4 l0 (ji9)).length : Int) := of_decide_eq_true (by first | (with_reducible assumption) | assumption)
                 obtain ⟨ad478, e478, hx478_0, hx478_1, hx478_2⟩ := at_T26 HR477_0.out x7_2 p478 q478
                 cases e478
                 replace hx478_0 := (HB.out.cell (World.block_lt_of_cell? w _ hx478_0)).trans hx478_0
                 replace hx478_1 := (HB.out.cell (World.block_lt_of_cell? w _ hx478_1)).trans hx478_1
                 replace hx478_2 := (HB.out.cell (World.block_lt_of_cell? w _ hx478_2)).trans hx478_2
                 replace p478 := eq_true p478
                 replace q478 := eq_true q478
                 go_wp2_with (first | ((with_reducible refine qd (N := 8) rfl ?_); refine qx ?hg (N := 8) ?hd (cs := #[.string (⟨#[]⟩ : ByteArray), .int .i64 0, .string (⟨#[]⟩ : ByteArray)]) (t := 26) ?hr ?_; (case hd => rfl); (case hg => rfl); (case hr => first | (go_simp; done) | (go_simp; rfl)); intro gb479 hg w43 hbox hb; have n0_ := Aside0.mk (qT (by repeat (first | (with_reducible first | exact HB.out | apply qA | apply qN | apply qD) | exact HB.out)) hb); have n1_ := Aside0.mk (hbox); have n2_ := Aside0.mk ((by rw [hg]; exact (qZ (by repeat (first | (with_reducible first | exact HB.out | apply qA | apply qN | apply qD) | exact HB.out))) : w.heap.size ≤ gb479)); have n3_ := Aside0.mk ((by rw [hg]; exact (qZ (by repeat (first | (with_reducible first | exact HB.out | apply qA | apply qN | apply qD) | exact HB.out))) : w.heap.size ≤ gb479)); clear HB; have HB := n0_; have BK479 := n1_; have GW479 := n2_; have GE479 := n3_; clear n0_ n1_ n2_ n3_; clear hb hbox hg; have hcz44_0 : w43.cell? ⟨gb479, 0, none⟩ = some (.string (⟨#[]⟩ : ByteArray)) := (qC BK479.out 0).trans rfl; have hcz44_1 : w43.cell? ⟨gb479, 1, none⟩ = some (.int .i64 0) := (qC BK479.out 1).trans rfl; have hcz44_2 : w43.cell? ⟨gb479, 2, none⟩ = some (.string (⟨#[]⟩ : ByteArray)) := (qC BK479.out 2).trans rfl; have hfz44_0 := qF BK479.out 0; have hfz44_1 := qF BK479.out 1; have hfz44_2 := qF BK479.out 2) | ((with_reducible refine gate_store (t := 26) (p := 8) rfl ?_); refine store_event (t := 26) (p := 8) (v := ?vo_w45) (w1 := (((w43.setCell ⟨gb479, 0, none⟩ (.string ((rd_T26 (rd_L4 l0 (ji9)) x7_2).f0))).setCell ⟨gb479, 1, none⟩ (.int .i64 ((rd_T26 (rd_L4 l0 (ji9)) x7_2).f1))).setCell ⟨gb479, 2, none⟩ (.string ((rd_T26 (rd_L4 l0 (ji9)) x7_2).f2)))) ?hg ?ho ?hn ?hr ?_; (case ho => rfl); (case hg => rfl); (case hn => rfl); (case hr => first | (go_simp; done) | (go_simp; rfl)); intro w45 hw; have n0_ : Aside0 (w45.heap[gb479]? = some (.cells #[.string ((rd_T26 (rd_L4 l0 (ji9)) x7_2).f0), .int .i64 ((rd_T26 (rd_L4 l0 (ji9)) x7_2).f1), .string ((rd_T26 (rd_L4 l0 (ji9)) x7_2).f2)] 26 (0, 0))) := ⟨(by rw [hw]; exact (by (with_reducible repeat (first | refine qM ?_ _ | refine qW ?_ | refine qL ?_ _)); refine qu (cs := #[.string ((rd_T26 (rd_L4 l0 (ji9)) x7_2).f0), .int .i64 ((rd_T26 (rd_L4 l0 (ji9)) x7_2).f1), .string (⟨#[]⟩ : ByteArray)]) ?_ 2 _ rfl; (with_reducible repeat (first | refine qM ?_ _ | refine qW ?_ | refine qL ?_ _)); refine qu (cs := #[.string ((rd_T26 (rd_L4 l0 (ji9)) x7_2).f0), .int .i64 0, .string (⟨#[]⟩ : ByteArray)]) ?_ 1 _ rfl; (with_reducible repeat (first | refine qM ?_ _ | refine qW ?_ | refine qL ?_ _)); refine qu (cs := #[.string (⟨#[]⟩ : ByteArray), .int .i64 0, .string (⟨#[]⟩ : ByteArray)]) ?_ 0 _ rfl; (with_reducible repeat (first | refine qM ?_ _ | refine qW ?_ | refine qL ?_ _)); exact BK479.out))⟩; have n1_ : Aside0 (Below w.heap.size w w45) := ⟨(by rw [hw]; exact (by repeat (first | (with_reducible first | exact HB.out | apply qA | apply qN | apply qD | refine qS ?_ GE479.out) | exact HB.out)))⟩; clear hw; clear BK479; clear HB; have BK479 := n0_; have HB := n1_; clear n0_ n1_; have hcz46_0 : w45.cell? ⟨gb479, 0, none⟩ = some (.string ((rd_T26 (rd_L4 l0 (ji9)) x7_2).f0)) := (qC BK479.out 0).trans rfl; have hcz46_1 : w45.cell? ⟨gb479, 1, none⟩ = some (.int .i64 ((rd_T26 (rd_L4 l0 (ji9)) x7_2).f1)) := (qC BK479.out 1).trans rfl; have hcz46_2 : w45.cell? ⟨gb479, 2, none⟩ = some (.string ((rd_T26 (rd_L4 l0 (ji9)) x7_2).f2)) := (qC BK479.out 2).trans rfl; have hfz46_0 := qF BK479.out 0; have hfz46_1 := qF BK479.out 1; have hfz46_2 := qF BK479.out 2; have q47 : ((ji9) : Int) ≤ ((l0.length : Int) : Int) := of_decide_eq_true (by first | (with_reducible assumption) | assumption); obtain ⟨i047, hi047, _, hsz47, _⟩ := info_parts info27; have hroom47 : l0.length ≤ c0 := HC0.out; have hC47 : Kd.C (Kd.slice 26 k26) _ (some ad476) l0.length l0 := HR0.out; have hcut47 := cut_to (P := Tryz.prog) 22 27 .i64 Tryz.underlying22 hi047 (some ad476) l0.length c0 (ji9) (of_decide_eq_true (by first | (with_reducible assumption) | assumption)) q47 hroom47; have hr47 := Kd.C_take (m := ((ji9) : Int).toNat) hC47 (by omega); have hy47 : y480.length = ((ji9) : Int).toNat := (by rw [Ny480.out, List.length_take]; omega); rw [← Ny480.out] at hr47; rw [← hy47] at hcut47; have HR483 := Aside0.mk hr47; have HC483 := Aside0.mk (show y480.length ≤ c0 from by omega); clear hr47 hC47 hroom47 hi047 hsz47; have KY47 := Aside0.mk hy47; clear hy47; replace q47 := eq_true q47) | ((with_reducible refine qg (f := 24) rfl ?_); refine goesL_ (some 50) rfl rfl Tryz.func24 (by kernel_rfl) rfl #[.slice (some ad476) y480.length c0] rfl (by (try simp only [List.map_toArray, List.map_cons, List.map_nil]); first | done | rfl | (simp only [List.length_drop, List.length_take]; rfl)) ?_; (with_reducible refine (z12.calls k2 _ _ y480 t484 _ ?side1 ?side2 A17.out).mono ?_); (case side1 => repeat (first | exact (Kd.C_below HR483.out HB.out) | (with_reducible refine Kd.C_alloc ?_ _) | (with_reducible refine Kd.C_drewN ?_ _) | (with_reducible refine Kd.C_drew ?_))); (case side2 => exact HC483.out); rintro e w48 ⟨v485, rfl, ho0, hb⟩; refine ⟨_, rfl, ?_⟩; have n0_ := Aside0.mk (Kd.R_lower (Kd.R_newB ho0 (g := gb479) (o := .cells #[.string ((rd_T26 (rd_L4 l0 (ji9)) x7_2).f0), .int .i64 ((rd_T26 (rd_L4 l0 (ji9)) x7_2).f1), .string ((rd_T26 (rd_L4 l0 (ji9)) x7_2).f2)] 26 (0, 0)) (by (with_reducible repeat (first | refine qM ?_ _ | refine qW ?_ | refine qL ?_ _)); exact BK479.out)) (qZ (by repeat (first | (with_reducible first | exact HB.out | apply qA | apply qN | apply qD | refine qS ?_ GE479.out) | exact HB.out)))); have n1_ := Aside0.mk (qb (g := gb479) (o := .cells #[.string ((rd_T26 (rd_L4 l0 (ji9)) x7_2).f0), .int .i64 ((rd_T26 (rd_L4 l0 (ji9)) x7_2).f1), .string ((rd_T26 (rd_L4 l0 (ji9)) x7_2).f2)] 26 (0, 0)) (by (with_reducible repeat (first | refine qM ?_ _ | refine qW ?_ | refine qL ?_ _)); exact BK479.out) hb); have n2_ := Aside0.mk (qT (by repeat (first | (with_reducible first | exact HB.out | apply qA | apply qN | apply qD | refine qS ?_ GE479.out) | exact HB.out)) hb); clear BK479; clear HB; have HO486 := n0_; have BK479 := n1_; have HB := n2_; clear n0_ n1_ n2_; (try clear hb); (try clear hb2); (try clear hk); (try clear hi); (try clear ho0); obtain ⟨Ao49, co49, eo49⟩ := Kd.R_slice HO486.out; subst eo49) | ((with_reducible refine qg (f := 40) rfl ?_); refine goesL_ (some 52) rfl rfl Tryz.func40 (by kernel_rfl) rfl #[.slice Ao49 t484.length co49, .string a1] rfl (by (try simp only [List.map_toArray, List.map_cons, List.map_nil]); first | done | rfl | (simp only [List.length_drop, List.length_take]; rfl)) ?_; (with_reducible refine (z22.calls k2 _ _ t484 a1 t487 t488 _ ?side1 ?side2 A18.out).mono ?_); (case side1 => repeat (first | exact (Kd.R_reads' HO486.out).2.2 | (with_reducible refine Kd.C_alloc ?_ _) | (with_reducible refine Kd.C_drewN ?_ _) | (with_reducible refine Kd.C_drew ?_))); (case side2 => exact (Kd.R_reads' HO486.out).2.1); rintro e w50 ⟨rfl, hb⟩; refine ⟨_, rfl, ?_⟩; have n0_ := Aside0.mk (Kd.R_below (by (with_reducible repeat (first | apply Kd.R_alloc | apply Kd.R_drewN | apply Kd.R_drew)); exact HO486.out) hb); have n1_ := Aside0.mk (qb (g := gb479) (o := .cells #[.string ((rd_T26 (rd_L4 l0 (ji9)) x7_2).f0), .int .i64 ((rd_T26 (rd_L4 l0 (ji9)) x7_2).f1), .string ((rd_T26 (rd_L4 l0 (ji9)) x7_2).f2)] 26 (0, 0)) (by (with_reducible repeat (first | refine qM ?_ _ | refine qW ?_ | refine qL ?_ _)); exact BK479.out) hb); have n2_ := Aside0.mk (qT (by repeat (first | (with_reducible first | exact HB.out | apply qA | apply qN | apply qD | refine qS ?_ GE479.out) | exact HB.out)) hb); clear HO486; clear BK479; clear HB; have HO486 := n0_; have BK479 := n1_; have HB := n2_; clear n0_ n1_ n2_; (try clear hb); (try clear hb2); (try clear hk); (try clear hi); have hcz51_0 : w50.cell? ⟨gb479, 0, none⟩ = some (.string ((rd_T26 (rd_L4 l0 (ji9)) x7_2).f0)) := (qC BK479.out 0).trans rfl; have hcz51_1 : w50.cell? ⟨gb479, 1, none⟩ = some (.int .i64 ((rd_T26 (rd_L4 l0 (ji9)) x7_2).f1)) := (qC BK479.out 1).trans rfl; have hcz51_2 : w50.cell? ⟨gb479, 2, none⟩ = some (.string ((rd_T26 (rd_L4 l0 (ji9)) x7_2).f2)) := (qC BK479.out 2).trans rfl; have hfz51_0 := qF BK479.out 0; have hfz51_1 := qF BK479.out 1; have hfz51_2 := qF BK479.out 2))
                 go_roundg k2
                 case measure => have := HK1.out; have := HK2.out; omega
                 case rel => exact ⟨(ji42), (wrap64 (x7_2 + 1)), (by first | rfl | (simp; done) | (simp only [← hji42] <;> (first | rfl | simp)) | (simp [*]; done)), (by first | rfl | (simp; done) | (simp [*]; done)), H', ⟨by have := HK1.out; have := HK2.out; omega⟩, ⟨by repeat (first | (with_reducible first | exact HB.out | apply qA | apply qN | apply qD | refine qS ?_ GE479.out) | exact HB.out)⟩⟩
               ·rw [if_neg c31] at H
                have c31b0 : (t488 == 0) = false := beq_eq_false_iff_ne.mpr c31
                have c31b1 : (t488 != 0) = true := bne_iff_ne.mpr c31
                obtain ⟨ji52, hji52⟩ : ∃ j_ : Int, (mx x5_2 (ji9)) = j_ := ⟨_, rfl⟩
                replace H : (z14.l1 k2 l0 a1 ji52 x6_1 (wrap64 (x7_2 + 1))) = some r := by first | (rw [hji52] at H; exact H) | (simp only [hji52] at H ⊢; exact H)
                (try rw [hji52] at A17)
                (try rw [hji52] at A18)
                have hji52_ : (if x5_2 < (ji9) then (ji9) else x5_2) = ji52 := hji52
                have H' := Aside0.mk H
                clear H
                have p476 : 0 ≤ ((ji9) : Int) := of_decide_eq_true (by first | (with_reducible assumption) | assumption)
                have q476 : (ji9) < (l0.length : Int) := of_decide_eq_true (by first | (with_reducible assumption) | assumption)
                obtain ⟨ad476, A476_0, c476_0, e476, hx476_0, hl476_0, hi476_0⟩ := at_L4 HR0.out (ji9) p476 q476
                cases e476
                replace hx476_0 := (HB.out.cell (World.block_lt_of_cell? w _ hx476_0)).trans hx476_0
                have HR476_0 := Aside0.mk hi476_0
                have HC476_0 := Aside0.mk hl476_0
                clear hi476_0 hl476_0
                replace p476 := eq_true p476
                replace q476 := eq_true q476
                have p477 : 0 ≤ ((ji9) : Int) := of_decide_eq_true (by first | (with_reducible assumption) | assumption)
                have q477 : (ji9) < (l0.length : Int) := of_decide_eq_true (by first | (with_reducible assumption) | assumption)
                obtain ⟨ad477, A477_0, c477_0, e477, hx477_0, hl477_0, hi477_0⟩ := at_L4 HR0.out (ji9) p477 q477
                obtain rfl : ad476 = ad477 := (by injection e477)
                replace hx477_0 := (HB.out.cell (World.block_lt_of_cell? w _ hx477_0)).trans hx477_0
                have HR477_0 := Aside0.mk hi477_0
                have HC477_0 := Aside0.mk hl477_0
                clear hi477_0 hl477_0
                replace p477 := eq_true p477
                replace q477 := eq_true q477
                have ea_ := Option.some.inj (hx476_0.symm.trans hx477_0)
                injection ea_ with ea_ en_ ec_
                subst ea_
                subst ec_
                clear en_
                have p478 : 0 ≤ (x7_2 : Int) := of_decide_eq_true (by first | (with_reducible assumption) | assumption)
                have q478 : x7_2 < ((rd_L4 l0 (ji9)).length : Int) := of_decide_eq_true (by first | (with_reducible assumption) | assumption)
                obtain ⟨ad478, e478, hx478_0, hx478_1, hx478_2⟩ := at_T26 HR477_0.out x7_2 p478 q478
                cases e478
                replace hx478_0 := (HB.out.cell (World.block_lt_of_cell? w _ hx478_0)).trans hx478_0
                replace hx478_1 := (HB.out.cell (World.block_lt_of_cell? w _ hx478_1)).trans hx478_1
                replace hx478_2 := (HB.out.cell (World.block_lt_of_cell? w _ hx478_2)).trans hx478_2
                replace p478 := eq_true p478
                replace q478 := eq_true q478
                go_wp2_with (first | ((with_reducible refine qd (N := 8) rfl ?_); refine qx ?hg (N := 8) ?hd (cs := #[.string (⟨#[]⟩ : ByteArray), .int .i64 0, .string (⟨#[]⟩ : ByteArray)]) (t := 26) ?hr ?_; (case hd => rfl); (case hg => rfl); (case hr => first | (go_simp; done) | (go_simp; rfl)); intro gb479 hg w53 hbox hb; have n0_ := Aside0.mk (qT (by repeat (first | (with_reducible first | exact HB.out | apply qA | apply qN | apply qD) | exact HB.out)) hb); have n1_ := Aside0.mk (hbox); have n2_ := Aside0.mk ((by rw [hg]; exact (qZ (by repeat (first | (with_reducible first | exact HB.out | apply qA | apply qN | apply qD) | exact HB.out))) : w.heap.size ≤ gb479)); have n3_ := Aside0.mk ((by rw [hg]; exact (qZ (by repeat (first | (with_reducible first | exact HB.out | apply qA | apply qN | apply qD) | exact HB.out))) : w.heap.size ≤ gb479)); clear HB; have HB := n0_; have BK479 := n1_; have GW479 := n2_; have GE479 := n3_; clear n0_ n1_ n2_ n3_; clear hb hbox hg; have hcz54_0 : w53.cell? ⟨gb479, 0, none⟩ = some (.string (⟨#[]⟩ : ByteArray)) := (qC BK479.out 0).trans rfl; have hcz54_1 : w53.cell? ⟨gb479, 1, none⟩ = some (.int .i64 0) := (qC BK479.out 1).trans rfl; have hcz54_2 : w53.cell? ⟨gb479, 2, none⟩ = some (.string (⟨#[]⟩ : ByteArray)) := (qC BK479.out 2).trans rfl; have hfz54_0 := qF BK479.out 0; have hfz54_1 := qF BK479.out 1; have hfz54_2 := qF BK479.out 2) | ((with_reducible refine gate_store (t := 26) (p := 8) rfl ?_); refine store_event (t := 26) (p := 8) (v := ?vo_w55) (w1 := (((w53.setCell ⟨gb479, 0, none⟩ (.string ((rd_T26 (rd_L4 l0 (ji9)) x7_2).f0))).setCell ⟨gb479, 1, none⟩ (.int .i64 ((rd_T26 (rd_L4 l0 (ji9)) x7_2).f1))).setCell ⟨gb479, 2, none⟩ (.string ((rd_T26 (rd_L4 l0 (ji9)) x7_2).f2)))) ?hg ?ho ?hn ?hr ?_; (case ho => rfl); (case hg => rfl); (case hn => rfl); (case hr => first | (go_simp; done) | (go_simp; rfl)); intro w55 hw; have n0_ : Aside0 (w55.heap[gb479]? = some (.cells #[.string ((rd_T26 (rd_L4 l0 (ji9)) x7_2).f0), .int .i64 ((rd_T26 (rd_L4 l0 (ji9)) x7_2).f1), .string ((rd_T26 (rd_L4 l0 (ji9)) x7_2).f2)] 26 (0, 0))) := ⟨(by rw [hw]; exact (by (with_reducible repeat (first | refine qM ?_ _ | refine qW ?_ | refine qL ?_ _)); refine qu (cs := #[.string ((rd_T26 (rd_L4 l0 (ji9)) x7_2).f0), .int .i64 ((rd_T26 (rd_L4 l0 (ji9)) x7_2).f1), .string (⟨#[]⟩ : ByteArray)]) ?_ 2 _ rfl; (with_reducible repeat (first | refine qM ?_ _ | refine qW ?_ | refine qL ?_ _)); refine qu (cs := #[.string ((rd_T26 (rd_L4 l0 (ji9)) x7_2).f0), .int .i64 0, .string (⟨#[]⟩ : ByteArray)]) ?_ 1 _ rfl; (with_reducible repeat (first | refine qM ?_ _ | refine qW ?_ | refine qL ?_ _)); refine qu (cs := #[.string (⟨#[]⟩ : ByteArray), .int .i64 0, .string (⟨#[]⟩ : ByteArray)]) ?_ 0 _ rfl; (with_reducible repeat (first | refine qM ?_ _ | refine qW ?_ | refine qL ?_ _)); exact BK479.out))⟩; have n1_ : Aside0 (Below w.heap.size w w55) := ⟨(by rw [hw]; exact (by repeat (first | (with_reducible first | exact HB.out | apply qA | apply qN | apply qD | refine qS ?_ GE479.out) | exact HB.out)))⟩; clear hw; clear BK479; clear HB; have BK479 := n0_; have HB := n1_; clear n0_ n1_; have hcz56_0 : w55.cell? ⟨gb479, 0, none⟩ = some (.string ((rd_T26 (rd_L4 l0 (ji9)) x7_2).f0)) := (qC BK479.out 0).trans rfl; have hcz56_1 : w55.cell? ⟨gb479, 1, none⟩ = some (.int .i64 ((rd_T26 (rd_L4 l0 (ji9)) x7_2).f1)) := (qC BK479.out 1).trans rfl; have hcz56_2 : w55.cell? ⟨gb479, 2, none⟩ = some (.string ((rd_T26 (rd_L4 l0 (ji9)) x7_2).f2)) := (qC BK479.out 2).trans rfl; have hfz56_0 := qF BK479.out 0; have hfz56_1 := qF BK479.out 1; have hfz56_2 := qF BK479.out 2; have q57 : ((ji9) : Int) ≤ ((l0.length : Int) : Int) := of_decide_eq_true (by first | (with_reducible assumption) | assumption); obtain ⟨i057, hi057, _, hsz57, _⟩ := info_parts info27; have hroom57 : l0.length ≤ c0 := HC0.out; have hC57 : Kd.C (Kd.slice 26 k26) _ (some ad476) l0.length l0 := HR0.out; have hcut57 := cut_to (P := Tryz.prog) 22 27 .i64 Tryz.underlying22 hi057 (some ad476) l0.length c0 (ji9) (of_decide_eq_true (by first | (with_reducible assumption) | assumption)) q57 hroom57; have hr57 := Kd.C_take (m := ((ji9) : Int).toNat) hC57 (by omega); have hy57 : y480.length = ((ji9) : Int).toNat := (by rw [Ny480.out, List.length_take]; omega); rw [← Ny480.out] at hr57; rw [← hy57] at hcut57; have HR483 := Aside0.mk hr57; have HC483 := Aside0.mk (show y480.length ≤ c0 from by omega); clear hr57 hC57 hroom57 hi057 hsz57; have KY57 := Aside0.mk hy57; clear hy57; replace q57 := eq_true q57) | ((with_reducible refine qg (f := 24) rfl ?_); refine goesL_ (some 50) rfl rfl Tryz.func24 (by kernel_rfl) rfl #[.slice (some ad476) y480.length c0] rfl (by (try simp only [List.map_toArray, List.map_cons, List.map_nil]); first | done | rfl | (simp only [List.length_drop, List.length_take]; rfl)) ?_; (with_reducible refine (z12.calls k2 _ _ y480 t484 _ ?side1 ?side2 A17.out).mono ?_); (case side1 => repeat (first | exact (Kd.C_below HR483.out HB.out) | (with_reducible refine Kd.C_alloc ?_ _) | (with_reducible refine Kd.C_drewN ?_ _) | (with_reducible refine Kd.C_drew ?_))); (case side2 => exact HC483.out); rintro e w58 ⟨v485, rfl, ho0, hb⟩; refine ⟨_, rfl, ?_⟩; have n0_ := Aside0.mk (Kd.R_lower (Kd.R_newB ho0 (g := gb479) (o := .cells #[.string ((rd_T26 (rd_L4 l0 (ji9)) x7_2).f0), .int .i64 ((rd_T26 (rd_L4 l0 (ji9)) x7_2).f1), .string ((rd_T26 (rd_L4 l0 (ji9)) x7_2).f2)] 26 (0, 0)) (by (with_reducible repeat (first | refine qM ?_ _ | refine qW ?_ | refine qL ?_ _)); exact BK479.out)) (qZ (by repeat (first | (with_reducible first | exact HB.out | apply qA | apply qN | apply qD | refine qS ?_ GE479.out) | exact HB.out)))); have n1_ := Aside0.mk (qb (g := gb479) (o := .cells #[.string ((rd_T26 (rd_L4 l0 (ji9)) x7_2).f0), .int .i64 ((rd_T26 (rd_L4 l0 (ji9)) x7_2).f1), .string ((rd_T26 (rd_L4 l0 (ji9)) x7_2).f2)] 26 (0, 0)) (by (with_reducible repeat (first | refine qM ?_ _ | refine qW ?_ | refine qL ?_ _)); exact BK479.out) hb); have n2_ := Aside0.mk (qT (by repeat (first | (with_reducible first | exact HB.out | apply qA | apply qN | apply qD | refine qS ?_ GE479.out) | exact HB.out)) hb); clear BK479; clear HB; have HO486 := n0_; have BK479 := n1_; have HB := n2_; clear n0_ n1_ n2_; (try clear hb); (try clear hb2); (try clear hk); (try clear hi); (try clear ho0); obtain ⟨Ao59, co59, eo59⟩ := Kd.R_slice HO486.out; subst eo59) | ((with_reducible refine qg (f := 40) rfl ?_); refine goesL_ (some 52) rfl rfl Tryz.func40 (by kernel_rfl) rfl #[.slice Ao59 t484.length co59, .string a1] rfl (by (try simp only [List.map_toArray, List.map_cons, List.map_nil]); first | done | rfl | (simp only [List.length_drop, List.length_take]; rfl)) ?_; (with_reducible refine (z22.calls k2 _ _ t484 a1 t487 t488 _ ?side1 ?side2 A18.out).mono ?_); (case side1 => repeat (first | exact (Kd.R_reads' HO486.out).2.2 | (with_reducible refine Kd.C_alloc ?_ _) | (with_reducible refine Kd.C_drewN ?_ _) | (with_reducible refine Kd.C_drew ?_))); (case side2 => exact (Kd.R_reads' HO486.out).2.1); rintro e w60 ⟨rfl, hb⟩; refine ⟨_, rfl, ?_⟩; have n0_ := Aside0.mk (Kd.R_below (by (with_reducible repeat (first | apply Kd.R_alloc | apply Kd.R_drewN | apply Kd.R_drew)); exact HO486.out) hb); have n1_ := Aside0.mk (qb (g := gb479) (o := .cells #[.string ((rd_T26 (rd_L4 l0 (ji9)) x7_2).f0), .int .i64 ((rd_T26 (rd_L4 l0 (ji9)) x7_2).f1), .string ((rd_T26 (rd_L4 l0 (ji9)) x7_2).f2)] 26 (0, 0)) (by (with_reducible repeat (first | refine qM ?_ _ | refine qW ?_ | refine qL ?_ _)); exact BK479.out) hb); have n2_ := Aside0.mk (qT (by repeat (first | (with_reducible first | exact HB.out | apply qA | apply qN | apply qD | refine qS ?_ GE479.out) | exact HB.out)) hb); clear HO486; clear BK479; clear HB; have HO486 := n0_; have BK479 := n1_; have HB := n2_; clear n0_ n1_ n2_; (try clear hb); (try clear hb2); (try clear hk); (try clear hi); have hcz61_0 : w60.cell? ⟨gb479, 0, none⟩ = some (.string ((rd_T26 (rd_L4 l0 (ji9)) x7_2).f0)) := (qC BK479.out 0).trans rfl; have hcz61_1 : w60.cell? ⟨gb479, 1, none⟩ = some (.int .i64 ((rd_T26 (rd_L4 l0 (ji9)) x7_2).f1)) := (qC BK479.out 1).trans rfl; have hcz61_2 : w60.cell? ⟨gb479, 2, none⟩ = some (.string ((rd_T26 (rd_L4 l0 (ji9)) x7_2).f2)) := (qC BK479.out 2).trans rfl; have hfz61_0 := qF BK479.out 0; have hfz61_1 := qF BK479.out 1; have hfz61_2 := qF BK479.out 2))
                go_roundg k2
                case measure => have := HK1.out; have := HK2.out; omega
                case rel => exact ⟨(ji52), (wrap64 (x7_2 + 1)), (by first | rfl | (simp; done) | (simp only [← hji52] <;> (first | rfl | simp)) | (simp [*]; done)), (by first | rfl | (simp; done) | (simp [*]; done)), H', ⟨by have := HK1.out; have := HK2.out; omega⟩, ⟨by repeat (first | (with_reducible first | exact HB.out | apply qA | apply qN | apply qD | refine qS ?_ GE479.out) | exact HB.out)⟩⟩
              ·rw [if_neg c30] at H
               have c30b0 : (((rd_T26 (rd_L4 l0 (ji9)) x7_2).f1) == 2) = false := beq_eq_false_iff_ne.mpr c30
               have c30b1 : (((rd_T26 (rd_L4 l0 (ji9)) x7_2).f1) != 2) = true := bne_iff_ne.mpr c30
               have H' := Aside0.mk H
               clear H
               have p476 : 0 ≤ ((ji9) : Int) := of_decide_eq_true (by first | (with_reducible assumption) | assumption)
               have q476 : (ji9) < (l0.length : Int) := of_decide_eq_true (by first | (with_reducible assumption) | assumption)
               obtain ⟨ad476, A476_0, c476_0, e476, hx476_0, hl476_0, hi476_0⟩ := at_L4 HR0.out (ji9) p476 q476
               cases e476
               replace hx476_0 := (HB.out.cell (World.block_lt_of_cell? w _ hx476_0)).trans hx476_0
               have HR476_0 := Aside0.mk hi476_0
               have HC476_0 := Aside0.mk hl476_0
               clear hi476_0 hl476_0
               replace p476 := eq_true p476
               replace q476 := eq_true q476
               have p477 : 0 ≤ ((ji9) : Int) := of_decide_eq_true (by first | (with_reducible assumption) | assumption)
               have q477 : (ji9) < (l0.length : Int) := of_decide_eq_true (by first | (with_reducible assumption) | assumption)
               obtain ⟨ad477, A477_0, c477_0, e477, hx477_0, hl477_0, hi477_0⟩ := at_L4 HR0.out (ji9) p477 q477
               obtain rfl : ad476 = ad477 := (by injection e477)
               replace hx477_0 := (HB.out.cell (World.block_lt_of_cell? w _ hx477_0)).trans hx477_0
               have HR477_0 := Aside0.mk hi477_0
               have HC477_0 := Aside0.mk hl477_0
               clear hi477_0 hl477_0
               replace p477 := eq_true p477
               replace q477 := eq_true q477
               have ea_ := Option.some.inj (hx476_0.symm.trans hx477_0)
               injection ea_ with ea_ en_ ec_
               subst ea_
               subst ec_
               clear en_
               have p478 : 0 ≤ (x7_2 : Int) := of_decide_eq_true (by first | (with_reducible assumption) | assumption)
               have q478 : x7_2 < ((rd_L4 l0 (ji9)).length : Int) := of_decide_eq_true (by first | (with_reducible assumption) | assumption)
               obtain ⟨ad478, e478, hx478_0, hx478_1, hx478_2⟩ := at_T26 HR477_0.out x7_2 p478 q478
               cases e478
               replace hx478_0 := (HB.out.cell (World.block_lt_of_cell? w _ hx478_0)).trans hx478_0
               replace hx478_1 := (HB.out.cell (World.block_lt_of_cell? w _ hx478_1)).trans hx478_1
               replace hx478_2 := (HB.out.cell (World.block_lt_of_cell? w _ hx478_2)).trans hx478_2
               replace p478 := eq_true p478
               replace q478 := eq_true q478
               go_wp2_with (first | ((with_reducible refine qd (N := 8) rfl ?_); refine qx ?hg (N := 8) ?hd (cs := #[.string (⟨#[]⟩ : ByteArray), .int .i64 0, .string (⟨#[]⟩ : ByteArray)]) (t := 26) ?hr ?_; (case hd => rfl); (case hg => rfl); (case hr => first | (go_simp; done) | (go_simp; rfl)); intro gb479 hg w62 hbox hb; have n0_ := Aside0.mk (qT (by repeat (first | (with_reducible first | exact HB.out | apply qA | apply qN | apply qD) | exact HB.out)) hb); have n1_ := Aside0.mk (hbox); have n2_ := Aside0.mk ((by rw [hg]; exact (qZ (by repeat (first | (with_reducible first | exact HB.out | apply qA | apply qN | apply qD) | exact HB.out))) : w.heap.size ≤ gb479)); have n3_ := Aside0.mk ((by rw [hg]; exact (qZ (by repeat (first | (with_reducible first | exact HB.out | apply qA | apply qN | apply qD) | exact HB.out))) : w.heap.size ≤ gb479)); clear HB; have HB := n0_; have BK479 := n1_; have GW479 := n2_; have GE479 := n3_; clear n0_ n1_ n2_ n3_; clear hb hbox hg; have hcz63_0 : w62.cell? ⟨gb479, 0, none⟩ = some (.string (⟨#[]⟩ : ByteArray)) := (qC BK479.out 0).trans rfl; have hcz63_1 : w62.cell? ⟨gb479, 1, none⟩ = some (.int .i64 0) := (qC BK479.out 1).trans rfl; have hcz63_2 : w62.cell? ⟨gb479, 2, none⟩ = some (.string (⟨#[]⟩ : ByteArray)) := (qC BK479.out 2).trans rfl; have hfz63_0 := qF BK479.out 0; have hfz63_1 := qF BK479.out 1; have hfz63_2 := qF BK479.out 2) | ((with_reducible refine gate_store (t := 26) (p := 8) rfl ?_); refine store_event (t := 26) (p := 8) (v := ?vo_w64) (w1 := (((w62.setCell ⟨gb479, 0, none⟩ (.string ((rd_T26 (rd_L4 l0 (ji9)) x7_2).f0))).setCell ⟨gb479, 1, none⟩ (.int .i64 ((rd_T26 (rd_L4 l0 (ji9)) x7_2).f1))).setCell ⟨gb479, 2, none⟩ (.string ((rd_T26 (rd_L4 l0 (ji9)) x7_2).f2)))) ?hg ?ho ?hn ?hr ?_; (case ho => rfl); (case hg => rfl); (case hn => rfl); (case hr => first | (go_simp; done) | (go_simp; rfl)); intro w64 hw; have n0_ : Aside0 (w64.heap[gb479]? = some (.cells #[.string ((rd_T26 (rd_L4 l0 (ji9)) x7_2).f0), .int .i64 ((rd_T26 (rd_L4 l0 (ji9)) x7_2).f1), .string ((rd_T26 (rd_L4 l0 (ji9)) x7_2).f2)] 26 (0, 0))) := ⟨(by rw [hw]; exact (by (with_reducible repeat (first | refine qM ?_ _ | refine qW ?_ | refine qL ?_ _)); refine qu (cs := #[.string ((rd_T26 (rd_L4 l0 (ji9)) x7_2).f0), .int .i64 ((rd_T26 (rd_L4 l0 (ji9)) x7_2).f1), .string (⟨#[]⟩ : ByteArray)]) ?_ 2 _ rfl; (with_reducible repeat (first | refine qM ?_ _ | refine qW ?_ | refine qL ?_ _)); refine qu (cs := #[.string ((rd_T26 (rd_L4 l0 (ji9)) x7_2).f0), .int .i64 0, .string (⟨#[]⟩ : ByteArray)]) ?_ 1 _ rfl; (with_reducible repeat (first | refine qM ?_ _ | refine qW ?_ | refine qL ?_ _)); refine qu (cs := #[.string (⟨#[]⟩ : ByteArray), .int .i64 0, .string (⟨#[]⟩ : ByteArray)]) ?_ 0 _ rfl; (with_reducible repeat (first | refine qM ?_ _ | refine qW ?_ | refine qL ?_ _)); exact BK479.out))⟩; have n1_ : Aside0 (Below w.heap.size w w64) := ⟨(by rw [hw]; exact (by repeat (first | (with_reducible first | exact HB.out | apply qA | apply qN | apply qD | refine qS ?_ GE479.out) | exact HB.out)))⟩; clear hw; clear BK479; clear HB; have BK479 := n0_; have HB := n1_; clear n0_ n1_; have hcz65_0 : w64.cell? ⟨gb479, 0, none⟩ = some (.string ((rd_T26 (rd_L4 l0 (ji9)) x7_2).f0)) := (qC BK479.out 0).trans rfl; have hcz65_1 : w64.cell? ⟨gb479, 1, none⟩ = some (.int .i64 ((rd_T26 (rd_L4 l0 (ji9)) x7_2).f1)) := (qC BK479.out 1).trans rfl; have hcz65_2 : w64.cell? ⟨gb479, 2, none⟩ = some (.string ((rd_T26 (rd_L4 l0 (ji9)) x7_2).f2)) := (qC BK479.out 2).trans rfl; have hfz65_0 := qF BK479.out 0; have hfz65_1 := qF BK479.out 1; have hfz65_2 := qF BK479.out 2; have q66 : ((ji9) : Int) ≤ ((l0.length : Int) : Int) := of_decide_eq_true (by first | (with_reducible assumption) | assumption); obtain ⟨i066, hi066, _, hsz66, _⟩ := info_parts info27; have hroom66 : l0.length ≤ c0 := HC0.out; have hC66 : Kd.C (Kd.slice 26 k26) _ (some ad476) l0.length l0 := HR0.out; have hcut66 := cut_to (P := Tryz.prog) 22 27 .i64 Tryz.underlying22 hi066 (some ad476) l0.length c0 (ji9) (of_decide_eq_true (by first | (with_reducible assumption) | assumption)) q66 hroom66; have hr66 := Kd.C_take (m := ((ji9) : Int).toNat) hC66 (by omega); have hy66 : y480.length = ((ji9) : Int).toNat := (by rw [Ny480.out, List.length_take]; omega); rw [← Ny480.out] at hr66; rw [← hy66] at hcut66; have HR483 := Aside0.mk hr66; have HC483 := Aside0.mk (show y480.length ≤ c0 from by omega); clear hr66 hC66 hroom66 hi066 hsz66; have KY66 := Aside0.mk hy66; clear hy66; replace q66 := eq_true q66) | ((with_reducible refine qg (f := 24) rfl ?_); refine goesL_ (some 50) rfl rfl Tryz.func24 (by kernel_rfl) rfl #[.slice (some ad476) y480.length c0] rfl (by (try simp only [List.map_toArray, List.map_cons, List.map_nil]); first | done | rfl | (simp only [List.length_drop, List.length_take]; rfl)) ?_; (with_reducible refine (z12.calls k2 _ _ y480 t484 _ ?side1 ?side2 A17.out).mono ?_); (case side1 => repeat (first | exact (Kd.C_below HR483.out HB.out) | (with_reducible refine Kd.C_alloc ?_ _) | (with_reducible refine Kd.C_drewN ?_ _) | (with_reducible refine Kd.C_drew ?_))); (case side2 => exact HC483.out); rintro e w67 ⟨v485, rfl, ho0, hb⟩; refine ⟨_, rfl, ?_⟩; have n0_ := Aside0.mk (Kd.R_lower (Kd.R_newB ho0 (g := gb479) (o := .cells #[.string ((rd_T26 (rd_L4 l0 (ji9)) x7_2).f0), .int .i64 ((rd_T26 (rd_L4 l0 (ji9)) x7_2).f1), .string ((rd_T26 (rd_L4 l0 (ji9)) x7_2).f2)] 26 (0, 0)) (by (with_reducible repeat (first | refine qM ?_ _ | refine qW ?_ | refine qL ?_ _)); exact BK479.out)) (qZ (by repeat (first | (with_reducible first | exact HB.out | apply qA | apply qN | apply qD | refine qS ?_ GE479.out) | exact HB.out)))); have n1_ := Aside0.mk (qb (g := gb479) (o := .cells #[.string ((rd_T26 (rd_L4 l0 (ji9)) x7_2).f0), .int .i64 ((rd_T26 (rd_L4 l0 (ji9)) x7_2).f1), .string ((rd_T26 (rd_L4 l0 (ji9)) x7_2).f2)] 26 (0, 0)) (by (with_reducible repeat (first | refine qM ?_ _ | refine qW ?_ | refine qL ?_ _)); exact BK479.out) hb); have n2_ := Aside0.mk (qT (by repeat (first | (with_reducible first | exact HB.out | apply qA | apply qN | apply qD | refine qS ?_ GE479.out) | exact HB.out)) hb); clear BK479; clear HB; have HO486 := n0_; have BK479 := n1_; have HB := n2_; clear n0_ n1_ n2_; (try clear hb); (try clear hb2); (try clear hk); (try clear hi); (try clear ho0); obtain ⟨Ao68, co68, eo68⟩ := Kd.R_slice HO486.out; subst eo68) | ((with_reducible refine qg (f := 40) rfl ?_); refine goesL_ (some 52) rfl rfl Tryz.func40 (by kernel_rfl) rfl #[.slice Ao68 t484.length co68, .string a1] rfl (by (try simp only [List.map_toArray, List.map_cons, List.map_nil]); first | done | rfl | (simp only [List.length_drop, List.length_take]; rfl)) ?_; (with_reducible refine (z22.calls k2 _ _ t484 a1 t487 t488 _ ?side1 ?side2 A18.out).mono ?_); (case side1 => repeat (first | exact (Kd.R_reads' HO486.out).2.2 | (with_reducible refine Kd.C_alloc ?_ _) | (with_reducible refine Kd.C_drewN ?_ _) | (with_reducible refine Kd.C_drew ?_))); (case side2 => exact (Kd.R_reads' HO486.out).2.1); rintro e w69 ⟨rfl, hb⟩; refine ⟨_, rfl, ?_⟩; have n0_ := Aside0.mk (Kd.R_below (by (with_reducible repeat (first | apply Kd.R_alloc | apply Kd.R_drewN | apply Kd.R_drew)); exact HO486.out) hb); have n1_ := Aside0.mk (qb (g := gb479) (o := .cells #[.string ((rd_T26 (rd_L4 l0 (ji9)) x7_2).f0), .int .i64 ((rd_T26 (rd_L4 l0 (ji9)) x7_2).f1), .string ((rd_T26 (rd_L4 l0 (ji9)) x7_2).f2)] 26 (0, 0)) (by (with_reducible repeat (first | refine qM ?_ _ | refine qW ?_ | refine qL ?_ _)); exact BK479.out) hb); have n2_ := Aside0.mk (qT (by repeat (first | (with_reducible first | exact HB.out | apply qA | apply qN | apply qD | refine qS ?_ GE479.out) | exact HB.out)) hb); clear HO486; clear BK479; clear HB; have HO486 := n0_; have BK479 := n1_; have HB := n2_; clear n0_ n1_ n2_; (try clear hb); (try clear hb2); (try clear hk); (try clear hi); have hcz70_0 : w69.cell? ⟨gb479, 0, none⟩ = some (.string ((rd_T26 (rd_L4 l0 (ji9)) x7_2).f0)) := (qC BK479.out 0).trans rfl; have hcz70_1 : w69.cell? ⟨gb479, 1, none⟩ = some (.int .i64 ((rd_T26 (rd_L4 l0 (ji9)) x7_2).f1)) := (qC BK479.out 1).trans rfl; have hcz70_2 : w69.cell? ⟨gb479, 2, none⟩ = some (.string ((rd_T26 (rd_L4 l0 (ji9)) x7_2).f2)) := (qC BK479.out 2).trans rfl; have hfz70_0 := qF BK479.out 0; have hfz70_1 := qF BK479.out 1; have hfz70_2 := qF BK479.out 2))
               go_roundg k2
               case measure => have := HK1.out; have := HK2.out; omega
               case rel => exact ⟨(x5_2), (wrap64 (x7_2 + 1)), (by first | rfl | (simp; done) | (simp [*]; done)), (by first | rfl | (simp; done) | (simp [*]; done)), H', ⟨by have := HK1.out; have := HK2.out; omega⟩, ⟨by repeat (first | (with_reducible first | exact HB.out | apply qA | apply qN | apply qD | refine qS ?_ GE479.out) | exact HB.out)⟩⟩
            ·rw [if_neg c16] at H
             exact absurd H (by simp)
           ·rw [if_neg c14] at H
            have c14b0 : (((rd_T26 (rd_L4 l0 (ji9)) x7_2).f0).toList == a1.toList) = false := beq_eq_false_iff_ne.mpr c14
            have c14b1 : (((rd_T26 (rd_L4 l0 (ji9)) x7_2).f0).toList != a1.toList) = true := bne_iff_ne.mpr c14
            have H' := Aside0.mk H
            clear H
            have p476 : 0 ≤ ((ji9) : Int) := of_decide_eq_true (by first | (with_reducible assumption) | assumption)
            have q476 : (ji9) < (l0.length : Int) := of_decide_eq_true (by first | (with_reducible assumption) | assumption)
            obtain ⟨ad476, A476_0, c476_0, e476, hx476_0, hl476_0, hi476_0⟩ := at_L4 HR0.out (ji9) p476 q476
            cases e476
            replace hx476_0 := (HB.out.cell (World.block_lt_of_cell? w _ hx476_0)).trans hx476_0
            have HR476_0 := Aside0.mk hi476_0
            have HC476_0 := Aside0.mk hl476_0
            clear hi476_0 hl476_0
            replace p476 := eq_true p476
            replace q476 := eq_true q476
            have p477 : 0 ≤ ((ji9) : Int) := of_decide_eq_true (by first | (with_reducible assumption) | assumption)
            have q477 : (ji9) < (l0.length : Int) := of_decide_eq_true (by first | (with_reducible assumption) | assumption)
            obtain ⟨ad477, A477_0, c477_0, e477, hx477_0, hl477_0, hi477_0⟩ := at_L4 HR0.out (ji9) p477 q477
            obtain rfl : ad476 = ad477 := (by injection e477)
            replace hx477_0 := (HB.out.cell (World.block_lt_of_cell? w _ hx477_0)).trans hx477_0
            have HR477_0 := Aside0.mk hi477_0
            have HC477_0 := Aside0.mk hl477_0
            clear hi477_0 hl477_0
            replace p477 := eq_true p477
            replace q477 := eq_true q477
            have ea_ := Option.some.inj (hx476_0.symm.trans hx477_0)
            injection ea_ with ea_ en_ ec_
            subst ea_
            subst ec_
            clear en_
            have p478 : 0 ≤ (x7_2 : Int) := of_decide_eq_true (by first | (with_reducible assumption) | assumption)
            have q478 : x7_2 < ((rd_L4 l0 (ji9)).length : Int) := of_decide_eq_true (by first | (with_reducible assumption) | assumption)
            obtain ⟨ad478, e478, hx478_0, hx478_1, hx478_2⟩ := at_T26 HR477_0.out x7_2 p478 q478
            cases e478
            replace hx478_0 := (HB.out.cell (World.block_lt_of_cell? w _ hx478_0)).trans hx478_0
            replace hx478_1 := (HB.out.cell (World.block_lt_of_cell? w _ hx478_1)).trans hx478_1
            replace hx478_2 := (HB.out.cell (World.block_lt_of_cell? w _ hx478_2)).trans hx478_2
            replace p478 := eq_true p478
            replace q478 := eq_true q478
            go_wp2_with (first | ((with_reducible refine qd (N := 8) rfl ?_); refine qx ?hg (N := 8) ?hd (cs := #[.string (⟨#[]⟩ : ByteArray), .int .i64 0, .string (⟨#[]⟩ : ByteArray)]) (t := 26) ?hr ?_; (case hd => rfl); (case hg => rfl); (case hr => first | (go_simp; done) | (go_simp; rfl)); intro gb479 hg w71 hbox hb; have n0_ := Aside0.mk (qT (by repeat (first | (with_reducible first | exact HB.out | apply qA | apply qN | apply qD) | exact HB.out)) hb); have n1_ := Aside0.mk (hbox); have n2_ := Aside0.mk ((by rw [hg]; exact (qZ (by repeat (first | (with_reducible first | exact HB.out | apply qA | apply qN | apply qD) | exact HB.out))) : w.heap.size ≤ gb479)); have n3_ := Aside0.mk ((by rw [hg]; exact (qZ (by repeat (first | (with_reducible first | exact HB.out | apply qA | apply qN | apply qD) | exact HB.out))) : w.heap.size ≤ gb479)); clear HB; have HB := n0_; have BK479 := n1_; have GW479 := n2_; have GE479 := n3_; clear n0_ n1_ n2_ n3_; clear hb hbox hg; have hcz72_0 : w71.cell? ⟨gb479, 0, none⟩ = some (.string (⟨#[]⟩ : ByteArray)) := (qC BK479.out 0).trans rfl; have hcz72_1 : w71.cell? ⟨gb479, 1, none⟩ = some (.int .i64 0) := (qC BK479.out 1).trans rfl; have hcz72_2 : w71.cell? ⟨gb479, 2, none⟩ = some (.string (⟨#[]⟩ : ByteArray)) := (qC BK479.out 2).trans rfl; have hfz72_0 := qF BK479.out 0; have hfz72_1 := qF BK479.out 1; have hfz72_2 := qF BK479.out 2))
            go_roundg k2
            case measure => have := HK1.out; have := HK2.out; omega
            case rel => exact ⟨(x5_2), (wrap64 (x7_2 + 1)), (by first | rfl | (simp; done) | (simp [*]; done)), (by first | rfl | (simp; done) | (simp [*]; done)), H', ⟨by have := HK1.out; have := HK2.out; omega⟩, ⟨by repeat (first | (with_reducible first | exact HB.out | apply qA | apply qN | apply qD | refine qS ?_ GE479.out) | exact HB.out)⟩⟩
          ·rw [if_neg c13] at H
           exact absurd H (by simp)
         ·rw [if_neg c12] at H
          have c12b0 : decide (x7_2 < ((rd_L4 l0 (ji9)).length : Int)) = false := decide_eq_false c12
          clear c12
          have H' := Aside0.mk H
          clear H
          have p476 : 0 ≤ ((ji9) : Int) := of_decide_eq_true (by first | (with_reducible assumption) | assumption)
          have q476 : (ji9) < (l0.length : Int) := of_decide_eq_true (by first | (with_reducible assumption) | assumption)
          obtain ⟨ad476, A476_0, c476_0, e476, hx476_0, hl476_0, hi476_0⟩ := at_L4 HR0.out (ji9) p476 q476
          cases e476
          replace hx476_0 := (HB.out.cell (World.block_lt_of_cell? w _ hx476_0)).trans hx476_0
          have HR476_0 := Aside0.mk hi476_0
          have HC476_0 := Aside0.mk hl476_0
          clear hi476_0 hl476_0
          replace p476 := eq_true p476
          replace q476 := eq_true q476
          go_wp2
          go_roundg k2
          case measure => have := HK1.out; have := HK2.out; omega
          case rel => exact ⟨(x5_2), (wrap64 (x6_1 + 1)), (by first | rfl | (simp; done) | (simp [*]; done)), (by first | rfl | (simp; done) | (simp [*]; done)), H', ⟨by have := HK1.out; have := HK2.out; omega⟩, ⟨by repeat (first | (with_reducible first | exact HB.out | apply qA | apply qN | apply qD) | exact HB.out)⟩⟩
        ·rw [if_neg c11] at H
         exact absurd H (by simp)
       ·rw [if_neg c10] at H
        exact absurd H (by simp)
    ·rw [if_neg c8] at H
     have c8b0 : decide (x6_1 ≤ (l0.length : Int)) = false := decide_eq_false c8
     clear c8
     obtain rfl := Option.some.inj H
     go_wp2
     go_ret
     exact ⟨by first | rfl | (simp [qn, qe] <;> rfl) | (simp [*, qn, qe] <;> rfl), by repeat (first | (with_reducible first | exact HB.out | apply qA | apply qN | apply qD) | exact HB.out)⟩

end Go.Proofs.YthfbcclbappbcaaGreatDoor.Print
