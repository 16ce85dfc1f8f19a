import Derived.Test.YthfbcclbappbcaaGreatDoorPrint0
import Derived.Test.YthfbcclbappbcaaGreatDoorPrint1
import Derived.Test.YthfbcclbappbcaaGreatDoorPrint8
import Derived.Test.YthfbcclbappbcaaGreatDoorPrint9
import Derived.Test.YthfbcclbappbcaaGreatDoorPrintKi
import Derived.Test.YthfbcclbappbcaaGreatDoorPrintOv
namespace Go.Proofs.YthfbcclbappbcaaGreatDoor.Print
open Go.RowKit Go.Proofs.YthfbcclbappbcaaGreatDoorW.PrintWords Go.Proofs.YthfbcclbappbcaaGreatDoorW.PrintLast Go.Proofs.YthfbcclbappbcaaGreatDoorW.PrintMore
attribute [local go_sem] max2_int min2_int max_two min_two max_three min_three max_four min_four   -- for this text's walks alone
set_option linter.unusedVariables false
set_option linter.unusedSimpArgs false
def shaleref12_At.l0 : Nat → ByteArray → List ByteArray → List (S26) → Int → Option (Int × ByteArray × Int)
 | 0, _, _, _, _ => none
 | k + 1, x1, x7, x9, x10 => if x10 < (x7.length : Int) then (if 0 ≤ x10 then (if x10 ≤ (x7.length : Int) then ((shaleref03_Join.f k (x7.take (x10 : Int).toNat)).bind fun t367 => ((shaleref11_Kind.f k x9 t367).bind fun bt368 => (if bt368.2 = 0 then (if bt368.1 = 1 then (some (0, (⟨#[]⟩ : ByteArray), 6)) else (shaleref12_At.l0 k x1 x7 x9 (wrap64 (x10 + 1)))) else (some (0, (⟨#[]⟩ : ByteArray), bt368.2))))) else (none)) else (none)) else ((shaleref11_Kind.f k x9 x1).bind fun bt360 => ((shaleref11_Data.f k x9 x1).bind fun t362 => (some (bt360.1, t362, bt360.2))))
def shaleref12_At.f (k : Nat) (l0 : List (List (S26))) (a1 : ByteArray) : Option (Int × ByteArray × Int) := (shaleref03_Split.f k a1).bind fun bt353 => (if bt353.2 = true then ((shaleref10_Stack.f k l0).bind fun t357 => (shaleref12_At.l0 k a1 bt353.1 t357 0)) else (some (0, (⟨#[]⟩ : ByteArray), 2)))
theorem shaleref12_At.mono_l : ∀ k, (∀ y0 y1 y2 y3, LeO (shaleref12_At.l0 k y0 y1 y2 y3) (shaleref12_At.l0 (k + 1) y0 y1 y2 y3))
 | 0 => fun _ _ _ _ r h => by simp [shaleref12_At.l0] at h
 | k + 1 => by
  have ih0 := shaleref12_At.mono_l k
  ·intro y0 y1 y2 y3
   unfold shaleref12_At.l0
   repeat' first
   | (with_reducible exact ih0 _ _ _ _)
   | (with_reducible exact shaleref03_Join.mono _ _)
   | (with_reducible exact shaleref03_Split.mono _ _)
   | (with_reducible exact shaleref10_Stack.mono _ _)
   | (with_reducible exact shaleref11_Data.mono _ _ _)
   | (with_reducible exact shaleref11_Kind.mono _ _ _)
   | (with_reducible exact LeO.refl _)
   | (with_reducible exact LeO.none _)
   | (with_reducible refine LeO.ite ?_ ?_)
   | (with_reducible refine LeO.bind ?_ (fun _ => ?_))
   | exact ih0 _ _ _ _
   | exact shaleref03_Join.mono _ _
   | exact shaleref03_Split.mono _ _
   | exact shaleref10_Stack.mono _ _
   | exact shaleref11_Data.mono _ _ _
   | exact shaleref11_Kind.mono _ _ _
   | exact LeO.none _
   | refine LeO.ite ?_ ?_
   | refine LeO.bind ?_ (fun _ => ?_)
theorem shaleref12_At.mono : ∀ a0 a1 k, LeO (shaleref12_At.f k a0 a1) (shaleref12_At.f (k + 1) a0 a1) := by
 intro a0 a1 k
 have ih0 := shaleref12_At.mono_l k
 unfold shaleref12_At.f
 repeat' first
   | (with_reducible exact ih0 _ _ _ _)
   | (with_reducible exact shaleref03_Join.mono _ _)
   | (with_reducible exact shaleref03_Split.mono _ _)
   | (with_reducible exact shaleref10_Stack.mono _ _)
   | (with_reducible exact shaleref11_Data.mono _ _ _)
   | (with_reducible exact shaleref11_Kind.mono _ _ _)
   | (with_reducible exact LeO.refl _)
   | (with_reducible exact LeO.none _)
   | (with_reducible refine LeO.ite ?_ ?_)
   | (with_reducible refine LeO.bind ?_ (fun _ => ?_))
   | exact ih0 _ _ _ _
   | exact shaleref03_Join.mono _ _
   | exact shaleref03_Split.mono _ _
   | exact shaleref10_Stack.mono _ _
   | exact shaleref11_Data.mono _ _ _
   | exact shaleref11_Kind.mono _ _ _
   | exact LeO.none _
   | refine LeO.ite ?_ ?_
   | refine LeO.bind ?_ (fun _ => ?_)
set_option maxHeartbeats 8000000 in
set_option maxRecDepth 100000 in
theorem shaleref12_At.calls (k : Nat) (A0 : Option Addr) (c0 : Nat) (l0 : List (List (S26))) (a1 : ByteArray) (r1 : Int) (r2 : ByteArray) (r3 : Int) (w : World) (hr0 : Kd.C (Kd.slice 26 k26) w A0 l0.length l0) (hc0 : l0.length ≤ c0) (h : shaleref12_At.f k l0 a1 = some (r1, r2, r3)) :
  Calls Tryz.prog 14 #[.slice A0 l0.length c0, .string a1] w fun e w' => e = .returned (.tuple #[.int .i64 r1, .string r2, .int .i64 r3]) ∧ Below w.heap.size w w' := by
 have HR0 := Aside0.mk hr0
 have HC0 := Aside0.mk hc0
 clear hr0 hc0
 have HB := Aside0.mk (Below.refl w.heap.size w)
 have H : ((shaleref03_Split.f k a1).bind fun bt353 => (if bt353.2 = true then ((shaleref10_Stack.f k l0).bind fun t357 => (shaleref12_At.l0 k a1 bt353.1 t357 0)) else (some (0, (⟨#[]⟩ : ByteArray), 2)))) = some (r1, r2, r3) := h
 clear h
 replace H := Option.bind_eq_some_iff.mp H
 obtain ⟨⟨t353, t354⟩, A30, H⟩ := H
 replace H : (if t354 = true then ((shaleref10_Stack.f k l0).bind fun t357 => (shaleref12_At.l0 k a1 t353 t357 0)) else (some (0, (⟨#[]⟩ : ByteArray), 2))) = some (r1, r2, r3) := H
 have A3 := Aside0.mk A30
 clear A30
 by_cases c4 : t354 = true
 ·subst c4
  have H1 : ((shaleref10_Stack.f k l0).bind fun t357 => (shaleref12_At.l0 k a1 t353 t357 0)) = some (r1, r2, r3) := by rw [if_pos rfl] at H; exact H
  clear H
  have H := H1
  clear H1
  replace H := Option.bind_eq_some_iff.mp H
  obtain ⟨t357, A50, H⟩ := H
  replace H : (shaleref12_At.l0 k a1 t353 t357 0) = some (r1, r2, r3) := H
  have A5 := Aside0.mk A50
  clear A50
  have H' := Aside0.mk H
  clear H
  go_enter Tryz.func14, Tryz.ntmps14
  go_wp2_with (first | ((with_reducible refine gate_callee (f := 39) rfl ?_); refine goesL_ (some 17) rfl rfl Tryz.func39 (by kernel_rfl) rfl #[.string a1] rfl (by (try simp only [List.map_toArray, List.map_cons, List.map_nil]); first | done | rfl | (simp only [List.length_drop, List.length_take]; rfl)) ?_; (with_reducible refine (shaleref03_Split.calls k a1 t353 true _ A3.out).mono ?_); rintro e w6 ⟨v355, rfl, ho0, hb⟩; refine ⟨_, rfl, ?_⟩; have n0_ := Aside0.mk (Kd.R_lower ho0 (below_size (by repeat (first | (with_reducible first | exact HB.out | apply below_alloc | apply pw_below_drewN | apply below_drew1) | exact HB.out)))); have n1_ := Aside0.mk (below_step (by repeat (first | (with_reducible first | exact HB.out | apply below_alloc | apply pw_below_drewN | apply below_drew1) | exact HB.out)) hb); clear HB; have HO356 := n0_; have HB := n1_; clear n0_ n1_; (try clear hb); (try clear hb2); (try clear hk); (try clear hi); (try clear ho0)) | ((with_reducible refine gate_callee (f := 24) rfl ?_); refine goesL_ (some 23) rfl rfl Tryz.func24 (by kernel_rfl) rfl #[.slice A0 l0.length c0] rfl (by (try simp only [List.map_toArray, List.map_cons, List.map_nil]); first | done | rfl | (simp only [List.length_drop, List.length_take]; rfl)) ?_; (with_reducible refine (shaleref10_Stack.calls k _ _ l0 t357 _ ?side1 ?side2 A5.out).mono ?_); (case side1 => repeat (first | exact (Kd.C_below HR0.out HB.out) | (with_reducible refine Kd.C_alloc ?_ _) | (with_reducible refine Kd.C_drewN ?_ _) | (with_reducible refine Kd.C_drew ?_))); (case side2 => exact HC0.out); rintro e w7 ⟨v358, rfl, ho0, hb⟩; refine ⟨_, rfl, ?_⟩; have n0_ := Aside0.mk (Kd.R_below (by (with_reducible repeat (first | apply Kd.R_alloc | apply Kd.R_drewN | apply Kd.R_drew)); exact HO356.out) hb); have n1_ := Aside0.mk (Kd.R_lower ho0 (below_size (by repeat (first | (with_reducible first | exact HB.out | apply below_alloc | apply pw_below_drewN | apply below_drew1) | exact HB.out)))); have n2_ := Aside0.mk (below_step (by repeat (first | (with_reducible first | exact HB.out | apply below_alloc | apply pw_below_drewN | apply below_drew1) | exact HB.out)) hb); clear HO356; clear HB; have HO356 := n0_; have HO359 := n1_; have HB := n2_; clear n0_ n1_ n2_; (try clear hb); (try clear hb2); (try clear hk); (try clear hi); (try clear ho0)))
  go_loopg [10] k (fun kq v10 w' => ∃ (x10_1 : Int), v10 = .int .i64 x10_1 ∧ Aside0 (shaleref12_At.l0 kq a1 t353 t357 x10_1 = some (r1, r2, r3)) ∧ Aside0 (kq ≤ k) ∧ Aside0 (Kd.R Kd.string 9 w' w.heap.size (fun _ => True) v355 t353) ∧ Aside0 (Kd.R k26 26 w' w.heap.size (fun _ => True) v358 t357) ∧ Aside0 (Below w.heap.size w w'))
  case atStart => exact ⟨(0), (by first | rfl | (simp; done) | (simp [*]; done)), H', ⟨Nat.le_refl _⟩, ⟨by (with_reducible repeat (first | apply Kd.R_alloc | apply Kd.R_drewN | apply Kd.R_drew)); exact HO356.out⟩, ⟨by (with_reducible repeat (first | apply Kd.R_alloc | apply Kd.R_drewN | apply Kd.R_drew)); exact HO359.out⟩, ⟨by repeat (first | (with_reducible first | exact HB.out | apply below_alloc | apply pw_below_drewN | apply below_drew1) | exact HB.out)⟩⟩
  case round =>
   clear H'
   try clear c1
   try clear c2
   try clear p2
   try clear c3
   try clear c4
   obtain ⟨x10_1, rfl, HA, HK1, HO_7, HO_9, HB⟩ := hrel
   cases gk with
   | zero => exact absurd HA.out (by simp [shaleref12_At.l0])
   | succ k1 =>
    have H := HA.out
    clear HA
    simp only [shaleref12_At.l0] at H
    by_cases c8 : x10_1 < (t353.length : Int)
    ·rw [if_pos c8] at H
     have c8b0 : decide (x10_1 < (t353.length : Int)) = true := decide_eq_true c8
     clear c8
     by_cases c9 : 0 ≤ x10_1
     ·rw [if_pos c9] at H
      have c9b0 := eq_true c9
      have c9b1 : decide (0 ≤ x10_1) = true := decide_eq_true c9
      clear c9
      by_cases c10 : x10_1 ≤ (t353.length : Int)
      ·rw [if_pos c10] at H
       have c10b0 := eq_true c10
       have c10b1 : decide (x10_1 ≤ (t353.length : Int)) = true := decide_eq_true c10
       clear c10
       obtain ⟨y363, hy363⟩ : ∃ y_ : List ByteArray, y_ = (t353.take (x10_1 : Int).toNat) := ⟨_, rfl⟩
       replace H : ((shaleref03_Join.f k1 y363).bind fun t367 => ((shaleref11_Kind.f k1 t357 t367).bind fun bt368 => (if bt368.2 = 0 then (if bt368.1 = 1 then (some (0, (⟨#[]⟩ : ByteArray), 6)) else (shaleref12_At.l0 k1 a1 t353 t357 (wrap64 (x10_1 + 1)))) else (some (0, (⟨#[]⟩ : ByteArray), bt368.2))))) = some (r1, r2, r3) := by first | (rw [hy363]; with_reducible exact H) | (have H2_ := (Option.bind_some _ _).symm.trans H; rw [hy363]; with_reducible exact H2_) | (have H2_ := (Option.bind_some _ _).symm.trans H; with_reducible exact H2_) | with_reducible exact H | (rw [hy363]; exact H) | exact H
       have Ny363 := Aside0.mk hy363
       clear hy363
       replace H := Option.bind_eq_some_iff.mp H
       obtain ⟨t367, A110, H⟩ := H
       replace H : ((shaleref11_Kind.f k1 t357 t367).bind fun bt368 => (if bt368.2 = 0 then (if bt368.1 = 1 then (some (0, (⟨#[]⟩ : ByteArray), 6)) else (shaleref12_At.l0 k1 a1 t353 t357 (wrap64 (x10_1 + 1)))) else (some (0, (⟨#[]⟩ : ByteArray), bt368.2)))) = some (r1, r2, r3) := H
       have A11 := Aside0.mk A110
       clear A110
       replace H := Option.bind_eq_some_iff.mp H
       obtain ⟨⟨t368, t369⟩, A120, H⟩ := H
       replace H : (if t369 = 0 then (if t368 = 1 then (some (0, (⟨#[]⟩ : ByteArray), 6)) else (shaleref12_At.l0 k1 a1 t353 t357 (wrap64 (x10_1 + 1)))) else (some (0, (⟨#[]⟩ : ByteArray), t369))) = some (r1, r2, r3) := H
       have A12 := Aside0.mk A120
       clear A120
       by_cases c13 : t369 = 0
       ·rw [if_pos c13] at H
        have c13b0 : (t369 == 0) = true := beq_iff_eq.mpr c13
        have c13b1 : (t369 != 0) = false := bne_eq_false_iff_eq.mpr c13
        clear c13
        by_cases c14 : t368 = 1
        ·rw [if_pos c14] at H
         have c14b0 : (t368 == 1) = true := beq_iff_eq.mpr c14
         have c14b1 : (t368 != 1) = false := bne_eq_false_iff_eq.mpr c14
         clear c14
         simp only [Option.some.injEq, Prod.mk.injEq] at H
         obtain ⟨rfl, rfl, rfl⟩ := H
         obtain ⟨Ao15, co15, eo15⟩ := Kd.R_slice HO_7.out
         subst eo15
         have q16 : (x10_1 : Int) ≤ ((t353.length : Int) : Int) := of_decide_eq_true (by first | (with_reducible assumption) | assumption)
         obtain ⟨i016, hi016, _, hsz16, _⟩ := info_parts info9
         have hroom16 : t353.length ≤ co15 := (Kd.R_reads' HO_7.out).2.1
         have hC16 : Kd.C Kd.string _ Ao15 t353.length t353 := (Kd.R_reads' HO_7.out).2.2
         have hcut16 := cut_to (P := Tryz.prog) 57 9 .i64 Tryz.underlying57 hi016 Ao15 t353.length co15 x10_1 (of_decide_eq_true (by first | (with_reducible assumption) | assumption)) q16 hroom16
         have hr16 := Kd.C_take (m := (x10_1 : Int).toNat) hC16 (by omega)
         have hy16 : y363.length = (x10_1 : Int).toNat := (by rw [Ny363.out, List.length_take]; omega)
         rw [← Ny363.out] at hr16
         rw [← hy16] at hcut16
         have HR366 := Aside0.mk hr16
         have HC366 := Aside0.mk (show y363.length ≤ co15 from by omega)
         clear hr16 hC16 hroom16 hi016 hsz16
         have KY16 := Aside0.mk hy16
         clear hy16
         have KL16 := Aside0.mk (show (x10_1 : Int).toNat ≤ t353.length from by omega)
         replace q16 := eq_true q16
         go_wp2_with (first | ((with_reducible refine gate_callee (f := 41) rfl ?_); refine goesL_ (some 35) rfl rfl Tryz.func41 (by kernel_rfl) rfl #[.slice Ao15 y363.length co15] rfl (by (try simp only [List.map_toArray, List.map_cons, List.map_nil]); first | done | rfl | (simp only [List.length_drop, List.length_take]; rfl)) ?_; (with_reducible refine (shaleref03_Join.calls k1 _ _ y363 t367 _ ?side1 ?side2 A11.out).mono ?_); (case side1 => repeat (first | exact (by repeat (first | (with_reducible exact HR366.out) | (with_reducible refine Kd.C_alloc ?_ _) | (with_reducible refine Kd.C_drewN ?_ _) | (with_reducible refine Kd.C_drew ?_) | exact HR366.out)) | (with_reducible refine Kd.C_alloc ?_ _) | (with_reducible refine Kd.C_drewN ?_ _) | (with_reducible refine Kd.C_drew ?_))); (case side2 => exact HC366.out); rintro e w' ⟨rfl, ⟨nd, rfl⟩⟩; refine ⟨_, rfl, ?_⟩; obtain ⟨Ao17, co17, eo17⟩ := Kd.R_slice HO_9.out; subst eo17) | ((with_reducible refine gate_callee (f := 40) rfl ?_); refine goesL_ (some 36) rfl rfl Tryz.func40 (by kernel_rfl) rfl #[.slice Ao17 t357.length co17, .string t367] rfl (by (try simp only [List.map_toArray, List.map_cons, List.map_nil]); first | done | rfl | (simp only [List.length_drop, List.length_take]; rfl)) ?_; (with_reducible refine (shaleref11_Kind.calls k1 _ _ t357 t367 t368 t369 _ ?side1 ?side2 A12.out).mono ?_); (case side1 => repeat (first | exact (Kd.R_reads' HO_9.out).2.2 | (with_reducible refine Kd.C_alloc ?_ _) | (with_reducible refine Kd.C_drewN ?_ _) | (with_reducible refine Kd.C_drew ?_))); (case side2 => exact (Kd.R_reads' HO_9.out).2.1); rintro e w18 ⟨rfl, hb⟩; refine ⟨_, rfl, ?_⟩; have n0_ := Aside0.mk (Kd.R_below (by (with_reducible repeat (first | apply Kd.R_alloc | apply Kd.R_drewN | apply Kd.R_drew)); exact HO_7.out) hb); have n1_ := Aside0.mk (Kd.R_below (by (with_reducible repeat (first | apply Kd.R_alloc | apply Kd.R_drewN | apply Kd.R_drew)); exact HO_9.out) hb); have n2_ := Aside0.mk (Kd.C_below (by repeat (first | (with_reducible exact HR366.out) | (with_reducible refine Kd.C_alloc ?_ _) | (with_reducible refine Kd.C_drewN ?_ _) | (with_reducible refine Kd.C_drew ?_) | exact HR366.out)) hb); have n3_ := Aside0.mk (below_step (by repeat (first | (with_reducible first | exact HB.out | apply below_alloc | apply pw_below_drewN | apply below_drew1) | exact HB.out)) hb); clear HO_7; clear HO_9; clear HR366; clear HB; have HO_7 := n0_; have HO_9 := n1_; have HR366 := n2_; have HB := n3_; clear n0_ n1_ n2_ n3_; (try clear hb); (try clear hb2); (try clear hk); (try clear hi)))
         go_ret3
         exact ⟨by first | rfl | (simp [errW_none, errW_some] <;> rfl) | (simp [*, errW_none, errW_some] <;> rfl), by repeat (first | (with_reducible first | exact HB.out | apply below_alloc | apply pw_below_drewN | apply below_drew1) | exact HB.out)⟩
        ·rw [if_neg c14] at H
         have c14b0 : (t368 == 1) = false := beq_eq_false_iff_ne.mpr c14
         have c14b1 : (t368 != 1) = true := bne_iff_ne.mpr c14
         have H' := Aside0.mk H
         clear H
         obtain ⟨Ao19, co19, eo19⟩ := Kd.R_slice HO_7.out
         subst eo19
         have q20 : (x10_1 : Int) ≤ ((t353.length : Int) : Int) := of_decide_eq_true (by first | (with_reducible assumption) | assumption)
         obtain ⟨i020, hi020, _, hsz20, _⟩ := info_parts info9
         have hroom20 : t353.length ≤ co19 := (Kd.R_reads' HO_7.out).2.1
         have hC20 : Kd.C Kd.string _ Ao19 t353.length t353 := (Kd.R_reads' HO_7.out).2.2
         have hcut20 := cut_to (P := Tryz.prog) 57 9 .i64 Tryz.underlying57 hi020 Ao19 t353.length co19 x10_1 (of_decide_eq_true (by first | (with_reducible assumption) | assumption)) q20 hroom20
         have hr20 := Kd.C_take (m := (x10_1 : Int).toNat) hC20 (by omega)
         have hy20 : y363.length = (x10_1 : Int).toNat := (by rw [Ny363.out, List.length_take]; omega)
         rw [← Ny363.out] at hr20
         rw [← hy20] at hcut20
         have HR366 := Aside0.mk hr20
         have HC366 := Aside0.mk (show y363.length ≤ co19 from by omega)
         clear hr20 hC20 hroom20 hi020 hsz20
         have KY20 := Aside0.mk hy20
         clear hy20
         have KL20 := Aside0.mk (show (x10_1 : Int).toNat ≤ t353.length from by omega)
         replace q20 := eq_true q20
         go_wp2_with (first | ((with_reducible refine gate_callee (f := 41) rfl ?_); refine goesL_ (some 35) rfl rfl Tryz.func41 (by kernel_rfl) rfl #[.slice Ao19 y363.length co19] rfl (by (try simp only [List.map_toArray, List.map_cons, List.map_nil]); first | done | rfl | (simp only [List.length_drop, List.length_take]; rfl)) ?_; (with_reducible refine (shaleref03_Join.calls k1 _ _ y363 t367 _ ?side1 ?side2 A11.out).mono ?_); (case side1 => repeat (first | exact (by repeat (first | (with_reducible exact HR366.out) | (with_reducible refine Kd.C_alloc ?_ _) | (with_reducible refine Kd.C_drewN ?_ _) | (with_reducible refine Kd.C_drew ?_) | exact HR366.out)) | (with_reducible refine Kd.C_alloc ?_ _) | (with_reducible refine Kd.C_drewN ?_ _) | (with_reducible refine Kd.C_drew ?_))); (case side2 => exact HC366.out); rintro e w' ⟨rfl, ⟨nd, rfl⟩⟩; refine ⟨_, rfl, ?_⟩; obtain ⟨Ao21, co21, eo21⟩ := Kd.R_slice HO_9.out; subst eo21) | ((with_reducible refine gate_callee (f := 40) rfl ?_); refine goesL_ (some 36) rfl rfl Tryz.func40 (by kernel_rfl) rfl #[.slice Ao21 t357.length co21, .string t367] rfl (by (try simp only [List.map_toArray, List.map_cons, List.map_nil]); first | done | rfl | (simp only [List.length_drop, List.length_take]; rfl)) ?_; (with_reducible refine (shaleref11_Kind.calls k1 _ _ t357 t367 t368 t369 _ ?side1 ?side2 A12.out).mono ?_); (case side1 => repeat (first | exact (Kd.R_reads' HO_9.out).2.2 | (with_reducible refine Kd.C_alloc ?_ _) | (with_reducible refine Kd.C_drewN ?_ _) | (with_reducible refine Kd.C_drew ?_))); (case side2 => exact (Kd.R_reads' HO_9.out).2.1); rintro e w22 ⟨rfl, hb⟩; refine ⟨_, rfl, ?_⟩; have n0_ := Aside0.mk (Kd.R_below (by (with_reducible repeat (first | apply Kd.R_alloc | apply Kd.R_drewN | apply Kd.R_drew)); exact HO_7.out) hb); have n1_ := Aside0.mk (Kd.R_below (by (with_reducible repeat (first | apply Kd.R_alloc | apply Kd.R_drewN | apply Kd.R_drew)); exact HO_9.out) hb); have n2_ := Aside0.mk (Kd.C_below (by repeat (first | (with_reducible exact HR366.out) | (with_reducible refine Kd.C_alloc ?_ _) | (with_reducible refine Kd.C_drewN ?_ _) | (with_reducible refine Kd.C_drew ?_) | exact HR366.out)) hb); have n3_ := Aside0.mk (below_step (by repeat (first | (with_reducible first | exact HB.out | apply below_alloc | apply pw_below_drewN | apply below_drew1) | exact HB.out)) hb); clear HO_7; clear HO_9; clear HR366; clear HB; have HO_7 := n0_; have HO_9 := n1_; have HR366 := n2_; have HB := n3_; clear n0_ n1_ n2_ n3_; (try clear hb); (try clear hb2); (try clear hk); (try clear hi)))
         go_roundg k1
         case measure => have := HK1.out; omega
         case rel => exact ⟨(wrap64 (x10_1 + 1)), (by first | rfl | (simp; done) | (simp [*]; done)), H', ⟨by have := HK1.out; omega⟩, ⟨by (with_reducible repeat (first | apply Kd.R_alloc | apply Kd.R_drewN | apply Kd.R_drew)); exact HO_7.out⟩, ⟨by (with_reducible repeat (first | apply Kd.R_alloc | apply Kd.R_drewN | apply Kd.R_drew)); exact HO_9.out⟩, ⟨by repeat (first | (with_reducible first | exact HB.out | apply below_alloc | apply pw_below_drewN | apply below_drew1) | exact HB.out)⟩⟩
       ·rw [if_neg c13] at H
        have c13b0 : (t369 == 0) = false := beq_eq_false_iff_ne.mpr c13
        have c13b1 : (t369 != 0) = true := bne_iff_ne.mpr c13
        simp only [Option.some.injEq, Prod.mk.injEq] at H
        obtain ⟨rfl, rfl, rfl⟩ := H
        obtain ⟨Ao23, co23, eo23⟩ := Kd.R_slice HO_7.out
        subst eo23
        have q24 : (x10_1 : Int) ≤ ((t353.length : Int) : Int) := of_decide_eq_true (by first | (with_reducible assumption) | assumption)
        obtain ⟨i024, hi024, _, hsz24, _⟩ := info_parts info9
        have hroom24 : t353.length ≤ co23 := (Kd.R_reads' HO_7.out).2.1
        have hC24 : Kd.C Kd.string _ Ao23 t353.length t353 := (Kd.R_reads' HO_7.out).2.2
        have hcut24 := cut_to (P := Tryz.prog) 57 9 .i64 Tryz.underlying57 hi024 Ao23 t353.length co23 x10_1 (of_decide_eq_true (by first | (with_reducible assumption) | assumption)) q24 hroom24
        have hr24 := Kd.C_take (m := (x10_1 : Int).toNat) hC24 (by omega)
        have hy24 : y363.length = (x10_1 : Int).toNat := (by rw [Ny363.out, List.length_take]; omega)
        rw [← Ny363.out] at hr24
        rw [← hy24] at hcut24
        have HR366 := Aside0.mk hr24
        have HC366 := Aside0.mk (show y363.length ≤ co23 from by omega)
        clear hr24 hC24 hroom24 hi024 hsz24
        have KY24 := Aside0.mk hy24
        clear hy24
        have KL24 := Aside0.mk (show (x10_1 : Int).toNat ≤ t353.length from by omega)
        replace q24 := eq_true q24
        go_wp2_with (first | ((with_reducible refine gate_callee (f := 41) rfl ?_); refine goesL_ (some 35) rfl rfl Tryz.func41 (by kernel_rfl) rfl #[.slice Ao23 y363.length co23] rfl (by (try simp only [List.map_toArray, List.map_cons, List.map_nil]); first | done | rfl | (simp only [List.length_drop, List.length_take]; rfl)) ?_; (with_reducible refine (shaleref03_Join.calls k1 _ _ y363 t367 _ ?side1 ?side2 A11.out).mono ?_); (case side1 => repeat (first | exact (by repeat (first | (with_reducible exact HR366.out) | (with_reducible refine Kd.C_alloc ?_ _) | (with_reducible refine Kd.C_drewN ?_ _) | (with_reducible refine Kd.C_drew ?_) | exact HR366.out)) | (with_reducible refine Kd.C_alloc ?_ _) | (with_reducible refine Kd.C_drewN ?_ _) | (with_reducible refine Kd.C_drew ?_))); (case side2 => exact HC366.out); rintro e w' ⟨rfl, ⟨nd, rfl⟩⟩; refine ⟨_, rfl, ?_⟩; obtain ⟨Ao25, co25, eo25⟩ := Kd.R_slice HO_9.out; subst eo25) | ((with_reducible refine gate_callee (f := 40) rfl ?_); refine goesL_ (some 36) rfl rfl Tryz.func40 (by kernel_rfl) rfl #[.slice Ao25 t357.length co25, .string t367] rfl (by (try simp only [List.map_toArray, List.map_cons, List.map_nil]); first | done | rfl | (simp only [List.length_drop, List.length_take]; rfl)) ?_; (with_reducible refine (shaleref11_Kind.calls k1 _ _ t357 t367 t368 t369 _ ?side1 ?side2 A12.out).mono ?_); (case side1 => repeat (first | exact (Kd.R_reads' HO_9.out).2.2 | (with_reducible refine Kd.C_alloc ?_ _) | (with_reducible refine Kd.C_drewN ?_ _) | (with_reducible refine Kd.C_drew ?_))); (case side2 => exact (Kd.R_reads' HO_9.out).2.1); rintro e w26 ⟨rfl, hb⟩; refine ⟨_, rfl, ?_⟩; have n0_ := Aside0.mk (Kd.R_below (by (with_reducible repeat (first | apply Kd.R_alloc | apply Kd.R_drewN | apply Kd.R_drew)); exact HO_7.out) hb); have n1_ := Aside0.mk (Kd.R_below (by (with_reducible repeat (first | apply Kd.R_alloc | apply Kd.R_drewN | apply Kd.R_drew)); exact HO_9.out) hb); have n2_ := Aside0.mk (Kd.C_below (by repeat (first | (with_reducible exact HR366.out) | (with_reducible refine Kd.C_alloc ?_ _) | (with_reducible refine Kd.C_drewN ?_ _) | (with_reducible refine Kd.C_drew ?_) | exact HR366.out)) hb); have n3_ := Aside0.mk (below_step (by repeat (first | (with_reducible first | exact HB.out | apply below_alloc | apply pw_below_drewN | apply below_drew1) | exact HB.out)) hb); clear HO_7; clear HO_9; clear HR366; clear HB; have HO_7 := n0_; have HO_9 := n1_; have HR366 := n2_; have HB := n3_; clear n0_ n1_ n2_ n3_; (try clear hb); (try clear hb2); (try clear hk); (try clear hi)))
        go_ret3
        exact ⟨by first | rfl | (simp [errW_none, errW_some] <;> rfl) | (simp [*, errW_none, errW_some] <;> rfl), by repeat (first | (with_reducible first | exact HB.out | apply below_alloc | apply pw_below_drewN | apply below_drew1) | exact HB.out)⟩
      ·rw [if_neg c10] at H
       exact absurd H (by simp)
     ·rw [if_neg c9] at H
      exact absurd H (by simp)
    ·rw [if_neg c8] at H
     have c8b0 : decide (x10_1 < (t353.length : Int)) = false := decide_eq_false c8
     clear c8
     replace H := Option.bind_eq_some_iff.mp H
     obtain ⟨⟨t360, t361⟩, A270, H⟩ := H
     replace H : ((shaleref11_Data.f k1 t357 a1).bind fun t362 => (some (t360, t362, t361))) = some (r1, r2, r3) := H
     have A27 := Aside0.mk A270
     clear A270
     replace H := Option.bind_eq_some_iff.mp H
     obtain ⟨t362, A280, H⟩ := H
     replace H : (some (t360, t362, t361)) = some (r1, r2, r3) := H
     have A28 := Aside0.mk A280
     clear A280
     simp only [Option.some.injEq, Prod.mk.injEq] at H
     obtain ⟨rfl, rfl, rfl⟩ := H
     obtain ⟨Ao29, co29, eo29⟩ := Kd.R_slice HO_7.out
     subst eo29
     obtain ⟨Ao30, co30, eo30⟩ := Kd.R_slice HO_9.out
     subst eo30
     go_wp2_with (first | ((with_reducible refine gate_callee (f := 40) rfl ?_); refine goesL_ (some 47) rfl rfl Tryz.func40 (by kernel_rfl) rfl #[.slice Ao30 t357.length co30, .string a1] rfl (by (try simp only [List.map_toArray, List.map_cons, List.map_nil]); first | done | rfl | (simp only [List.length_drop, List.length_take]; rfl)) ?_; (with_reducible refine (shaleref11_Kind.calls k1 _ _ t357 a1 t360 t361 _ ?side1 ?side2 A27.out).mono ?_); (case side1 => repeat (first | exact (Kd.R_reads' HO_9.out).2.2 | (with_reducible refine Kd.C_alloc ?_ _) | (with_reducible refine Kd.C_drewN ?_ _) | (with_reducible refine Kd.C_drew ?_))); (case side2 => exact (Kd.R_reads' HO_9.out).2.1); rintro e w31 ⟨rfl, hb⟩; refine ⟨_, rfl, ?_⟩; have n0_ := Aside0.mk (Kd.R_below (by (with_reducible repeat (first | apply Kd.R_alloc | apply Kd.R_drewN | apply Kd.R_drew)); exact HO_7.out) hb); have n1_ := Aside0.mk (Kd.R_below (by (with_reducible repeat (first | apply Kd.R_alloc | apply Kd.R_drewN | apply Kd.R_drew)); exact HO_9.out) hb); have n2_ := Aside0.mk (below_step (by repeat (first | (with_reducible first | exact HB.out | apply below_alloc | apply pw_below_drewN | apply below_drew1) | exact HB.out)) hb); clear HO_7; clear HO_9; clear HB; have HO_7 := n0_; have HO_9 := n1_; have HB := n2_; clear n0_ n1_ n2_; (try clear hb); (try clear hb2); (try clear hk); (try clear hi)) | ((with_reducible refine gate_callee (f := 42) rfl ?_); refine goesL_ (some 53) rfl rfl Tryz.func42 (by kernel_rfl) rfl #[.slice Ao30 t357.length co30, .string a1] rfl (by (try simp only [List.map_toArray, List.map_cons, List.map_nil]); first | done | rfl | (simp only [List.length_drop, List.length_take]; rfl)) ?_; (with_reducible refine (shaleref11_Data.calls k1 _ _ t357 a1 t362 _ ?side1 ?side2 A28.out).mono ?_); (case side1 => repeat (first | exact (Kd.R_reads' HO_9.out).2.2 | (with_reducible refine Kd.C_alloc ?_ _) | (with_reducible refine Kd.C_drewN ?_ _) | (with_reducible refine Kd.C_drew ?_))); (case side2 => exact (Kd.R_reads' HO_9.out).2.1); rintro e w' ⟨rfl, ⟨nd, rfl⟩⟩; refine ⟨_, rfl, ?_⟩))
     go_ret3
     exact ⟨by first | rfl | (simp [errW_none, errW_some] <;> rfl) | (simp [*, errW_none, errW_some] <;> rfl), by repeat (first | (with_reducible first | exact HB.out | apply below_alloc | apply pw_below_drewN | apply below_drew1) | exact HB.out)⟩
 ·replace c4 := Bool.eq_false_iff.mpr c4
  subst c4
  have H1 : (some (0, (⟨#[]⟩ : ByteArray), 2)) = some (r1, r2, r3) := by rw [if_neg (show ¬ (false = true) by decide)] at H; exact H
  clear H
  have H := H1
  clear H1
  simp only [Option.some.injEq, Prod.mk.injEq] at H
  obtain ⟨rfl, rfl, rfl⟩ := H
  go_enter Tryz.func14, Tryz.ntmps14
  go_wp2_with (first | ((with_reducible refine gate_callee (f := 39) rfl ?_); refine goesL_ (some 17) rfl rfl Tryz.func39 (by kernel_rfl) rfl #[.string a1] rfl (by (try simp only [List.map_toArray, List.map_cons, List.map_nil]); first | done | rfl | (simp only [List.length_drop, List.length_take]; rfl)) ?_; (with_reducible refine (shaleref03_Split.calls k a1 t353 false _ A3.out).mono ?_); rintro e w32 ⟨v355, rfl, ho0, hb⟩; refine ⟨_, rfl, ?_⟩; have n0_ := Aside0.mk (Kd.R_lower ho0 (below_size (by repeat (first | (with_reducible first | exact HB.out | apply below_alloc | apply pw_below_drewN | apply below_drew1) | exact HB.out)))); have n1_ := Aside0.mk (below_step (by repeat (first | (with_reducible first | exact HB.out | apply below_alloc | apply pw_below_drewN | apply below_drew1) | exact HB.out)) hb); clear HB; have HO356 := n0_; have HB := n1_; clear n0_ n1_; (try clear hb); (try clear hb2); (try clear hk); (try clear hi); (try clear ho0)))
  go_ret3
  exact ⟨by first | rfl | (simp [errW_none, errW_some] <;> rfl) | (simp [*, errW_none, errW_some] <;> rfl), by repeat (first | (with_reducible first | exact HB.out | apply below_alloc | apply pw_below_drewN | apply below_drew1) | exact HB.out)⟩

end Go.Proofs.YthfbcclbappbcaaGreatDoor.Print
