import Derived.Test.YthfbcclbappbcaaGreatDoorPrint0
import Derived.Test.YthfbcclbappbcaaGreatDoorPrint1
import Derived.Test.YthfbcclbappbcaaGreatDoorPrint8
namespace Go.Proofs.YthfbcclbappbcaaGreatDoor.Print
open Go.RowKit Go.Proofs.YthfbcclbappbcaaGreatDoorW.PrintWords Go.Proofs.YthfbcclbappbcaaGreatDoorW.PrintLast Go.Proofs.YthfbcclbappbcaaGreatDoorW.PrintMore
attribute [local go_sem] max2_int min2_int max_two min_two max_three min_three max_four min_four   -- for this text's walks alone
set_option linter.unusedVariables false
set_option linter.unusedSimpArgs false
attribute [local go_sem high] eqA26
def z13.f (a0 : ByteArray) (a1 : ByteArray) : Option (Bool) := if (a0.size : Int) > (a1.size : Int) then (if 0 ≤ (wrap64 ((a1.size : Int) + 1)) then (if (wrap64 ((a1.size : Int) + 1)) ≤ (a0.size : Int) then (if a1.size + 1 ≤ 9223372036854775807 then (some ((a0.extract 0 ((wrap64 ((a1.size : Int) + 1)) : Int).toNat).toList == (a1 ++ (⟨#[47]⟩ : ByteArray)).toList)) else (none)) else (none)) else (none)) else (some false)
set_option maxHeartbeats 8000000 in
set_option maxRecDepth 100000 in
theorem z13.calls (a0 : ByteArray) (a1 : ByteArray) (r : Bool) (w : World) (h : z13.f a0 a1 = some r) :
  Calls Tryz.prog 48 #[.string a0, .string a1] w fun e w' => e = .returned (.bool r) ∧ Drawn0 w w' := by
 have H : (if (a0.size : Int) > (a1.size : Int) then (if 0 ≤ (wrap64 ((a1.size : Int) + 1)) then (if (wrap64 ((a1.size : Int) + 1)) ≤ (a0.size : Int) then (if a1.size + 1 ≤ 9223372036854775807 then (some ((a0.extract 0 ((wrap64 ((a1.size : Int) + 1)) : Int).toNat).toList == (a1 ++ (⟨#[47]⟩ : ByteArray)).toList)) else (none)) else (none)) else (none)) else (some false)) = some r := h
 clear h
 by_cases c3 : (a0.size : Int) > (a1.size : Int)
 ·rw [if_pos c3] at H
  have c3b0 : decide ((a1.size : Int) < (a0.size : Int)) = true := decide_eq_true c3
  have c3b1 : decide (a1.size < a0.size) = true := decide_eq_true (Int.ofNat_lt.mp c3)
  clear c3
  obtain ⟨ji4, hji4⟩ : ∃ j_ : Int, (wrap64 ((a1.size : Int) + 1)) = j_ := ⟨_, rfl⟩
  replace H : (if 0 ≤ (ji4) then (if (ji4) ≤ (a0.size : Int) then (if a1.size + 1 ≤ 9223372036854775807 then (some ((a0.extract 0 ((ji4) : Int).toNat).toList == (a1 ++ (⟨#[47]⟩ : ByteArray)).toList)) else (none)) else (none)) else (none)) = some r := by first | (rw [hji4] at H; exact H) | (simp only [hji4] at H ⊢; exact H)
  have hji4w : (IntKind.i64.wrap ((a1.size : Int) + 1)) = ji4 := (i64_w _).trans hji4
  by_cases c5 : 0 ≤ (ji4)
  ·rw [if_pos c5] at H
   have c5b0 := eq_true c5
   have c5b1 : decide (0 ≤ (ji4)) = true := decide_eq_true c5
   clear c5
   by_cases c6 : (ji4) ≤ (a0.size : Int)
   ·rw [if_pos c6] at H
    have c6b0 := eq_true c6
    have c6b1 : decide ((ji4) ≤ (a0.size : Int)) = true := decide_eq_true c6
    clear c6
    by_cases c7 : a1.size + 1 ≤ 9223372036854775807
    ·rw [if_pos c7] at H
     have c7b0 := eq_true c7
     have c7b1 : decide (a1.size + 1 ≤ 9223372036854775807) = true := decide_eq_true c7
     try have c7b2 : (9223372036854775807 < a1.size + 1) = False := eq_false (Nat.not_lt.2 c7)
     obtain rfl := Option.some.inj H
     go_enter Tryz.func48, Tryz.ntmps48
     go_wp2
     go_ret
     exact ⟨by first | rfl | (simp; done) | (simp only [← hji4] <;> (first | rfl | simp)) | (simp [*]; done), by repeat (first | exact Drawn0.refl _ | apply Drawn0.step)⟩
    ·rw [if_neg c7] at H
     exact absurd H (by simp)
   ·rw [if_neg c6] at H
    exact absurd H (by simp)
  ·rw [if_neg c5] at H
   exact absurd H (by simp)
 ·rw [if_neg c3] at H
  have c3b0 : decide ((a1.size : Int) < (a0.size : Int)) = false := decide_eq_false c3
  have c3b1 : decide (a1.size < a0.size) = false := decide_eq_false (fun h => c3 (Int.ofNat_lt.mpr h))
  clear c3
  obtain rfl := Option.some.inj H
  go_enter Tryz.func48, Tryz.ntmps48
  go_wp2
  go_ret
  exact ⟨by first | rfl | (simp; done) | (simp [*]; done), by repeat (first | exact Drawn0.refl _ | apply Drawn0.step)⟩

mutual
def z17.l0 : Nat → List (S26) → List (S26) → Bool → Int → ByteArray → Int → ByteArray → Option ((List (S26)))
 | 0, _, _, _, _, _, _, _ => none
 | k + 1, x0, x5, x6, x7, x323000, x323001, x323002 => if x7 < (x0.length : Int) then (if x6 = true then (z17.j1 k x0 x5 x6 x7 false x323000 x323001 x323002) else (if 0 ≤ x7 then ((z27.f k ((rd_T26 x0 x7).f0) x323000).bind fun t327 => (z17.j1 k x0 x5 x6 x7 (!t327) x323000 x323001 x323002)) else (none))) else (if x6 = true then (some x5) else (if x5.length < 3518437208883 then (some (x5 ++ [(⟨x323000, x323001, x323002⟩ : S26)])) else (none)))
def z17.j1 : Nat → List (S26) → List (S26) → Bool → Int → Bool → ByteArray → Int → ByteArray → Option ((List (S26)))
 | 0, _, _, _, _, _, _, _, _ => none
 | k + 1, x0, x5, x6, x7, x26, x323000, x323001, x323002 => if x26 = true then (if x5.length < 3518437208883 then ((some (x5 ++ [(⟨x323000, x323001, x323002⟩ : S26)] : List (S26))).bind fun y328 => (if 0 ≤ x7 then (if x7 < (x0.length : Int) then (if ((rd_T26 x0 x7).f0).toList = x323000.toList then (z17.l0 k x0 y328 true (wrap64 (x7 + 1)) x323000 x323001 x323002) else (if y328.length < 3518437208883 then (z17.l0 k x0 (y328 ++ [(⟨(rd_T26 x0 x7).f0, (rd_T26 x0 x7).f1, (rd_T26 x0 x7).f2⟩ : S26)]) true (wrap64 (x7 + 1)) x323000 x323001 x323002) else (none))) else (none)) else (none))) else (none)) else (if 0 ≤ x7 then (if x7 < (x0.length : Int) then (if ((rd_T26 x0 x7).f0).toList = x323000.toList then (z17.l0 k x0 x5 x6 (wrap64 (x7 + 1)) x323000 x323001 x323002) else (if x5.length < 3518437208883 then (z17.l0 k x0 (x5 ++ [(⟨(rd_T26 x0 x7).f0, (rd_T26 x0 x7).f1, (rd_T26 x0 x7).f2⟩ : S26)]) x6 (wrap64 (x7 + 1)) x323000 x323001 x323002) else (none))) else (none)) else (none))
end
def z17.f (k : Nat) (l0 : List (S26)) (a1_0 : ByteArray) (a1_1 : Int) (a1_2 : ByteArray) : Option ((List (S26))) := z17.l0 k l0 ([] : List (S26)) false 0 a1_0 a1_1 a1_2
theorem z17.mono_l : ∀ k, (∀ y0 y1 y2 y3 y4 y5 y6, LeO (z17.l0 k y0 y1 y2 y3 y4 y5 y6) (z17.l0 (k + 1) y0 y1 y2 y3 y4 y5 y6)) ∧ (∀ y0 y1 y2 y3 y4 y5 y6 y7, LeO (z17.j1 k y0 y1 y2 y3 y4 y5 y6 y7) (z17.j1 (k + 1) y0 y1 y2 y3 y4 y5 y6 y7))
 | 0 => ⟨fun _ _ _ _ _ _ _ r h => by simp [z17.l0] at h, fun _ _ _ _ _ _ _ _ r h => by simp [z17.j1] at h⟩
 | k + 1 => by
  obtain ⟨ih0, ih1⟩ := z17.mono_l k
  refine ⟨?_, ?_⟩
  ·intro y0 y1 y2 y3 y4 y5 y6
   unfold z17.l0
   repeat' first
   | (with_reducible exact ih0 _ _ _ _ _ _ _)
   | (with_reducible exact ih1 _ _ _ _ _ _ _ _)
   | (with_reducible exact z27.mono _ _ _)
   | (with_reducible exact LeO.refl _)
   | (with_reducible exact LeO.none _)
   | (with_reducible refine LeO.ite ?_ ?_)
   | (with_reducible refine LeO.bind ?_ (fun _ => ?_))
   | exact ih0 _ _ _ _ _ _ _
   | exact ih1 _ _ _ _ _ _ _ _
   | exact z27.mono _ _ _
   | exact LeO.none _
   | refine LeO.ite ?_ ?_
   | refine LeO.bind ?_ (fun _ => ?_)
  ·intro y0 y1 y2 y3 y4 y5 y6 y7
   unfold z17.j1
   repeat' first
   | (with_reducible exact ih0 _ _ _ _ _ _ _)
   | (with_reducible exact ih1 _ _ _ _ _ _ _ _)
   | (with_reducible exact z27.mono _ _ _)
   | (with_reducible exact LeO.refl _)
   | (with_reducible exact LeO.none _)
   | (with_reducible refine LeO.ite ?_ ?_)
   | (with_reducible refine LeO.bind ?_ (fun _ => ?_))
   | exact ih0 _ _ _ _ _ _ _
   | exact ih1 _ _ _ _ _ _ _ _
   | exact z27.mono _ _ _
   | exact LeO.none _
   | refine LeO.ite ?_ ?_
   | refine LeO.bind ?_ (fun _ => ?_)
theorem z17.mono : ∀ a0 a1 a2 a3 k, LeO (z17.f k a0 a1 a2 a3) (z17.f (k + 1) a0 a1 a2 a3) := by
 intro a0 a1 a2 a3 k
 obtain ⟨ih0, ih1⟩ := z17.mono_l k
 unfold z17.f
 repeat' first
   | (with_reducible exact ih0 _ _ _ _ _ _ _)
   | (with_reducible exact ih1 _ _ _ _ _ _ _ _)
   | (with_reducible exact z27.mono _ _ _)
   | (with_reducible exact LeO.refl _)
   | (with_reducible exact LeO.none _)
   | (with_reducible refine LeO.ite ?_ ?_)
   | (with_reducible refine LeO.bind ?_ (fun _ => ?_))
   | exact ih0 _ _ _ _ _ _ _
   | exact ih1 _ _ _ _ _ _ _ _
   | exact z27.mono _ _ _
   | exact LeO.none _
   | refine LeO.ite ?_ ?_
   | refine LeO.bind ?_ (fun _ => ?_)
def z17.T6 : Bool × List (List Nat × List Nat) := (true, [([], []), ([0], [0]), ([1], [1]), ([2], [2]), ([2], [2]), ([3, 4, 2], [2, 3, 4]), ([5, 2], [2, 5]), ([6, 2], [2, 6]), ([2], [2]), ([8, 2], [2, 8]), ([7, 9, 2, 2], [2, 7, 9]), ([10, 2], [2, 10]), ([2, 11], [2, 11])])
def z17.B6 : List Nat := [0, 1, 3, 7, 7, 31, 63, 127, 7, 263, 1023, 2047, 4095]
theorem z17.tab6 : rtab .any (opsOf Tryz.f49 6) = z17.T6 := by kernel_rfl
theorem z17.bits6 : waitsOk z17.T6.2 z17.B6 = true := by kernel_rfl
def z17.T9 : Bool × List (List Nat × List Nat) := (true, [([], []), ([], []), ([0, 1], [0, 1]), ([2], [2]), ([3], [3]), ([], []), ([5], [5]), ([4, 6], [4, 6])])
def z17.B9 : List Nat := [0, 0, 3, 7, 15, 0, 32, 127]
theorem z17.tab9 : rtab .any (opsOf Tryz.f49 9) = z17.T9 := by kernel_rfl
theorem z17.bits9 : waitsOk z17.T9.2 z17.B9 = true := by kernel_rfl
set_option maxHeartbeats 8000000 in
set_option maxRecDepth 100000 in
theorem z17.calls (k : Nat) (A0 : Option Addr) (c0 : Nat) (l0 : List (S26)) (a1_0 : ByteArray) (a1_1 : Int) (a1_2 : ByteArray) (r : List (S26)) (w : World) (hr0 : Kd.C k26 w A0 l0.length l0) (hc0 : l0.length ≤ c0) (h : z17.f k l0 a1_0 a1_1 a1_2 = some r) :
  Calls Tryz.prog 49 #[.slice A0 l0.length c0, .agg #[.string a1_0, .int .i64 a1_1, .string a1_2]] w fun e w' => ∃ v0_ : Value, e = .returned (v0_) ∧ Kd.R k26 26 w' w.heap.size (fun _ => True) v0_ r ∧ Below w.heap.size w w' := by
 have hu26 := Tryz.underlying26
 have HR0 := Aside0.mk hr0
 have HC0 := Aside0.mk hc0
 clear hr0 hc0
 have HB := Aside0.mk (Below.refl w.heap.size w)
 have H : (z17.l0 k l0 ([] : List (S26)) false 0 a1_0 a1_1 a1_2) = some r := h
 clear h
 have H' := Aside0.mk H
 clear H
 go_enter Tryz.func49, Tryz.ntmps49
 go_wp2_with (first | ((with_reducible refine qd (N := 3) rfl ?_); refine qx ?hg (N := 3) ?hd (cs := #[.string a1_0, .int .i64 a1_1, .string a1_2]) (t := 26) ?hr ?_; (case hd => rfl); (case hg => rfl); (case hr => first | (go_simp; done) | (go_simp; rfl)); intro gb322 hg w3 hbox hb; have n0_ := Aside0.mk (qT (by repeat (first | (with_reducible first | exact HB.out | apply qA | apply qN | apply qD) | exact HB.out)) hb); have n1_ := Aside0.mk (hbox); have n2_ := Aside0.mk ((by rw [hg]; exact (qZ (by repeat (first | (with_reducible first | exact HB.out | apply qA | apply qN | apply qD) | exact HB.out))) : w.heap.size ≤ gb322)); have n3_ := Aside0.mk ((by rw [hg]; exact (qZ (by repeat (first | (with_reducible first | exact HB.out | apply qA | apply qN | apply qD) | exact HB.out))) : w.heap.size ≤ gb322)); clear HB; have HB := n0_; have BK322 := n1_; have GW322 := n2_; have GE322 := n3_; clear n0_ n1_ n2_ n3_; clear hb hbox hg))
 go_loopg [5, 6, 7] k (fun kq v5 v6 v7 w' => ∃ (x5_1 : List (S26)) (x6_1 : Bool) (x7_1 : Int), v6 = .bool x6_1 ∧ v7 = .int .i64 x7_1 ∧ Aside0 (z17.l0 kq l0 x5_1 x6_1 x7_1 a1_0 a1_1 a1_2 = some r) ∧ Aside0 (kq ≤ k) ∧ Aside0 (Kd.R k26 26 w' w.heap.size (fun k_ => k_ ≠ gb322) v5 x5_1) ∧ Aside0 (w'.heap[gb322]? = some (.cells #[.string a1_0, .int .i64 a1_1, .string a1_2] 26 (0, 0))) ∧ Aside0 (Below w.heap.size w w'))
 case atStart => exact ⟨(([] : List (S26))), (false), (0), (by first | rfl | (simp; done) | (simp [*]; done)), (by first | rfl | (simp; done) | (simp [*]; done)), H', ⟨Nat.le_refl _⟩, ⟨by first | exact Kd.R_nil _ _ _ _ _ | exact Kd.N_nil _ _ _ _ _ | exact Kd.V_nil _ _ _ _ _ | exact Kd.Q_nil _ _ _ _ _ | exact Kd.S_nil _ _ _ _ _⟩, ⟨by (with_reducible repeat (first | refine qM ?_ _ | refine qW ?_ | refine qL ?_ _)); exact BK322.out⟩, ⟨by repeat (first | (with_reducible first | exact HB.out | apply qA | apply qN | apply qD | refine qS ?_ GE322.out) | exact HB.out)⟩⟩
 case round =>
  clear H'
  try clear p2
  obtain ⟨x5_1, x6_1, x7_1, rfl, rfl, HA, HK1, HO_5, BK322, HB⟩ := hrel
  cases gk with
  | zero => exact absurd HA.out (by simp [z17.l0])
  | succ k1 =>
   have H := HA.out
   clear HA
   simp only [z17.l0] at H
   by_cases c4 : x7_1 < (l0.length : Int)
   ·rw [if_pos c4] at H
    have c4b0 : decide (x7_1 < (l0.length : Int)) = true := decide_eq_true c4
    clear c4
    have HC5 := Aside0.mk H
    clear H
    go_upto_region 6 with (fail)
    go_cut [26] (fun v26 wc => ∃ (kq : Nat) (x26_4 : Bool), v26 = .bool x26_4 ∧ Aside0 (z17.j1 kq l0 x5_1 x6_1 x7_1 x26_4 a1_0 a1_1 a1_2 = some r) ∧ Aside0 (kq ≤ k1) ∧ Aside0 (Kd.R k26 26 wc w.heap.size (fun k_ => k_ ≠ gb322) u5 x5_1) ∧ Aside0 (wc.heap[gb322]? = some (.cells #[.string a1_0, .int .i64 a1_1, .string a1_2] 26 (0, 0))) ∧ Aside0 (Below w.heap.size w wc))
    case first =>
     have H := HC5.out
     clear HC5
     by_cases c6 : x6_1 = true
     ·subst c6
      have H1 : (z17.j1 k1 l0 x5_1 true x7_1 false a1_0 a1_1 a1_2) = some r := by rw [if_pos rfl] at H; exact H
      clear H
      have H := H1
      clear H1
      have H' := Aside0.mk H
      clear H
      try go_wp2
      have n0_ := Aside0.mk (Kd.R_drew HO_5.out)
      have n1_ := Aside0.mk (qW BK322.out)
      have n2_ := Aside0.mk (qD HB.out)
      clear HO_5
      clear BK322
      clear HB
      have HO_5 := n0_
      have BK322 := n1_
      have HB := n2_
      clear n0_ n1_ n2_
      refine start_ (n := 13) (S := fun w' => True) (ds := []) #[false, false, false, false, false, false, false, false, false, false, false, false, false] (by kernel_rfl) rfl rfl trivial (fun hHeld => ?_); refine with_tabW z17.tab6 z17.bits6 (fun HT_ HW_ => ?_)
      generalize wr.drew = w7 at HO_5 BK322 HB hHeld ⊢
      refine pure_ (i := 0) (N := some 14) (v := ?_) (a' := ?_) #[true, false, false, false, false, false, false, false, false, false, false, false, false] rfl rfl (any_of HT_.out (by kernel_rfl)) (fun _ _ _ h => h) (Or.inl ⟨by rfl, ?_⟩) ?_ ?_
      rotate_left
      ·intro w'
       go_simp
       with_reducible rfl
      rotate_left
      ·simp only [Act.put, sT, sZ, sS, i64_w, i32_w]
       rfl
      refine pure_ (i := 1) (N := some 15) (v := ?_) (a' := ?_) #[true, true, false, false, false, false, false, false, false, false, false, false, false] rfl rfl (any_of HT_.out (by kernel_rfl)) (fun _ _ _ h => h) (Or.inl ⟨by rfl, ?_⟩) ?_ ?_
      rotate_left
      ·intro w'
       go_simp
       with_reducible rfl
      rotate_left
      ·simp only [Act.put, sT, sZ, sS, i64_w, i32_w]
       rfl
      refine pure_ (i := 2) (N := some 16) (v := ?_) (a' := ?_) #[true, true, true, false, false, false, false, false, false, false, false, false, false] rfl rfl (any_of HT_.out (by kernel_rfl)) (fun _ _ _ h => h) (Or.inl ⟨by rfl, ?_⟩) ?_ ?_
      rotate_left
      ·intro w'
       go_simp
       with_reducible rfl
      rotate_left
      ·simp only [Act.put, sT, sZ, sS, i64_w, i32_w]
       rfl
      refine pure_ (i := 3) (N := some 17) (v := undef) (a' := ?_) #[true, true, true, true, false, false, false, false, false, false, false, false, false] rfl rfl (any_of HT_.out (by kernel_rfl)) (fun _ _ _ h => h) (Or.inr ⟨by rfl, rfl⟩) ?_ ?_
      rotate_left
      ·simp only [Act.put, sT, sZ, sS, i64_w, i32_w]
       rfl
      refine pure_ (i := 4) (N := some 18) (v := undef) (a' := ?_) #[true, true, true, true, true, false, false, false, false, false, false, false, false] rfl rfl (any_of HT_.out (by kernel_rfl)) (fun _ _ _ h => h) (Or.inr ⟨by rfl, rfl⟩) ?_ ?_
      rotate_left
      ·simp only [Act.put, sT, sZ, sS, i64_w, i32_w]
       rfl
      refine pure_ (i := 5) (N := some 19) (v := undef) (a' := ?_) #[true, true, true, true, true, true, false, false, false, false, false, false, false] rfl rfl (any_of HT_.out (by kernel_rfl)) (fun _ _ _ h => h) (Or.inr ⟨by rfl, rfl⟩) ?_ ?_
      rotate_left
      ·simp only [Act.put, sT, sZ, sS, i64_w, i32_w]
       rfl
      refine pure_ (i := 6) (N := some 20) (v := undef) (a' := ?_) #[true, true, true, true, true, true, true, false, false, false, false, false, false] rfl rfl (any_of HT_.out (by kernel_rfl)) (fun _ _ _ h => h) (Or.inr ⟨by rfl, rfl⟩) ?_ ?_
      rotate_left
      ·simp only [Act.put, sT, sZ, sS, i64_w, i32_w]
       rfl
      refine pure_ (i := 7) (N := some 21) (v := undef) (a' := ?_) #[true, true, true, true, true, true, true, true, false, false, false, false, false] rfl rfl (any_of HT_.out (by kernel_rfl)) (fun _ _ _ h => h) (Or.inr ⟨by rfl, rfl⟩) ?_ ?_
      rotate_left
      ·simp only [Act.put, sT, sZ, sS, i64_w, i32_w]
       rfl
      refine pure_ (i := 8) (N := some 22) (v := undef) (a' := ?_) #[true, true, true, true, true, true, true, true, true, false, false, false, false] rfl rfl (any_of HT_.out (by kernel_rfl)) (fun _ _ _ h => h) (Or.inr ⟨by rfl, rfl⟩) ?_ ?_
      rotate_left
      ·simp only [Act.put, sT, sZ, sS, i64_w, i32_w]
       rfl
      refine pure_ (i := 9) (N := some 23) (v := undef) (a' := ?_) #[true, true, true, true, true, true, true, true, true, true, false, false, false] rfl rfl (any_of HT_.out (by kernel_rfl)) (fun _ _ _ h => h) (Or.inr ⟨by rfl, rfl⟩) ?_ ?_
      rotate_left
      ·simp only [Act.put, sT, sZ, sS, i64_w, i32_w]
       rfl
      refine pure_ (i := 10) (N := some 24) (v := undef) (a' := ?_) #[true, true, true, true, true, true, true, true, true, true, true, false, false] rfl rfl (any_of HT_.out (by kernel_rfl)) (fun _ _ _ h => h) (Or.inr ⟨by rfl, rfl⟩) ?_ ?_
      rotate_left
      ·simp only [Act.put, sT, sZ, sS, i64_w, i32_w]
       rfl
      refine pure_ (i := 11) (N := some 25) (v := undef) (a' := ?_) #[true, true, true, true, true, true, true, true, true, true, true, true, false] rfl rfl (any_of HT_.out (by kernel_rfl)) (fun _ _ _ h => h) (Or.inr ⟨by rfl, rfl⟩) ?_ ?_
      rotate_left
      ·simp only [Act.put, sT, sZ, sS, i64_w, i32_w]
       rfl
      refine pure_ (i := 12) (N := some 26) (v := ?_) (a' := ?_) #[true, true, true, true, true, true, true, true, true, true, true, true, true] rfl rfl (any_of HT_.out (by kernel_rfl)) (fun _ _ _ h => h) (Or.inl ⟨by rfl, ?_⟩) ?_ ?_
      rotate_left
      ·intro w'
       go_simp
       with_reducible rfl
      rotate_left
      ·simp only [Act.put, sT, sZ, sS, i64_w, i32_w]
       rfl
      refine done_ (done_of HT_.out (by kernel_rfl)) ?_
      try go_wp2
      go_meet
      case rel => exact ⟨_, (false), (by first | rfl | (simp; done) | (simp [*]; done)), H', ⟨by have := HK1.out; first | omega | exact Nat.le_refl _⟩, ⟨by (with_reducible repeat (first | apply Kd.R_alloc | apply Kd.R_drewN | apply Kd.R_drew)); exact HO_5.out⟩, ⟨by (with_reducible repeat (first | refine qM ?_ _ | refine qW ?_ | refine qL ?_ _)); exact BK322.out⟩, ⟨by repeat (first | (with_reducible first | exact HB.out | apply qA | apply qN | apply qD | refine qS ?_ GE322.out) | exact HB.out)⟩⟩
     ·replace c6 := Bool.eq_false_iff.mpr c6
      subst c6
      have H1 : (if 0 ≤ x7_1 then ((z27.f k1 ((rd_T26 l0 x7_1).f0) a1_0).bind fun t327 => (z17.j1 k1 l0 x5_1 false x7_1 (!t327) a1_0 a1_1 a1_2)) else (none)) = some r := by rw [if_neg (show ¬ (false = true) by decide)] at H; exact H
      clear H
      have H := H1
      clear H1
      by_cases c8 : 0 ≤ x7_1
      ·rw [if_pos c8] at H
       have c8b0 : decide (0 ≤ x7_1) = true := decide_eq_true c8
       clear c8
       (first | rw [c8b0] | (simp only [i64_w, i32_w]; rw [c8b0]) | skip)
       replace H := Option.bind_eq_some_iff.mp H
       obtain ⟨t327, A90, H⟩ := H
       replace H : (z17.j1 k1 l0 x5_1 false x7_1 (!t327) a1_0 a1_1 a1_2) = some r := H
       have A9 := Aside0.mk A90
       clear A90
       have H' := Aside0.mk H
       clear H
       try go_wp2
       have n0_ := Aside0.mk (Kd.R_drew HO_5.out)
       have n1_ := Aside0.mk (qW BK322.out)
       have n2_ := Aside0.mk (qD HB.out)
       clear HO_5
       clear BK322
       clear HB
       have HO_5 := n0_
       have BK322 := n1_
       have HB := n2_
       clear n0_ n1_ n2_
       have p326 : 0 ≤ (x7_1 : Int) := of_decide_eq_true (by first | (with_reducible assumption) | assumption)
       have q326 : x7_1 < (l0.length : Int) := of_decide_eq_true (by first | (with_reducible assumption) | assumption)
       obtain ⟨ad326, e326, hx326_0, hx326_1, hx326_2⟩ := at_T26 HR0.out x7_1 p326 q326
       have hw326_2 := hx326_2
       have hw326_1 := hx326_1
       have hw326_0 := hx326_0
       cases e326
       replace hx326_0 := (HB.out.cell (World.block_lt_of_cell? w _ hx326_0)).trans hx326_0
       replace hx326_1 := (HB.out.cell (World.block_lt_of_cell? w _ hx326_1)).trans hx326_1
       replace hx326_2 := (HB.out.cell (World.block_lt_of_cell? w _ hx326_2)).trans hx326_2
       replace p326 := eq_true p326
       replace q326 := eq_true q326
       refine start_ (n := 13) (S := fun w' => w'.cell? ⟨gb322, 0, none⟩ = some (.string a1_0) ∧ w'.cell? ⟨gb322, 1, none⟩ = some (.int .i64 a1_1) ∧ w'.cell? ⟨gb322, 2, none⟩ = some (.string a1_2) ∧ w'.cell? (ad326.add ((x7_1).toNat * 3)) = some (.string ((rd_T26 l0 x7_1).f0)) ∧ w'.cell? ⟨(ad326.add ((x7_1).toNat * 3)).block, (ad326.add ((x7_1).toNat * 3)).off + 1, none⟩ = some (.int .i64 ((rd_T26 l0 x7_1).f1)) ∧ w'.cell? ⟨(ad326.add ((x7_1).toNat * 3)).block, (ad326.add ((x7_1).toNat * 3)).off + 2, none⟩ = some (.string ((rd_T26 l0 x7_1).f2))) (ds := []) #[false, false, false, false, false, false, false, false, false, false, false, false, false] (by kernel_rfl) rfl rfl ⟨(qC BK322.out 0).trans rfl, (qC BK322.out 1).trans rfl, (qC BK322.out 2).trans rfl, ((HB.out.cell (World.block_lt_of_cell? w _ hw326_0)).trans hw326_0), ((HB.out.cell (World.block_lt_of_cell? w _ hw326_1)).trans hw326_1), ((HB.out.cell (World.block_lt_of_cell? w _ hw326_2)).trans hw326_2)⟩ (fun hHeld => ?_); refine with_tabW z17.tab6 z17.bits6 (fun HT_ HW_ => ?_)
       generalize wr.drew = w10 at HO_5 BK322 HB hx326_0 hx326_1 hx326_2 hHeld ⊢
       refine pure_ (i := 0) (N := some 14) (v := ?_) (a' := ?_) #[true, false, false, false, false, false, false, false, false, false, false, false, false] rfl rfl (any_of HT_.out (by kernel_rfl)) (fun _ _ _ h => h) (Or.inl ⟨by rfl, ?_⟩) ?_ ?_
       rotate_left
       ·intro w'
        go_simp
        with_reducible rfl
       rotate_left
       ·simp only [Act.put, sT, sZ, sS, i64_w, i32_w]
        rfl
       refine pure_ (i := 1) (N := some 15) (v := ?_) (a' := ?_) #[true, true, false, false, false, false, false, false, false, false, false, false, false] rfl rfl (any_of HT_.out (by kernel_rfl)) (fun _ _ _ h => h) (Or.inl ⟨by rfl, ?_⟩) ?_ ?_
       rotate_left
       ·intro w'
        go_simp
        with_reducible rfl
       rotate_left
       ·simp only [Act.put, sT, sZ, sS, i64_w, i32_w]
        rfl
       refine pure_ (i := 2) (N := some 16) (v := ?_) (a' := ?_) #[true, true, true, false, false, false, false, false, false, false, false, false, false] rfl rfl (any_of HT_.out (by kernel_rfl)) (fun _ _ _ h => h) (Or.inl ⟨by rfl, ?_⟩) ?_ ?_
       rotate_left
       ·intro w'
        go_simp
        with_reducible rfl
       rotate_left
       ·simp only [Act.put, sT, sZ, sS, i64_w, i32_w]
        rfl
       refine pure_ (i := 3) (N := some 17) (v := ?_) (a' := ?_) #[true, true, true, true, false, false, false, false, false, false, false, false, false] rfl rfl (any_of HT_.out (by kernel_rfl)) (fun _ _ _ h => h) (Or.inl ⟨by rfl, ?_⟩) ?_ ?_
       rotate_left
       ·intro w'
        go_simp
        with_reducible rfl
       rotate_left
       ·simp only [Act.put, sT, sZ, sS, i64_w, i32_w]
        rfl
       refine pure_ (i := 4) (N := some 18) (v := ?_) (a' := ?_) #[true, true, true, true, true, false, false, false, false, false, false, false, false] rfl rfl (any_of HT_.out (by kernel_rfl)) (fun _ _ _ h => h) (Or.inl ⟨by rfl, ?_⟩) ?_ ?_
       rotate_left
       ·intro w'
        go_simp
        with_reducible rfl
       rotate_left
       ·simp only [Act.put, sT, sZ, sS, i64_w, i32_w]
        rfl
       refine pure_ (i := 5) (N := some 19) (v := ?_) (a' := ?_) #[true, true, true, true, true, true, false, false, false, false, false, false, false] rfl rfl (any_of HT_.out (by kernel_rfl)) (fun _ _ _ h => h) (Or.inl ⟨by rfl, ?_⟩) ?_ ?_
       rotate_left
       ·intro w'
        go_simp
        with_reducible rfl
       rotate_left
       ·simp only [Act.put, sT, sZ, sS, i64_w, i32_w]
        rfl
       refine pure_ (i := 6) (N := some 20) (v := ?_) (a' := ?_) #[true, true, true, true, true, true, true, false, false, false, false, false, false] rfl rfl (any_of HT_.out (by kernel_rfl)) (fun _ _ _ h => h) (Or.inl ⟨by rfl, ?_⟩) ?_ ?_
       rotate_left
       ·intro w'
        go_simp
        with_reducible rfl
       rotate_left
       ·simp only [Act.put, sT, sZ, sS, i64_w, i32_w]
        rfl
       refine pure_ (i := 8) (N := some 22) (v := ?_) (a' := ?_) #[true, true, true, true, true, true, true, false, true, false, false, false, false] rfl rfl (any_of HT_.out (by kernel_rfl)) (fun _ _ _ h => h) (Or.inl ⟨by rfl, ?_⟩) ?_ ?_
       rotate_left
       ·intro w'
        go_simp
        with_reducible rfl
       rotate_left
       ·simp only [Act.put, sT, sZ, sS, i64_w, i32_w]
        rfl
       refine take_ (i := 7) (N := some 21) (v := ?_) (a' := ?_) #[true, true, true, true, true, true, true, true, true, false, false, false, false] rfl rfl (take_ofW HT_.out HW_.out (by kernel_rfl)) (fun _ _ _ h => h) (Or.inl ⟨by rfl, ?_⟩) hHeld ?_ ?_
       rotate_left
       ·rintro w' ⟨s0, s1, s2, s3, s4, s5⟩
        go_simp
        with_reducible rfl
       rotate_left
       ·simp only [Act.put, sT, sZ, sS, i64_w, i32_w]
        rfl
       refine take_ (i := 9) (N := some 23) (v := ?_) (a' := ?_) #[true, true, true, true, true, true, true, true, true, true, false, false, false] rfl rfl (take_ofW HT_.out HW_.out (by kernel_rfl)) (fun _ _ _ h => h) (Or.inl ⟨by rfl, ?_⟩) hHeld ?_ ?_
       rotate_left
       ·rintro w' ⟨s0, s1, s2, s3, s4, s5⟩
        go_simp
        with_reducible rfl
       rotate_left
       ·simp only [Act.put, sT, sZ, sS, i64_w, i32_w]
        rfl
       refine one_ (i := 10) (N := some 24) #[true, true, true, true, true, true, true, true, true, true, true, false, false] rfl rfl (one_of HT_.out (by kernel_rfl)) (by decide) (fun K hK => ?_)
       refine goes_ Tryz.func44 (by kernel_rfl) rfl #[.string ((rd_T26 l0 x7_1).f0), .string a1_0] (by rfl) rfl rfl (by (try simp only [List.map_toArray, List.map_cons, List.map_nil]); first | done | rfl | (simp only [List.length_drop, List.length_take]; rfl)) ?_
       with_reducible refine (z27.calls k1 ((rd_T26 l0 x7_1).f0) a1_0 t327 _ A9.out).mono ?_
       rintro e w' ⟨rfl, ⟨nd, rfl⟩⟩
       refine ⟨_, rfl, ?_⟩
       refine hK.out _ _ ⟨(qC BK322.out 0).trans rfl, (qC BK322.out 1).trans rfl, (qC BK322.out 2).trans rfl, ((HB.out.cell (World.block_lt_of_cell? w _ hw326_0)).trans hw326_0), ((HB.out.cell (World.block_lt_of_cell? w _ hw326_1)).trans hw326_1), ((HB.out.cell (World.block_lt_of_cell? w _ hw326_2)).trans hw326_2)⟩ (fun hHeld => ?_)
       clear hK K
       refine norm_ (a' := ?_) ?_ ?_
       rotate_left
       ·show Act.put _ (some 24) _ = _
        simp only [Act.put, sT, sZ, sS, i64_w, i32_w]
        rfl
       refine pure_ (i := 11) (N := some 25) (v := ?_) (a' := ?_) #[true, true, true, true, true, true, true, true, true, true, true, true, false] rfl rfl (any_of HT_.out (by kernel_rfl)) (fun _ _ _ h => h) (Or.inl ⟨by rfl, ?_⟩) ?_ ?_
       rotate_left
       ·intro w'
        go_simp
        with_reducible rfl
       rotate_left
       ·simp only [Act.put, sT, sZ, sS, i64_w, i32_w]
        rfl
       refine pure_ (i := 12) (N := some 26) (v := ?_) (a' := ?_) #[true, true, true, true, true, true, true, true, true, true, true, true, true] rfl rfl (any_of HT_.out (by kernel_rfl)) (fun _ _ _ h => h) (Or.inl ⟨by rfl, ?_⟩) ?_ ?_
       rotate_left
       ·intro w'
        go_simp
        with_reducible rfl
       rotate_left
       ·simp only [Act.put, sT, sZ, sS, i64_w, i32_w]
        rfl
       refine done_ (done_of HT_.out (by kernel_rfl)) ?_
       try go_wp2
       go_meet
       case rel => exact ⟨_, (!t327), (by first | rfl | (simp; done) | (simp [*]; done)), H', ⟨by have := HK1.out; first | omega | exact Nat.le_refl _⟩, ⟨by (with_reducible repeat (first | apply Kd.R_alloc | apply Kd.R_drewN | apply Kd.R_drew)); exact HO_5.out⟩, ⟨by (with_reducible repeat (first | refine qM ?_ _ | refine qW ?_ | refine qL ?_ _)); exact BK322.out⟩, ⟨by repeat (first | (with_reducible first | exact HB.out | apply qA | apply qN | apply qD | refine qS ?_ GE322.out) | exact HB.out)⟩⟩
      ·rw [if_neg c8] at H
       exact absurd H (by simp)
    case rest =>
     clear HC5
     try clear p2
     try clear p3
     try clear q3
     try clear hx3
     try clear c4
     try clear c4b0
     try clear c6
     try clear c8
     try clear c8b0
     try clear hx326_0
     try clear hx326_1
     try clear hx326_2
     try clear p2
     try clear p326
     try clear q326
     obtain ⟨kq, x26_4, rfl, HA, HJ4, HO_5, BK322, HB⟩ := hcut
     cases kq with
     | zero => exact absurd HA.out (by simp [z17.j1])
     | succ kj4 =>
      have H := HA.out
      clear HA
      simp only [z17.j1] at H
      by_cases c11 : x26_4 = true
      ·subst c11
       have H1 : (if x5_1.length < 3518437208883 then ((some (x5_1 ++ [(⟨a1_0, a1_1, a1_2⟩ : S26)] : List (S26))).bind fun y328 => (if 0 ≤ x7_1 then (if x7_1 < (l0.length : Int) then (if ((rd_T26 l0 x7_1).f0).toList = a1_0.toList then (z17.l0 kj4 l0 y328 true (wrap64 (x7_1 + 1)) a1_0 a1_1 a1_2) else (if y328.length < 3518437208883 then (z17.l0 kj4 l0 (y328 ++ [(⟨(rd_T26 l0 x7_1).f0, (rd_T26 l0 x7_1).f1, (rd_T26 l0 x7_1).f2⟩ : S26)]) true (wrap64 (x7_1 + 1)) a1_0 a1_1 a1_2) else (none))) else (none)) else (none))) else (none)) = some r := by rw [if_pos rfl] at H; exact H
       clear H
       have H := H1
       clear H1
       by_cases c12 : x5_1.length < 3518437208883
       ·rw [if_pos c12] at H
        have LMc12 := Aside0.mk c12
        clear c12
        obtain ⟨y328, hy328⟩ : ∃ y_ : List (S26), y_ = (x5_1 ++ [(⟨a1_0, a1_1, a1_2⟩ : S26)]) := ⟨_, rfl⟩
        replace H : (if 0 ≤ x7_1 then (if x7_1 < (l0.length : Int) then (if ((rd_T26 l0 x7_1).f0).toList = a1_0.toList then (z17.l0 kj4 l0 y328 true (wrap64 (x7_1 + 1)) a1_0 a1_1 a1_2) else (if y328.length < 3518437208883 then (z17.l0 kj4 l0 (y328 ++ [(⟨(rd_T26 l0 x7_1).f0, (rd_T26 l0 x7_1).f1, (rd_T26 l0 x7_1).f2⟩ : S26)]) true (wrap64 (x7_1 + 1)) a1_0 a1_1 a1_2) else (none))) else (none)) else (none)) = some r := by first | (rw [hy328]; with_reducible exact H) | (have H2_ := (Option.bind_some _ _).symm.trans H; rw [hy328]; with_reducible exact H2_) | (have H2_ := (Option.bind_some _ _).symm.trans H; with_reducible exact H2_) | with_reducible exact H | (rw [hy328]; exact H) | exact H
        have Ny328 := Aside0.mk hy328
        clear hy328
        by_cases c13 : 0 ≤ x7_1
        ·rw [if_pos c13] at H
         have c13b0 : decide (0 ≤ x7_1) = true := decide_eq_true c13
         clear c13
         by_cases c14 : x7_1 < (l0.length : Int)
         ·rw [if_pos c14] at H
          have c14b0 : decide (x7_1 < (l0.length : Int)) = true := decide_eq_true c14
          clear c14
          by_cases c15 : ((rd_T26 l0 x7_1).f0).toList = a1_0.toList
          ·rw [if_pos c15] at H
           have c15b0 : (((rd_T26 l0 x7_1).f0).toList == a1_0.toList) = true := beq_iff_eq.mpr c15
           have c15b1 : (((rd_T26 l0 x7_1).f0).toList != a1_0.toList) = false := bne_eq_false_iff_eq.mpr c15
           clear c15
           have H' := Aside0.mk H
           clear H
           have hcz16_0 : wc.cell? ⟨gb322, 0, none⟩ = some (.string a1_0) := (qC BK322.out 0).trans rfl
           have hcz16_1 : wc.cell? ⟨gb322, 1, none⟩ = some (.int .i64 a1_1) := (qC BK322.out 1).trans rfl
           have hcz16_2 : wc.cell? ⟨gb322, 2, none⟩ = some (.string a1_2) := (qC BK322.out 2).trans rfl
           have hfz16_0 := qF BK322.out 0
           have hfz16_1 := qF BK322.out 1
           have hfz16_2 := qF BK322.out 2
           try go_wp2_with (first | ((with_reducible refine gate_builtin (b := .append) (xs := #[.tmp 27, .tmp 29]) rfl ?_); at_builtin; refine Kd.R_append k26 (w0 := w) w.heap.size rfl (.tmp 27) (.tmp 29) 27 26 (.agg #[(.string ⟨#[]⟩), (.int .i64 0), (.string ⟨#[]⟩)]) 40 rfl Tryz.underlying27 info26 rfl (by decide) (by omega) u5 x5_1 (⟨a1_0, a1_1, a1_2⟩ : S26) [.string a1_0, .int .i64 a1_1, .string a1_2] (fun k_ => k_ ≠ gb322) (fun _ => False) rfl rfl ?aP (fun _ hk => hk.elim) ?aF ?aO ?aB ?aS ?aL ?_; (case aP => exact k26_mkM _ _ _ (⟨a1_0, a1_1, a1_2⟩ : S26)); (case aB => exact (by repeat (first | (with_reducible first | exact HB.out | apply qA | apply qN | apply qD | refine qS ?_ GE322.out) | exact HB.out))); (case aF => exact (fun k_ hk => Kd.freshB (g := gb322) (o := .cells #[.string a1_0, .int .i64 a1_1, .string a1_2] 26 (0, 0)) (by (with_reducible repeat (first | refine qM ?_ _ | refine qW ?_ | refine qL ?_ _)); exact BK322.out) k_ hk)); (case aO => exact (by (with_reducible repeat (first | apply Kd.R_alloc | apply Kd.R_drewN | apply Kd.R_drew)); exact HO_5.out)); (case aS => exact (qZ (by repeat (first | (with_reducible first | exact HB.out | apply qA | apply qN | apply qD | refine qS ?_ GE322.out) | exact HB.out)))); (case aL => have := LMc12.out; omega); intro v329 w17 ho hb hg hat; rw [← Ny328.out] at ho; have n0_ := Aside0.mk (blk_grown (g := gb322) (o := .cells #[.string a1_0, .int .i64 a1_1, .string a1_2] 26 (0, 0)) (by (with_reducible repeat (first | refine qM ?_ _ | refine qW ?_ | refine qL ?_ _)); exact BK322.out) hg (Kd.R_away HO_5.out (fun _ hk => hk))); have n1_ := Aside0.mk (hb); have n2_ := Aside0.mk (ho); clear BK322; clear HB; clear HO_5; have BK322 := n0_; have HB := n1_; have HO330 := n2_; clear n0_ n1_ n2_; clear ho hb hg hat))
           have n0_ := Aside0.mk (Kd.R_drew HO330.out)
           have n1_ := Aside0.mk (qW BK322.out)
           have n2_ := Aside0.mk (qD HB.out)
           clear HO330
           clear BK322
           clear HB
           have HO330 := n0_
           have BK322 := n1_
           have HB := n2_
           clear n0_ n1_ n2_
           have p331 : 0 ≤ (x7_1 : Int) := of_decide_eq_true (by first | (with_reducible assumption) | assumption)
           have q331 : x7_1 < (l0.length : Int) := of_decide_eq_true (by first | (with_reducible assumption) | assumption)
           obtain ⟨ad331, e331, hx331_0, hx331_1, hx331_2⟩ := at_T26 HR0.out x7_1 p331 q331
           have hw331_2 := hx331_2
           have hw331_1 := hx331_1
           have hw331_0 := hx331_0
           cases e331
           replace hx331_0 := (HB.out.cell (World.block_lt_of_cell? w _ hx331_0)).trans hx331_0
           replace hx331_1 := (HB.out.cell (World.block_lt_of_cell? w _ hx331_1)).trans hx331_1
           replace hx331_2 := (HB.out.cell (World.block_lt_of_cell? w _ hx331_2)).trans hx331_2
           replace p331 := eq_true p331
           replace q331 := eq_true q331
           refine start_ (n := 8) (S := fun w' => w'.cell? ⟨gb322, 0, none⟩ = some (.string a1_0) ∧ w'.cell? ⟨gb322, 1, none⟩ = some (.int .i64 a1_1) ∧ w'.cell? ⟨gb322, 2, none⟩ = some (.string a1_2) ∧ w'.cell? (ad331.add ((x7_1).toNat * 3)) = some (.string ((rd_T26 l0 x7_1).f0)) ∧ w'.cell? ⟨(ad331.add ((x7_1).toNat * 3)).block, (ad331.add ((x7_1).toNat * 3)).off + 1, none⟩ = some (.int .i64 ((rd_T26 l0 x7_1).f1)) ∧ w'.cell? ⟨(ad331.add ((x7_1).toNat * 3)).block, (ad331.add ((x7_1).toNat * 3)).off + 2, none⟩ = some (.string ((rd_T26 l0 x7_1).f2))) (ds := []) #[false, false, false, false, false, false, false, false] (by kernel_rfl) rfl rfl ⟨(qC BK322.out 0).trans rfl, (qC BK322.out 1).trans rfl, (qC BK322.out 2).trans rfl, ((HB.out.cell (World.block_lt_of_cell? w _ hw331_0)).trans hw331_0), ((HB.out.cell (World.block_lt_of_cell? w _ hw331_1)).trans hw331_1), ((HB.out.cell (World.block_lt_of_cell? w _ hw331_2)).trans hw331_2)⟩ (fun hHeld => ?_); refine with_tabW z17.tab9 z17.bits9 (fun HT_ HW_ => ?_)
           generalize w17.drew = w18 at HO330 BK322 HB hx331_0 hx331_1 hx331_2 hHeld ⊢
           refine pure_ (i := 0) (N := some 31) (v := ?_) (a' := ?_) #[true, false, false, false, false, false, false, false] rfl rfl (any_of HT_.out (by kernel_rfl)) (fun _ _ _ h => h) (Or.inl ⟨by rfl, ?_⟩) ?_ ?_
           rotate_left
           ·intro w'
            go_simp
            with_reducible rfl
           rotate_left
           ·simp only [Act.put, sT, sZ, sS, i64_w, i32_w]
            rfl
           refine pure_ (i := 1) (N := some 32) (v := ?_) (a' := ?_) #[true, true, false, false, false, false, false, false] rfl rfl (any_of HT_.out (by kernel_rfl)) (fun _ _ _ h => h) (Or.inl ⟨by rfl, ?_⟩) ?_ ?_
           rotate_left
           ·intro w'
            go_simp
            with_reducible rfl
           rotate_left
           ·simp only [Act.put, sT, sZ, sS, i64_w, i32_w]
            rfl
           refine pure_ (i := 2) (N := some 33) (v := ?_) (a' := ?_) #[true, true, true, false, false, false, false, false] rfl rfl (any_of HT_.out (by kernel_rfl)) (fun _ _ _ h => h) (Or.inl ⟨by rfl, ?_⟩) ?_ ?_
           rotate_left
           ·intro w'
            go_simp
            with_reducible rfl
           rotate_left
           ·simp only [Act.put, sT, sZ, sS, i64_w, i32_w]
            rfl
           refine pure_ (i := 3) (N := some 34) (v := ?_) (a' := ?_) #[true, true, true, true, false, false, false, false] rfl rfl (any_of HT_.out (by kernel_rfl)) (fun _ _ _ h => h) (Or.inl ⟨by rfl, ?_⟩) ?_ ?_
           rotate_left
           ·intro w'
            go_simp
            with_reducible rfl
           rotate_left
           ·simp only [Act.put, sT, sZ, sS, i64_w, i32_w]
            rfl
           refine pure_ (i := 5) (N := some 36) (v := ?_) (a' := ?_) #[true, true, true, true, false, true, false, false] rfl rfl (any_of HT_.out (by kernel_rfl)) (fun _ _ _ h => h) (Or.inl ⟨by rfl, ?_⟩) ?_ ?_
           rotate_left
           ·intro w'
            go_simp
            with_reducible rfl
           rotate_left
           ·simp only [Act.put, sT, sZ, sS, i64_w, i32_w]
            rfl
           refine take_ (i := 4) (N := some 35) (v := ?_) (a' := ?_) #[true, true, true, true, true, true, false, false] rfl rfl (take_ofW HT_.out HW_.out (by kernel_rfl)) (fun _ _ _ h => h) (Or.inl ⟨by rfl, ?_⟩) hHeld ?_ ?_
           rotate_left
           ·rintro w' ⟨s0, s1, s2, s3, s4, s5⟩
            go_simp
            with_reducible rfl
           rotate_left
           ·simp only [Act.put, sT, sZ, sS, i64_w, i32_w]
            rfl
           refine take_ (i := 6) (N := some 37) (v := ?_) (a' := ?_) #[true, true, true, true, true, true, true, false] rfl rfl (take_ofW HT_.out HW_.out (by kernel_rfl)) (fun _ _ _ h => h) (Or.inl ⟨by rfl, ?_⟩) hHeld ?_ ?_
           rotate_left
           ·rintro w' ⟨s0, s1, s2, s3, s4, s5⟩
            go_simp
            with_reducible rfl
           rotate_left
           ·simp only [Act.put, sT, sZ, sS, i64_w, i32_w]
            rfl
           refine pure_ (i := 7) (N := some 38) (v := ?_) (a' := ?_) #[true, true, true, true, true, true, true, true] rfl rfl (any_of HT_.out (by kernel_rfl)) (fun _ _ _ h => h) (Or.inl ⟨by rfl, ?_⟩) ?_ ?_
           rotate_left
           ·intro w'
            go_simp
            with_reducible rfl
           rotate_left
           ·simp only [Act.put, sT, sZ, sS, i64_w, i32_w]
            rfl
           refine done_ (done_of HT_.out (by kernel_rfl)) ?_
           try go_wp2
           go_roundg kj4
           case measure => have := HK1.out; have := HJ4.out; omega
           case rel => exact ⟨(y328), (true), (wrap64 (x7_1 + 1)), (by first | rfl | (simp; done) | (simp [*]; done)), (by first | rfl | (simp; done) | (simp [*]; done)), H', ⟨by have := HK1.out; have := HJ4.out; omega⟩, ⟨by (with_reducible repeat (first | apply Kd.R_alloc | apply Kd.R_drewN | apply Kd.R_drew)); exact HO330.out⟩, ⟨by (with_reducible repeat (first | refine qM ?_ _ | refine qW ?_ | refine qL ?_ _)); exact BK322.out⟩, ⟨by repeat (first | (with_reducible first | exact HB.out | apply qA | apply qN | apply qD | refine qS ?_ GE322.out) | exact HB.out)⟩⟩
          ·rw [if_neg c15] at H
           have c15b0 : (((rd_T26 l0 x7_1).f0).toList == a1_0.toList) = false := beq_eq_false_iff_ne.mpr c15
           have c15b1 : (((rd_T26 l0 x7_1).f0).toList != a1_0.toList) = true := bne_iff_ne.mpr c15
           by_cases c19 : y328.length < 3518437208883
           ·rw [if_pos c19] at H
            have LMc19 := Aside0.mk c19
            clear c19
            obtain ⟨y333, hy333⟩ : ∃ y_ : List (S26), y_ = (y328 ++ [(⟨(rd_T26 l0 x7_1).f0, (rd_T26 l0 x7_1).f1, (rd_T26 l0 x7_1).f2⟩ : S26)]) := ⟨_, rfl⟩
            replace H : (z17.l0 kj4 l0 y333 true (wrap64 (x7_1 + 1)) a1_0 a1_1 a1_2) = some r := by first | (rw [hy333]; with_reducible exact H) | (have H2_ := (Option.bind_some _ _).symm.trans H; rw [hy333]; with_reducible exact H2_) | (have H2_ := (Option.bind_some _ _).symm.trans H; with_reducible exact H2_) | with_reducible exact H | (rw [hy333]; exact H) | exact H
            have Ny333 := Aside0.mk hy333
            clear hy333
            have H' := Aside0.mk H
            clear H
            have hcz20_0 : wc.cell? ⟨gb322, 0, none⟩ = some (.string a1_0) := (qC BK322.out 0).trans rfl
            have hcz20_1 : wc.cell? ⟨gb322, 1, none⟩ = some (.int .i64 a1_1) := (qC BK322.out 1).trans rfl
            have hcz20_2 : wc.cell? ⟨gb322, 2, none⟩ = some (.string a1_2) := (qC BK322.out 2).trans rfl
            have hfz20_0 := qF BK322.out 0
            have hfz20_1 := qF BK322.out 1
            have hfz20_2 := qF BK322.out 2
            try go_wp2_with (first | ((with_reducible refine gate_builtin (b := .append) (xs := #[.tmp 27, .tmp 29]) rfl ?_); at_builtin; refine Kd.R_append k26 (w0 := w) w.heap.size rfl (.tmp 27) (.tmp 29) 27 26 (.agg #[(.string ⟨#[]⟩), (.int .i64 0), (.string ⟨#[]⟩)]) 40 rfl Tryz.underlying27 info26 rfl (by decide) (by omega) u5 x5_1 (⟨a1_0, a1_1, a1_2⟩ : S26) [.string a1_0, .int .i64 a1_1, .string a1_2] (fun k_ => k_ ≠ gb322) (fun _ => False) rfl rfl ?aP (fun _ hk => hk.elim) ?aF ?aO ?aB ?aS ?aL ?_; (case aP => exact k26_mkM _ _ _ (⟨a1_0, a1_1, a1_2⟩ : S26)); (case aB => exact (by repeat (first | (with_reducible first | exact HB.out | apply qA | apply qN | apply qD | refine qS ?_ GE322.out) | exact HB.out))); (case aF => exact (fun k_ hk => Kd.freshB (g := gb322) (o := .cells #[.string a1_0, .int .i64 a1_1, .string a1_2] 26 (0, 0)) (by (with_reducible repeat (first | refine qM ?_ _ | refine qW ?_ | refine qL ?_ _)); exact BK322.out) k_ hk)); (case aO => exact (by (with_reducible repeat (first | apply Kd.R_alloc | apply Kd.R_drewN | apply Kd.R_drew)); exact HO_5.out)); (case aS => exact (qZ (by repeat (first | (with_reducible first | exact HB.out | apply qA | apply qN | apply qD | refine qS ?_ GE322.out) | exact HB.out)))); (case aL => have := LMc12.out; omega); intro v329 w21 ho hb hg hat; rw [← Ny328.out] at ho; have n0_ := Aside0.mk (blk_grown (g := gb322) (o := .cells #[.string a1_0, .int .i64 a1_1, .string a1_2] 26 (0, 0)) (by (with_reducible repeat (first | refine qM ?_ _ | refine qW ?_ | refine qL ?_ _)); exact BK322.out) hg (Kd.R_away HO_5.out (fun _ hk => hk))); have n1_ := Aside0.mk (hb); have n2_ := Aside0.mk (ho); clear BK322; clear HB; clear HO_5; have BK322 := n0_; have HB := n1_; have HO330 := n2_; clear n0_ n1_ n2_; clear ho hb hg hat))
            have n0_ := Aside0.mk (Kd.R_drew HO330.out)
            have n1_ := Aside0.mk (qW BK322.out)
            have n2_ := Aside0.mk (qD HB.out)
            clear HO330
            clear BK322
            clear HB
            have HO330 := n0_
            have BK322 := n1_
            have HB := n2_
            clear n0_ n1_ n2_
            have p331 : 0 ≤ (x7_1 : Int) := of_decide_eq_true (by first | (with_reducible assumption) | assumption)
            have q331 : x7_1 < (l0.length : Int) := of_decide_eq_true (by first | (with_reducible assumption) | assumption)
            obtain ⟨ad331, e331, hx331_0, hx331_1, hx331_2⟩ := at_T26 HR0.out x7_1 p331 q331
            have hw331_2 := hx331_2
            have hw331_1 := hx331_1
            have hw331_0 := hx331_0
            cases e331
            replace hx331_0 := (HB.out.cell (World.block_lt_of_cell? w _ hx331_0)).trans hx331_0
            replace hx331_1 := (HB.out.cell (World.block_lt_of_cell? w _ hx331_1)).trans hx331_1
            replace hx331_2 := (HB.out.cell (World.block_lt_of_cell? w _ hx331_2)).trans hx331_2
            replace p331 := eq_true p331
            replace q331 := eq_true q331
            refine start_ (n := 8) (S := fun w' => w'.cell? ⟨gb322, 0, none⟩ = some (.string a1_0) ∧ w'.cell? ⟨gb322, 1, none⟩ = some (.int .i64 a1_1) ∧ w'.cell? ⟨gb322, 2, none⟩ = some (.string a1_2) ∧ w'.cell? (ad331.add ((x7_1).toNat * 3)) = some (.string ((rd_T26 l0 x7_1).f0)) ∧ w'.cell? ⟨(ad331.add ((x7_1).toNat * 3)).block, (ad331.add ((x7_1).toNat * 3)).off + 1, none⟩ = some (.int .i64 ((rd_T26 l0 x7_1).f1)) ∧ w'.cell? ⟨(ad331.add ((x7_1).toNat * 3)).block, (ad331.add ((x7_1).toNat * 3)).off + 2, none⟩ = some (.string ((rd_T26 l0 x7_1).f2))) (ds := []) #[false, false, false, false, false, false, false, false] (by kernel_rfl) rfl rfl ⟨(qC BK322.out 0).trans rfl, (qC BK322.out 1).trans rfl, (qC BK322.out 2).trans rfl, ((HB.out.cell (World.block_lt_of_cell? w _ hw331_0)).trans hw331_0), ((HB.out.cell (World.block_lt_of_cell? w _ hw331_1)).trans hw331_1), ((HB.out.cell (World.block_lt_of_cell? w _ hw331_2)).trans hw331_2)⟩ (fun hHeld => ?_); refine with_tabW z17.tab9 z17.bits9 (fun HT_ HW_ => ?_)
            generalize w21.drew = w22 at HO330 BK322 HB hx331_0 hx331_1 hx331_2 hHeld ⊢
            refine pure_ (i := 0) (N := some 31) (v := ?_) (a' := ?_) #[true, false, false, false, false, false, false, false] rfl rfl (any_of HT_.out (by kernel_rfl)) (fun _ _ _ h => h) (Or.inl ⟨by rfl, ?_⟩) ?_ ?_
            rotate_left
            ·intro w'
             go_simp
             with_reducible rfl
            rotate_left
            ·simp only [Act.put, sT, sZ, sS, i64_w, i32_w]
             rfl
            refine pure_ (i := 1) (N := some 32) (v := ?_) (a' := ?_) #[true, true, false, false, false, false, false, false] rfl rfl (any_of HT_.out (by kernel_rfl)) (fun _ _ _ h => h) (Or.inl ⟨by rfl, ?_⟩) ?_ ?_
            rotate_left
            ·intro w'
             go_simp
             with_reducible rfl
            rotate_left
            ·simp only [Act.put, sT, sZ, sS, i64_w, i32_w]
             rfl
            refine pure_ (i := 2) (N := some 33) (v := ?_) (a' := ?_) #[true, true, true, false, false, false, false, false] rfl rfl (any_of HT_.out (by kernel_rfl)) (fun _ _ _ h => h) (Or.inl ⟨by rfl, ?_⟩) ?_ ?_
            rotate_left
            ·intro w'
             go_simp
             with_reducible rfl
            rotate_left
            ·simp only [Act.put, sT, sZ, sS, i64_w, i32_w]
             rfl
            refine pure_ (i := 3) (N := some 34) (v := ?_) (a' := ?_) #[true, true, true, true, false, false, false, false] rfl rfl (any_of HT_.out (by kernel_rfl)) (fun _ _ _ h => h) (Or.inl ⟨by rfl, ?_⟩) ?_ ?_
            rotate_left
            ·intro w'
             go_simp
             with_reducible rfl
            rotate_left
            ·simp only [Act.put, sT, sZ, sS, i64_w, i32_w]
             rfl
            refine pure_ (i := 5) (N := some 36) (v := ?_) (a' := ?_) #[true, true, true, true, false, true, false, false] rfl rfl (any_of HT_.out (by kernel_rfl)) (fun _ _ _ h => h) (Or.inl ⟨by rfl, ?_⟩) ?_ ?_
            rotate_left
            ·intro w'
             go_simp
             with_reducible rfl
            rotate_left
            ·simp only [Act.put, sT, sZ, sS, i64_w, i32_w]
             rfl
            refine take_ (i := 4) (N := some 35) (v := ?_) (a' := ?_) #[true, true, true, true, true, true, false, false] rfl rfl (take_ofW HT_.out HW_.out (by kernel_rfl)) (fun _ _ _ h => h) (Or.inl ⟨by rfl, ?_⟩) hHeld ?_ ?_
            rotate_left
            ·rintro w' ⟨s0, s1, s2, s3, s4, s5⟩
             go_simp
             with_reducible rfl
            rotate_left
            ·simp only [Act.put, sT, sZ, sS, i64_w, i32_w]
             rfl
            refine take_ (i := 6) (N := some 37) (v := ?_) (a' := ?_) #[true, true, true, true, true, true, true, false] rfl rfl (take_ofW HT_.out HW_.out (by kernel_rfl)) (fun _ _ _ h => h) (Or.inl ⟨by rfl, ?_⟩) hHeld ?_ ?_
            rotate_left
            ·rintro w' ⟨s0, s1, s2, s3, s4, s5⟩
             go_simp
             with_reducible rfl
            rotate_left
            ·simp only [Act.put, sT, sZ, sS, i64_w, i32_w]
             rfl
            refine pure_ (i := 7) (N := some 38) (v := ?_) (a' := ?_) #[true, true, true, true, true, true, true, true] rfl rfl (any_of HT_.out (by kernel_rfl)) (fun _ _ _ h => h) (Or.inl ⟨by rfl, ?_⟩) ?_ ?_
            rotate_left
            ·intro w'
             go_simp
             with_reducible rfl
            rotate_left
            ·simp only [Act.put, sT, sZ, sS, i64_w, i32_w]
             rfl
            refine done_ (done_of HT_.out (by kernel_rfl)) ?_
            have p332 : 0 ≤ (x7_1 : Int) := of_decide_eq_true (by first | (with_reducible assumption) | assumption)
            have q332 : x7_1 < (l0.length : Int) := of_decide_eq_true (by first | (with_reducible assumption) | assumption)
            obtain ⟨ad332, e332, hx332_0, hx332_1, hx332_2⟩ := at_T26 HR0.out x7_1 p332 q332
            obtain rfl : ad331 = ad332 := (by injection e332)
            replace hx332_0 := (HB.out.cell (World.block_lt_of_cell? w _ hx332_0)).trans hx332_0
            replace hx332_1 := (HB.out.cell (World.block_lt_of_cell? w _ hx332_1)).trans hx332_1
            replace hx332_2 := (HB.out.cell (World.block_lt_of_cell? w _ hx332_2)).trans hx332_2
            replace p332 := eq_true p332
            replace q332 := eq_true q332
            try go_wp2_with (first | ((with_reducible refine gate_builtin (b := .append) (xs := #[.tmp 39, .tmp 44]) rfl ?_); at_builtin; refine Kd.R_append k26 (w0 := w) w.heap.size rfl (.tmp 39) (.tmp 44) 27 26 (.agg #[(.string ⟨#[]⟩), (.int .i64 0), (.string ⟨#[]⟩)]) 40 rfl Tryz.underlying27 info26 rfl (by decide) (by omega) v329 y328 (⟨(rd_T26 l0 x7_1).f0, (rd_T26 l0 x7_1).f1, (rd_T26 l0 x7_1).f2⟩ : S26) [.string ((rd_T26 l0 x7_1).f0), .int .i64 ((rd_T26 l0 x7_1).f1), .string ((rd_T26 l0 x7_1).f2)] (fun k_ => k_ ≠ gb322) (fun _ => False) rfl rfl ?aP (fun _ hk => hk.elim) ?aF ?aO ?aB ?aS ?aL ?_; (case aP => exact k26_mkM _ _ _ (⟨(rd_T26 l0 x7_1).f0, (rd_T26 l0 x7_1).f1, (rd_T26 l0 x7_1).f2⟩ : S26)); (case aB => exact (by repeat (first | (with_reducible first | exact HB.out | apply qA | apply qN | apply qD | refine qS ?_ GE322.out) | exact HB.out))); (case aF => exact (fun k_ hk => Kd.freshB (g := gb322) (o := .cells #[.string a1_0, .int .i64 a1_1, .string a1_2] 26 (0, 0)) (by (with_reducible repeat (first | refine qM ?_ _ | refine qW ?_ | refine qL ?_ _)); exact BK322.out) k_ hk)); (case aO => exact (by (with_reducible repeat (first | apply Kd.R_alloc | apply Kd.R_drewN | apply Kd.R_drew)); exact HO330.out)); (case aS => exact (qZ (by repeat (first | (with_reducible first | exact HB.out | apply qA | apply qN | apply qD | refine qS ?_ GE322.out) | exact HB.out)))); (case aL => have := LMc19.out; omega); intro v334 w23 ho hb hg hat; rw [← Ny333.out] at ho; have n0_ := Aside0.mk (blk_grown (g := gb322) (o := .cells #[.string a1_0, .int .i64 a1_1, .string a1_2] 26 (0, 0)) (by (with_reducible repeat (first | refine qM ?_ _ | refine qW ?_ | refine qL ?_ _)); exact BK322.out) hg (Kd.R_away HO330.out (fun _ hk => hk))); have n1_ := Aside0.mk (hb); have n2_ := Aside0.mk (ho); clear BK322; clear HB; clear HO330; have BK322 := n0_; have HB := n1_; have HO335 := n2_; clear n0_ n1_ n2_; clear ho hb hg hat))
            go_roundg kj4
            case measure => have := HK1.out; have := HJ4.out; omega
            case rel => exact ⟨(y333), (true), (wrap64 (x7_1 + 1)), (by first | rfl | (simp; done) | (simp [*]; done)), (by first | rfl | (simp; done) | (simp [*]; done)), H', ⟨by have := HK1.out; have := HJ4.out; omega⟩, ⟨by (with_reducible repeat (first | apply Kd.R_alloc | apply Kd.R_drewN | apply Kd.R_drew)); exact HO335.out⟩, ⟨by (with_reducible repeat (first | refine qM ?_ _ | refine qW ?_ | refine qL ?_ _)); exact BK322.out⟩, ⟨by repeat (first | (with_reducible first | exact HB.out | apply qA | apply qN | apply qD | refine qS ?_ GE322.out) | exact HB.out)⟩⟩
           ·rw [if_neg c19] at H
            exact absurd H (by simp)
         ·rw [if_neg c14] at H
          exact absurd H (by simp)
        ·rw [if_neg c13] at H
         exact absurd H (by simp)
       ·rw [if_neg c12] at H
        exact absurd H (by simp)
      ·replace c11 := Bool.eq_false_iff.mpr c11
       subst c11
       have H1 : (if 0 ≤ x7_1 then (if x7_1 < (l0.length : Int) then (if ((rd_T26 l0 x7_1).f0).toList = a1_0.toList then (z17.l0 kj4 l0 x5_1 x6_1 (wrap64 (x7_1 + 1)) a1_0 a1_1 a1_2) else (if x5_1.length < 3518437208883 then (z17.l0 kj4 l0 (x5_1 ++ [(⟨(rd_T26 l0 x7_1).f0, (rd_T26 l0 x7_1).f1, (rd_T26 l0 x7_1).f2⟩ : S26)]) x6_1 (wrap64 (x7_1 + 1)) a1_0 a1_1 a1_2) else (none))) else (none)) else (none)) = some r := by rw [if_neg (show ¬ (false = true) by decide)] at H; exact H
       clear H
       have H := H1
       clear H1
       by_cases c24 : 0 ≤ x7_1
       ·rw [if_pos c24] at H
        have c24b0 : decide (0 ≤ x7_1) = true := decide_eq_true c24
        clear c24
        by_cases c25 : x7_1 < (l0.length : Int)
        ·rw [if_pos c25] at H
         have c25b0 : decide (x7_1 < (l0.length : Int)) = true := decide_eq_true c25
         clear c25
         by_cases c26 : ((rd_T26 l0 x7_1).f0).toList = a1_0.toList
         ·rw [if_pos c26] at H
          have c26b0 : (((rd_T26 l0 x7_1).f0).toList == a1_0.toList) = true := beq_iff_eq.mpr c26
          have c26b1 : (((rd_T26 l0 x7_1).f0).toList != a1_0.toList) = false := bne_eq_false_iff_eq.mpr c26
          clear c26
          have H' := Aside0.mk H
          clear H
          try go_wp2
          have n0_ := Aside0.mk (Kd.R_drew HO_5.out)
          have n1_ := Aside0.mk (qW BK322.out)
          have n2_ := Aside0.mk (qD HB.out)
          clear HO_5
          clear BK322
          clear HB
          have HO_5 := n0_
          have BK322 := n1_
          have HB := n2_
          clear n0_ n1_ n2_
          have p336 : 0 ≤ (x7_1 : Int) := of_decide_eq_true (by first | (with_reducible assumption) | assumption)
          have q336 : x7_1 < (l0.length : Int) := of_decide_eq_true (by first | (with_reducible assumption) | assumption)
          obtain ⟨ad336, e336, hx336_0, hx336_1, hx336_2⟩ := at_T26 HR0.out x7_1 p336 q336
          have hw336_2 := hx336_2
          have hw336_1 := hx336_1
          have hw336_0 := hx336_0
          cases e336
          replace hx336_0 := (HB.out.cell (World.block_lt_of_cell? w _ hx336_0)).trans hx336_0
          replace hx336_1 := (HB.out.cell (World.block_lt_of_cell? w _ hx336_1)).trans hx336_1
          replace hx336_2 := (HB.out.cell (World.block_lt_of_cell? w _ hx336_2)).trans hx336_2
          replace p336 := eq_true p336
          replace q336 := eq_true q336
          refine start_ (n := 8) (S := fun w' => w'.cell? ⟨gb322, 0, none⟩ = some (.string a1_0) ∧ w'.cell? ⟨gb322, 1, none⟩ = some (.int .i64 a1_1) ∧ w'.cell? ⟨gb322, 2, none⟩ = some (.string a1_2) ∧ w'.cell? (ad336.add ((x7_1).toNat * 3)) = some (.string ((rd_T26 l0 x7_1).f0)) ∧ w'.cell? ⟨(ad336.add ((x7_1).toNat * 3)).block, (ad336.add ((x7_1).toNat * 3)).off + 1, none⟩ = some (.int .i64 ((rd_T26 l0 x7_1).f1)) ∧ w'.cell? ⟨(ad336.add ((x7_1).toNat * 3)).block, (ad336.add ((x7_1).toNat * 3)).off + 2, none⟩ = some (.string ((rd_T26 l0 x7_1).f2))) (ds := []) #[false, false, false, false, false, false, false, false] (by kernel_rfl) rfl rfl ⟨(qC BK322.out 0).trans rfl, (qC BK322.out 1).trans rfl, (qC BK322.out 2).trans rfl, ((HB.out.cell (World.block_lt_of_cell? w _ hw336_0)).trans hw336_0), ((HB.out.cell (World.block_lt_of_cell? w _ hw336_1)).trans hw336_1), ((HB.out.cell (World.block_lt_of_cell? w _ hw336_2)).trans hw336_2)⟩ (fun hHeld => ?_); refine with_tabW z17.tab9 z17.bits9 (fun HT_ HW_ => ?_)
          generalize wc.drew = w27 at HO_5 BK322 HB hx336_0 hx336_1 hx336_2 hHeld ⊢
          refine pure_ (i := 0) (N := some 31) (v := ?_) (a' := ?_) #[true, false, false, false, false, false, false, false] rfl rfl (any_of HT_.out (by kernel_rfl)) (fun _ _ _ h => h) (Or.inl ⟨by rfl, ?_⟩) ?_ ?_
          rotate_left
          ·intro w'
           go_simp
           with_reducible rfl
          rotate_left
          ·simp only [Act.put, sT, sZ, sS, i64_w, i32_w]
           rfl
          refine pure_ (i := 1) (N := some 32) (v := ?_) (a' := ?_) #[true, true, false, false, false, false, false, false] rfl rfl (any_of HT_.out (by kernel_rfl)) (fun _ _ _ h => h) (Or.inl ⟨by rfl, ?_⟩) ?_ ?_
          rotate_left
          ·intro w'
           go_simp
           with_reducible rfl
          rotate_left
          ·simp only [Act.put, sT, sZ, sS, i64_w, i32_w]
           rfl
          refine pure_ (i := 2) (N := some 33) (v := ?_) (a' := ?_) #[true, true, true, false, false, false, false, false] rfl rfl (any_of HT_.out (by kernel_rfl)) (fun _ _ _ h => h) (Or.inl ⟨by rfl, ?_⟩) ?_ ?_
          rotate_left
          ·intro w'
           go_simp
           with_reducible rfl
          rotate_left
          ·simp only [Act.put, sT, sZ, sS, i64_w, i32_w]
           rfl
          refine pure_ (i := 3) (N := some 34) (v := ?_) (a' := ?_) #[true, true, true, true, false, false, false, false] rfl rfl (any_of HT_.out (by kernel_rfl)) (fun _ _ _ h => h) (Or.inl ⟨by rfl, ?_⟩) ?_ ?_
          rotate_left
          ·intro w'
           go_simp
           with_reducible rfl
          rotate_left
          ·simp only [Act.put, sT, sZ, sS, i64_w, i32_w]
           rfl
          refine pure_ (i := 5) (N := some 36) (v := ?_) (a' := ?_) #[true, true, true, true, false, true, false, false] rfl rfl (any_of HT_.out (by kernel_rfl)) (fun _ _ _ h => h) (Or.inl ⟨by rfl, ?_⟩) ?_ ?_
          rotate_left
          ·intro w'
           go_simp
           with_reducible rfl
          rotate_left
          ·simp only [Act.put, sT, sZ, sS, i64_w, i32_w]
           rfl
          refine take_ (i := 4) (N := some 35) (v := ?_) (a' := ?_) #[true, true, true, true, true, true, false, false] rfl rfl (take_ofW HT_.out HW_.out (by kernel_rfl)) (fun _ _ _ h => h) (Or.inl ⟨by rfl, ?_⟩) hHeld ?_ ?_
          rotate_left
          ·rintro w' ⟨s0, s1, s2, s3, s4, s5⟩
           go_simp
           with_reducible rfl
          rotate_left
          ·simp only [Act.put, sT, sZ, sS, i64_w, i32_w]
           rfl
          refine take_ (i := 6) (N := some 37) (v := ?_) (a' := ?_) #[true, true, true, true, true, true, true, false] rfl rfl (take_ofW HT_.out HW_.out (by kernel_rfl)) (fun _ _ _ h => h) (Or.inl ⟨by rfl, ?_⟩) hHeld ?_ ?_
          rotate_left
          ·rintro w' ⟨s0, s1, s2, s3, s4, s5⟩
           go_simp
           with_reducible rfl
          rotate_left
          ·simp only [Act.put, sT, sZ, sS, i64_w, i32_w]
           rfl
          refine pure_ (i := 7) (N := some 38) (v := ?_) (a' := ?_) #[true, true, true, true, true, true, true, true] rfl rfl (any_of HT_.out (by kernel_rfl)) (fun _ _ _ h => h) (Or.inl ⟨by rfl, ?_⟩) ?_ ?_
          rotate_left
          ·intro w'
           go_simp
           with_reducible rfl
          rotate_left
          ·simp only [Act.put, sT, sZ, sS, i64_w, i32_w]
           rfl
          refine done_ (done_of HT_.out (by kernel_rfl)) ?_
          try go_wp2
          go_roundg kj4
          case measure => have := HK1.out; have := HJ4.out; omega
          case rel => exact ⟨(x5_1), (x6_1), (wrap64 (x7_1 + 1)), (by first | rfl | (simp; done) | (simp [*]; done)), (by first | rfl | (simp; done) | (simp [*]; done)), H', ⟨by have := HK1.out; have := HJ4.out; omega⟩, ⟨by (with_reducible repeat (first | apply Kd.R_alloc | apply Kd.R_drewN | apply Kd.R_drew)); exact HO_5.out⟩, ⟨by (with_reducible repeat (first | refine qM ?_ _ | refine qW ?_ | refine qL ?_ _)); exact BK322.out⟩, ⟨by repeat (first | (with_reducible first | exact HB.out | apply qA | apply qN | apply qD | refine qS ?_ GE322.out) | exact HB.out)⟩⟩
         ·rw [if_neg c26] at H
          have c26b0 : (((rd_T26 l0 x7_1).f0).toList == a1_0.toList) = false := beq_eq_false_iff_ne.mpr c26
          have c26b1 : (((rd_T26 l0 x7_1).f0).toList != a1_0.toList) = true := bne_iff_ne.mpr c26
          by_cases c28 : x5_1.length < 3518437208883
          ·rw [if_pos c28] at H
           have LMc28 := Aside0.mk c28
           clear c28
           obtain ⟨y338, hy338⟩ : ∃ y_ : List (S26), y_ = (x5_1 ++ [(⟨(rd_T26 l0 x7_1).f0, (rd_T26 l0 x7_1).f1, (rd_T26 l0 x7_1).f2⟩ : S26)]) := ⟨_, rfl⟩
           replace H : (z17.l0 kj4 l0 y338 x6_1 (wrap64 (x7_1 + 1)) a1_0 a1_1 a1_2) = some r := by first | (rw [hy338]; with_reducible exact H) | (have H2_ := (Option.bind_some _ _).symm.trans H; rw [hy338]; with_reducible exact H2_) | (have H2_ := (Option.bind_some _ _).symm.trans H; with_reducible exact H2_) | with_reducible exact H | (rw [hy338]; exact H) | exact H
           have Ny338 := Aside0.mk hy338
           clear hy338
           have H' := Aside0.mk H
           clear H
           try go_wp2
           have n0_ := Aside0.mk (Kd.R_drew HO_5.out)
           have n1_ := Aside0.mk (qW BK322.out)
           have n2_ := Aside0.mk (qD HB.out)
           clear HO_5
           clear BK322
           clear HB
           have HO_5 := n0_
           have BK322 := n1_
           have HB := n2_
           clear n0_ n1_ n2_
           have p336 : 0 ≤ (x7_1 : Int) := of_decide_eq_true (by first | (with_reducible assumption) | assumption)
           have q336 : x7_1 < (l0.length : Int) := of_decide_eq_true (by first | (with_reducible assumption) | assumption)
           obtain ⟨ad336, e336, hx336_0, hx336_1, hx336_2⟩ := at_T26 HR0.out x7_1 p336 q336
           have hw336_2 := hx336_2
           have hw336_1 := hx336_1
           have hw336_0 := hx336_0
           cases e336
           replace hx336_0 := (HB.out.cell (World.block_lt_of_cell? w _ hx336_0)).trans hx336_0
           replace hx336_1 := (HB.out.cell (World.block_lt_of_cell? w _ hx336_1)).trans hx336_1
           replace hx336_2 := (HB.out.cell (World.block_lt_of_cell? w _ hx336_2)).trans hx336_2
           replace p336 := eq_true p336
           replace q336 := eq_true q336
           refine start_ (n := 8) (S := fun w' => w'.cell? ⟨gb322, 0, none⟩ = some (.string a1_0) ∧ w'.cell? ⟨gb322, 1, none⟩ = some (.int .i64 a1_1) ∧ w'.cell? ⟨gb322, 2, none⟩ = some (.string a1_2) ∧ w'.cell? (ad336.add ((x7_1).toNat * 3)) = some (.string ((rd_T26 l0 x7_1).f0)) ∧ w'.cell? ⟨(ad336.add ((x7_1).toNat * 3)).block, (ad336.add ((x7_1).toNat * 3)).off + 1, none⟩ = some (.int .i64 ((rd_T26 l0 x7_1).f1)) ∧ w'.cell? ⟨(ad336.add ((x7_1).toNat * 3)).block, (ad336.add ((x7_1).toNat * 3)).off + 2, none⟩ = some (.string ((rd_T26 l0 x7_1).f2))) (ds := []) #[false, false, false, false, false, false, false, false] (by kernel_rfl) rfl rfl ⟨(qC BK322.out 0).trans rfl, (qC BK322.out 1).trans rfl, (qC BK322.out 2).trans rfl, ((HB.out.cell (World.block_lt_of_cell? w _ hw336_0)).trans hw336_0), ((HB.out.cell (World.block_lt_of_cell? w _ hw336_1)).trans hw336_1), ((HB.out.cell (World.block_lt_of_cell? w _ hw336_2)).trans hw336_2)⟩ (fun hHeld => ?_); refine with_tabW z17.tab9 z17.bits9 (fun HT_ HW_ => ?_)
           generalize wc.drew = w29 at HO_5 BK322 HB hx336_0 hx336_1 hx336_2 hHeld ⊢
           refine pure_ (i := 0) (N := some 31) (v := ?_) (a' := ?_) #[true, false, false, false, false, false, false, false] rfl rfl (any_of HT_.out (by kernel_rfl)) (fun _ _ _ h => h) (Or.inl ⟨by rfl, ?_⟩) ?_ ?_
           rotate_left
           ·intro w'
            go_simp
            with_reducible rfl
           rotate_left
           ·simp only [Act.put, sT, sZ, sS, i64_w, i32_w]
            rfl
           refine pure_ (i := 1) (N := some 32) (v := ?_) (a' := ?_) #[true, true, false, false, false, false, false, false] rfl rfl (any_of HT_.out (by kernel_rfl)) (fun _ _ _ h => h) (Or.inl ⟨by rfl, ?_⟩) ?_ ?_
           rotate_left
           ·intro w'
            go_simp
            with_reducible rfl
           rotate_left
           ·simp only [Act.put, sT, sZ, sS, i64_w, i32_w]
            rfl
           refine pure_ (i := 2) (N := some 33) (v := ?_) (a' := ?_) #[true, true, true, false, false, false, false, false] rfl rfl (any_of HT_.out (by kernel_rfl)) (fun _ _ _ h => h) (Or.inl ⟨by rfl, ?_⟩) ?_ ?_
           rotate_left
           ·intro w'
            go_simp
            with_reducible rfl
           rotate_left
           ·simp only [Act.put, sT, sZ, sS, i64_w, i32_w]
            rfl
           refine pure_ (i := 3) (N := some 34) (v := ?_) (a' := ?_) #[true, true, true, true, false, false, false, false] rfl rfl (any_of HT_.out (by kernel_rfl)) (fun _ _ _ h => h) (Or.inl ⟨by rfl, ?_⟩) ?_ ?_
           rotate_left
           ·intro w'
            go_simp
            with_reducible rfl
           rotate_left
           ·simp only [Act.put, sT, sZ, sS, i64_w, i32_w]
            rfl
           refine pure_ (i := 5) (N := some 36) (v := ?_) (a' := ?_) #[true, true, true, true, false, true, false, false] rfl rfl (any_of HT_.out (by kernel_rfl)) (fun _ _ _ h => h) (Or.inl ⟨by rfl, ?_⟩) ?_ ?_
           rotate_left
           ·intro w'
            go_simp
            with_reducible rfl
           rotate_left
           ·simp only [Act.put, sT, sZ, sS, i64_w, i32_w]
            rfl
           refine take_ (i := 4) (N := some 35) (v := ?_) (a' := ?_) #[true, true, true, true, true, true, false, false] rfl rfl (take_ofW HT_.out HW_.out (by kernel_rfl)) (fun _ _ _ h => h) (Or.inl ⟨by rfl, ?_⟩) hHeld ?_ ?_
           rotate_left
           ·rintro w' ⟨s0, s1, s2, s3, s4, s5⟩
            go_simp
            with_reducible rfl
           rotate_left
           ·simp only [Act.put, sT, sZ, sS, i64_w, i32_w]
            rfl
           refine take_ (i := 6) (N := some 37) (v := ?_) (a' := ?_) #[true, true, true, true, true, true, true, false] rfl rfl (take_ofW HT_.out HW_.out (by kernel_rfl)) (fun _ _ _ h => h) (Or.inl ⟨by rfl, ?_⟩) hHeld ?_ ?_
           rotate_left
           ·rintro w' ⟨s0, s1, s2, s3, s4, s5⟩
            go_simp
            with_reducible rfl
           rotate_left
           ·simp only [Act.put, sT, sZ, sS, i64_w, i32_w]
            rfl
           refine pure_ (i := 7) (N := some 38) (v := ?_) (a' := ?_) #[true, true, true, true, true, true, true, true] rfl rfl (any_of HT_.out (by kernel_rfl)) (fun _ _ _ h => h) (Or.inl ⟨by rfl, ?_⟩) ?_ ?_
           rotate_left
           ·intro w'
            go_simp
            with_reducible rfl
           rotate_left
           ·simp only [Act.put, sT, sZ, sS, i64_w, i32_w]
            rfl
           refine done_ (done_of HT_.out (by kernel_rfl)) ?_
           have p337 : 0 ≤ (x7_1 : Int) := of_decide_eq_true (by first | (with_reducible assumption) | assumption)
           have q337 : x7_1 < (l0.length : Int) := of_decide_eq_true (by first | (with_reducible assumption) | assumption)
           obtain ⟨ad337, e337, hx337_0, hx337_1, hx337_2⟩ := at_T26 HR0.out x7_1 p337 q337
           obtain rfl : ad336 = ad337 := (by injection e337)
           replace hx337_0 := (HB.out.cell (World.block_lt_of_cell? w _ hx337_0)).trans hx337_0
           replace hx337_1 := (HB.out.cell (World.block_lt_of_cell? w _ hx337_1)).trans hx337_1
           replace hx337_2 := (HB.out.cell (World.block_lt_of_cell? w _ hx337_2)).trans hx337_2
           replace p337 := eq_true p337
           replace q337 := eq_true q337
           try go_wp2_with (first | ((with_reducible refine gate_builtin (b := .append) (xs := #[.tmp 39, .tmp 44]) rfl ?_); at_builtin; refine Kd.R_append k26 (w0 := w) w.heap.size rfl (.tmp 39) (.tmp 44) 27 26 (.agg #[(.string ⟨#[]⟩), (.int .i64 0), (.string ⟨#[]⟩)]) 40 rfl Tryz.underlying27 info26 rfl (by decide) (by omega) u5 x5_1 (⟨(rd_T26 l0 x7_1).f0, (rd_T26 l0 x7_1).f1, (rd_T26 l0 x7_1).f2⟩ : S26) [.string ((rd_T26 l0 x7_1).f0), .int .i64 ((rd_T26 l0 x7_1).f1), .string ((rd_T26 l0 x7_1).f2)] (fun k_ => k_ ≠ gb322) (fun _ => False) rfl rfl ?aP (fun _ hk => hk.elim) ?aF ?aO ?aB ?aS ?aL ?_; (case aP => exact k26_mkM _ _ _ (⟨(rd_T26 l0 x7_1).f0, (rd_T26 l0 x7_1).f1, (rd_T26 l0 x7_1).f2⟩ : S26)); (case aB => exact (by repeat (first | (with_reducible first | exact HB.out | apply qA | apply qN | apply qD | refine qS ?_ GE322.out) | exact HB.out))); (case aF => exact (fun k_ hk => Kd.freshB (g := gb322) (o := .cells #[.string a1_0, .int .i64 a1_1, .string a1_2] 26 (0, 0)) (by (with_reducible repeat (first | refine qM ?_ _ | refine qW ?_ | refine qL ?_ _)); exact BK322.out) k_ hk)); (case aO => exact (by (with_reducible repeat (first | apply Kd.R_alloc | apply Kd.R_drewN | apply Kd.R_drew)); exact HO_5.out)); (case aS => exact (qZ (by repeat (first | (with_reducible first | exact HB.out | apply qA | apply qN | apply qD | refine qS ?_ GE322.out) | exact HB.out)))); (case aL => have := LMc28.out; omega); intro v339 w30 ho hb hg hat; rw [← Ny338.out] at ho; have n0_ := Aside0.mk (blk_grown (g := gb322) (o := .cells #[.string a1_0, .int .i64 a1_1, .string a1_2] 26 (0, 0)) (by (with_reducible repeat (first | refine qM ?_ _ | refine qW ?_ | refine qL ?_ _)); exact BK322.out) hg (Kd.R_away HO_5.out (fun _ hk => hk))); have n1_ := Aside0.mk (hb); have n2_ := Aside0.mk (ho); clear BK322; clear HB; clear HO_5; have BK322 := n0_; have HB := n1_; have HO340 := n2_; clear n0_ n1_ n2_; clear ho hb hg hat))
           go_roundg kj4
           case measure => have := HK1.out; have := HJ4.out; omega
           case rel => exact ⟨(y338), (x6_1), (wrap64 (x7_1 + 1)), (by first | rfl | (simp; done) | (simp [*]; done)), (by first | rfl | (simp; done) | (simp [*]; done)), H', ⟨by have := HK1.out; have := HJ4.out; omega⟩, ⟨by (with_reducible repeat (first | apply Kd.R_alloc | apply Kd.R_drewN | apply Kd.R_drew)); exact HO340.out⟩, ⟨by (with_reducible repeat (first | refine qM ?_ _ | refine qW ?_ | refine qL ?_ _)); exact BK322.out⟩, ⟨by repeat (first | (with_reducible first | exact HB.out | apply qA | apply qN | apply qD | refine qS ?_ GE322.out) | exact HB.out)⟩⟩
          ·rw [if_neg c28] at H
           exact absurd H (by simp)
        ·rw [if_neg c25] at H
         exact absurd H (by simp)
       ·rw [if_neg c24] at H
        exact absurd H (by simp)
   ·rw [if_neg c4] at H
    have c4b0 : decide (x7_1 < (l0.length : Int)) = false := decide_eq_false c4
    clear c4
    by_cases c31 : x6_1 = true
    ·subst c31
     have H1 : (some x5_1) = some r := by rw [if_pos rfl] at H; exact H
     clear H
     have H := H1
     clear H1
     obtain rfl := Option.some.inj H
     go_wp2
     go_ret
     exact ⟨_, by first | rfl | (simp [qn, qe] <;> rfl) | (simp [*, qn, qe] <;> rfl), by (with_reducible repeat (first | apply Kd.R_alloc | apply Kd.R_drewN | apply Kd.R_drew)); exact Kd.R_mono HO_5.out (fun _ hk => trivial), by repeat (first | (with_reducible first | exact HB.out | apply qA | apply qN | apply qD | refine qS ?_ GE322.out) | exact HB.out)⟩
    ·replace c31 := Bool.eq_false_iff.mpr c31
     subst c31
     have H1 : (if x5_1.length < 3518437208883 then (some (x5_1 ++ [(⟨a1_0, a1_1, a1_2⟩ : S26)])) else (none)) = some r := by rw [if_neg (show ¬ (false = true) by decide)] at H; exact H
     clear H
     have H := H1
     clear H1
     by_cases c32 : x5_1.length < 3518437208883
     ·rw [if_pos c32] at H
      have LMc32 := Aside0.mk c32
      clear c32
      obtain ⟨y323, hy323⟩ : ∃ y_ : List (S26), y_ = (x5_1 ++ [(⟨a1_0, a1_1, a1_2⟩ : S26)]) := ⟨_, rfl⟩
      replace H : (some y323) = some r := by first | (rw [hy323]; with_reducible exact H) | (have H2_ := (Option.bind_some _ _).symm.trans H; rw [hy323]; with_reducible exact H2_) | (have H2_ := (Option.bind_some _ _).symm.trans H; with_reducible exact H2_) | with_reducible exact H | (rw [hy323]; exact H) | exact H
      have Ny323 := Aside0.mk hy323
      clear hy323
      obtain rfl := Option.some.inj H
      have hcz33_0 : wr.cell? ⟨gb322, 0, none⟩ = some (.string a1_0) := (qC BK322.out 0).trans rfl
      have hcz33_1 : wr.cell? ⟨gb322, 1, none⟩ = some (.int .i64 a1_1) := (qC BK322.out 1).trans rfl
      have hcz33_2 : wr.cell? ⟨gb322, 2, none⟩ = some (.string a1_2) := (qC BK322.out 2).trans rfl
      have hfz33_0 := qF BK322.out 0
      have hfz33_1 := qF BK322.out 1
      have hfz33_2 := qF BK322.out 2
      go_wp2_with (first | ((with_reducible refine gate_builtin (b := .append) (xs := #[.tmp 48, .tmp 50]) rfl ?_); at_builtin; refine Kd.R_append k26 (w0 := w) w.heap.size rfl (.tmp 48) (.tmp 50) 27 26 (.agg #[(.string ⟨#[]⟩), (.int .i64 0), (.string ⟨#[]⟩)]) 40 rfl Tryz.underlying27 info26 rfl (by decide) (by omega) u5 x5_1 (⟨a1_0, a1_1, a1_2⟩ : S26) [.string a1_0, .int .i64 a1_1, .string a1_2] (fun k_ => k_ ≠ gb322) (fun _ => False) rfl rfl ?aP (fun _ hk => hk.elim) ?aF ?aO ?aB ?aS ?aL ?_; (case aP => exact k26_mkM _ _ _ (⟨a1_0, a1_1, a1_2⟩ : S26)); (case aB => exact (by repeat (first | (with_reducible first | exact HB.out | apply qA | apply qN | apply qD | refine qS ?_ GE322.out) | exact HB.out))); (case aF => exact (fun k_ hk => Kd.freshB (g := gb322) (o := .cells #[.string a1_0, .int .i64 a1_1, .string a1_2] 26 (0, 0)) (by (with_reducible repeat (first | refine qM ?_ _ | refine qW ?_ | refine qL ?_ _)); exact BK322.out) k_ hk)); (case aO => exact (by (with_reducible repeat (first | apply Kd.R_alloc | apply Kd.R_drewN | apply Kd.R_drew)); exact HO_5.out)); (case aS => exact (qZ (by repeat (first | (with_reducible first | exact HB.out | apply qA | apply qN | apply qD | refine qS ?_ GE322.out) | exact HB.out)))); (case aL => have := LMc32.out; omega); intro v324 w34 ho hb hg hat; rw [← Ny323.out] at ho; have n0_ := Aside0.mk (blk_grown (g := gb322) (o := .cells #[.string a1_0, .int .i64 a1_1, .string a1_2] 26 (0, 0)) (by (with_reducible repeat (first | refine qM ?_ _ | refine qW ?_ | refine qL ?_ _)); exact BK322.out) hg (Kd.R_away HO_5.out (fun _ hk => hk))); have n1_ := Aside0.mk (hb); have n2_ := Aside0.mk (ho); clear BK322; clear HB; clear HO_5; have BK322 := n0_; have HB := n1_; have HO325 := n2_; clear n0_ n1_ n2_; clear ho hb hg hat))
      go_ret
      exact ⟨_, by first | rfl | (simp [qn, qe] <;> rfl) | (simp [*, qn, qe] <;> rfl), by (with_reducible repeat (first | apply Kd.R_alloc | apply Kd.R_drewN | apply Kd.R_drew)); exact Kd.R_mono HO325.out (fun _ hk => trivial), by repeat (first | (with_reducible first | exact HB.out | apply qA | apply qN | apply qD | refine qS ?_ GE322.out) | exact HB.out)⟩
     ·rw [if_neg c32] at H
      exact absurd H (by simp)

end Go.Proofs.YthfbcclbappbcaaGreatDoor.Print
