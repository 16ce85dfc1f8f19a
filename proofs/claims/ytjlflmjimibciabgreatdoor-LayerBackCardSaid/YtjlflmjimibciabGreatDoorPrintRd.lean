import Derived.Test.YtjlflmjimibciabGreatDoorPrint0
import Derived.Test.YtjlflmjimibciabGreatDoorPrint2
import Derived.Test.YtjlflmjimibciabGreatDoorPrintLay
import Derived.Test.YtjlflmjimibciabGreatDoorPrintRe
namespace Go.Proofs.YtjlflmjimibciabGreatDoor.Print
open Go.RowKit Go.Proofs.YtjlflmjimibciabGreatDoorW.PrintWords Go.Proofs.YtjlflmjimibciabGreatDoorW.PrintLast Go.Proofs.YtjlflmjimibciabGreatDoorW.PrintMore
attribute [local go_sem] max2_int min2_int max_two min_two max_three min_three max_four min_four   -- for this text's walks alone
set_option linter.unusedVariables false
set_option linter.unusedSimpArgs false
mutual
def layer_Read.j0 : Nat → ByteArray → Int → Bool → Option ((List (S39)) × (List Int))
 | 0, _, _, _ => none
 | k + 1, x0, x4, x26 => if x26 = true then ((fail_At.f (⟨#[114, 101, 97, 100]⟩ : ByteArray) (⟨#[]⟩ : ByteArray) 12).bind fun t228 => (some (([] : List (S39)), t228))) else (if 0 ≤ x4 then (if x4 ≤ (x0.size : Int) then ((code_New.f (x0.extract 0 (x4 : Int).toNat)).bind fun bt231 => ((code_Reader_Num.f bt231.1 bt231.2 64).bind fun bt234 => (if ((bt234.2.1.isEmpty) = true) then (layer_Read.l0 k ([] : List (S39)) bt234.1 0 bt234.2.2.1 bt234.2.2.2) else (some (([] : List (S39)), bt234.2.1))))) else (none)) else (none))
def layer_Read.l0 : Nat → List (S39) → Int → Int → ByteArray → Int → Option ((List (S39)) × (List Int))
 | 0, _, _, _, _, _ => none
 | k + 1, x8, x41, x42, x234000, x234001 => if x42 < x41 then ((entry_Read.f x234000 x234001).bind fun bt240 => (if ((bt240.2.2.2.1.isEmpty) = true) then (if x8.length < 3518437208883 then (layer_Read.l0 k (x8 ++ [(⟨bt240.1, bt240.2.1, bt240.2.2.1⟩ : S39)]) x41 (wrap64 (x42 + 1)) bt240.2.2.2.2.1 bt240.2.2.2.2.2) else (none)) else (some (([] : List (S39)), bt240.2.2.2.1)))) else ((code_Reader_Left.f x234000 x234001).bind fun bt252 => (if bt252.1 > 0 then ((fail_At.f (⟨#[114, 101, 97, 100]⟩ : ByteArray) (⟨#[]⟩ : ByteArray) 13).bind fun t255 => (some (([] : List (S39)), t255))) else ((layer_Right.f k x8).bind fun t258 => (if t258 = true then (some (x8, ([] : List Int))) else ((fail_At.f (⟨#[114, 101, 97, 100]⟩ : ByteArray) (⟨#[]⟩ : ByteArray) 13).bind fun t259 => (some (([] : List (S39)), t259)))))))
end
def layer_Read.f (k : Nat) (a0 : ByteArray) : Option ((List (S39)) × (List Int)) := if (wrap64 ((a0.size : Int) - 4)) < 1 then (layer_Read.j0 k a0 (wrap64 ((a0.size : Int) - 4)) true) else (if 0 ≤ (wrap64 ((a0.size : Int) - 4)) then (if (wrap64 ((a0.size : Int) - 4)) ≤ (a0.size : Int) then ((adler_Number.f k (a0.extract ((wrap64 ((a0.size : Int) - 4)) : Int).toNat a0.size)).bind fun t226 => ((adler_Sum.f k (a0.extract 0 ((wrap64 ((a0.size : Int) - 4)) : Int).toNat)).bind fun t227 => (layer_Read.j0 k a0 (wrap64 ((a0.size : Int) - 4)) (t226 != t227)))) else (none)) else (none))
theorem layer_Read.mono_l : ∀ k, (∀ y0 y1 y2, LeO (layer_Read.j0 k y0 y1 y2) (layer_Read.j0 (k + 1) y0 y1 y2)) ∧ (∀ y0 y1 y2 y3 y4, LeO (layer_Read.l0 k y0 y1 y2 y3 y4) (layer_Read.l0 (k + 1) y0 y1 y2 y3 y4))
 | 0 => ⟨fun _ _ _ r h => by simp [layer_Read.j0] at h, fun _ _ _ _ _ r h => by simp [layer_Read.l0] at h⟩
 | k + 1 => by
  obtain ⟨ih0, ih1⟩ := layer_Read.mono_l k
  refine ⟨?_, ?_⟩
  ·intro y0 y1 y2
   unfold layer_Read.j0
   repeat' first
   | (with_reducible exact ih0 _ _ _)
   | (with_reducible exact ih1 _ _ _ _ _)
   | (with_reducible exact adler_Number.mono _ _)
   | (with_reducible exact adler_Sum.mono _ _)
   | (with_reducible exact layer_Right.mono _ _)
   | (with_reducible exact LeO.refl _)
   | (with_reducible exact LeO.none _)
   | (with_reducible refine LeO.ite ?_ ?_)
   | (with_reducible refine LeO.bind ?_ (fun _ => ?_))
   | exact ih0 _ _ _
   | exact ih1 _ _ _ _ _
   | exact adler_Number.mono _ _
   | exact adler_Sum.mono _ _
   | exact layer_Right.mono _ _
   | exact LeO.none _
   | refine LeO.ite ?_ ?_
   | refine LeO.bind ?_ (fun _ => ?_)
  ·intro y0 y1 y2 y3 y4
   unfold layer_Read.l0
   repeat' first
   | (with_reducible exact ih0 _ _ _)
   | (with_reducible exact ih1 _ _ _ _ _)
   | (with_reducible exact adler_Number.mono _ _)
   | (with_reducible exact adler_Sum.mono _ _)
   | (with_reducible exact layer_Right.mono _ _)
   | (with_reducible exact LeO.refl _)
   | (with_reducible exact LeO.none _)
   | (with_reducible refine LeO.ite ?_ ?_)
   | (with_reducible refine LeO.bind ?_ (fun _ => ?_))
   | exact ih0 _ _ _
   | exact ih1 _ _ _ _ _
   | exact adler_Number.mono _ _
   | exact adler_Sum.mono _ _
   | exact layer_Right.mono _ _
   | exact LeO.none _
   | refine LeO.ite ?_ ?_
   | refine LeO.bind ?_ (fun _ => ?_)
theorem layer_Read.mono : ∀ a0 k, LeO (layer_Read.f k a0) (layer_Read.f (k + 1) a0) := by
 intro a0 k
 obtain ⟨ih0, ih1⟩ := layer_Read.mono_l k
 unfold layer_Read.f
 repeat' first
   | (with_reducible exact ih0 _ _ _)
   | (with_reducible exact ih1 _ _ _ _ _)
   | (with_reducible exact adler_Number.mono _ _)
   | (with_reducible exact adler_Sum.mono _ _)
   | (with_reducible exact layer_Right.mono _ _)
   | (with_reducible exact LeO.refl _)
   | (with_reducible exact LeO.none _)
   | (with_reducible refine LeO.ite ?_ ?_)
   | (with_reducible refine LeO.bind ?_ (fun _ => ?_))
   | exact ih0 _ _ _
   | exact ih1 _ _ _ _ _
   | exact adler_Number.mono _ _
   | exact adler_Sum.mono _ _
   | exact layer_Right.mono _ _
   | exact LeO.none _
   | refine LeO.ite ?_ ?_
   | refine LeO.bind ?_ (fun _ => ?_)
def layer_Read.T2 : Bool × List (List Nat × List Nat) := (true, [([], []), ([0], [0]), ([1], [1]), ([2], [2]), ([2], [2]), ([3, 4, 2], [2, 3, 4]), ([5, 2, 2], [2, 5]), ([2], [2]), ([2], [2]), ([7, 8, 2], [2, 7, 8]), ([9, 6, 2], [2, 9]), ([6, 10, 2], [2, 6, 10]), ([2, 11], [2, 11])])
def layer_Read.B2 : List Nat := [0, 1, 3, 7, 7, 31, 63, 7, 7, 391, 1023, 2047, 4095]
theorem layer_Read.tab2 : rtab .any (opsOf Tryz.f11 2) = layer_Read.T2 := by kernel_rfl
theorem layer_Read.bits2 : waitsOk layer_Read.T2.2 layer_Read.B2 = true := by kernel_rfl
set_option maxHeartbeats 8000000 in
set_option maxRecDepth 100000 in
theorem layer_Read.calls (k : Nat) (a0 : ByteArray) (r1 : List (S39)) (r2 : List Int) (w : World) (h : layer_Read.f k a0 = some (r1, r2)) :
  Calls Tryz.prog 11 #[.string a0] w fun e w' => ∃ v0_ v1_ : Value, e = .returned (.tuple #[v0_, errV v1_]) ∧ Kd.R k39 39 w' w.heap.size (fun _ => True) v0_ r1 ∧ Kd.R kdF 82 w' w.heap.size (fun _ => True) v1_ r2 ∧ Below w.heap.size w w' := by
 have hu39 := Tryz.underlying39
 have hE_eql := errV_eql
 have hE_neq := errV_neq
 have HB := Aside0.mk (Below.refl w.heap.size w)
 have H : (if (wrap64 ((a0.size : Int) - 4)) < 1 then (layer_Read.j0 k a0 (wrap64 ((a0.size : Int) - 4)) true) else (if 0 ≤ (wrap64 ((a0.size : Int) - 4)) then (if (wrap64 ((a0.size : Int) - 4)) ≤ (a0.size : Int) then ((adler_Number.f k (a0.extract ((wrap64 ((a0.size : Int) - 4)) : Int).toNat a0.size)).bind fun t226 => ((adler_Sum.f k (a0.extract 0 ((wrap64 ((a0.size : Int) - 4)) : Int).toNat)).bind fun t227 => (layer_Read.j0 k a0 (wrap64 ((a0.size : Int) - 4)) (t226 != t227)))) else (none)) else (none))) = some (r1, r2) := h
 clear h
 have HC2 := Aside0.mk H
 clear H
 go_enter Tryz.func11, Tryz.ntmps11
 go_upto_region 2 with (fail)
 go_cut [26] (fun v26 wc => ∃ (kq : Nat) (x26_1 : Bool), v26 = .bool x26_1 ∧ Aside0 (layer_Read.j0 kq a0 (wrap64 ((a0.size : Int) - 4)) x26_1 = some (r1, r2)) ∧ Aside0 (kq ≤ k) ∧ Aside0 (Below w.heap.size w wc))
 case first =>
  have H := HC2.out
  clear HC2
  by_cases c3 : (wrap64 ((a0.size : Int) - 4)) < 1
  ·rw [if_pos c3] at H
   have c3b0 : decide ((wrap64 ((a0.size : Int) - 4)) < 1) = true := decide_eq_true c3
   clear c3
   (first | rw [c3b0] | (simp only [i64_w, i32_w]; rw [c3b0]) | skip)
   have H' := Aside0.mk H
   clear H
   try go_wp2
   have n0_ := Aside0.mk (below_drew1 HB.out)
   clear HB
   have HB := n0_
   clear n0_
   refine start_ (n := 13) (S := fun w' => True) (ds := []) #[false, false, false, false, false, false, false, false, false, false, false, false, false] (by kernel_rfl) rfl rfl trivial (fun hHeld => ?_); refine with_tabW layer_Read.tab2 layer_Read.bits2 (fun HT_ HW_ => ?_)
   generalize w.drew = w4 at HB hHeld ⊢
   refine pure_ (i := 0) (N := some 14) (v := ?_) (a' := ?_) #[true, false, false, false, false, false, false, false, false, false, false, false, false] rfl rfl (any_of HT_.out (by kernel_rfl)) (fun _ _ _ h => h) (Or.inl ⟨by rfl, ?_⟩) ?_ ?_
   rotate_left
   ·intro w'
    go_simp
    with_reducible rfl
   rotate_left
   ·simp only [Act.put, List.setIfInBounds_toArray, List.set_cons_zero, List.set_cons_succ, i64_w, i32_w]
    rfl
   refine pure_ (i := 1) (N := some 15) (v := ?_) (a' := ?_) #[true, true, false, false, false, false, false, false, false, false, false, false, false] rfl rfl (any_of HT_.out (by kernel_rfl)) (fun _ _ _ h => h) (Or.inl ⟨by rfl, ?_⟩) ?_ ?_
   rotate_left
   ·intro w'
    go_simp
    with_reducible rfl
   rotate_left
   ·simp only [Act.put, List.setIfInBounds_toArray, List.set_cons_zero, List.set_cons_succ, i64_w, i32_w]
    rfl
   refine pure_ (i := 2) (N := some 16) (v := ?_) (a' := ?_) #[true, true, true, false, false, false, false, false, false, false, false, false, false] rfl rfl (any_of HT_.out (by kernel_rfl)) (fun _ _ _ h => h) (Or.inl ⟨by rfl, ?_⟩) ?_ ?_
   rotate_left
   ·intro w'
    go_simp
    with_reducible rfl
   rotate_left
   ·simp only [Act.put, List.setIfInBounds_toArray, List.set_cons_zero, List.set_cons_succ, i64_w, i32_w]
    rfl
   refine pure_ (i := 3) (N := some 17) (v := undef) (a' := ?_) #[true, true, true, true, false, false, false, false, false, false, false, false, false] rfl rfl (any_of HT_.out (by kernel_rfl)) (fun _ _ _ h => h) (Or.inr ⟨by rfl, rfl⟩) ?_ ?_
   rotate_left
   ·simp only [Act.put, List.setIfInBounds_toArray, List.set_cons_zero, List.set_cons_succ, i64_w, i32_w]
    rfl
   refine pure_ (i := 4) (N := some 18) (v := undef) (a' := ?_) #[true, true, true, true, true, false, false, false, false, false, false, false, false] rfl rfl (any_of HT_.out (by kernel_rfl)) (fun _ _ _ h => h) (Or.inr ⟨by rfl, rfl⟩) ?_ ?_
   rotate_left
   ·simp only [Act.put, List.setIfInBounds_toArray, List.set_cons_zero, List.set_cons_succ, i64_w, i32_w]
    rfl
   refine pure_ (i := 5) (N := some 19) (v := undef) (a' := ?_) #[true, true, true, true, true, true, false, false, false, false, false, false, false] rfl rfl (any_of HT_.out (by kernel_rfl)) (fun _ _ _ h => h) (Or.inr ⟨by rfl, rfl⟩) ?_ ?_
   rotate_left
   ·simp only [Act.put, List.setIfInBounds_toArray, List.set_cons_zero, List.set_cons_succ, i64_w, i32_w]
    rfl
   refine pure_ (i := 6) (N := some 20) (v := undef) (a' := ?_) #[true, true, true, true, true, true, true, false, false, false, false, false, false] rfl rfl (any_of HT_.out (by kernel_rfl)) (fun _ _ _ h => h) (Or.inr ⟨by rfl, rfl⟩) ?_ ?_
   rotate_left
   ·simp only [Act.put, List.setIfInBounds_toArray, List.set_cons_zero, List.set_cons_succ, i64_w, i32_w]
    rfl
   refine pure_ (i := 7) (N := some 21) (v := undef) (a' := ?_) #[true, true, true, true, true, true, true, true, false, false, false, false, false] rfl rfl (any_of HT_.out (by kernel_rfl)) (fun _ _ _ h => h) (Or.inr ⟨by rfl, rfl⟩) ?_ ?_
   rotate_left
   ·simp only [Act.put, List.setIfInBounds_toArray, List.set_cons_zero, List.set_cons_succ, i64_w, i32_w]
    rfl
   refine pure_ (i := 8) (N := some 22) (v := undef) (a' := ?_) #[true, true, true, true, true, true, true, true, true, false, false, false, false] rfl rfl (any_of HT_.out (by kernel_rfl)) (fun _ _ _ h => h) (Or.inr ⟨by rfl, rfl⟩) ?_ ?_
   rotate_left
   ·simp only [Act.put, List.setIfInBounds_toArray, List.set_cons_zero, List.set_cons_succ, i64_w, i32_w]
    rfl
   refine pure_ (i := 9) (N := some 23) (v := undef) (a' := ?_) #[true, true, true, true, true, true, true, true, true, true, false, false, false] rfl rfl (any_of HT_.out (by kernel_rfl)) (fun _ _ _ h => h) (Or.inr ⟨by rfl, rfl⟩) ?_ ?_
   rotate_left
   ·simp only [Act.put, List.setIfInBounds_toArray, List.set_cons_zero, List.set_cons_succ, i64_w, i32_w]
    rfl
   refine pure_ (i := 10) (N := some 24) (v := undef) (a' := ?_) #[true, true, true, true, true, true, true, true, true, true, true, false, false] rfl rfl (any_of HT_.out (by kernel_rfl)) (fun _ _ _ h => h) (Or.inr ⟨by rfl, rfl⟩) ?_ ?_
   rotate_left
   ·simp only [Act.put, List.setIfInBounds_toArray, List.set_cons_zero, List.set_cons_succ, i64_w, i32_w]
    rfl
   refine pure_ (i := 11) (N := some 25) (v := undef) (a' := ?_) #[true, true, true, true, true, true, true, true, true, true, true, true, false] rfl rfl (any_of HT_.out (by kernel_rfl)) (fun _ _ _ h => h) (Or.inr ⟨by rfl, rfl⟩) ?_ ?_
   rotate_left
   ·simp only [Act.put, List.setIfInBounds_toArray, List.set_cons_zero, List.set_cons_succ, i64_w, i32_w]
    rfl
   refine pure_ (i := 12) (N := some 26) (v := ?_) (a' := ?_) #[true, true, true, true, true, true, true, true, true, true, true, true, true] rfl rfl (any_of HT_.out (by kernel_rfl)) (fun _ _ _ h => h) (Or.inl ⟨by rfl, ?_⟩) ?_ ?_
   rotate_left
   ·intro w'
    go_simp
    with_reducible rfl
   rotate_left
   ·simp only [Act.put, List.setIfInBounds_toArray, List.set_cons_zero, List.set_cons_succ, i64_w, i32_w]
    rfl
   refine done_ (done_of HT_.out (by kernel_rfl)) ?_
   try go_wp2
   go_meet
   case rel => exact ⟨_, (true), (by first | rfl | (simp; done) | (simp [*]; done)), H', ⟨by first | omega | exact Nat.le_refl _⟩, ⟨by repeat (first | (with_reducible first | exact HB.out | apply below_alloc | apply pw_below_drewN | apply below_drew1) | exact HB.out)⟩⟩
  ·rw [if_neg c3] at H
   have c3b0 : decide ((wrap64 ((a0.size : Int) - 4)) < 1) = false := decide_eq_false c3
   clear c3
   (first | rw [c3b0] | (simp only [i64_w, i32_w]; rw [c3b0]) | skip)
   obtain ⟨ji5, hji5⟩ : ∃ j_ : Int, (wrap64 ((a0.size : Int) - 4)) = j_ := ⟨_, rfl⟩
   replace H : (if 0 ≤ (ji5) then (if (ji5) ≤ (a0.size : Int) then ((adler_Number.f k (a0.extract ((ji5) : Int).toNat a0.size)).bind fun t226 => ((adler_Sum.f k (a0.extract 0 ((ji5) : Int).toNat)).bind fun t227 => (layer_Read.j0 k a0 ji5 (t226 != t227)))) else (none)) else (none)) = some (r1, r2) := by first | (rw [hji5] at H; exact H) | (simp only [hji5] at H ⊢; exact H)
   (try rw [hji5] at c3b0)
   have hji5w : (IntKind.i64.wrap ((a0.size : Int) - 4)) = ji5 := (i64_w _).trans hji5
   by_cases c6 : 0 ≤ (ji5)
   ·rw [if_pos c6] at H
    have c6b0 := eq_true c6
    have c6b1 : decide (0 ≤ (ji5)) = true := decide_eq_true c6
    clear c6
    by_cases c7 : (ji5) ≤ (a0.size : Int)
    ·rw [if_pos c7] at H
     have c7b0 := eq_true c7
     have c7b1 : decide ((ji5) ≤ (a0.size : Int)) = true := decide_eq_true c7
     clear c7
     replace H := Option.bind_eq_some_iff.mp H
     obtain ⟨t226, A80, H⟩ := H
     replace H : ((adler_Sum.f k (a0.extract 0 ((ji5) : Int).toNat)).bind fun t227 => (layer_Read.j0 k a0 ji5 (t226 != t227))) = some (r1, r2) := H
     have A8 := Aside0.mk A80
     clear A80
     have c9b0 := eq_true (of_decide_eq_true (by first | (with_reducible assumption) | assumption) : 0 ≤ (ji5))
     have c10b0 := eq_true (of_decide_eq_true (by first | (with_reducible assumption) | assumption) : (ji5) ≤ (a0.size : Int))
     replace H := Option.bind_eq_some_iff.mp H
     obtain ⟨t227, A110, H⟩ := H
     replace H : (layer_Read.j0 k a0 ji5 (t226 != t227)) = some (r1, r2) := H
     have A11 := Aside0.mk A110
     clear A110
     have H' := Aside0.mk H
     clear H
     try go_wp2
     have n0_ := Aside0.mk (below_drew1 HB.out)
     clear HB
     have HB := n0_
     clear n0_
     refine start_ (n := 13) (S := fun w' => True) (ds := []) #[false, false, false, false, false, false, false, false, false, false, false, false, false] (by kernel_rfl) rfl rfl trivial (fun hHeld => ?_); refine with_tabW layer_Read.tab2 layer_Read.bits2 (fun HT_ HW_ => ?_)
     generalize w.drew = w12 at HB hHeld ⊢
     refine pure_ (i := 0) (N := some 14) (v := ?_) (a' := ?_) #[true, false, false, false, false, false, false, false, false, false, false, false, false] rfl rfl (any_of HT_.out (by kernel_rfl)) (fun _ _ _ h => h) (Or.inl ⟨by rfl, ?_⟩) ?_ ?_
     rotate_left
     ·intro w'
      go_simp
      with_reducible rfl
     rotate_left
     ·simp only [Act.put, List.setIfInBounds_toArray, List.set_cons_zero, List.set_cons_succ, i64_w, i32_w]
      rfl
     refine pure_ (i := 1) (N := some 15) (v := ?_) (a' := ?_) #[true, true, false, false, false, false, false, false, false, false, false, false, false] rfl rfl (any_of HT_.out (by kernel_rfl)) (fun _ _ _ h => h) (Or.inl ⟨by rfl, ?_⟩) ?_ ?_
     rotate_left
     ·intro w'
      go_simp
      with_reducible rfl
     rotate_left
     ·simp only [Act.put, List.setIfInBounds_toArray, List.set_cons_zero, List.set_cons_succ, i64_w, i32_w]
      rfl
     refine pure_ (i := 2) (N := some 16) (v := ?_) (a' := ?_) #[true, true, true, false, false, false, false, false, false, false, false, false, false] rfl rfl (any_of HT_.out (by kernel_rfl)) (fun _ _ _ h => h) (Or.inl ⟨by rfl, ?_⟩) ?_ ?_
     rotate_left
     ·intro w'
      go_simp
      with_reducible rfl
     rotate_left
     ·simp only [Act.put, List.setIfInBounds_toArray, List.set_cons_zero, List.set_cons_succ, i64_w, i32_w]
      rfl
     refine pure_ (i := 3) (N := some 17) (v := ?_) (a' := ?_) #[true, true, true, true, false, false, false, false, false, false, false, false, false] rfl rfl (any_of HT_.out (by kernel_rfl)) (fun _ _ _ h => h) (Or.inl ⟨by rfl, ?_⟩) ?_ ?_
     rotate_left
     ·intro w'
      go_simp
      with_reducible rfl
     rotate_left
     ·simp only [Act.put, List.setIfInBounds_toArray, List.set_cons_zero, List.set_cons_succ, i64_w, i32_w]
      rfl
     refine pure_ (i := 4) (N := some 18) (v := ?_) (a' := ?_) #[true, true, true, true, true, false, false, false, false, false, false, false, false] rfl rfl (any_of HT_.out (by kernel_rfl)) (fun _ _ _ h => h) (Or.inl ⟨by rfl, ?_⟩) ?_ ?_
     rotate_left
     ·intro w'
      go_simp
      with_reducible rfl
     rotate_left
     ·simp only [Act.put, List.setIfInBounds_toArray, List.set_cons_zero, List.set_cons_succ, i64_w, i32_w]
      rfl
     refine pure_ (i := 5) (N := some 19) (v := ?_) (a' := ?_) #[true, true, true, true, true, true, false, false, false, false, false, false, false] rfl rfl (any_of HT_.out (by kernel_rfl)) (fun _ _ _ h => h) (Or.inl ⟨by rfl, ?_⟩) ?_ ?_
     rotate_left
     ·intro w'
      go_simp
      with_reducible rfl
     rotate_left
     ·simp only [Act.put, List.setIfInBounds_toArray, List.set_cons_zero, List.set_cons_succ, i64_w, i32_w]
      rfl
     refine pure_ (i := 7) (N := some 21) (v := ?_) (a' := ?_) #[true, true, true, true, true, true, false, true, false, false, false, false, false] rfl rfl (any_of HT_.out (by kernel_rfl)) (fun _ _ _ h => h) (Or.inl ⟨by rfl, ?_⟩) ?_ ?_
     rotate_left
     ·intro w'
      go_simp
      with_reducible rfl
     rotate_left
     ·simp only [Act.put, List.setIfInBounds_toArray, List.set_cons_zero, List.set_cons_succ, i64_w, i32_w]
      rfl
     refine pure_ (i := 8) (N := some 22) (v := ?_) (a' := ?_) #[true, true, true, true, true, true, false, true, true, false, false, false, false] rfl rfl (any_of HT_.out (by kernel_rfl)) (fun _ _ _ h => h) (Or.inl ⟨by rfl, ?_⟩) ?_ ?_
     rotate_left
     ·intro w'
      go_simp
      with_reducible rfl
     rotate_left
     ·simp only [Act.put, List.setIfInBounds_toArray, List.set_cons_zero, List.set_cons_succ, i64_w, i32_w]
      rfl
     refine pure_ (i := 9) (N := some 23) (v := ?_) (a' := ?_) #[true, true, true, true, true, true, false, true, true, true, false, false, false] rfl rfl (any_of HT_.out (by kernel_rfl)) (fun _ _ _ h => h) (Or.inl ⟨by rfl, ?_⟩) ?_ ?_
     rotate_left
     ·intro w'
      go_simp
      with_reducible rfl
     rotate_left
     ·simp only [Act.put, List.setIfInBounds_toArray, List.set_cons_zero, List.set_cons_succ, i64_w, i32_w]
      rfl
     refine one_ (i := 6) (N := some 20) #[true, true, true, true, true, true, true, true, true, true, false, false, false] rfl rfl (one_of HT_.out (by kernel_rfl)) (by decide) (fun K hK => ?_)
     refine goes_ Tryz.func35 (by kernel_rfl) rfl #[.string (a0.extract ((ji5) : Int).toNat a0.size)] (by rfl) rfl rfl (by (try simp only [List.map_toArray, List.map_cons, List.map_nil]); first | done | (simp only [hji5]; rfl) | rfl | (simp only [List.length_drop, List.length_take]; rfl)) ?_
     with_reducible refine (adler_Number.calls k (a0.extract ((ji5) : Int).toNat a0.size) t226 _ A8.out).mono ?_
     rintro e w' ⟨rfl, ⟨nd, rfl⟩⟩
     refine ⟨_, rfl, ?_⟩
     refine hK.out _ _ trivial (fun hHeld => ?_)
     clear hK K
     refine norm_ (a' := ?_) ?_ ?_
     rotate_left
     ·show Act.put _ (some 20) _ = _
      simp only [Act.put, List.setIfInBounds_toArray, List.set_cons_zero, List.set_cons_succ, i64_w, i32_w]
      rfl
     refine one_ (i := 10) (N := some 24) #[true, true, true, true, true, true, true, true, true, true, true, false, false] rfl rfl (one_of HT_.out (by kernel_rfl)) (by decide) (fun K hK => ?_)
     refine goes_ Tryz.func28 (by kernel_rfl) rfl #[.string (a0.extract 0 ((ji5) : Int).toNat)] (by rfl) rfl rfl (by (try simp only [List.map_toArray, List.map_cons, List.map_nil]); first | done | (simp only [hji5]; rfl) | rfl | (simp only [List.length_drop, List.length_take]; rfl)) ?_
     with_reducible refine (adler_Sum.calls k (a0.extract 0 ((ji5) : Int).toNat) t227 _ A11.out).mono ?_
     rintro e w' ⟨rfl, ⟨nd, rfl⟩⟩
     refine ⟨_, rfl, ?_⟩
     refine hK.out _ _ trivial (fun hHeld => ?_)
     clear hK K
     refine norm_ (a' := ?_) ?_ ?_
     rotate_left
     ·show Act.put _ (some 24) _ = _
      simp only [Act.put, List.setIfInBounds_toArray, List.set_cons_zero, List.set_cons_succ, i64_w, i32_w]
      rfl
     refine pure_ (i := 11) (N := some 25) (v := ?_) (a' := ?_) #[true, true, true, true, true, true, true, true, true, true, true, true, false] rfl rfl (any_of HT_.out (by kernel_rfl)) (fun _ _ _ h => h) (Or.inl ⟨by rfl, ?_⟩) ?_ ?_
     rotate_left
     ·intro w'
      go_simp
      with_reducible rfl
     rotate_left
     ·simp only [Act.put, List.setIfInBounds_toArray, List.set_cons_zero, List.set_cons_succ, i64_w, i32_w]
      rfl
     refine pure_ (i := 12) (N := some 26) (v := ?_) (a' := ?_) #[true, true, true, true, true, true, true, true, true, true, true, true, true] rfl rfl (any_of HT_.out (by kernel_rfl)) (fun _ _ _ h => h) (Or.inl ⟨by rfl, ?_⟩) ?_ ?_
     rotate_left
     ·intro w'
      go_simp
      with_reducible rfl
     rotate_left
     ·simp only [Act.put, List.setIfInBounds_toArray, List.set_cons_zero, List.set_cons_succ, i64_w, i32_w]
      rfl
     refine done_ (done_of HT_.out (by kernel_rfl)) ?_
     try go_wp2
     go_meet
     case rel => exact ⟨_, ((t226 != t227)), (by first | rfl | (simp; done) | (simp [*]; done)), (by rw [hji5]; exact H'), ⟨by first | omega | exact Nat.le_refl _⟩, ⟨by repeat (first | (with_reducible first | exact HB.out | apply below_alloc | apply pw_below_drewN | apply below_drew1) | exact HB.out)⟩⟩
    ·rw [if_neg c7] at H
     exact absurd H (by simp)
   ·rw [if_neg c6] at H
    exact absurd H (by simp)
 case rest =>
  clear HC2
  try clear c1
  try clear c2
  try clear p2
  try clear c3
  try clear c3b0
  try clear c6
  try clear c6b0
  try clear c6b1
  try clear p6
  try clear c7
  try clear c7b0
  try clear c7b1
  try clear c9
  try clear c9b0
  try clear c10
  try clear c10b0
  try clear c11
  obtain ⟨kq, x26_1, rfl, HA, HJ1, HB⟩ := hcut
  cases kq with
  | zero => exact absurd HA.out (by simp [layer_Read.j0])
  | succ kj1 =>
   have H := HA.out
   clear HA
   simp only [layer_Read.j0] at H
   by_cases c13 : x26_1 = true
   ·subst c13
    have H1 : ((fail_At.f (⟨#[114, 101, 97, 100]⟩ : ByteArray) (⟨#[]⟩ : ByteArray) 12).bind fun t228 => (some (([] : List (S39)), t228))) = some (r1, r2) := by rw [if_pos rfl] at H; exact H
    clear H
    have H := H1
    clear H1
    replace H := Option.bind_eq_some_iff.mp H
    obtain ⟨t228, A140, H⟩ := H
    replace H : (some (([] : List (S39)), t228)) = some (r1, r2) := H
    have A14 := Aside0.mk A140
    clear A140
    simp only [Option.some.injEq, Prod.mk.injEq] at H
    obtain ⟨rfl, rfl⟩ := H
    go_wp2_with (first | ((with_reducible refine gate_callee (f := 24) rfl ?_); refine goesL_ (some 28) rfl rfl Tryz.func24 (by kernel_rfl) rfl #[.string (⟨#[114, 101, 97, 100]⟩ : ByteArray), .string (⟨#[]⟩ : ByteArray), .iface 52 (.int .i64 12)] rfl (by (try simp only [List.map_toArray, List.map_cons, List.map_nil]); first | done | rfl | (simp only [List.length_drop, List.length_take]; rfl)) ?_; (with_reducible refine (fail_At.calls (⟨#[114, 101, 97, 100]⟩ : ByteArray) (⟨#[]⟩ : ByteArray) 12 t228 _ A14.out).mono ?_); rintro e w15 ⟨v229, rfl, ho0, hb⟩; refine ⟨_, rfl, ?_⟩; have n0_ := Aside0.mk (Kd.R_lower ho0 (below_size (by repeat (first | (with_reducible first | exact HB.out | apply below_alloc | apply pw_below_drewN | apply below_drew1) | exact HB.out)))); have n1_ := Aside0.mk (below_step (by repeat (first | (with_reducible first | exact HB.out | apply below_alloc | apply pw_below_drewN | apply below_drew1) | exact HB.out)) hb); clear HB; have HO230 := n0_; have HB := n1_; clear n0_ n1_; (try clear hb); (try clear hb2); (try clear hk); (try clear hi); (try clear ho0); have hE_v229 := errNil_of HO230.out))
    go_ret2
    exact ⟨_, _, by first | rfl | (simp [errW_none, errW_some] <;> rfl) | (simp [*, errW_none, errW_some] <;> rfl), by first | exact Kd.R_nil _ _ _ _ _ | exact Kd.N_nil _ _ _ _ _ | exact Kd.V_nil _ _ _ _ _ | exact Kd.Q_nil _ _ _ _ _ | exact Kd.S_nil _ _ _ _ _, by (with_reducible repeat (first | apply Kd.R_alloc | apply Kd.R_drewN | apply Kd.R_drew)); exact HO230.out, by repeat (first | (with_reducible first | exact HB.out | apply below_alloc | apply pw_below_drewN | apply below_drew1) | exact HB.out)⟩
   ·replace c13 := Bool.eq_false_iff.mpr c13
    subst c13
    have H1 : (if 0 ≤ (wrap64 ((a0.size : Int) - 4)) then (if (wrap64 ((a0.size : Int) - 4)) ≤ (a0.size : Int) then ((code_New.f (a0.extract 0 ((wrap64 ((a0.size : Int) - 4)) : Int).toNat)).bind fun bt231 => ((code_Reader_Num.f bt231.1 bt231.2 64).bind fun bt234 => (if ((bt234.2.1.isEmpty) = true) then (layer_Read.l0 kj1 ([] : List (S39)) bt234.1 0 bt234.2.2.1 bt234.2.2.2) else (some (([] : List (S39)), bt234.2.1))))) else (none)) else (none)) = some (r1, r2) := by rw [if_neg (show ¬ (false = true) by decide)] at H; exact H
    clear H
    have H := H1
    clear H1
    obtain ⟨ji16, hji16⟩ : ∃ j_ : Int, (wrap64 ((a0.size : Int) - 4)) = j_ := ⟨_, rfl⟩
    replace H : (if 0 ≤ (ji16) then (if (ji16) ≤ (a0.size : Int) then ((code_New.f (a0.extract 0 ((ji16) : Int).toNat)).bind fun bt231 => ((code_Reader_Num.f bt231.1 bt231.2 64).bind fun bt234 => (if ((bt234.2.1.isEmpty) = true) then (layer_Read.l0 kj1 ([] : List (S39)) bt234.1 0 bt234.2.2.1 bt234.2.2.2) else (some (([] : List (S39)), bt234.2.1))))) else (none)) else (none)) = some (r1, r2) := by first | (rw [hji16] at H; exact H) | (simp only [hji16] at H ⊢; exact H)
    have hji16w : (IntKind.i64.wrap ((a0.size : Int) - 4)) = ji16 := (i64_w _).trans hji16
    by_cases c17 : 0 ≤ (ji16)
    ·rw [if_pos c17] at H
     have c17b0 := eq_true c17
     have c17b1 : decide (0 ≤ (ji16)) = true := decide_eq_true c17
     clear c17
     by_cases c18 : (ji16) ≤ (a0.size : Int)
     ·rw [if_pos c18] at H
      have c18b0 := eq_true c18
      have c18b1 : decide ((ji16) ≤ (a0.size : Int)) = true := decide_eq_true c18
      clear c18
      replace H := Option.bind_eq_some_iff.mp H
      obtain ⟨⟨t231, t232⟩, A190, H⟩ := H
      replace H : ((code_Reader_Num.f t231 t232 64).bind fun bt234 => (if ((bt234.2.1.isEmpty) = true) then (layer_Read.l0 kj1 ([] : List (S39)) bt234.1 0 bt234.2.2.1 bt234.2.2.2) else (some (([] : List (S39)), bt234.2.1)))) = some (r1, r2) := H
      have A19 := Aside0.mk A190
      clear A190
      replace H := Option.bind_eq_some_iff.mp H
      obtain ⟨⟨t234, t235, t238, t239⟩, A200, H⟩ := H
      replace H : (if ((t235.isEmpty) = true) then (layer_Read.l0 kj1 ([] : List (S39)) t234 0 t238 t239) else (some (([] : List (S39)), t235))) = some (r1, r2) := H
      have A20 := Aside0.mk A200
      clear A200
      by_cases c21 : ((t235.isEmpty) = true)
      ·rw [if_pos c21] at H
       have c21b0 : (t235.isEmpty) = true := c21
       clear c21
       have H' := Aside0.mk H
       clear H
       go_wp2_with (first | ((with_reducible refine gate_callee (f := 36) rfl ?_); refine goesL_ (some 32) rfl rfl Tryz.func36 (by kernel_rfl) rfl #[.string (a0.extract 0 ((ji16) : Int).toNat)] rfl (by (try simp only [List.map_toArray, List.map_cons, List.map_nil]); first | done | (simp only [hji16]; rfl) | rfl | (simp only [List.length_drop, List.length_take]; rfl)) ?_; (with_reducible refine (code_New.calls (a0.extract 0 ((ji16) : Int).toNat) t231 t232 w _ ?side1 A19.out).mono ?_); (case side1 => repeat (first | (with_reducible first | exact HB.out | apply below_alloc | apply pw_below_drewN | apply below_drew1) | exact HB.out)); rintro e w22 ⟨g233, rfl, hi, hb, hb2⟩; refine ⟨_, rfl, ?_⟩; have n0_ := Aside0.mk (hb); have n1_ := Aside0.mk (hi); clear HB; have HB := n0_; have HI233 := n1_; clear n0_ n1_; (try clear hb); (try clear hb2); (try clear hk); (try clear hi)) | ((with_reducible refine gate_callee (f := 37) rfl ?_); refine goesL_ (some 35) rfl rfl Tryz.func37 (by kernel_rfl) rfl #[.pointer (some ⟨g233, 0, none⟩), .int .i64 64] rfl (by (try simp only [List.map_toArray, List.map_cons, List.map_nil]); first | done | rfl | (simp only [List.length_drop, List.length_take]; rfl)) ?_; (with_reducible refine (code_Reader_Num.calls g233 t231 t232 64 t234 t235 t238 t239 w _ ?side1 ?side2 A20.out).mono ?_); (case side1 => repeat (first | (with_reducible first | exact HI233.out | apply IsS101.alloc | apply IsS101.drewN | apply IsS101.drew | apply IsS101.set_0 | apply IsS101.set_1) | exact HI233.out)); (case side2 => repeat (first | (with_reducible first | exact HB.out | apply below_alloc | apply pw_below_drewN | apply below_drew1 | refine below_set ?_ (IsS101.ge HI233.out)) | exact HB.out)); rintro e w23 ⟨v236, rfl, ho0, hi, hb, hk⟩; refine ⟨_, rfl, ?_⟩; have n0_ := Aside0.mk (Kd.R_lower ho0 (below_size (by repeat (first | (with_reducible first | exact HB.out | apply below_alloc | apply pw_below_drewN | apply below_drew1 | refine below_set ?_ (IsS101.ge HI233.out)) | exact HB.out)))); have n1_ := Aside0.mk (hb); have n2_ := Aside0.mk (hi); clear HB; clear HI233; have HO237 := n0_; have HB := n1_; have HI233 := n2_; clear n0_ n1_ n2_; (try clear hb); (try clear hb2); (try clear hk); (try clear hi); (try clear ho0); have hE_v236 := errNil_of HO237.out))
       go_loopg [8, 42] kj1 (fun kq v8 v42 w' => ∃ (x8_2 : List (S39)) (x42_2 : Int) (x234000_2 : ByteArray) (x234001_2 : Int), v42 = .int .i64 x42_2 ∧ Aside0 (layer_Read.l0 kq x8_2 t234 x42_2 x234000_2 x234001_2 = some (r1, r2)) ∧ Aside0 (kq ≤ kj1) ∧ Aside0 (Kd.R k39 39 w' w.heap.size (fun _ => True) v8 x8_2) ∧ Aside0 (IsS101 w w' g233 x234000_2 x234001_2) ∧ Aside0 (Below w.heap.size w w'))
       case atStart => exact ⟨(([] : List (S39))), (0), (t238), (t239), (by first | rfl | (simp; done) | (simp [*]; done)), H', ⟨Nat.le_refl _⟩, ⟨by first | exact Kd.R_nil _ _ _ _ _ | exact Kd.N_nil _ _ _ _ _ | exact Kd.V_nil _ _ _ _ _ | exact Kd.Q_nil _ _ _ _ _ | exact Kd.S_nil _ _ _ _ _⟩, ⟨by repeat (first | (with_reducible first | exact HI233.out | apply IsS101.alloc | apply IsS101.drewN | apply IsS101.drew | apply IsS101.set_0 | apply IsS101.set_1) | exact HI233.out)⟩, ⟨by repeat (first | (with_reducible first | exact HB.out | apply below_alloc | apply pw_below_drewN | apply below_drew1 | refine below_set ?_ (IsS101.ge HI233.out)) | exact HB.out)⟩⟩
       case round =>
        clear H'
        try clear c1
        try clear c2
        try clear p2
        try clear c3
        try clear c3b0
        try clear c6
        try clear c6b0
        try clear c6b1
        try clear p6
        try clear c7
        try clear c7b0
        try clear c7b1
        try clear c9
        try clear c9b0
        try clear c10
        try clear c10b0
        try clear c11
        try clear c13
        try clear c17
        try clear c17b0
        try clear c17b1
        try clear c18
        try clear c18b0
        try clear c18b1
        try clear c21
        try clear c21b0
        try clear p2
        try clear p6
        obtain ⟨x8_2, x42_2, x234000_2, x234001_2, rfl, HA, HK2, HO_8, HI233, HB⟩ := hrel
        cases gk with
        | zero => exact absurd HA.out (by simp [layer_Read.l0])
        | succ k2 =>
         have H := HA.out
         clear HA
         simp only [layer_Read.l0] at H
         by_cases c24 : x42_2 < t234
         ·rw [if_pos c24] at H
          have c24b0 : decide (x42_2 < t234) = true := decide_eq_true c24
          clear c24
          replace H := Option.bind_eq_some_iff.mp H
          obtain ⟨⟨t240, t241, t242, t243, t246, t247⟩, A250, H⟩ := H
          replace H : (if ((t243.isEmpty) = true) then (if x8_2.length < 3518437208883 then (layer_Read.l0 k2 (x8_2 ++ [(⟨t240, t241, t242⟩ : S39)]) t234 (wrap64 (x42_2 + 1)) t246 t247) else (none)) else (some (([] : List (S39)), t243))) = some (r1, r2) := H
          have A25 := Aside0.mk A250
          clear A250
          by_cases c26 : ((t243.isEmpty) = true)
          ·rw [if_pos c26] at H
           have c26b0 : (t243.isEmpty) = true := c26
           clear c26
           by_cases c27 : x8_2.length < 3518437208883
           ·rw [if_pos c27] at H
            have LMc27 := Aside0.mk c27
            clear c27
            obtain ⟨y249, hy249⟩ : ∃ y_ : List (S39), y_ = (x8_2 ++ [(⟨t240, t241, t242⟩ : S39)]) := ⟨_, rfl⟩
            replace H : (layer_Read.l0 k2 y249 t234 (wrap64 (x42_2 + 1)) t246 t247) = some (r1, r2) := by first | (rw [hy249]; with_reducible exact H) | (have H2_ := (Option.bind_some _ _).symm.trans H; rw [hy249]; with_reducible exact H2_) | (have H2_ := (Option.bind_some _ _).symm.trans H; with_reducible exact H2_) | with_reducible exact H | (rw [hy249]; exact H) | exact H
            have Ny249 := Aside0.mk hy249
            clear hy249
            have H' := Aside0.mk H
            clear H
            go_wp2_with (first | ((with_reducible refine gate_callee (f := 38) rfl ?_); refine goesL_ (some 46) rfl rfl Tryz.func38 (by kernel_rfl) rfl #[.pointer (some ⟨g233, 0, none⟩)] rfl (by (try simp only [List.map_toArray, List.map_cons, List.map_nil]); first | done | rfl | (simp only [List.length_drop, List.length_take]; rfl)) ?_; (with_reducible refine (entry_Read.calls g233 x234000_2 x234001_2 t240 t241 t242 t243 t246 t247 w _ ?side1 ?side2 A25.out).mono ?_); (case side1 => repeat (first | (with_reducible first | exact HI233.out | apply IsS101.alloc | apply IsS101.drewN | apply IsS101.drew | apply IsS101.set_0 | apply IsS101.set_1) | exact HI233.out)); (case side2 => repeat (first | (with_reducible first | exact HB.out | apply below_alloc | apply pw_below_drewN | apply below_drew1 | refine below_set ?_ (IsS101.ge HI233.out)) | exact HB.out)); rintro e w28 ⟨v244, rfl, ho0, hi, hb, hk⟩; refine ⟨_, rfl, ?_⟩; have n0_ := Aside0.mk (Kd.R_mono (Kd.R_keep (IsS101.apart (show IsS101 w _ g233 x234000_2 x234001_2 from by repeat (first | (with_reducible first | exact HI233.out | apply IsS101.alloc | apply IsS101.drewN | apply IsS101.drew | apply IsS101.set_0 | apply IsS101.set_1) | exact HI233.out)) (by (with_reducible repeat (first | apply Kd.R_alloc | apply Kd.R_drewN | apply Kd.R_drew)); exact HO_8.out) (by decide)) hk (fun _ h => h.2)) (fun _ h => h.1)); have n1_ := Aside0.mk (Kd.R_lower ho0 (below_size (by repeat (first | (with_reducible first | exact HB.out | apply below_alloc | apply pw_below_drewN | apply below_drew1 | refine below_set ?_ (IsS101.ge HI233.out)) | exact HB.out)))); have n2_ := Aside0.mk (hb); have n3_ := Aside0.mk (hi); clear HO_8; clear HB; clear HI233; have HO_8 := n0_; have HO245 := n1_; have HB := n2_; have HI233 := n3_; clear n0_ n1_ n2_ n3_; (try clear hb); (try clear hb2); (try clear hk); (try clear hi); (try clear ho0); have hE_v244 := errNil_of HO245.out) | ((with_reducible refine gate_dst (N := 9) rfl ?_); refine box_event ?hg (N := 9) ?hd (cs := #[.string (⟨#[]⟩ : ByteArray), .int .i64 0, .string (⟨#[]⟩ : ByteArray)]) (t := 39) ?hr ?_; (case hd => rfl); (case hg => rfl); (case hr => first | (go_simp; done) | (go_simp; rfl)); intro gb248 hg w29 hbox hb; have n0_ := Aside0.mk (Kd.R_below (Kd.R_elderB (by (with_reducible repeat (first | apply Kd.R_alloc | apply Kd.R_drewN | apply Kd.R_drew)); exact HO_8.out) gb248 (Nat.le_of_eq hg.symm)) hb); have n1_ := Aside0.mk (Kd.R_below (by (with_reducible repeat (first | apply Kd.R_alloc | apply Kd.R_drewN | apply Kd.R_drew)); exact HO245.out) hb); have n2_ := Aside0.mk (IsS101.below (by repeat (first | (with_reducible first | exact HI233.out | apply IsS101.alloc | apply IsS101.drewN | apply IsS101.drew | apply IsS101.set_0 | apply IsS101.set_1) | exact HI233.out)) hb); have n3_ := Aside0.mk (below_step (by repeat (first | (with_reducible first | exact HB.out | apply below_alloc | apply pw_below_drewN | apply below_drew1 | refine below_set ?_ (IsS101.ge HI233.out)) | exact HB.out)) hb); have n4_ := Aside0.mk (hbox); have n5_ := Aside0.mk ((by rw [hg]; exact (below_size (by repeat (first | (with_reducible first | exact HB.out | apply below_alloc | apply pw_below_drewN | apply below_drew1 | refine below_set ?_ (IsS101.ge HI233.out)) | exact HB.out))) : w.heap.size ≤ gb248)); have n6_ := Aside0.mk ((by rw [hg]; exact (below_size (by repeat (first | (with_reducible first | exact HB.out | apply below_alloc | apply pw_below_drewN | apply below_drew1 | refine below_set ?_ (IsS101.ge HI233.out)) | exact HB.out))) : w.heap.size ≤ gb248)); have n7_ := Aside0.mk ((by rw [hg]; exact Nat.ne_of_lt (IsS101.lt (show IsS101 w _ g233 t246 t247 from by repeat (first | (with_reducible first | exact HI233.out | apply IsS101.alloc | apply IsS101.drewN | apply IsS101.drew | apply IsS101.set_0 | apply IsS101.set_1) | exact HI233.out))) : g233 ≠ gb248)); have n8_ := Aside0.mk ((by rw [hg]; exact Nat.ne_of_gt (IsS101.lt (show IsS101 w _ g233 t246 t247 from by repeat (first | (with_reducible first | exact HI233.out | apply IsS101.alloc | apply IsS101.drewN | apply IsS101.drew | apply IsS101.set_0 | apply IsS101.set_1) | exact HI233.out))) : gb248 ≠ g233)); clear HO_8; clear HO245; clear HI233; clear HB; have HO_8 := n0_; have HO245 := n1_; have HI233 := n2_; have HB := n3_; have BK248 := n4_; have GW248 := n5_; have GE248 := n6_; have NB233_248 := n7_; have NB248_233 := n8_; clear n0_ n1_ n2_ n3_ n4_ n5_ n6_ n7_ n8_; clear hb hbox hg; have hnb30 := NB248_233.out; have hnc30 := NB233_248.out; have hcz31_0 : w29.cell? ⟨gb248, 0, none⟩ = some (.string (⟨#[]⟩ : ByteArray)) := (blk_cell BK248.out 0).trans rfl; have hcz31_1 : w29.cell? ⟨gb248, 1, none⟩ = some (.int .i64 0) := (blk_cell BK248.out 1).trans rfl; have hcz31_2 : w29.cell? ⟨gb248, 2, none⟩ = some (.string (⟨#[]⟩ : ByteArray)) := (blk_cell BK248.out 2).trans rfl; have hfz31_0 := blk_frozen BK248.out 0; have hfz31_1 := blk_frozen BK248.out 1; have hfz31_2 := blk_frozen BK248.out 2) | ((with_reducible refine gate_builtin (b := .append) (xs := #[.tmp 52, .tmp 54]) rfl ?_); at_builtin; refine Kd.R_append k39 (w0 := w) w.heap.size rfl (.tmp 52) (.tmp 54) 22 39 (.agg #[(.string ⟨#[]⟩), (.int .i64 0), (.string ⟨#[]⟩)]) 40 rfl Tryz.underlying22 info39 rfl (by decide) (by omega) u8 x8_2 (⟨t240, t241, t242⟩ : S39) [.string t240, .int .i64 t241, .string t242] (fun k_ => k_ ≠ gb248) (fun _ => False) rfl (by first | (go_simp; done) | (go_simp; rfl)) ?aP (fun _ hk => hk.elim) ?aF ?aO ?aB ?aS ?aL ?_; (case aP => exact k39_mkM _ _ _ (⟨t240, t241, t242⟩ : S39)); (case aB => exact (by repeat (first | (with_reducible first | exact HB.out | apply below_alloc | apply pw_below_drewN | apply below_drew1 | refine below_set ?_ (IsS101.ge HI233.out) | refine below_set ?_ GE248.out) | exact HB.out))); (case aF => exact (fun k_ hk => Kd.freshB (g := gb248) BK248.out k_ (by simpa using hk))); (case aO => exact (by (with_reducible repeat (first | apply Kd.R_alloc | apply Kd.R_drewN | apply Kd.R_drew)); exact Kd.R_mono (Kd.R_far (p := ⟨gb248, 2, none⟩) (Kd.R_far (p := ⟨gb248, 1, none⟩) (Kd.R_far (p := ⟨gb248, 0, none⟩) (Kd.R_mono HO_8.out (fun k_ hk => (⟨hk, hk.2⟩ : _ ∧ k_ ≠ gb248))) (fun _ hk => hk.2) (.string t240)) (fun _ hk => hk.2) (.int .i64 t241)) (fun _ hk => hk.2) (.string t242)) (fun _ hk => hk.1.2))); (case aS => exact (below_size (by repeat (first | (with_reducible first | exact HB.out | apply below_alloc | apply pw_below_drewN | apply below_drew1 | refine below_set ?_ (IsS101.ge HI233.out) | refine below_set ?_ GE248.out) | exact HB.out)))); (case aL => have := LMc27.out; omega); intro v250 w32 ho hb hg hat; rw [← Ny249.out] at ho; have n0_ := Aside0.mk (IsS101.grown (IsS101.far (p := ⟨gb248, 2, none⟩) (IsS101.far (p := ⟨gb248, 1, none⟩) (IsS101.far (p := ⟨gb248, 0, none⟩) HI233.out NB233_248.out (.string t240)) NB233_248.out (.int .i64 t241)) NB233_248.out (.string t242)) hg (IsS101.own_ne HI233.out HO_8.out (by decide))); have n1_ := Aside0.mk (Kd.R_over' (by (with_reducible repeat (first | apply Kd.R_alloc | apply Kd.R_drewN | apply Kd.R_drew)); exact (Kd.R_mono (Kd.R_far (p := ⟨gb248, 2, none⟩) (Kd.R_far (p := ⟨gb248, 1, none⟩) (Kd.R_far (p := ⟨gb248, 0, none⟩) (Kd.R_types HO245.out BK248.out (by decide)) (fun _ hk => hk.2) (.string t240)) (fun _ hk => hk.2) (.int .i64 t241)) (fun _ hk => hk.2) (.string t242)) (fun _ h_ => h_.1))) (Kd.R_typed (by (with_reducible repeat (first | apply Kd.R_alloc | apply Kd.R_drewN | apply Kd.R_drew)); exact (Kd.R_mono (Kd.R_far (p := ⟨gb248, 2, none⟩) (Kd.R_far (p := ⟨gb248, 1, none⟩) (Kd.R_far (p := ⟨gb248, 0, none⟩) (Kd.R_mono HO_8.out (fun k_ hk => (⟨hk, hk.2⟩ : _ ∧ k_ ≠ gb248))) (fun _ hk => hk.2) (.string t240)) (fun _ hk => hk.2) (.int .i64 t241)) (fun _ hk => hk.2) (.string t242)) (fun _ h_ => h_.1)))) (by decide) hg); have n2_ := Aside0.mk (blk_grown (g := gb248) (o := .cells #[.string t240, .int .i64 t241, .string t242] 39 (0, 0)) (by (with_reducible repeat (first | refine blk_drewN ?_ _ | refine blk_drew ?_ | refine blk_alloc ?_ _)); refine blk_put (cs := #[.string t240, .int .i64 t241, .string (⟨#[]⟩ : ByteArray)]) ?_ 2 _ rfl; (with_reducible repeat (first | refine blk_drewN ?_ _ | refine blk_drew ?_ | refine blk_alloc ?_ _)); refine blk_put (cs := #[.string t240, .int .i64 0, .string (⟨#[]⟩ : ByteArray)]) ?_ 1 _ rfl; (with_reducible repeat (first | refine blk_drewN ?_ _ | refine blk_drew ?_ | refine blk_alloc ?_ _)); refine blk_put (cs := #[.string (⟨#[]⟩ : ByteArray), .int .i64 0, .string (⟨#[]⟩ : ByteArray)]) ?_ 0 _ rfl; (with_reducible repeat (first | refine blk_drewN ?_ _ | refine blk_drew ?_ | refine blk_alloc ?_ _)); exact BK248.out) hg (Kd.R_away HO_8.out (fun _ hk => hk.2))); have n3_ := Aside0.mk (hb); have n4_ := Aside0.mk (ho); clear HI233; clear HO245; clear BK248; clear HB; clear HO_8; have HI233 := n0_; have HO245 := n1_; have BK248 := n2_; have HB := n3_; have HO251 := n4_; clear n0_ n1_ n2_ n3_ n4_; clear ho hb hg hat))
            go_roundg k2
            case measure => have := HJ1.out; have := HK2.out; omega
            case rel => exact ⟨(y249), (wrap64 (x42_2 + 1)), (t246), (t247), (by first | rfl | (simp; done) | (simp [*]; done)), H', ⟨by have := HJ1.out; have := HK2.out; omega⟩, ⟨by (with_reducible repeat (first | apply Kd.R_alloc | apply Kd.R_drewN | apply Kd.R_drew)); exact Kd.R_mono HO251.out (fun _ hk => trivial)⟩, ⟨by repeat (first | (with_reducible first | exact HI233.out | apply IsS101.alloc | apply IsS101.drewN | apply IsS101.drew | apply IsS101.set_0 | apply IsS101.set_1 | refine IsS101.far ?_ NB233_248.out _) | exact HI233.out)⟩, ⟨by repeat (first | (with_reducible first | exact HB.out | apply below_alloc | apply pw_below_drewN | apply below_drew1 | refine below_set ?_ (IsS101.ge HI233.out) | refine below_set ?_ GE248.out) | exact HB.out)⟩⟩
           ·rw [if_neg c27] at H
            exact absurd H (by simp)
          ·rw [if_neg c26] at H
           have c26b0 : (t243.isEmpty) = false := by simpa using c26
           clear c26
           simp only [Option.some.injEq, Prod.mk.injEq] at H
           obtain ⟨rfl, rfl⟩ := H
           go_wp2_with (first | ((with_reducible refine gate_callee (f := 38) rfl ?_); refine goesL_ (some 46) rfl rfl Tryz.func38 (by kernel_rfl) rfl #[.pointer (some ⟨g233, 0, none⟩)] rfl (by (try simp only [List.map_toArray, List.map_cons, List.map_nil]); first | done | rfl | (simp only [List.length_drop, List.length_take]; rfl)) ?_; (with_reducible refine (entry_Read.calls g233 x234000_2 x234001_2 t240 t241 t242 t243 t246 t247 w _ ?side1 ?side2 A25.out).mono ?_); (case side1 => repeat (first | (with_reducible first | exact HI233.out | apply IsS101.alloc | apply IsS101.drewN | apply IsS101.drew | apply IsS101.set_0 | apply IsS101.set_1) | exact HI233.out)); (case side2 => repeat (first | (with_reducible first | exact HB.out | apply below_alloc | apply pw_below_drewN | apply below_drew1 | refine below_set ?_ (IsS101.ge HI233.out)) | exact HB.out)); rintro e w33 ⟨v244, rfl, ho0, hi, hb, hk⟩; refine ⟨_, rfl, ?_⟩; have n0_ := Aside0.mk (Kd.R_mono (Kd.R_keep (IsS101.apart (show IsS101 w _ g233 x234000_2 x234001_2 from by repeat (first | (with_reducible first | exact HI233.out | apply IsS101.alloc | apply IsS101.drewN | apply IsS101.drew | apply IsS101.set_0 | apply IsS101.set_1) | exact HI233.out)) (by (with_reducible repeat (first | apply Kd.R_alloc | apply Kd.R_drewN | apply Kd.R_drew)); exact HO_8.out) (by decide)) hk (fun _ h => h.2)) (fun _ h => h.1)); have n1_ := Aside0.mk (Kd.R_lower ho0 (below_size (by repeat (first | (with_reducible first | exact HB.out | apply below_alloc | apply pw_below_drewN | apply below_drew1 | refine below_set ?_ (IsS101.ge HI233.out)) | exact HB.out)))); have n2_ := Aside0.mk (hb); have n3_ := Aside0.mk (hi); clear HO_8; clear HB; clear HI233; have HO_8 := n0_; have HO245 := n1_; have HB := n2_; have HI233 := n3_; clear n0_ n1_ n2_ n3_; (try clear hb); (try clear hb2); (try clear hk); (try clear hi); (try clear ho0); have hE_v244 := errNil_of HO245.out) | ((with_reducible refine gate_dst (N := 9) rfl ?_); refine box_event ?hg (N := 9) ?hd (cs := #[.string (⟨#[]⟩ : ByteArray), .int .i64 0, .string (⟨#[]⟩ : ByteArray)]) (t := 39) ?hr ?_; (case hd => rfl); (case hg => rfl); (case hr => first | (go_simp; done) | (go_simp; rfl)); intro gb248 hg w34 hbox hb; have n0_ := Aside0.mk (Kd.R_below (Kd.R_elderB (by (with_reducible repeat (first | apply Kd.R_alloc | apply Kd.R_drewN | apply Kd.R_drew)); exact HO_8.out) gb248 (Nat.le_of_eq hg.symm)) hb); have n1_ := Aside0.mk (Kd.R_below (by (with_reducible repeat (first | apply Kd.R_alloc | apply Kd.R_drewN | apply Kd.R_drew)); exact HO245.out) hb); have n2_ := Aside0.mk (IsS101.below (by repeat (first | (with_reducible first | exact HI233.out | apply IsS101.alloc | apply IsS101.drewN | apply IsS101.drew | apply IsS101.set_0 | apply IsS101.set_1) | exact HI233.out)) hb); have n3_ := Aside0.mk (below_step (by repeat (first | (with_reducible first | exact HB.out | apply below_alloc | apply pw_below_drewN | apply below_drew1 | refine below_set ?_ (IsS101.ge HI233.out)) | exact HB.out)) hb); have n4_ := Aside0.mk (hbox); have n5_ := Aside0.mk ((by rw [hg]; exact (below_size (by repeat (first | (with_reducible first | exact HB.out | apply below_alloc | apply pw_below_drewN | apply below_drew1 | refine below_set ?_ (IsS101.ge HI233.out)) | exact HB.out))) : w.heap.size ≤ gb248)); have n6_ := Aside0.mk ((by rw [hg]; exact (below_size (by repeat (first | (with_reducible first | exact HB.out | apply below_alloc | apply pw_below_drewN | apply below_drew1 | refine below_set ?_ (IsS101.ge HI233.out)) | exact HB.out))) : w.heap.size ≤ gb248)); have n7_ := Aside0.mk ((by rw [hg]; exact Nat.ne_of_lt (IsS101.lt (show IsS101 w _ g233 t246 t247 from by repeat (first | (with_reducible first | exact HI233.out | apply IsS101.alloc | apply IsS101.drewN | apply IsS101.drew | apply IsS101.set_0 | apply IsS101.set_1) | exact HI233.out))) : g233 ≠ gb248)); have n8_ := Aside0.mk ((by rw [hg]; exact Nat.ne_of_gt (IsS101.lt (show IsS101 w _ g233 t246 t247 from by repeat (first | (with_reducible first | exact HI233.out | apply IsS101.alloc | apply IsS101.drewN | apply IsS101.drew | apply IsS101.set_0 | apply IsS101.set_1) | exact HI233.out))) : gb248 ≠ g233)); clear HO_8; clear HO245; clear HI233; clear HB; have HO_8 := n0_; have HO245 := n1_; have HI233 := n2_; have HB := n3_; have BK248 := n4_; have GW248 := n5_; have GE248 := n6_; have NB233_248 := n7_; have NB248_233 := n8_; clear n0_ n1_ n2_ n3_ n4_ n5_ n6_ n7_ n8_; clear hb hbox hg; have hnb35 := NB248_233.out; have hnc35 := NB233_248.out; have hcz36_0 : w34.cell? ⟨gb248, 0, none⟩ = some (.string (⟨#[]⟩ : ByteArray)) := (blk_cell BK248.out 0).trans rfl; have hcz36_1 : w34.cell? ⟨gb248, 1, none⟩ = some (.int .i64 0) := (blk_cell BK248.out 1).trans rfl; have hcz36_2 : w34.cell? ⟨gb248, 2, none⟩ = some (.string (⟨#[]⟩ : ByteArray)) := (blk_cell BK248.out 2).trans rfl; have hfz36_0 := blk_frozen BK248.out 0; have hfz36_1 := blk_frozen BK248.out 1; have hfz36_2 := blk_frozen BK248.out 2))
           go_ret2
           exact ⟨_, _, by first | rfl | (simp [errW_none, errW_some] <;> rfl) | (simp only [← hji16]; first | rfl | (simp [errW_none, errW_some] <;> rfl)) | (simp [*, errW_none, errW_some] <;> rfl), by first | exact Kd.R_nil _ _ _ _ _ | exact Kd.N_nil _ _ _ _ _ | exact Kd.V_nil _ _ _ _ _ | exact Kd.Q_nil _ _ _ _ _ | exact Kd.S_nil _ _ _ _ _, by (with_reducible repeat (first | apply Kd.R_alloc | apply Kd.R_drewN | apply Kd.R_drew)); exact Kd.R_mono (Kd.R_far (p := ⟨gb248, 2, none⟩) (Kd.R_far (p := ⟨gb248, 1, none⟩) (Kd.R_far (p := ⟨gb248, 0, none⟩) (Kd.R_types HO245.out BK248.out (by decide)) (fun _ hk => hk.2) (.string t240)) (fun _ hk => hk.2) (.int .i64 t241)) (fun _ hk => hk.2) (.string t242)) (fun _ hk => trivial), by repeat (first | (with_reducible first | exact HB.out | apply below_alloc | apply pw_below_drewN | apply below_drew1 | refine below_set ?_ (IsS101.ge HI233.out) | refine below_set ?_ GE248.out) | exact HB.out)⟩
         ·rw [if_neg c24] at H
          have c24b0 : decide (x42_2 < t234) = false := decide_eq_false c24
          clear c24
          replace H := Option.bind_eq_some_iff.mp H
          obtain ⟨⟨t252, t253, t254⟩, A370, H⟩ := H
          replace H : (if t252 > 0 then ((fail_At.f (⟨#[114, 101, 97, 100]⟩ : ByteArray) (⟨#[]⟩ : ByteArray) 13).bind fun t255 => (some (([] : List (S39)), t255))) else ((layer_Right.f k2 x8_2).bind fun t258 => (if t258 = true then (some (x8_2, ([] : List Int))) else ((fail_At.f (⟨#[114, 101, 97, 100]⟩ : ByteArray) (⟨#[]⟩ : ByteArray) 13).bind fun t259 => (some (([] : List (S39)), t259)))))) = some (r1, r2) := H
          have A37 := Aside0.mk A370
          clear A370
          by_cases c38 : t252 > 0
          ·rw [if_pos c38] at H
           have c38b0 : decide (0 < t252) = true := decide_eq_true c38
           clear c38
           replace H := Option.bind_eq_some_iff.mp H
           obtain ⟨t255, A390, H⟩ := H
           replace H : (some (([] : List (S39)), t255)) = some (r1, r2) := H
           have A39 := Aside0.mk A390
           clear A390
           simp only [Option.some.injEq, Prod.mk.injEq] at H
           obtain ⟨rfl, rfl⟩ := H
           go_wp2_with (first | ((with_reducible refine gate_callee (f := 39) rfl ?_); refine goesL_ (some 58) rfl rfl Tryz.func39 (by kernel_rfl) rfl #[.pointer (some ⟨g233, 0, none⟩)] rfl (by (try simp only [List.map_toArray, List.map_cons, List.map_nil]); first | done | rfl | (simp only [List.length_drop, List.length_take]; rfl)) ?_; (with_reducible refine (code_Reader_Left.calls g233 x234000_2 x234001_2 t252 t253 t254 w _ ?side1 ?side2 A37.out).mono ?_); (case side1 => repeat (first | (with_reducible first | exact HI233.out | apply IsS101.alloc | apply IsS101.drewN | apply IsS101.drew | apply IsS101.set_0 | apply IsS101.set_1) | exact HI233.out)); (case side2 => repeat (first | (with_reducible first | exact HB.out | apply below_alloc | apply pw_below_drewN | apply below_drew1 | refine below_set ?_ (IsS101.ge HI233.out)) | exact HB.out)); rintro e w40 ⟨rfl, hi, hb, hk⟩; refine ⟨_, rfl, ?_⟩; have n0_ := Aside0.mk (Kd.R_mono (Kd.R_keep (IsS101.apart (show IsS101 w _ g233 x234000_2 x234001_2 from by repeat (first | (with_reducible first | exact HI233.out | apply IsS101.alloc | apply IsS101.drewN | apply IsS101.drew | apply IsS101.set_0 | apply IsS101.set_1) | exact HI233.out)) (by (with_reducible repeat (first | apply Kd.R_alloc | apply Kd.R_drewN | apply Kd.R_drew)); exact HO_8.out) (by decide)) hk (fun _ h => h.2)) (fun _ h => h.1)); have n1_ := Aside0.mk (hb); have n2_ := Aside0.mk (hi); clear HO_8; clear HB; clear HI233; have HO_8 := n0_; have HB := n1_; have HI233 := n2_; clear n0_ n1_ n2_; (try clear hb); (try clear hb2); (try clear hk); (try clear hi)) | ((with_reducible refine gate_callee (f := 24) rfl ?_); refine goesL_ (some 66) rfl rfl Tryz.func24 (by kernel_rfl) rfl #[.string (⟨#[114, 101, 97, 100]⟩ : ByteArray), .string (⟨#[]⟩ : ByteArray), .iface 52 (.int .i64 13)] rfl (by (try simp only [List.map_toArray, List.map_cons, List.map_nil]); first | done | rfl | (simp only [List.length_drop, List.length_take]; rfl)) ?_; (with_reducible refine (fail_At.calls (⟨#[114, 101, 97, 100]⟩ : ByteArray) (⟨#[]⟩ : ByteArray) 13 t255 _ A39.out).mono ?_); rintro e w41 ⟨v256, rfl, ho0, hb⟩; refine ⟨_, rfl, ?_⟩; have n0_ := Aside0.mk (Kd.R_below (by (with_reducible repeat (first | apply Kd.R_alloc | apply Kd.R_drewN | apply Kd.R_drew)); exact HO_8.out) hb); have n1_ := Aside0.mk (Kd.R_lower ho0 (below_size (by repeat (first | (with_reducible first | exact HB.out | apply below_alloc | apply pw_below_drewN | apply below_drew1 | refine below_set ?_ (IsS101.ge HI233.out)) | exact HB.out)))); have n2_ := Aside0.mk (IsS101.below (by repeat (first | (with_reducible first | exact HI233.out | apply IsS101.alloc | apply IsS101.drewN | apply IsS101.drew | apply IsS101.set_0 | apply IsS101.set_1) | exact HI233.out)) hb); have n3_ := Aside0.mk (below_step (by repeat (first | (with_reducible first | exact HB.out | apply below_alloc | apply pw_below_drewN | apply below_drew1 | refine below_set ?_ (IsS101.ge HI233.out)) | exact HB.out)) hb); clear HO_8; clear HI233; clear HB; have HO_8 := n0_; have HO257 := n1_; have HI233 := n2_; have HB := n3_; clear n0_ n1_ n2_ n3_; (try clear hb); (try clear hb2); (try clear hk); (try clear hi); (try clear ho0); have hE_v256 := errNil_of HO257.out))
           go_ret2
           exact ⟨_, _, by first | rfl | (simp [errW_none, errW_some] <;> rfl) | (simp only [← hji16]; first | rfl | (simp [errW_none, errW_some] <;> rfl)) | (simp [*, errW_none, errW_some] <;> rfl), by first | exact Kd.R_nil _ _ _ _ _ | exact Kd.N_nil _ _ _ _ _ | exact Kd.V_nil _ _ _ _ _ | exact Kd.Q_nil _ _ _ _ _ | exact Kd.S_nil _ _ _ _ _, by (with_reducible repeat (first | apply Kd.R_alloc | apply Kd.R_drewN | apply Kd.R_drew)); exact HO257.out, by repeat (first | (with_reducible first | exact HB.out | apply below_alloc | apply pw_below_drewN | apply below_drew1 | refine below_set ?_ (IsS101.ge HI233.out)) | exact HB.out)⟩
          ·rw [if_neg c38] at H
           have c38b0 : decide (0 < t252) = false := decide_eq_false c38
           clear c38
           replace H := Option.bind_eq_some_iff.mp H
           obtain ⟨t258, A420, H⟩ := H
           replace H : (if t258 = true then (some (x8_2, ([] : List Int))) else ((fail_At.f (⟨#[114, 101, 97, 100]⟩ : ByteArray) (⟨#[]⟩ : ByteArray) 13).bind fun t259 => (some (([] : List (S39)), t259)))) = some (r1, r2) := H
           have A42 := Aside0.mk A420
           clear A420
           by_cases c43 : t258 = true
           ·subst c43
            have H1 : (some (x8_2, ([] : List Int))) = some (r1, r2) := by rw [if_pos rfl] at H; exact H
            clear H
            have H := H1
            clear H1
            simp only [Option.some.injEq, Prod.mk.injEq] at H
            obtain ⟨rfl, rfl⟩ := H
            go_wp2_with (first | ((with_reducible refine gate_callee (f := 39) rfl ?_); refine goesL_ (some 58) rfl rfl Tryz.func39 (by kernel_rfl) rfl #[.pointer (some ⟨g233, 0, none⟩)] rfl (by (try simp only [List.map_toArray, List.map_cons, List.map_nil]); first | done | rfl | (simp only [List.length_drop, List.length_take]; rfl)) ?_; (with_reducible refine (code_Reader_Left.calls g233 x234000_2 x234001_2 t252 t253 t254 w _ ?side1 ?side2 A37.out).mono ?_); (case side1 => repeat (first | (with_reducible first | exact HI233.out | apply IsS101.alloc | apply IsS101.drewN | apply IsS101.drew | apply IsS101.set_0 | apply IsS101.set_1) | exact HI233.out)); (case side2 => repeat (first | (with_reducible first | exact HB.out | apply below_alloc | apply pw_below_drewN | apply below_drew1 | refine below_set ?_ (IsS101.ge HI233.out)) | exact HB.out)); rintro e w44 ⟨rfl, hi, hb, hk⟩; refine ⟨_, rfl, ?_⟩; have n0_ := Aside0.mk (Kd.R_mono (Kd.R_keep (IsS101.apart (show IsS101 w _ g233 x234000_2 x234001_2 from by repeat (first | (with_reducible first | exact HI233.out | apply IsS101.alloc | apply IsS101.drewN | apply IsS101.drew | apply IsS101.set_0 | apply IsS101.set_1) | exact HI233.out)) (by (with_reducible repeat (first | apply Kd.R_alloc | apply Kd.R_drewN | apply Kd.R_drew)); exact HO_8.out) (by decide)) hk (fun _ h => h.2)) (fun _ h => h.1)); have n1_ := Aside0.mk (hb); have n2_ := Aside0.mk (hi); clear HO_8; clear HB; clear HI233; have HO_8 := n0_; have HB := n1_; have HI233 := n2_; clear n0_ n1_ n2_; (try clear hb); (try clear hb2); (try clear hk); (try clear hi); obtain ⟨Ao45, co45, eo45⟩ := Kd.R_slice HO_8.out; subst eo45) | (go_at_call 10; (with_reducible refine (layer_Right.calls k2 _ _ x8_2 true _ ?side1 ?side2 A42.out).mono ?_); (case side1 => repeat (first | exact (Kd.R_reads' HO_8.out).2.2 | (with_reducible refine Kd.C_alloc ?_ _) | (with_reducible refine Kd.C_drewN ?_ _) | (with_reducible refine Kd.C_drew ?_))); (case side2 => exact (Kd.R_reads' HO_8.out).2.1); rintro e w46 ⟨rfl, hb⟩; have n0_ := Aside0.mk (Kd.R_below (by (with_reducible repeat (first | apply Kd.R_alloc | apply Kd.R_drewN | apply Kd.R_drew)); exact HO_8.out) hb); have n1_ := Aside0.mk (IsS101.below (by repeat (first | (with_reducible first | exact HI233.out | apply IsS101.alloc | apply IsS101.drewN | apply IsS101.drew | apply IsS101.set_0 | apply IsS101.set_1) | exact HI233.out)) hb); have n2_ := Aside0.mk (below_step (by repeat (first | (with_reducible first | exact HB.out | apply below_alloc | apply pw_below_drewN | apply below_drew1 | refine below_set ?_ (IsS101.ge HI233.out)) | exact HB.out)) hb); clear HO_8; clear HI233; clear HB; have HO_8 := n0_; have HI233 := n1_; have HB := n2_; clear n0_ n1_ n2_; (try clear hb); (try clear hb2); (try clear hk); (try clear hi)))
            go_ret2
            exact ⟨_, (.slice none 0 0), by first | rfl | (simp [errW_none, errW_some] <;> rfl) | (simp only [← hji16]; first | rfl | (simp [errW_none, errW_some] <;> rfl)) | (simp [*, errW_none, errW_some] <;> rfl), by (with_reducible repeat (first | apply Kd.R_alloc | apply Kd.R_drewN | apply Kd.R_drew)); exact HO_8.out, by first | exact Kd.R_nil _ _ _ _ _ | exact Kd.N_nil _ _ _ _ _ | exact Kd.V_nil _ _ _ _ _ | exact Kd.Q_nil _ _ _ _ _ | exact Kd.S_nil _ _ _ _ _, by repeat (first | (with_reducible first | exact HB.out | apply below_alloc | apply pw_below_drewN | apply below_drew1 | refine below_set ?_ (IsS101.ge HI233.out)) | exact HB.out)⟩
           ·replace c43 := Bool.eq_false_iff.mpr c43
            subst c43
            have H1 : ((fail_At.f (⟨#[114, 101, 97, 100]⟩ : ByteArray) (⟨#[]⟩ : ByteArray) 13).bind fun t259 => (some (([] : List (S39)), t259))) = some (r1, r2) := by rw [if_neg (show ¬ (false = true) by decide)] at H; exact H
            clear H
            have H := H1
            clear H1
            replace H := Option.bind_eq_some_iff.mp H
            obtain ⟨t259, A470, H⟩ := H
            replace H : (some (([] : List (S39)), t259)) = some (r1, r2) := H
            have A47 := Aside0.mk A470
            clear A470
            simp only [Option.some.injEq, Prod.mk.injEq] at H
            obtain ⟨rfl, rfl⟩ := H
            go_wp2_with (first | ((with_reducible refine gate_callee (f := 39) rfl ?_); refine goesL_ (some 58) rfl rfl Tryz.func39 (by kernel_rfl) rfl #[.pointer (some ⟨g233, 0, none⟩)] rfl (by (try simp only [List.map_toArray, List.map_cons, List.map_nil]); first | done | rfl | (simp only [List.length_drop, List.length_take]; rfl)) ?_; (with_reducible refine (code_Reader_Left.calls g233 x234000_2 x234001_2 t252 t253 t254 w _ ?side1 ?side2 A37.out).mono ?_); (case side1 => repeat (first | (with_reducible first | exact HI233.out | apply IsS101.alloc | apply IsS101.drewN | apply IsS101.drew | apply IsS101.set_0 | apply IsS101.set_1) | exact HI233.out)); (case side2 => repeat (first | (with_reducible first | exact HB.out | apply below_alloc | apply pw_below_drewN | apply below_drew1 | refine below_set ?_ (IsS101.ge HI233.out)) | exact HB.out)); rintro e w48 ⟨rfl, hi, hb, hk⟩; refine ⟨_, rfl, ?_⟩; have n0_ := Aside0.mk (Kd.R_mono (Kd.R_keep (IsS101.apart (show IsS101 w _ g233 x234000_2 x234001_2 from by repeat (first | (with_reducible first | exact HI233.out | apply IsS101.alloc | apply IsS101.drewN | apply IsS101.drew | apply IsS101.set_0 | apply IsS101.set_1) | exact HI233.out)) (by (with_reducible repeat (first | apply Kd.R_alloc | apply Kd.R_drewN | apply Kd.R_drew)); exact HO_8.out) (by decide)) hk (fun _ h => h.2)) (fun _ h => h.1)); have n1_ := Aside0.mk (hb); have n2_ := Aside0.mk (hi); clear HO_8; clear HB; clear HI233; have HO_8 := n0_; have HB := n1_; have HI233 := n2_; clear n0_ n1_ n2_; (try clear hb); (try clear hb2); (try clear hk); (try clear hi); obtain ⟨Ao49, co49, eo49⟩ := Kd.R_slice HO_8.out; subst eo49) | (go_at_call 10; (with_reducible refine (layer_Right.calls k2 _ _ x8_2 false _ ?side1 ?side2 A42.out).mono ?_); (case side1 => repeat (first | exact (Kd.R_reads' HO_8.out).2.2 | (with_reducible refine Kd.C_alloc ?_ _) | (with_reducible refine Kd.C_drewN ?_ _) | (with_reducible refine Kd.C_drew ?_))); (case side2 => exact (Kd.R_reads' HO_8.out).2.1); rintro e w50 ⟨rfl, hb⟩; have n0_ := Aside0.mk (Kd.R_below (by (with_reducible repeat (first | apply Kd.R_alloc | apply Kd.R_drewN | apply Kd.R_drew)); exact HO_8.out) hb); have n1_ := Aside0.mk (IsS101.below (by repeat (first | (with_reducible first | exact HI233.out | apply IsS101.alloc | apply IsS101.drewN | apply IsS101.drew | apply IsS101.set_0 | apply IsS101.set_1) | exact HI233.out)) hb); have n2_ := Aside0.mk (below_step (by repeat (first | (with_reducible first | exact HB.out | apply below_alloc | apply pw_below_drewN | apply below_drew1 | refine below_set ?_ (IsS101.ge HI233.out)) | exact HB.out)) hb); clear HO_8; clear HI233; clear HB; have HO_8 := n0_; have HI233 := n1_; have HB := n2_; clear n0_ n1_ n2_; (try clear hb); (try clear hb2); (try clear hk); (try clear hi)) | ((with_reducible refine gate_callee (f := 24) rfl ?_); refine goesL_ (some 66) rfl rfl Tryz.func24 (by kernel_rfl) rfl #[.string (⟨#[114, 101, 97, 100]⟩ : ByteArray), .string (⟨#[]⟩ : ByteArray), .iface 52 (.int .i64 13)] rfl (by (try simp only [List.map_toArray, List.map_cons, List.map_nil]); first | done | rfl | (simp only [List.length_drop, List.length_take]; rfl)) ?_; (with_reducible refine (fail_At.calls (⟨#[114, 101, 97, 100]⟩ : ByteArray) (⟨#[]⟩ : ByteArray) 13 t259 _ A47.out).mono ?_); rintro e w51 ⟨v260, rfl, ho0, hb⟩; refine ⟨_, rfl, ?_⟩; have n0_ := Aside0.mk (Kd.R_below (by (with_reducible repeat (first | apply Kd.R_alloc | apply Kd.R_drewN | apply Kd.R_drew)); exact HO_8.out) hb); have n1_ := Aside0.mk (Kd.R_lower ho0 (below_size (by repeat (first | (with_reducible first | exact HB.out | apply below_alloc | apply pw_below_drewN | apply below_drew1 | refine below_set ?_ (IsS101.ge HI233.out)) | exact HB.out)))); have n2_ := Aside0.mk (IsS101.below (by repeat (first | (with_reducible first | exact HI233.out | apply IsS101.alloc | apply IsS101.drewN | apply IsS101.drew | apply IsS101.set_0 | apply IsS101.set_1) | exact HI233.out)) hb); have n3_ := Aside0.mk (below_step (by repeat (first | (with_reducible first | exact HB.out | apply below_alloc | apply pw_below_drewN | apply below_drew1 | refine below_set ?_ (IsS101.ge HI233.out)) | exact HB.out)) hb); clear HO_8; clear HI233; clear HB; have HO_8 := n0_; have HO261 := n1_; have HI233 := n2_; have HB := n3_; clear n0_ n1_ n2_ n3_; (try clear hb); (try clear hb2); (try clear hk); (try clear hi); (try clear ho0); have hE_v260 := errNil_of HO261.out))
            go_ret2
            exact ⟨_, _, by first | rfl | (simp [errW_none, errW_some] <;> rfl) | (simp only [← hji16]; first | rfl | (simp [errW_none, errW_some] <;> rfl)) | (simp [*, errW_none, errW_some] <;> rfl), by first | exact Kd.R_nil _ _ _ _ _ | exact Kd.N_nil _ _ _ _ _ | exact Kd.V_nil _ _ _ _ _ | exact Kd.Q_nil _ _ _ _ _ | exact Kd.S_nil _ _ _ _ _, by (with_reducible repeat (first | apply Kd.R_alloc | apply Kd.R_drewN | apply Kd.R_drew)); exact HO261.out, by repeat (first | (with_reducible first | exact HB.out | apply below_alloc | apply pw_below_drewN | apply below_drew1 | refine below_set ?_ (IsS101.ge HI233.out)) | exact HB.out)⟩
      ·rw [if_neg c21] at H
       have c21b0 : (t235.isEmpty) = false := by simpa using c21
       clear c21
       simp only [Option.some.injEq, Prod.mk.injEq] at H
       obtain ⟨rfl, rfl⟩ := H
       go_wp2_with (first | ((with_reducible refine gate_callee (f := 36) rfl ?_); refine goesL_ (some 32) rfl rfl Tryz.func36 (by kernel_rfl) rfl #[.string (a0.extract 0 ((ji16) : Int).toNat)] rfl (by (try simp only [List.map_toArray, List.map_cons, List.map_nil]); first | done | (simp only [hji16]; rfl) | rfl | (simp only [List.length_drop, List.length_take]; rfl)) ?_; (with_reducible refine (code_New.calls (a0.extract 0 ((ji16) : Int).toNat) t231 t232 w _ ?side1 A19.out).mono ?_); (case side1 => repeat (first | (with_reducible first | exact HB.out | apply below_alloc | apply pw_below_drewN | apply below_drew1) | exact HB.out)); rintro e w52 ⟨g233, rfl, hi, hb, hb2⟩; refine ⟨_, rfl, ?_⟩; have n0_ := Aside0.mk (hb); have n1_ := Aside0.mk (hi); clear HB; have HB := n0_; have HI233 := n1_; clear n0_ n1_; (try clear hb); (try clear hb2); (try clear hk); (try clear hi)) | ((with_reducible refine gate_callee (f := 37) rfl ?_); refine goesL_ (some 35) rfl rfl Tryz.func37 (by kernel_rfl) rfl #[.pointer (some ⟨g233, 0, none⟩), .int .i64 64] rfl (by (try simp only [List.map_toArray, List.map_cons, List.map_nil]); first | done | rfl | (simp only [List.length_drop, List.length_take]; rfl)) ?_; (with_reducible refine (code_Reader_Num.calls g233 t231 t232 64 t234 t235 t238 t239 w _ ?side1 ?side2 A20.out).mono ?_); (case side1 => repeat (first | (with_reducible first | exact HI233.out | apply IsS101.alloc | apply IsS101.drewN | apply IsS101.drew | apply IsS101.set_0 | apply IsS101.set_1) | exact HI233.out)); (case side2 => repeat (first | (with_reducible first | exact HB.out | apply below_alloc | apply pw_below_drewN | apply below_drew1 | refine below_set ?_ (IsS101.ge HI233.out)) | exact HB.out)); rintro e w53 ⟨v236, rfl, ho0, hi, hb, hk⟩; refine ⟨_, rfl, ?_⟩; have n0_ := Aside0.mk (Kd.R_lower ho0 (below_size (by repeat (first | (with_reducible first | exact HB.out | apply below_alloc | apply pw_below_drewN | apply below_drew1 | refine below_set ?_ (IsS101.ge HI233.out)) | exact HB.out)))); have n1_ := Aside0.mk (hb); have n2_ := Aside0.mk (hi); clear HB; clear HI233; have HO237 := n0_; have HB := n1_; have HI233 := n2_; clear n0_ n1_ n2_; (try clear hb); (try clear hb2); (try clear hk); (try clear hi); (try clear ho0); have hE_v236 := errNil_of HO237.out))
       go_ret2
       exact ⟨_, _, by first | rfl | (simp [errW_none, errW_some] <;> rfl) | (simp only [← hji16]; first | rfl | (simp [errW_none, errW_some] <;> rfl)) | (simp [*, errW_none, errW_some] <;> rfl), by first | exact Kd.R_nil _ _ _ _ _ | exact Kd.N_nil _ _ _ _ _ | exact Kd.V_nil _ _ _ _ _ | exact Kd.Q_nil _ _ _ _ _ | exact Kd.S_nil _ _ _ _ _, by (with_reducible repeat (first | apply Kd.R_alloc | apply Kd.R_drewN | apply Kd.R_drew)); exact HO237.out, by repeat (first | (with_reducible first | exact HB.out | apply below_alloc | apply pw_below_drewN | apply below_drew1 | refine below_set ?_ (IsS101.ge HI233.out)) | exact HB.out)⟩
     ·rw [if_neg c18] at H
      exact absurd H (by simp)
    ·rw [if_neg c17] at H
     exact absurd H (by simp)

end Go.Proofs.YtjlflmjimibciabGreatDoor.Print
