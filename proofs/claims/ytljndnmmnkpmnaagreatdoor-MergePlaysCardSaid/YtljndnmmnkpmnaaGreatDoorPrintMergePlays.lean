import Derived.Test.YtljndnmmnkpmnaaGreatDoorPrint0
import Derived.Test.YtljndnmmnkpmnaaGreatDoorPrint1
import Derived.Test.YtljndnmmnkpmnaaGreatDoorPrint3
import Derived.Test.YtljndnmmnkpmnaaGreatDoorPrint8
import Derived.Test.YtljndnmmnkpmnaaGreatDoorPrintF
import Derived.Test.YtljndnmmnkpmnaaGreatDoorPrintMe2
import Derived.Test.YtljndnmmnkpmnaaGreatDoorPrintRTwo
import Derived.Test.YtljndnmmnkpmnaaGreatDoorPrintSa
namespace Go.Proofs.YtljndnmmnkpmnaaGreatDoor.Print
open Go.RowKit Go.Proofs.YtljndnmmnkpmnaaGreatDoorW.PrintWords Go.Proofs.YtljndnmmnkpmnaaGreatDoorW.PrintLast Go.Proofs.YtljndnmmnkpmnaaGreatDoorW.PrintMore
attribute [local go_sem] max2_int min2_int max_two min_two max_three min_three max_four min_four   -- for this text's walks alone
set_option linter.unusedVariables false
set_option linter.unusedSimpArgs false
attribute [local go_sem high] eqA35
mutual
def z2.j0 : Nat → List (S35) → List (S35) → Bool → Bool → Option (Bool)
 | 0, _, _, _, _ => none
 | k + 1, x0, x1, x2, x21 => if x21 = true then ((z12.f k).bind fun t316 => (some t316)) else ((z39.f k x0 x1 x2).bind fun bt317 => ((z14.f k x0).bind fun t323 => (if t323 = true then ((z14.f k x1).bind fun t324 => (z2.j1 k x0 x1 x2 bt317.1 bt317.2 (!t324))) else (z2.j1 k x0 x1 x2 bt317.1 bt317.2 true))))
def z2.j1 : Nat → List (S35) → List (S35) → Bool → List (S35) → List Int → Bool → Option (Bool)
 | 0, _, _, _, _, _, _ => none
 | k + 1, x0, x1, x2, x7, x8, x37 => if x37 = true then ((z38.f x8).bind fun t325 => (if t325 = 16 then (some ((x7.length : Int) == 0)) else (some false))) else ((z25.f k x0 x1 x2).bind fun t326 => (if (t326.length : Int) > 64 then ((z38.f x8).bind fun t329 => (if t329 = 9 then (some ((x7.length : Int) == 0)) else (some false))) else ((z38.f x8).bind fun t330 => (if t330 = 0 then ((z16.f k x7 t326).bind fun t331 => (if t331 = 1 then ((z32.f k x7).bind fun t332 => (some t332)) else (some false))) else (some false)))))
end
def z2.f (k : Nat) (l0 : List (S35)) (l1 : List (S35)) (a2 : Bool) : Option (Bool) := (z12.f k).bind fun t313 => (if t313 = true then ((z23.f k l0).bind fun t314 => (if t314 = 0 then (z2.j0 k l0 l1 a2 true) else ((z23.f k l1).bind fun t315 => (z2.j0 k l0 l1 a2 (t315 == 0))))) else (z2.j0 k l0 l1 a2 true))
theorem z2.mono_l : ∀ k, (∀ y0 y1 y2 y3, LeO (z2.j0 k y0 y1 y2 y3) (z2.j0 (k + 1) y0 y1 y2 y3)) ∧ (∀ y0 y1 y2 y3 y4 y5, LeO (z2.j1 k y0 y1 y2 y3 y4 y5) (z2.j1 (k + 1) y0 y1 y2 y3 y4 y5))
 | 0 => ⟨fun _ _ _ _ r h => by simp [z2.j0] at h, fun _ _ _ _ _ _ r h => by simp [z2.j1] at h⟩
 | k + 1 => by
  obtain ⟨ih0, ih1⟩ := z2.mono_l k
  refine ⟨?_, ?_⟩
  ·intro y0 y1 y2 y3
   unfold z2.j0
   repeat' first
   | (with_reducible exact ih0 _ _ _ _)
   | (with_reducible exact ih1 _ _ _ _ _ _)
   | (with_reducible exact z32.mono _ _)
   | (with_reducible exact z39.mono _ _ _ _)
   | (with_reducible exact z16.mono _ _ _)
   | (with_reducible exact z23.mono _ _)
   | (with_reducible exact z12.mono _)
   | (with_reducible exact z14.mono _ _)
   | (with_reducible exact z25.mono _ _ _ _)
   | (with_reducible exact LeO.refl _)
   | (with_reducible exact LeO.none _)
   | (with_reducible refine LeO.ite ?_ ?_)
   | (with_reducible refine LeO.bind ?_ (fun _ => ?_))
   | exact ih0 _ _ _ _
   | exact ih1 _ _ _ _ _ _
   | exact z32.mono _ _
   | exact z39.mono _ _ _ _
   | exact z16.mono _ _ _
   | exact z23.mono _ _
   | exact z12.mono _
   | exact z14.mono _ _
   | exact z25.mono _ _ _ _
   | exact LeO.none _
   | refine LeO.ite ?_ ?_
   | refine LeO.bind ?_ (fun _ => ?_)
  ·intro y0 y1 y2 y3 y4 y5
   unfold z2.j1
   repeat' first
   | (with_reducible exact ih0 _ _ _ _)
   | (with_reducible exact ih1 _ _ _ _ _ _)
   | (with_reducible exact z32.mono _ _)
   | (with_reducible exact z39.mono _ _ _ _)
   | (with_reducible exact z16.mono _ _ _)
   | (with_reducible exact z23.mono _ _)
   | (with_reducible exact z12.mono _)
   | (with_reducible exact z14.mono _ _)
   | (with_reducible exact z25.mono _ _ _ _)
   | (with_reducible exact LeO.refl _)
   | (with_reducible exact LeO.none _)
   | (with_reducible refine LeO.ite ?_ ?_)
   | (with_reducible refine LeO.bind ?_ (fun _ => ?_))
   | exact ih0 _ _ _ _
   | exact ih1 _ _ _ _ _ _
   | exact z32.mono _ _
   | exact z39.mono _ _ _ _
   | exact z16.mono _ _ _
   | exact z23.mono _ _
   | exact z12.mono _
   | exact z14.mono _ _
   | exact z25.mono _ _ _ _
   | exact LeO.none _
   | refine LeO.ite ?_ ?_
   | refine LeO.bind ?_ (fun _ => ?_)
theorem z2.mono : ∀ a0 a1 a2 k, LeO (z2.f k a0 a1 a2) (z2.f (k + 1) a0 a1 a2) := by
 intro a0 a1 a2 k
 obtain ⟨ih0, ih1⟩ := z2.mono_l k
 unfold z2.f
 repeat' first
   | (with_reducible exact ih0 _ _ _ _)
   | (with_reducible exact ih1 _ _ _ _ _ _)
   | (with_reducible exact z32.mono _ _)
   | (with_reducible exact z39.mono _ _ _ _)
   | (with_reducible exact z16.mono _ _ _)
   | (with_reducible exact z23.mono _ _)
   | (with_reducible exact z12.mono _)
   | (with_reducible exact z14.mono _ _)
   | (with_reducible exact z25.mono _ _ _ _)
   | (with_reducible exact LeO.refl _)
   | (with_reducible exact LeO.none _)
   | (with_reducible refine LeO.ite ?_ ?_)
   | (with_reducible refine LeO.bind ?_ (fun _ => ?_))
   | exact ih0 _ _ _ _
   | exact ih1 _ _ _ _ _ _
   | exact z32.mono _ _
   | exact z39.mono _ _ _ _
   | exact z16.mono _ _ _
   | exact z23.mono _ _
   | exact z12.mono _
   | exact z14.mono _ _
   | exact z25.mono _ _ _ _
   | exact LeO.none _
   | refine LeO.ite ?_ ?_
   | refine LeO.bind ?_ (fun _ => ?_)
set_option maxHeartbeats 8000000 in
set_option maxRecDepth 100000 in
theorem z2.calls (k : Nat) (A0 : Option Addr) (c0 : Nat) (l0 : List (S35)) (A1 : Option Addr) (c1 : Nat) (l1 : List (S35)) (a2 : Bool) (r : Bool) (w : World) (hr0 : Kd.C k35 w A0 l0.length l0) (hc0 : l0.length ≤ c0) (hr1 : Kd.C k35 w A1 l1.length l1) (hc1 : l1.length ≤ c1) (hG : Gl w) (h : z2.f k l0 l1 a2 = some r) (hr : r = true) :
  Calls Tryz.prog 3 #[.slice A0 l0.length c0, .slice A1 l1.length c1, .bool a2] w fun e w' => e = .returned (.bool r) ∧ Below w.heap.size w w' := by
 have HR0 := Aside0.mk hr0
 have HC0 := Aside0.mk hc0
 clear hr0 hc0
 have HR1 := Aside0.mk hr1
 have HC1 := Aside0.mk hc1
 clear hr1 hc1
 have HB := Aside0.mk (Below.refl w.heap.size w)
 have HG_ := Aside0.mk hG
 clear hG
 have H : ((z12.f k).bind fun t313 => (if t313 = true then ((z23.f k l0).bind fun t314 => (if t314 = 0 then (z2.j0 k l0 l1 a2 true) else ((z23.f k l1).bind fun t315 => (z2.j0 k l0 l1 a2 (t315 == 0))))) else (z2.j0 k l0 l1 a2 true))) = some r := h
 clear h
 have HRR_ := Aside0.mk hr
 clear hr
 have HC4 := Aside0.mk H
 clear H
 go_enter Tryz.func3, Tryz.ntmps3
 go_upto_region 1 with (fail)
 go_cut [21] (fun v21 wc => ∃ (kq : Nat) (x21_3 : Bool), v21 = .bool x21_3 ∧ Aside0 (z2.j0 kq l0 l1 a2 x21_3 = some r) ∧ Aside0 (kq ≤ k) ∧ Aside0 (Below w.heap.size w wc))
 case first =>
  have H := HC4.out
  clear HC4
  replace H := Option.bind_eq_some_iff.mp H
  obtain ⟨t313, A50, H⟩ := H
  replace H : (if t313 = true then ((z23.f k l0).bind fun t314 => (if t314 = 0 then (z2.j0 k l0 l1 a2 true) else ((z23.f k l1).bind fun t315 => (z2.j0 k l0 l1 a2 (t315 == 0))))) else (z2.j0 k l0 l1 a2 true)) = some r := H
  have A5 := Aside0.mk A50
  clear A50
  by_cases c6 : t313 = true
  ·subst c6
   have H1 : ((z23.f k l0).bind fun t314 => (if t314 = 0 then (z2.j0 k l0 l1 a2 true) else ((z23.f k l1).bind fun t315 => (z2.j0 k l0 l1 a2 (t315 == 0))))) = some r := by rw [if_pos rfl] at H; exact H
   clear H
   have H := H1
   clear H1
   replace H := Option.bind_eq_some_iff.mp H
   obtain ⟨t314, A70, H⟩ := H
   replace H : (if t314 = 0 then (z2.j0 k l0 l1 a2 true) else ((z23.f k l1).bind fun t315 => (z2.j0 k l0 l1 a2 (t315 == 0)))) = some r := H
   have A7 := Aside0.mk A70
   clear A70
   by_cases c8 : t314 = 0
   ·rw [if_pos c8] at H
    have c8b0 : (t314 == 0) = true := beq_iff_eq.mpr c8
    have c8b1 : (t314 != 0) = false := bne_eq_false_iff_eq.mpr c8
    clear c8
    (first | rw [c8b0] | (simp only [i64_w, i32_w]; rw [c8b0]) | skip)
    have H' := Aside0.mk H
    clear H
    go_wp2_with (first | ((with_reducible refine qg (f := 4) rfl ?_); refine goesL_ (some 10) rfl rfl Tryz.func4 (by kernel_rfl) rfl #[] rfl (by (try simp only [List.map_toArray, List.map_cons, List.map_nil]); first | done | rfl | (simp only [List.length_drop, List.length_take]; rfl)) ?_; (with_reducible refine (z12.calls k  true _ ?side1 A5.out).mono ?_); (case side1 => exact Gl.below HG_.out (by repeat (first | (with_reducible first | exact HB.out | apply qA | apply qN | apply qD) | exact HB.out))); rintro e w9 ⟨rfl, hb⟩; refine ⟨_, rfl, ?_⟩; have n0_ := Aside0.mk (qT (by repeat (first | (with_reducible first | exact HB.out | apply qA | apply qN | apply qD) | exact HB.out)) hb); clear HB; have HB := n0_; clear n0_; (try clear hb); (try clear hb2); (try clear hk); (try clear hi)) | (go_at_call 5; (with_reducible refine (z23.calls k _ _ l0 t314 _ ?side1 ?side2 A7.out).mono ?_); (case side1 => repeat (first | exact (Kd.C_below HR0.out HB.out) | (with_reducible refine Kd.C_alloc ?_ _) | (with_reducible refine Kd.C_drewN ?_ _) | (with_reducible refine Kd.C_drew ?_))); (case side2 => exact HC0.out); rintro e w' ⟨rfl, ⟨nd, rfl⟩⟩))
    go_meet
    case rel => exact ⟨_, (true), (by first | rfl | (simp; done) | (simp [*]; done)), H', ⟨by first | omega | exact Nat.le_refl _⟩, ⟨by repeat (first | (with_reducible first | exact HB.out | apply qA | apply qN | apply qD) | exact HB.out)⟩⟩
   ·rw [if_neg c8] at H
    have c8b0 : (t314 == 0) = false := beq_eq_false_iff_ne.mpr c8
    have c8b1 : (t314 != 0) = true := bne_iff_ne.mpr c8
    (first | rw [c8b0] | (simp only [i64_w, i32_w]; rw [c8b0]) | skip)
    replace H := Option.bind_eq_some_iff.mp H
    obtain ⟨t315, A100, H⟩ := H
    replace H : (z2.j0 k l0 l1 a2 (t315 == 0)) = some r := H
    have A10 := Aside0.mk A100
    clear A100
    have H' := Aside0.mk H
    clear H
    go_wp2_with (first | ((with_reducible refine qg (f := 4) rfl ?_); refine goesL_ (some 10) rfl rfl Tryz.func4 (by kernel_rfl) rfl #[] rfl (by (try simp only [List.map_toArray, List.map_cons, List.map_nil]); first | done | rfl | (simp only [List.length_drop, List.length_take]; rfl)) ?_; (with_reducible refine (z12.calls k  true _ ?side1 A5.out).mono ?_); (case side1 => exact Gl.below HG_.out (by repeat (first | (with_reducible first | exact HB.out | apply qA | apply qN | apply qD) | exact HB.out))); rintro e w11 ⟨rfl, hb⟩; refine ⟨_, rfl, ?_⟩; have n0_ := Aside0.mk (qT (by repeat (first | (with_reducible first | exact HB.out | apply qA | apply qN | apply qD) | exact HB.out)) hb); clear HB; have HB := n0_; clear n0_; (try clear hb); (try clear hb2); (try clear hk); (try clear hi)) | (go_at_call 5; (with_reducible refine (z23.calls k _ _ l0 t314 _ ?side1 ?side2 A7.out).mono ?_); (case side1 => repeat (first | exact (Kd.C_below HR0.out HB.out) | (with_reducible refine Kd.C_alloc ?_ _) | (with_reducible refine Kd.C_drewN ?_ _) | (with_reducible refine Kd.C_drew ?_))); (case side2 => exact HC0.out); rintro e w' ⟨rfl, ⟨nd, rfl⟩⟩) | (go_at_call 5; (with_reducible refine (z23.calls k _ _ l1 t315 _ ?side1 ?side2 A10.out).mono ?_); (case side1 => repeat (first | exact (Kd.C_below HR1.out (by repeat (first | (with_reducible first | exact HB.out | apply qA | apply qN | apply qD) | exact HB.out))) | (with_reducible refine Kd.C_alloc ?_ _) | (with_reducible refine Kd.C_drewN ?_ _) | (with_reducible refine Kd.C_drew ?_))); (case side2 => exact HC1.out); rintro e w' ⟨rfl, ⟨nd, rfl⟩⟩))
    go_meet
    case rel => exact ⟨_, ((t315 == 0)), (by first | rfl | (simp; done) | (simp [*]; done)), H', ⟨by first | omega | exact Nat.le_refl _⟩, ⟨by repeat (first | (with_reducible first | exact HB.out | apply qA | apply qN | apply qD) | exact HB.out)⟩⟩
  ·replace c6 := Bool.eq_false_iff.mpr c6
   subst c6
   have H1 : (z2.j0 k l0 l1 a2 true) = some r := by rw [if_neg (show ¬ (false = true) by decide)] at H; exact H
   clear H
   have H := H1
   clear H1
   have H' := Aside0.mk H
   clear H
   go_wp2_with (first | ((with_reducible refine qg (f := 4) rfl ?_); refine goesL_ (some 10) rfl rfl Tryz.func4 (by kernel_rfl) rfl #[] rfl (by (try simp only [List.map_toArray, List.map_cons, List.map_nil]); first | done | rfl | (simp only [List.length_drop, List.length_take]; rfl)) ?_; (with_reducible refine (z12.calls k  false _ ?side1 A5.out).mono ?_); (case side1 => exact Gl.below HG_.out (by repeat (first | (with_reducible first | exact HB.out | apply qA | apply qN | apply qD) | exact HB.out))); rintro e w12 ⟨rfl, hb⟩; refine ⟨_, rfl, ?_⟩; have n0_ := Aside0.mk (qT (by repeat (first | (with_reducible first | exact HB.out | apply qA | apply qN | apply qD) | exact HB.out)) hb); clear HB; have HB := n0_; clear n0_; (try clear hb); (try clear hb2); (try clear hk); (try clear hi)))
   go_meet
   case rel => exact ⟨_, (true), (by first | rfl | (simp; done) | (simp [*]; done)), H', ⟨by first | omega | exact Nat.le_refl _⟩, ⟨by repeat (first | (with_reducible first | exact HB.out | apply qA | apply qN | apply qD) | exact HB.out)⟩⟩
 case rest =>
  clear HC4
  try clear c1
  try clear p2
  try clear c3
  try clear c4
  try clear c6
  try clear c8
  try clear c8b0
  try clear c8b1
  obtain ⟨kq, x21_3, rfl, HA, HJ3, HB⟩ := hcut
  cases kq with
  | zero => exact absurd HA.out (by simp [z2.j0])
  | succ kj3 =>
   have H := HA.out
   clear HA
   simp only [z2.j0] at H
   by_cases c13 : x21_3 = true
   ·subst c13
    have H1 : ((z12.f kj3).bind fun t316 => (some t316)) = some r := by rw [if_pos rfl] at H; exact H
    clear H
    have H := H1
    clear H1
    replace H := Option.bind_eq_some_iff.mp H
    obtain ⟨t316, A140, H⟩ := H
    replace H : (some t316) = some r := H
    have A14 := Aside0.mk A140
    clear A140
    obtain rfl := Option.some.inj H
    go_wp2_with (first | ((with_reducible refine qg (f := 4) rfl ?_); refine goesL_ (some 22) rfl rfl Tryz.func4 (by kernel_rfl) rfl #[] rfl (by (try simp only [List.map_toArray, List.map_cons, List.map_nil]); first | done | rfl | (simp only [List.length_drop, List.length_take]; rfl)) ?_; (with_reducible refine (z12.calls kj3  t316 _ ?side1 A14.out).mono ?_); (case side1 => exact Gl.below HG_.out (by repeat (first | (with_reducible first | exact HB.out | apply qA | apply qN | apply qD) | exact HB.out))); rintro e w15 ⟨rfl, hb⟩; refine ⟨_, rfl, ?_⟩; have n0_ := Aside0.mk (qT (by repeat (first | (with_reducible first | exact HB.out | apply qA | apply qN | apply qD) | exact HB.out)) hb); clear HB; have HB := n0_; clear n0_; (try clear hb); (try clear hb2); (try clear hk); (try clear hi)))
    go_ret
    exact ⟨by first | rfl | (simp [qn, qe] <;> rfl) | (simp [*, qn, qe] <;> rfl), by repeat (first | (with_reducible first | exact HB.out | apply qA | apply qN | apply qD) | exact HB.out)⟩
   ·replace c13 := Bool.eq_false_iff.mpr c13
    subst c13
    have H1 : ((z39.f kj3 l0 l1 a2).bind fun bt317 => ((z14.f kj3 l0).bind fun t323 => (if t323 = true then ((z14.f kj3 l1).bind fun t324 => (z2.j1 kj3 l0 l1 a2 bt317.1 bt317.2 (!t324))) else (z2.j1 kj3 l0 l1 a2 bt317.1 bt317.2 true)))) = some r := by rw [if_neg (show ¬ (false = true) by decide)] at H; exact H
    clear H
    have H := H1
    clear H1
    replace H := Option.bind_eq_some_iff.mp H
    obtain ⟨⟨t317, t320⟩, A160, H⟩ := H
    replace H : ((z14.f kj3 l0).bind fun t323 => (if t323 = true then ((z14.f kj3 l1).bind fun t324 => (z2.j1 kj3 l0 l1 a2 t317 t320 (!t324))) else (z2.j1 kj3 l0 l1 a2 t317 t320 true))) = some r := H
    have A16 := Aside0.mk A160
    clear A160
    have HC17 := Aside0.mk H
    clear H
    go_upto_region 4 with (first | ((with_reducible refine qg (f := 6) rfl ?_); refine goesL_ (some 27) rfl rfl Tryz.func6 (by kernel_rfl) rfl #[.slice A0 l0.length c0, .slice A1 l1.length c1, .bool a2] rfl (by (try simp only [List.map_toArray, List.map_cons, List.map_nil]); first | done | rfl | (simp only [List.length_drop, List.length_take]; rfl)) ?_; (with_reducible refine (z39.calls kj3 (fun k_ => k_ < w.heap.size) _ _ l0 _ _ l1 a2 t317 t320 _ ?side1 ?side2 ?side3 A16.out).mono ?_); (case side1 => exact Kd.V_mk HC0.out (Kd.F_below (Kd.C_F k35_heap HR0.out) (by repeat (first | (with_reducible first | exact HB.out | apply qA | apply qN | apply qD) | exact HB.out)))); (case side2 => repeat (first | exact (Kd.C_below HR1.out HB.out) | (with_reducible refine Kd.C_alloc ?_ _) | (with_reducible refine Kd.C_drewN ?_ _) | (with_reducible refine Kd.C_drew ?_))); (case side3 => exact HC1.out); rintro e w18 ⟨v318, v321, rfl, ho0, ho1, hb⟩; refine ⟨_, rfl, ?_⟩; have n0_ := Aside0.mk (Kd.R_lower (Kd.R_mono (ok' := fun k_ => True) ho0 (fun _ hk_ => trivial)) (qZ (by repeat (first | (with_reducible first | exact HB.out | apply qA | apply qN | apply qD) | exact HB.out)))); have n1_ := Aside0.mk (Kd.R_lower (Kd.R_mono (ok' := fun k_ => True) ho1 (fun _ hk_ => trivial)) (qZ (by repeat (first | (with_reducible first | exact HB.out | apply qA | apply qN | apply qD) | exact HB.out)))); have n2_ := Aside0.mk (qT (by repeat (first | (with_reducible first | exact HB.out | apply qA | apply qN | apply qD) | exact HB.out)) hb); clear HB; have HO319 := n0_; have HO322 := n1_; have HB := n2_; clear n0_ n1_ n2_; (try clear hb); (try clear hb2); (try clear hk); (try clear hi); (try clear ho0); (try clear ho1); have hE_v321 := errNil_of HO322.out))
    (try simp only [Act.put, sT, sZ, sS])
    go_cut [37] (fun v37 wc => ∃ (kq : Nat) (x37_16 : Bool), v37 = .bool x37_16 ∧ Aside0 (z2.j1 kq l0 l1 a2 t317 t320 x37_16 = some r) ∧ Aside0 (kq ≤ kj3) ∧ Aside0 (Kd.R k35 35 wc w.heap.size (fun _ => True) v318 t317) ∧ Aside0 (Kd.R kdF 53 wc w.heap.size (fun _ => True) v321 t320) ∧ Aside0 (Below w.heap.size w wc))
    case first =>
     have H := HC17.out
     clear HC17
     replace H := Option.bind_eq_some_iff.mp H
     obtain ⟨t323, A190, H⟩ := H
     replace H : (if t323 = true then ((z14.f kj3 l1).bind fun t324 => (z2.j1 kj3 l0 l1 a2 t317 t320 (!t324))) else (z2.j1 kj3 l0 l1 a2 t317 t320 true)) = some r := H
     have A19 := Aside0.mk A190
     clear A190
     by_cases c20 : t323 = true
     ·subst c20
      have H1 : ((z14.f kj3 l1).bind fun t324 => (z2.j1 kj3 l0 l1 a2 t317 t320 (!t324))) = some r := by rw [if_pos rfl] at H; exact H
      clear H
      have H := H1
      clear H1
      replace H := Option.bind_eq_some_iff.mp H
      obtain ⟨t324, A210, H⟩ := H
      replace H : (z2.j1 kj3 l0 l1 a2 t317 t320 (!t324)) = some r := H
      have A21 := Aside0.mk A210
      clear A210
      have H' := Aside0.mk H
      clear H
      go_wp2_with (first | ((with_reducible refine qg (f := 7) rfl ?_); refine goesL_ (some 31) rfl rfl Tryz.func7 (by kernel_rfl) rfl #[.slice A0 l0.length c0] rfl (by (try simp only [List.map_toArray, List.map_cons, List.map_nil]); first | done | rfl | (simp only [List.length_drop, List.length_take]; rfl)) ?_; (with_reducible refine (z14.calls kj3 _ _ l0 true _ ?side1 ?side2 A19.out).mono ?_); (case side1 => repeat (first | exact (Kd.C_below HR0.out HB.out) | (with_reducible refine Kd.C_alloc ?_ _) | (with_reducible refine Kd.C_drewN ?_ _) | (with_reducible refine Kd.C_drew ?_))); (case side2 => exact HC0.out); rintro e w22 ⟨rfl, hb⟩; refine ⟨_, rfl, ?_⟩; have n0_ := Aside0.mk (Kd.R_below (by (with_reducible repeat (first | apply Kd.R_alloc | apply Kd.R_drewN | apply Kd.R_drew)); exact HO319.out) hb); have n1_ := Aside0.mk (Kd.R_below (by (with_reducible repeat (first | apply Kd.R_alloc | apply Kd.R_drewN | apply Kd.R_drew)); exact HO322.out) hb); have n2_ := Aside0.mk (qT (by repeat (first | (with_reducible first | exact HB.out | apply qA | apply qN | apply qD) | exact HB.out)) hb); clear HO319; clear HO322; clear HB; have HO319 := n0_; have HO322 := n1_; have HB := n2_; clear n0_ n1_ n2_; (try clear hb); (try clear hb2); (try clear hk); (try clear hi)) | (go_at_call 7; (with_reducible refine (z14.calls kj3 _ _ l1 t324 _ ?side1 ?side2 A21.out).mono ?_); (case side1 => repeat (first | exact (Kd.C_below HR1.out HB.out) | (with_reducible refine Kd.C_alloc ?_ _) | (with_reducible refine Kd.C_drewN ?_ _) | (with_reducible refine Kd.C_drew ?_))); (case side2 => exact HC1.out); rintro e w23 ⟨rfl, hb⟩; have n0_ := Aside0.mk (Kd.R_below (by (with_reducible repeat (first | apply Kd.R_alloc | apply Kd.R_drewN | apply Kd.R_drew)); exact HO319.out) hb); have n1_ := Aside0.mk (Kd.R_below (by (with_reducible repeat (first | apply Kd.R_alloc | apply Kd.R_drewN | apply Kd.R_drew)); exact HO322.out) hb); have n2_ := Aside0.mk (qT (by repeat (first | (with_reducible first | exact HB.out | apply qA | apply qN | apply qD) | exact HB.out)) hb); clear HO319; clear HO322; clear HB; have HO319 := n0_; have HO322 := n1_; have HB := n2_; clear n0_ n1_ n2_; (try clear hb); (try clear hb2); (try clear hk); (try clear hi)))
      go_meet
      case rel => exact ⟨_, (!t324), (by first | rfl | (simp; done) | (simp [*]; done)), H', ⟨by have := HJ3.out; first | omega | exact Nat.le_refl _⟩, ⟨by (with_reducible repeat (first | apply Kd.R_alloc | apply Kd.R_drewN | apply Kd.R_drew)); exact HO319.out⟩, ⟨by (with_reducible repeat (first | apply Kd.R_alloc | apply Kd.R_drewN | apply Kd.R_drew)); exact HO322.out⟩, ⟨by repeat (first | (with_reducible first | exact HB.out | apply qA | apply qN | apply qD) | exact HB.out)⟩⟩
     ·replace c20 := Bool.eq_false_iff.mpr c20
      subst c20
      have H1 : (z2.j1 kj3 l0 l1 a2 t317 t320 true) = some r := by rw [if_neg (show ¬ (false = true) by decide)] at H; exact H
      clear H
      have H := H1
      clear H1
      have H' := Aside0.mk H
      clear H
      go_wp2_with (first | ((with_reducible refine qg (f := 7) rfl ?_); refine goesL_ (some 31) rfl rfl Tryz.func7 (by kernel_rfl) rfl #[.slice A0 l0.length c0] rfl (by (try simp only [List.map_toArray, List.map_cons, List.map_nil]); first | done | rfl | (simp only [List.length_drop, List.length_take]; rfl)) ?_; (with_reducible refine (z14.calls kj3 _ _ l0 false _ ?side1 ?side2 A19.out).mono ?_); (case side1 => repeat (first | exact (Kd.C_below HR0.out HB.out) | (with_reducible refine Kd.C_alloc ?_ _) | (with_reducible refine Kd.C_drewN ?_ _) | (with_reducible refine Kd.C_drew ?_))); (case side2 => exact HC0.out); rintro e w24 ⟨rfl, hb⟩; refine ⟨_, rfl, ?_⟩; have n0_ := Aside0.mk (Kd.R_below (by (with_reducible repeat (first | apply Kd.R_alloc | apply Kd.R_drewN | apply Kd.R_drew)); exact HO319.out) hb); have n1_ := Aside0.mk (Kd.R_below (by (with_reducible repeat (first | apply Kd.R_alloc | apply Kd.R_drewN | apply Kd.R_drew)); exact HO322.out) hb); have n2_ := Aside0.mk (qT (by repeat (first | (with_reducible first | exact HB.out | apply qA | apply qN | apply qD) | exact HB.out)) hb); clear HO319; clear HO322; clear HB; have HO319 := n0_; have HO322 := n1_; have HB := n2_; clear n0_ n1_ n2_; (try clear hb); (try clear hb2); (try clear hk); (try clear hi)))
      go_meet
      case rel => exact ⟨_, (true), (by first | rfl | (simp; done) | (simp [*]; done)), H', ⟨by have := HJ3.out; first | omega | exact Nat.le_refl _⟩, ⟨by (with_reducible repeat (first | apply Kd.R_alloc | apply Kd.R_drewN | apply Kd.R_drew)); exact HO319.out⟩, ⟨by (with_reducible repeat (first | apply Kd.R_alloc | apply Kd.R_drewN | apply Kd.R_drew)); exact HO322.out⟩, ⟨by repeat (first | (with_reducible first | exact HB.out | apply qA | apply qN | apply qD) | exact HB.out)⟩⟩
    case rest =>
     clear HC17
     try clear c1
     try clear c2
     try clear p2
     try clear c3
     try clear c4
     try clear c6
     try clear c7
     try clear c8
     try clear c8b0
     try clear c8b1
     try clear c13
     try clear c20
     try clear p2
     obtain ⟨kq, x37_16, rfl, HA, HJ16, HO_7, HO_8, HB⟩ := hcut
     cases kq with
     | zero => exact absurd HA.out (by simp [z2.j1])
     | succ kj16 =>
      have H := HA.out
      clear HA
      simp only [z2.j1] at H
      by_cases c25 : x37_16 = true
      ·subst c25
       have H1 : ((z38.f t320).bind fun t325 => (if t325 = 16 then (some ((t317.length : Int) == 0)) else (some false))) = some r := by rw [if_pos rfl] at H; exact H
       clear H
       have H := H1
       clear H1
       replace H := Option.bind_eq_some_iff.mp H
       obtain ⟨t325, A260, H⟩ := H
       replace H : (if t325 = 16 then (some ((t317.length : Int) == 0)) else (some false)) = some r := H
       have A26 := Aside0.mk A260
       clear A260
       by_cases c27 : t325 = 16
       ·rw [if_pos c27] at H
        have c27b0 : (t325 == 16) = true := beq_iff_eq.mpr c27
        have c27b1 : (t325 != 16) = false := bne_eq_false_iff_eq.mpr c27
        clear c27
        obtain rfl := Option.some.inj H
        obtain ⟨Ao28, co28, eo28⟩ := Kd.R_slice HO_8.out
        subst eo28
        go_wp2_with (first | ((with_reducible refine qg (f := 8) rfl ?_); refine goesL_ (some 39) rfl rfl Tryz.func8 (by kernel_rfl) rfl #[(errV (.slice Ao28 t320.length co28))] rfl (by (try simp only [List.map_toArray, List.map_cons, List.map_nil]); first | done | rfl | (simp only [List.length_drop, List.length_take]; rfl)) ?_; (with_reducible refine (z38.calls _ _ t320 t325 _ ?side1 ?side2 ?side3 A26.out).mono ?_); (case side1 => repeat (first | exact (Kd.R_reads' HO_8.out).2.2 | (with_reducible refine Kd.C_alloc ?_ _) | (with_reducible refine Kd.C_drewN ?_ _) | (with_reducible refine Kd.C_drew ?_))); (case side2 => exact (Kd.R_reads' HO_8.out).2.1); (case side3 => exact Gl.below HG_.out (by repeat (first | (with_reducible first | exact HB.out | apply qA | apply qN | apply qD) | exact HB.out))); rintro e w29 ⟨rfl, hb⟩; refine ⟨_, rfl, ?_⟩; have n0_ := Aside0.mk (Kd.R_below (by (with_reducible repeat (first | apply Kd.R_alloc | apply Kd.R_drewN | apply Kd.R_drew)); exact HO_7.out) hb); have n1_ := Aside0.mk (Kd.R_below (by (with_reducible repeat (first | apply Kd.R_alloc | apply Kd.R_drewN | apply Kd.R_drew)); exact HO_8.out) hb); have n2_ := Aside0.mk (qT (by repeat (first | (with_reducible first | exact HB.out | apply qA | apply qN | apply qD) | exact HB.out)) hb); clear HO_7; clear HO_8; clear HB; have HO_7 := n0_; have HO_8 := n1_; have HB := n2_; clear n0_ n1_ n2_; (try clear hb); (try clear hb2); (try clear hk); (try clear hi); obtain ⟨Ao30, co30, eo30⟩ := Kd.R_slice HO_7.out; subst eo30))
        go_ret
        exact ⟨by first | rfl | (simp [qn, qe] <;> rfl) | (simp [*, qn, qe] <;> rfl), by repeat (first | (with_reducible first | exact HB.out | apply qA | apply qN | apply qD) | exact HB.out)⟩
       ·rw [if_neg c27] at H
        have c27b0 : (t325 == 16) = false := beq_eq_false_iff_ne.mpr c27
        have c27b1 : (t325 != 16) = true := bne_iff_ne.mpr c27
        exact Bool.noConfusion ((Option.some.inj H).trans HRR_.out)
      ·replace c25 := Bool.eq_false_iff.mpr c25
       subst c25
       have H1 : ((z25.f kj16 l0 l1 a2).bind fun t326 => (if (t326.length : Int) > 64 then ((z38.f t320).bind fun t329 => (if t329 = 9 then (some ((t317.length : Int) == 0)) else (some false))) else ((z38.f t320).bind fun t330 => (if t330 = 0 then ((z16.f kj16 t317 t326).bind fun t331 => (if t331 = 1 then ((z32.f kj16 t317).bind fun t332 => (some t332)) else (some false))) else (some false))))) = some r := by rw [if_neg (show ¬ (false = true) by decide)] at H; exact H
       clear H
       have H := H1
       clear H1
       replace H := Option.bind_eq_some_iff.mp H
       obtain ⟨t326, A310, H⟩ := H
       replace H : (if (t326.length : Int) > 64 then ((z38.f t320).bind fun t329 => (if t329 = 9 then (some ((t317.length : Int) == 0)) else (some false))) else ((z38.f t320).bind fun t330 => (if t330 = 0 then ((z16.f kj16 t317 t326).bind fun t331 => (if t331 = 1 then ((z32.f kj16 t317).bind fun t332 => (some t332)) else (some false))) else (some false)))) = some r := H
       have A31 := Aside0.mk A310
       clear A310
       by_cases c32 : (t326.length : Int) > 64
       ·rw [if_pos c32] at H
        have c32b0 : decide (64 < (t326.length : Int)) = true := decide_eq_true c32
        have c32b1 : decide (64 < t326.length) = true := decide_eq_true (by omega)
        clear c32
        replace H := Option.bind_eq_some_iff.mp H
        obtain ⟨t329, A330, H⟩ := H
        replace H : (if t329 = 9 then (some ((t317.length : Int) == 0)) else (some false)) = some r := H
        have A33 := Aside0.mk A330
        clear A330
        by_cases c34 : t329 = 9
        ·rw [if_pos c34] at H
         have c34b0 : (t329 == 9) = true := beq_iff_eq.mpr c34
         have c34b1 : (t329 != 9) = false := bne_eq_false_iff_eq.mpr c34
         clear c34
         obtain rfl := Option.some.inj H
         go_wp2_with (first | ((with_reducible refine qg (f := 9) rfl ?_); refine goesL_ (some 49) rfl rfl Tryz.func9 (by kernel_rfl) rfl #[.slice A0 l0.length c0, .slice A1 l1.length c1, .bool a2] rfl (by (try simp only [List.map_toArray, List.map_cons, List.map_nil]); first | done | rfl | (simp only [List.length_drop, List.length_take]; rfl)) ?_; (with_reducible refine (z25.calls kj16 _ _ l0 _ _ l1 a2 t326 _ ?side1 ?side2 ?side3 ?side4 A31.out).mono ?_); (case side1 => repeat (first | exact (Kd.C_below HR0.out HB.out) | (with_reducible refine Kd.C_alloc ?_ _) | (with_reducible refine Kd.C_drewN ?_ _) | (with_reducible refine Kd.C_drew ?_))); (case side2 => exact HC0.out); (case side3 => repeat (first | exact (Kd.C_below HR1.out HB.out) | (with_reducible refine Kd.C_alloc ?_ _) | (with_reducible refine Kd.C_drewN ?_ _) | (with_reducible refine Kd.C_drew ?_))); (case side4 => exact HC1.out); rintro e w35 ⟨v327, rfl, ho0, hb⟩; refine ⟨_, rfl, ?_⟩; have n0_ := Aside0.mk (Kd.R_elder' (by (with_reducible repeat (first | apply Kd.R_alloc | apply Kd.R_drewN | apply Kd.R_drew)); exact HO_7.out) (Kd.R_base ho0) hb); have n1_ := Aside0.mk (Kd.R_below (by (with_reducible repeat (first | apply Kd.R_alloc | apply Kd.R_drewN | apply Kd.R_drew)); exact HO_8.out) hb); have n2_ := Aside0.mk (Kd.R_lower (Kd.R_new' ho0 (Kd.R_lt (by (with_reducible repeat (first | apply Kd.R_alloc | apply Kd.R_drewN | apply Kd.R_drew)); exact HO_7.out))) (qZ (by repeat (first | (with_reducible first | exact HB.out | apply qA | apply qN | apply qD) | exact HB.out)))); have n3_ := Aside0.mk (qT (by repeat (first | (with_reducible first | exact HB.out | apply qA | apply qN | apply qD) | exact HB.out)) hb); clear HO_7; clear HO_8; clear HB; have HO_7 := n0_; have HO_8 := n1_; have HO328 := n2_; have HB := n3_; clear n0_ n1_ n2_ n3_; (try clear hb); (try clear hb2); (try clear hk); (try clear hi); (try clear ho0); obtain ⟨Ao36, co36, eo36⟩ := Kd.R_slice HO328.out; subst eo36; obtain ⟨Ao37, co37, eo37⟩ := Kd.R_slice HO_8.out; subst eo37) | ((with_reducible refine qg (f := 8) rfl ?_); refine goesL_ (some 54) rfl rfl Tryz.func8 (by kernel_rfl) rfl #[(errV (.slice Ao37 t320.length co37))] rfl (by (try simp only [List.map_toArray, List.map_cons, List.map_nil]); first | done | rfl | (simp only [List.length_drop, List.length_take]; rfl)) ?_; (with_reducible refine (z38.calls _ _ t320 t329 _ ?side1 ?side2 ?side3 A33.out).mono ?_); (case side1 => repeat (first | exact (Kd.R_reads' HO_8.out).2.2 | (with_reducible refine Kd.C_alloc ?_ _) | (with_reducible refine Kd.C_drewN ?_ _) | (with_reducible refine Kd.C_drew ?_))); (case side2 => exact (Kd.R_reads' HO_8.out).2.1); (case side3 => exact Gl.below HG_.out (by repeat (first | (with_reducible first | exact HB.out | apply qA | apply qN | apply qD) | exact HB.out))); rintro e w38 ⟨rfl, hb⟩; refine ⟨_, rfl, ?_⟩; have n0_ := Aside0.mk (Kd.R_below (by (with_reducible repeat (first | apply Kd.R_alloc | apply Kd.R_drewN | apply Kd.R_drew)); exact HO_7.out) hb); have n1_ := Aside0.mk (Kd.R_below (by (with_reducible repeat (first | apply Kd.R_alloc | apply Kd.R_drewN | apply Kd.R_drew)); exact HO_8.out) hb); have n2_ := Aside0.mk (Kd.R_below (by (with_reducible repeat (first | apply Kd.R_alloc | apply Kd.R_drewN | apply Kd.R_drew)); exact HO328.out) hb); have n3_ := Aside0.mk (qT (by repeat (first | (with_reducible first | exact HB.out | apply qA | apply qN | apply qD) | exact HB.out)) hb); clear HO_7; clear HO_8; clear HO328; clear HB; have HO_7 := n0_; have HO_8 := n1_; have HO328 := n2_; have HB := n3_; clear n0_ n1_ n2_ n3_; (try clear hb); (try clear hb2); (try clear hk); (try clear hi); obtain ⟨Ao39, co39, eo39⟩ := Kd.R_slice HO_7.out; subst eo39))
         go_ret
         exact ⟨by first | rfl | (simp [qn, qe] <;> rfl) | (simp [*, qn, qe] <;> rfl), by repeat (first | (with_reducible first | exact HB.out | apply qA | apply qN | apply qD) | exact HB.out)⟩
        ·rw [if_neg c34] at H
         have c34b0 : (t329 == 9) = false := beq_eq_false_iff_ne.mpr c34
         have c34b1 : (t329 != 9) = true := bne_iff_ne.mpr c34
         exact Bool.noConfusion ((Option.some.inj H).trans HRR_.out)
       ·rw [if_neg c32] at H
        have c32b0 : decide (64 < (t326.length : Int)) = false := decide_eq_false c32
        have c32b1 : decide (64 < t326.length) = false := decide_eq_false (by omega)
        clear c32
        replace H := Option.bind_eq_some_iff.mp H
        obtain ⟨t330, A400, H⟩ := H
        replace H : (if t330 = 0 then ((z16.f kj16 t317 t326).bind fun t331 => (if t331 = 1 then ((z32.f kj16 t317).bind fun t332 => (some t332)) else (some false))) else (some false)) = some r := H
        have A40 := Aside0.mk A400
        clear A400
        by_cases c41 : t330 = 0
        ·rw [if_pos c41] at H
         have c41b0 : (t330 == 0) = true := beq_iff_eq.mpr c41
         have c41b1 : (t330 != 0) = false := bne_eq_false_iff_eq.mpr c41
         clear c41
         replace H := Option.bind_eq_some_iff.mp H
         obtain ⟨t331, A420, H⟩ := H
         replace H : (if t331 = 1 then ((z32.f kj16 t317).bind fun t332 => (some t332)) else (some false)) = some r := H
         have A42 := Aside0.mk A420
         clear A420
         by_cases c43 : t331 = 1
         ·rw [if_pos c43] at H
          have c43b0 : (t331 == 1) = true := beq_iff_eq.mpr c43
          have c43b1 : (t331 != 1) = false := bne_eq_false_iff_eq.mpr c43
          clear c43
          replace H := Option.bind_eq_some_iff.mp H
          obtain ⟨t332, A440, H⟩ := H
          replace H : (some t332) = some r := H
          have A44 := Aside0.mk A440
          clear A440
          obtain rfl := Option.some.inj H
          go_wp2_with (first | ((with_reducible refine qg (f := 9) rfl ?_); refine goesL_ (some 49) rfl rfl Tryz.func9 (by kernel_rfl) rfl #[.slice A0 l0.length c0, .slice A1 l1.length c1, .bool a2] rfl (by (try simp only [List.map_toArray, List.map_cons, List.map_nil]); first | done | rfl | (simp only [List.length_drop, List.length_take]; rfl)) ?_; (with_reducible refine (z25.calls kj16 _ _ l0 _ _ l1 a2 t326 _ ?side1 ?side2 ?side3 ?side4 A31.out).mono ?_); (case side1 => repeat (first | exact (Kd.C_below HR0.out HB.out) | (with_reducible refine Kd.C_alloc ?_ _) | (with_reducible refine Kd.C_drewN ?_ _) | (with_reducible refine Kd.C_drew ?_))); (case side2 => exact HC0.out); (case side3 => repeat (first | exact (Kd.C_below HR1.out HB.out) | (with_reducible refine Kd.C_alloc ?_ _) | (with_reducible refine Kd.C_drewN ?_ _) | (with_reducible refine Kd.C_drew ?_))); (case side4 => exact HC1.out); rintro e w45 ⟨v327, rfl, ho0, hb⟩; refine ⟨_, rfl, ?_⟩; have n0_ := Aside0.mk (Kd.R_elder' (by (with_reducible repeat (first | apply Kd.R_alloc | apply Kd.R_drewN | apply Kd.R_drew)); exact HO_7.out) (Kd.R_base ho0) hb); have n1_ := Aside0.mk (Kd.R_below (by (with_reducible repeat (first | apply Kd.R_alloc | apply Kd.R_drewN | apply Kd.R_drew)); exact HO_8.out) hb); have n2_ := Aside0.mk (Kd.R_lower (Kd.R_new' ho0 (Kd.R_lt (by (with_reducible repeat (first | apply Kd.R_alloc | apply Kd.R_drewN | apply Kd.R_drew)); exact HO_7.out))) (qZ (by repeat (first | (with_reducible first | exact HB.out | apply qA | apply qN | apply qD) | exact HB.out)))); have n3_ := Aside0.mk (qT (by repeat (first | (with_reducible first | exact HB.out | apply qA | apply qN | apply qD) | exact HB.out)) hb); clear HO_7; clear HO_8; clear HB; have HO_7 := n0_; have HO_8 := n1_; have HO328 := n2_; have HB := n3_; clear n0_ n1_ n2_ n3_; (try clear hb); (try clear hb2); (try clear hk); (try clear hi); (try clear ho0); obtain ⟨Ao46, co46, eo46⟩ := Kd.R_slice HO328.out; subst eo46; obtain ⟨Ao47, co47, eo47⟩ := Kd.R_slice HO_8.out; subst eo47) | ((with_reducible refine qg (f := 8) rfl ?_); refine goesL_ (some 62) rfl rfl Tryz.func8 (by kernel_rfl) rfl #[(errV (.slice Ao47 t320.length co47))] rfl (by (try simp only [List.map_toArray, List.map_cons, List.map_nil]); first | done | rfl | (simp only [List.length_drop, List.length_take]; rfl)) ?_; (with_reducible refine (z38.calls _ _ t320 t330 _ ?side1 ?side2 ?side3 A40.out).mono ?_); (case side1 => repeat (first | exact (Kd.R_reads' HO_8.out).2.2 | (with_reducible refine Kd.C_alloc ?_ _) | (with_reducible refine Kd.C_drewN ?_ _) | (with_reducible refine Kd.C_drew ?_))); (case side2 => exact (Kd.R_reads' HO_8.out).2.1); (case side3 => exact Gl.below HG_.out (by repeat (first | (with_reducible first | exact HB.out | apply qA | apply qN | apply qD) | exact HB.out))); rintro e w48 ⟨rfl, hb⟩; refine ⟨_, rfl, ?_⟩; have n0_ := Aside0.mk (Kd.R_below (by (with_reducible repeat (first | apply Kd.R_alloc | apply Kd.R_drewN | apply Kd.R_drew)); exact HO_7.out) hb); have n1_ := Aside0.mk (Kd.R_below (by (with_reducible repeat (first | apply Kd.R_alloc | apply Kd.R_drewN | apply Kd.R_drew)); exact HO_8.out) hb); have n2_ := Aside0.mk (Kd.R_below (by (with_reducible repeat (first | apply Kd.R_alloc | apply Kd.R_drewN | apply Kd.R_drew)); exact HO328.out) hb); have n3_ := Aside0.mk (qT (by repeat (first | (with_reducible first | exact HB.out | apply qA | apply qN | apply qD) | exact HB.out)) hb); clear HO_7; clear HO_8; clear HO328; clear HB; have HO_7 := n0_; have HO_8 := n1_; have HO328 := n2_; have HB := n3_; clear n0_ n1_ n2_ n3_; (try clear hb); (try clear hb2); (try clear hk); (try clear hi); obtain ⟨Ao49, co49, eo49⟩ := Kd.R_slice HO_7.out; subst eo49) | (go_at_call 10; (with_reducible refine (z16.calls kj16 _ _ t317 _ _ t326 t331 _ ?side1 ?side2 ?side3 ?side4 A42.out).mono ?_); (case side1 => repeat (first | exact (Kd.R_reads' HO_7.out).2.2 | (with_reducible refine Kd.C_alloc ?_ _) | (with_reducible refine Kd.C_drewN ?_ _) | (with_reducible refine Kd.C_drew ?_))); (case side2 => exact (Kd.R_reads' HO_7.out).2.1); (case side3 => repeat (first | exact (Kd.R_reads' HO328.out).2.2 | (with_reducible refine Kd.C_alloc ?_ _) | (with_reducible refine Kd.C_drewN ?_ _) | (with_reducible refine Kd.C_drew ?_))); (case side4 => exact (Kd.R_reads' HO328.out).2.1); rintro e w' ⟨rfl, ⟨nd, rfl⟩⟩) | (go_at_call 11; (with_reducible refine (z32.calls kj16 _ _ t317 t332 _ ?side1 ?side2 A44.out).mono ?_); (case side1 => repeat (first | exact (Kd.R_reads' HO_7.out).2.2 | (with_reducible refine Kd.C_alloc ?_ _) | (with_reducible refine Kd.C_drewN ?_ _) | (with_reducible refine Kd.C_drew ?_))); (case side2 => exact (Kd.R_reads' HO_7.out).2.1); rintro e w50 ⟨rfl, hb⟩; have n0_ := Aside0.mk (Kd.R_below (by (with_reducible repeat (first | apply Kd.R_alloc | apply Kd.R_drewN | apply Kd.R_drew)); exact HO_7.out) hb); have n1_ := Aside0.mk (Kd.R_below (by (with_reducible repeat (first | apply Kd.R_alloc | apply Kd.R_drewN | apply Kd.R_drew)); exact HO_8.out) hb); have n2_ := Aside0.mk (Kd.R_below (by (with_reducible repeat (first | apply Kd.R_alloc | apply Kd.R_drewN | apply Kd.R_drew)); exact HO328.out) hb); have n3_ := Aside0.mk (qT (by repeat (first | (with_reducible first | exact HB.out | apply qA | apply qN | apply qD) | exact HB.out)) hb); clear HO_7; clear HO_8; clear HO328; clear HB; have HO_7 := n0_; have HO_8 := n1_; have HO328 := n2_; have HB := n3_; clear n0_ n1_ n2_ n3_; (try clear hb); (try clear hb2); (try clear hk); (try clear hi)))
          go_ret
          exact ⟨by first | rfl | (simp [qn, qe] <;> rfl) | (simp [*, qn, qe] <;> rfl), by repeat (first | (with_reducible first | exact HB.out | apply qA | apply qN | apply qD) | exact HB.out)⟩
         ·rw [if_neg c43] at H
          have c43b0 : (t331 == 1) = false := beq_eq_false_iff_ne.mpr c43
          have c43b1 : (t331 != 1) = true := bne_iff_ne.mpr c43
          exact Bool.noConfusion ((Option.some.inj H).trans HRR_.out)
        ·rw [if_neg c41] at H
         have c41b0 : (t330 == 0) = false := beq_eq_false_iff_ne.mpr c41
         have c41b1 : (t330 != 0) = true := bne_iff_ne.mpr c41
         exact Bool.noConfusion ((Option.some.inj H).trans HRR_.out)

end Go.Proofs.YtljndnmmnkpmnaaGreatDoor.Print
