import Derived.Test.YtjlflmjimibciaaGreatDoorPrint0
import Derived.Test.YtjlflmjimibciaaGreatDoorPrint1
namespace Go.Proofs.YtjlflmjimibciaaGreatDoor.Print
open Go.RowKit Go.Proofs.YtjlflmjimibciaaGreatDoorW.PrintWords Go.Proofs.YtjlflmjimibciaaGreatDoorW.PrintLast Go.Proofs.YtjlflmjimibciaaGreatDoorW.PrintMore
attribute [local go_sem] max2_int min2_int max_two min_two max_three min_three max_four min_four   -- for this text's walks alone
set_option linter.unusedVariables false
set_option linter.unusedSimpArgs false
def shaleref16_Left.l0 : Nat → Int → List Int → Int → Option (Int)
 | 0, _, _, _ => none
 | k + 1, x0, x1, x5 => if x5 < (x1.length : Int) then (if 0 ≤ x5 then (if (rd x1 x5) ≥ x0 then (some 0) else (if (rd x1 x5) > 0 then (shaleref16_Left.l0 k (wrap64 (x0 - (rd x1 x5))) x1 (wrap64 (x5 + 1))) else (shaleref16_Left.l0 k x0 x1 (wrap64 (x5 + 1))))) else (none)) else (some x0)
def shaleref16_Left.f (k : Nat) (a0 : Int) (l1 : List Int) : Option (Int) := shaleref16_Left.l0 k a0 l1 0
theorem shaleref16_Left.mono_l : ∀ k, (∀ y0 y1 y2, LeO (shaleref16_Left.l0 k y0 y1 y2) (shaleref16_Left.l0 (k + 1) y0 y1 y2))
 | 0 => fun _ _ _ r h => by simp [shaleref16_Left.l0] at h
 | k + 1 => by
  have ih0 := shaleref16_Left.mono_l k
  ·intro y0 y1 y2
   unfold shaleref16_Left.l0
   repeat' first
   | (with_reducible exact ih0 _ _ _)
   | (with_reducible exact LeO.refl _)
   | (with_reducible exact LeO.none _)
   | (with_reducible refine LeO.ite ?_ ?_)
   | (with_reducible refine LeO.bind ?_ (fun _ => ?_))
   | exact ih0 _ _ _
   | exact LeO.none _
   | refine LeO.ite ?_ ?_
   | refine LeO.bind ?_ (fun _ => ?_)
theorem shaleref16_Left.mono : ∀ a0 a1 k, LeO (shaleref16_Left.f k a0 a1) (shaleref16_Left.f (k + 1) a0 a1) := by
 intro a0 a1 k
 have ih0 := shaleref16_Left.mono_l k
 unfold shaleref16_Left.f
 repeat' first
   | (with_reducible exact ih0 _ _ _)
   | (with_reducible exact LeO.refl _)
   | (with_reducible exact LeO.none _)
   | (with_reducible refine LeO.ite ?_ ?_)
   | (with_reducible refine LeO.bind ?_ (fun _ => ?_))
   | exact ih0 _ _ _
   | exact LeO.none _
   | refine LeO.ite ?_ ?_
   | refine LeO.bind ?_ (fun _ => ?_)
set_option maxHeartbeats 8000000 in
set_option maxRecDepth 100000 in
theorem shaleref16_Left.calls (k : Nat) (a0 : Int) (A1 : Option Addr) (c1 : Nat) (l1 : List Int) (r : Int) (w : World) (hr1 : Kd.C (Kd.int .i64) w A1 l1.length l1) (hc1 : l1.length ≤ c1) (h : shaleref16_Left.f k a0 l1 = some r) :
  Calls Tryz.prog 19 #[.int .i64 a0, .slice A1 l1.length c1] w fun e w' => e = .returned (.int .i64 r) ∧ Drawn0 w w' := by
 have HR1 := Aside0.mk hr1
 have HC1 := Aside0.mk hc1
 clear hr1 hc1
 have H : (shaleref16_Left.l0 k a0 l1 0) = some r := h
 clear h
 have H' := Aside0.mk H
 clear H
 go_enter Tryz.func19, Tryz.ntmps19
 go_wp2
 go_loopg [0, 5] k (fun kq v0 v5 w' => ∃ (x0_1 : Int) (x5_1 : Int), v0 = .int .i64 x0_1 ∧ v5 = .int .i64 x5_1 ∧ Aside0 (shaleref16_Left.l0 kq x0_1 l1 x5_1 = some r) ∧ Aside0 (kq ≤ k) ∧ Drawn0 w w')
 case atStart => exact ⟨(a0), (0), (by first | rfl | (simp; done) | (simp [*]; done)), (by first | rfl | (simp; done) | (simp [*]; done)), H', ⟨Nat.le_refl _⟩, by repeat (first | exact Drawn0.refl _ | apply Drawn0.step)⟩
 case round =>
  clear H'
  try clear c1
  try clear p2
  obtain ⟨x0_1, x5_1, rfl, rfl, HA, HK1, ⟨m1, rfl⟩⟩ := hrel
  cases gk with
  | zero => exact absurd HA.out (by simp [shaleref16_Left.l0])
  | succ k1 =>
   have H := HA.out
   clear HA
   simp only [shaleref16_Left.l0] at H
   by_cases c3 : x5_1 < (l1.length : Int)
   ·rw [if_pos c3] at H
    have c3b0 : decide (x5_1 < (l1.length : Int)) = true := decide_eq_true c3
    clear c3
    by_cases c4 : 0 ≤ x5_1
    ·rw [if_pos c4] at H
     have c4b0 : decide (0 ≤ x5_1) = true := decide_eq_true c4
     clear c4
     by_cases c5 : (rd l1 x5_1) ≥ x0_1
     ·rw [if_pos c5] at H
      have c5b0 : decide (x0_1 ≤ (rd l1 x5_1)) = true := decide_eq_true c5
      clear c5
      obtain rfl := Option.some.inj H
      have p214 : 0 ≤ (x5_1 : Int) := of_decide_eq_true (by first | (with_reducible assumption) | assumption)
      have q214 : x5_1 < (l1.length : Int) := of_decide_eq_true (by first | (with_reducible assumption) | assumption)
      obtain ⟨ad214, e214, hx214_0⟩ := Kd.at_int HR1.out x5_1 p214 q214
      cases e214
      replace p214 := eq_true p214
      replace q214 := eq_true q214
      go_wp2
      go_ret
      exact ⟨by first | rfl | (simp; done) | (simp [*]; done), by repeat (first | exact Drawn0.refl _ | apply Drawn0.step)⟩
     ·rw [if_neg c5] at H
      have c5b0 : decide (x0_1 ≤ (rd l1 x5_1)) = false := decide_eq_false c5
      clear c5
      by_cases c6 : (rd l1 x5_1) > 0
      ·rw [if_pos c6] at H
       have c6b0 : decide (0 < (rd l1 x5_1)) = true := decide_eq_true c6
       clear c6
       have H' := Aside0.mk H
       clear H
       have p214 : 0 ≤ (x5_1 : Int) := of_decide_eq_true (by first | (with_reducible assumption) | assumption)
       have q214 : x5_1 < (l1.length : Int) := of_decide_eq_true (by first | (with_reducible assumption) | assumption)
       obtain ⟨ad214, e214, hx214_0⟩ := Kd.at_int HR1.out x5_1 p214 q214
       cases e214
       replace p214 := eq_true p214
       replace q214 := eq_true q214
       have p215 : 0 ≤ (x5_1 : Int) := of_decide_eq_true (by first | (with_reducible assumption) | assumption)
       have q215 : x5_1 < (l1.length : Int) := of_decide_eq_true (by first | (with_reducible assumption) | assumption)
       obtain ⟨ad215, e215, hx215_0⟩ := Kd.at_int HR1.out x5_1 p215 q215
       obtain rfl : ad214 = ad215 := (by injection e215)
       replace p215 := eq_true p215
       replace q215 := eq_true q215
       have p216 : 0 ≤ (x5_1 : Int) := of_decide_eq_true (by first | (with_reducible assumption) | assumption)
       have q216 : x5_1 < (l1.length : Int) := of_decide_eq_true (by first | (with_reducible assumption) | assumption)
       obtain ⟨ad216, e216, hx216_0⟩ := Kd.at_int HR1.out x5_1 p216 q216
       obtain rfl : ad214 = ad216 := (by injection e216)
       replace p216 := eq_true p216
       replace q216 := eq_true q216
       go_wp2
       go_roundg k1
       case measure => have := HK1.out; omega
       case rel => exact ⟨(wrap64 (x0_1 - (rd l1 x5_1))), (wrap64 (x5_1 + 1)), (by first | rfl | (simp; done) | (simp [*]; done)), (by first | rfl | (simp; done) | (simp [*]; done)), H', ⟨by have := HK1.out; omega⟩, by repeat (first | exact Drawn0.refl _ | apply Drawn0.step)⟩
      ·rw [if_neg c6] at H
       have c6b0 : decide (0 < (rd l1 x5_1)) = false := decide_eq_false c6
       clear c6
       have H' := Aside0.mk H
       clear H
       have p214 : 0 ≤ (x5_1 : Int) := of_decide_eq_true (by first | (with_reducible assumption) | assumption)
       have q214 : x5_1 < (l1.length : Int) := of_decide_eq_true (by first | (with_reducible assumption) | assumption)
       obtain ⟨ad214, e214, hx214_0⟩ := Kd.at_int HR1.out x5_1 p214 q214
       cases e214
       replace p214 := eq_true p214
       replace q214 := eq_true q214
       have p215 : 0 ≤ (x5_1 : Int) := of_decide_eq_true (by first | (with_reducible assumption) | assumption)
       have q215 : x5_1 < (l1.length : Int) := of_decide_eq_true (by first | (with_reducible assumption) | assumption)
       obtain ⟨ad215, e215, hx215_0⟩ := Kd.at_int HR1.out x5_1 p215 q215
       obtain rfl : ad214 = ad215 := (by injection e215)
       replace p215 := eq_true p215
       replace q215 := eq_true q215
       go_wp2
       go_roundg k1
       case measure => have := HK1.out; omega
       case rel => exact ⟨(x0_1), (wrap64 (x5_1 + 1)), (by first | rfl | (simp; done) | (simp [*]; done)), (by first | rfl | (simp; done) | (simp [*]; done)), H', ⟨by have := HK1.out; omega⟩, by repeat (first | exact Drawn0.refl _ | apply Drawn0.step)⟩
    ·rw [if_neg c4] at H
     exact absurd H (by simp)
   ·rw [if_neg c3] at H
    have c3b0 : decide (x5_1 < (l1.length : Int)) = false := decide_eq_false c3
    clear c3
    obtain rfl := Option.some.inj H
    go_wp2
    go_ret
    exact ⟨by first | rfl | (simp; done) | (simp [*]; done), by repeat (first | exact Drawn0.refl _ | apply Drawn0.step)⟩

end Go.Proofs.YtjlflmjimibciaaGreatDoor.Print
