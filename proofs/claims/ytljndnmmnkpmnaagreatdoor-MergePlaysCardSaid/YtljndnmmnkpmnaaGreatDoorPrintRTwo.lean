import Derived.Test.YtljndnmmnkpmnaaGreatDoorPrint0
import Derived.Test.YtljndnmmnkpmnaaGreatDoorPrint1
import Derived.Test.YtljndnmmnkpmnaaGreatDoorPrintWi
namespace Go.Proofs.YtljndnmmnkpmnaaGreatDoor.Print
open Go.RowKit Go.Proofs.YtljndnmmnkpmnaaGreatDoorW.PrintWords Go.Proofs.YtljndnmmnkpmnaaGreatDoorW.PrintLast Go.Proofs.YtljndnmmnkpmnaaGreatDoorW.PrintMore
attribute [local go_sem] max2_int min2_int max_two min_two max_three min_three max_four min_four   -- for this text's walks alone
set_option linter.unusedVariables false
set_option linter.unusedSimpArgs false
def z19.l0 : Nat → List (S35) → ByteArray → Int → Option (Int)
 | 0, _, _, _ => none
 | k + 1, x0, x1, x5 => if x5 < (x0.length : Int) then (if 0 ≤ x5 then (if ((rd_T35 x0 x5).f0).toList = x1.toList then (some x5) else (z19.l0 k x0 x1 (wrap64 (x5 + 1)))) else (none)) else (some (-1))
def z19.f (k : Nat) (l0 : List (S35)) (a1 : ByteArray) : Option (Int) := z19.l0 k l0 a1 0
theorem z19.mono_l : ∀ k, (∀ y0 y1 y2, LeO (z19.l0 k y0 y1 y2) (z19.l0 (k + 1) y0 y1 y2))
 | 0 => fun _ _ _ r h => by simp [z19.l0] at h
 | k + 1 => by
  have ih0 := z19.mono_l k
  ·intro y0 y1 y2
   unfold z19.l0
   repeat' first
   | (with_reducible exact ih0 _ _ _)
   | (with_reducible exact LeO.refl _)
   | (with_reducible exact LeO.none _)
   | (with_reducible refine LeO.ite ?_ ?_)
   | (with_reducible refine LeO.bind ?_ (fun _ => ?_))
   | exact ih0 _ _ _
   | exact LeO.none _
   | refine LeO.ite ?_ ?_
   | refine LeO.bind ?_ (fun _ => ?_)
theorem z19.mono : ∀ a0 a1 k, LeO (z19.f k a0 a1) (z19.f (k + 1) a0 a1) := by
 intro a0 a1 k
 have ih0 := z19.mono_l k
 unfold z19.f
 repeat' first
   | (with_reducible exact ih0 _ _ _)
   | (with_reducible exact LeO.refl _)
   | (with_reducible exact LeO.none _)
   | (with_reducible refine LeO.ite ?_ ?_)
   | (with_reducible refine LeO.bind ?_ (fun _ => ?_))
   | exact ih0 _ _ _
   | exact LeO.none _
   | refine LeO.ite ?_ ?_
   | refine LeO.bind ?_ (fun _ => ?_)
set_option maxHeartbeats 8000000 in
set_option maxRecDepth 100000 in
theorem z19.calls (k : Nat) (A0 : Option Addr) (c0 : Nat) (l0 : List (S35)) (a1 : ByteArray) (r : Int) (w : World) (hr0 : Kd.C k35 w A0 l0.length l0) (hc0 : l0.length ≤ c0) (h : z19.f k l0 a1 = some r) :
  Calls Tryz.prog 21 #[.slice A0 l0.length c0, .string a1] w fun e w' => e = .returned (.int .i64 r) ∧ Drawn0 w w' := by
 have HR0 := Aside0.mk hr0
 have HC0 := Aside0.mk hc0
 clear hr0 hc0
 have H : (z19.l0 k l0 a1 0) = some r := h
 clear h
 have H' := Aside0.mk H
 clear H
 go_enter Tryz.func21, Tryz.ntmps21
 go_wp2
 go_loopg [5] k (fun kq v5 w' => ∃ (x5_1 : Int), v5 = .int .i64 x5_1 ∧ Aside0 (z19.l0 kq l0 a1 x5_1 = some r) ∧ Aside0 (kq ≤ k) ∧ Drawn0 w w')
 case atStart => exact ⟨(0), (by first | rfl | (simp; done) | (simp [*]; done)), H', ⟨Nat.le_refl _⟩, by repeat (first | exact Drawn0.refl _ | apply Drawn0.step)⟩
 case round =>
  clear H'
  try clear c2
  try clear p2
  obtain ⟨x5_1, rfl, HA, HK1, ⟨m1, rfl⟩⟩ := hrel
  cases gk with
  | zero => exact absurd HA.out (by simp [z19.l0])
  | succ k1 =>
   have H := HA.out
   clear HA
   simp only [z19.l0] at H
   by_cases c3 : x5_1 < (l0.length : Int)
   ·rw [if_pos c3] at H
    have c3b0 : decide (x5_1 < (l0.length : Int)) = true := decide_eq_true c3
    clear c3
    by_cases c4 : 0 ≤ x5_1
    ·rw [if_pos c4] at H
     have c4b0 : decide (0 ≤ x5_1) = true := decide_eq_true c4
     clear c4
     by_cases c5 : ((rd_T35 l0 x5_1).f0).toList = a1.toList
     ·rw [if_pos c5] at H
      have c5b0 : (((rd_T35 l0 x5_1).f0).toList == a1.toList) = true := beq_iff_eq.mpr c5
      have c5b1 : (((rd_T35 l0 x5_1).f0).toList != a1.toList) = false := bne_eq_false_iff_eq.mpr c5
      clear c5
      obtain rfl := Option.some.inj H
      have p241 : 0 ≤ (x5_1 : Int) := of_decide_eq_true (by first | (with_reducible assumption) | assumption)
      have q241 : x5_1 < (l0.length : Int) := of_decide_eq_true (by first | (with_reducible assumption) | assumption)
      obtain ⟨ad241, e241, hx241_0, hx241_1, hx241_2⟩ := at_T35 HR0.out x5_1 p241 q241
      cases e241
      replace p241 := eq_true p241
      replace q241 := eq_true q241
      go_wp2
      go_ret
      exact ⟨by first | rfl | (simp; done) | (simp [*]; done), by repeat (first | exact Drawn0.refl _ | apply Drawn0.step)⟩
     ·rw [if_neg c5] at H
      have c5b0 : (((rd_T35 l0 x5_1).f0).toList == a1.toList) = false := beq_eq_false_iff_ne.mpr c5
      have c5b1 : (((rd_T35 l0 x5_1).f0).toList != a1.toList) = true := bne_iff_ne.mpr c5
      have H' := Aside0.mk H
      clear H
      have p241 : 0 ≤ (x5_1 : Int) := of_decide_eq_true (by first | (with_reducible assumption) | assumption)
      have q241 : x5_1 < (l0.length : Int) := of_decide_eq_true (by first | (with_reducible assumption) | assumption)
      obtain ⟨ad241, e241, hx241_0, hx241_1, hx241_2⟩ := at_T35 HR0.out x5_1 p241 q241
      cases e241
      replace p241 := eq_true p241
      replace q241 := eq_true q241
      go_wp2
      go_roundg k1
      case measure => have := HK1.out; omega
      case rel => exact ⟨(wrap64 (x5_1 + 1)), (by first | rfl | (simp; done) | (simp [*]; done)), H', ⟨by have := HK1.out; omega⟩, by repeat (first | exact Drawn0.refl _ | apply Drawn0.step)⟩
    ·rw [if_neg c4] at H
     exact absurd H (by simp)
   ·rw [if_neg c3] at H
    have c3b0 : decide (x5_1 < (l0.length : Int)) = false := decide_eq_false c3
    clear c3
    obtain rfl := Option.some.inj H
    go_wp2
    go_ret
    exact ⟨by first | rfl | (simp; done) | (simp [*]; done), by repeat (first | exact Drawn0.refl _ | apply Drawn0.step)⟩

mutual
def z25.l0 : Nat → List (S35) → List (S35) → Bool → List (S35) → Int → Option ((List (S35)))
 | 0, _, _, _, _, _ => none
 | k + 1, x0, x1, x2, x7, x8 => if x8 < (x0.length : Int) then (z25.l1 k x0 x1 x2 x7 x8 false 0) else (z25.l2 k x0 x1 x2 x7 0)
def z25.l1 : Nat → List (S35) → List (S35) → Bool → List (S35) → Int → Bool → Int → Option ((List (S35)))
 | 0, _, _, _, _, _, _, _ => none
 | k + 1, x0, x1, x2, x7, x8, x9, x10 => if x10 < (x1.length : Int) then (if 0 ≤ x10 then (if ((rd_T35 x1 x10).f1) = 2 then (z25.l1 k x0 x1 x2 x7 x8 x9 (wrap64 (x10 + 1))) else (if 0 ≤ x8 then (if x8 < (x0.length : Int) then (if ((rd_T35 x1 x10).f0).toList = ((rd_T35 x0 x8).f0).toList then (z25.l1 k x0 x1 x2 x7 x8 true (wrap64 (x10 + 1))) else ((z13.f ((rd_T35 x0 x8).f0) ((rd_T35 x1 x10).f0)).bind fun t266 => (if t266 = true then (z25.l1 k x0 x1 x2 x7 x8 true (wrap64 (x10 + 1))) else (z25.l1 k x0 x1 x2 x7 x8 x9 (wrap64 (x10 + 1)))))) else (none)) else (none))) else (none)) else (if 0 ≤ x8 then (if x8 < (x0.length : Int) then ((z19.f k x1 ((rd_T35 x0 x8).f0)).bind fun t268 => (if x9 = true then (z25.l0 k x0 x1 x2 x7 (wrap64 (x8 + 1))) else (if t268 < 0 then (if x7.length < 3518437208883 then (z25.l0 k x0 x1 x2 (x7 ++ [(⟨(rd_T35 x0 x8).f0, (rd_T35 x0 x8).f1, (rd_T35 x0 x8).f2⟩ : S35)]) (wrap64 (x8 + 1))) else (none)) else (if ((rd_T35 x0 x8).f1) = 2 then (if x7.length < 3518437208883 then (z25.l0 k x0 x1 x2 (x7 ++ [(⟨(rd_T35 x0 x8).f0, (rd_T35 x0 x8).f1, (rd_T35 x0 x8).f2⟩ : S35)]) (wrap64 (x8 + 1))) else (none)) else (if ((rd_T35 x0 x8).f1) = 4 then (if x7.length < 3518437208883 then (z25.l0 k x0 x1 x2 (x7 ++ [(⟨(rd_T35 x0 x8).f0, (rd_T35 x0 x8).f1, (rd_T35 x0 x8).f2⟩ : S35)]) (wrap64 (x8 + 1))) else (none)) else (z25.l0 k x0 x1 x2 x7 (wrap64 (x8 + 1)))))))) else (none)) else (none))
def z25.l2 : Nat → List (S35) → List (S35) → Bool → List (S35) → Int → Option ((List (S35)))
 | 0, _, _, _, _, _ => none
 | k + 1, x0, x1, x2, x7, x12 => if x12 < (x1.length : Int) then (if 0 ≤ x12 then ((z19.f k x7 ((rd_T35 x1 x12).f0)).bind fun t284 => (if t284 ≥ 0 then (z25.l2 k x0 x1 x2 x7 (wrap64 (x12 + 1))) else ((z19.f k x0 ((rd_T35 x1 x12).f0)).bind fun t287 => (z25.l3 k x0 x1 x2 x7 x12 t287 false 0 ((rd_T35 x1 x12).f0) ((rd_T35 x1 x12).f1) ((rd_T35 x1 x12).f2))))) else (none)) else (if x2 = true then (z25.l4 k x7 ([] : List (S35)) 0) else (some x7))
def z25.l3 : Nat → List (S35) → List (S35) → Bool → List (S35) → Int → Int → Bool → Int → ByteArray → Int → ByteArray → Option ((List (S35)))
 | 0, _, _, _, _, _, _, _, _, _, _, _ => none
 | k + 1, x0, x1, x2, x7, x12, x14, x15, x16, x287000, x287001, x287002 => if x16 < x12 then (if x15 = true then (z25.l3 k x0 x1 x2 x7 x12 x14 true (wrap64 (x16 + 1)) x287000 x287001 x287002) else (if 0 ≤ x16 then (if x16 < (x1.length : Int) then (if ((rd_T35 x1 x16).f1) = 2 then (z25.l3 k x0 x1 x2 x7 x12 x14 false (wrap64 (x16 + 1)) x287000 x287001 x287002) else ((z13.f x287000 ((rd_T35 x1 x16).f0)).bind fun t290 => (z25.l3 k x0 x1 x2 x7 x12 x14 t290 (wrap64 (x16 + 1)) x287000 x287001 x287002))) else (none)) else (none))) else (if x287001 = 2 then (if x14 ≥ 0 then (if x15 = true then ((z22.f k x7 x287000 x287001 x287002).bind fun t291 => (z25.l2 k x0 x1 x2 t291 (wrap64 (x12 + 1)))) else ((z22.f k x7 x287000 4 x287002).bind fun t294 => (z25.l2 k x0 x1 x2 t294 (wrap64 (x12 + 1))))) else ((z22.f k x7 x287000 x287001 x287002).bind fun t297 => (z25.l2 k x0 x1 x2 t297 (wrap64 (x12 + 1))))) else ((z22.f k x7 x287000 x287001 x287002).bind fun t300 => (z25.l2 k x0 x1 x2 t300 (wrap64 (x12 + 1)))))
def z25.l4 : Nat → List (S35) → List (S35) → Int → Option ((List (S35)))
 | 0, _, _, _ => none
 | k + 1, x7, x17, x18 => if x18 < (x7.length : Int) then (if 0 ≤ x18 then (if ((rd_T35 x7 x18).f1) = 4 then (if 2 = 3 then (z25.l4 k x7 x17 (wrap64 (x18 + 1))) else (if x17.length < 3518437208883 then (z25.l4 k x7 (x17 ++ [(⟨(rd_T35 x7 x18).f0, 2, (rd_T35 x7 x18).f2⟩ : S35)]) (wrap64 (x18 + 1))) else (none))) else (if ((rd_T35 x7 x18).f1) = 3 then (z25.l4 k x7 x17 (wrap64 (x18 + 1))) else (if x17.length < 3518437208883 then (z25.l4 k x7 (x17 ++ [(⟨(rd_T35 x7 x18).f0, (rd_T35 x7 x18).f1, (rd_T35 x7 x18).f2⟩ : S35)]) (wrap64 (x18 + 1))) else (none)))) else (none)) else (some x17)
end
def z25.f (k : Nat) (l0 : List (S35)) (l1 : List (S35)) (a2 : Bool) : Option ((List (S35))) := z25.l0 k l0 l1 a2 ([] : List (S35)) 0
theorem z25.mono_l : ∀ k, (∀ y0 y1 y2 y3 y4, LeO (z25.l0 k y0 y1 y2 y3 y4) (z25.l0 (k + 1) y0 y1 y2 y3 y4)) ∧ (∀ y0 y1 y2 y3 y4 y5 y6, LeO (z25.l1 k y0 y1 y2 y3 y4 y5 y6) (z25.l1 (k + 1) y0 y1 y2 y3 y4 y5 y6)) ∧ (∀ y0 y1 y2 y3 y4, LeO (z25.l2 k y0 y1 y2 y3 y4) (z25.l2 (k + 1) y0 y1 y2 y3 y4)) ∧ (∀ y0 y1 y2 y3 y4 y5 y6 y7 y8 y9 y10, LeO (z25.l3 k y0 y1 y2 y3 y4 y5 y6 y7 y8 y9 y10) (z25.l3 (k + 1) y0 y1 y2 y3 y4 y5 y6 y7 y8 y9 y10)) ∧ (∀ y0 y1 y2, LeO (z25.l4 k y0 y1 y2) (z25.l4 (k + 1) y0 y1 y2))
 | 0 => ⟨fun _ _ _ _ _ r h => by simp [z25.l0] at h, fun _ _ _ _ _ _ _ r h => by simp [z25.l1] at h, fun _ _ _ _ _ r h => by simp [z25.l2] at h, fun _ _ _ _ _ _ _ _ _ _ _ r h => by simp [z25.l3] at h, fun _ _ _ r h => by simp [z25.l4] at h⟩
 | k + 1 => by
  obtain ⟨ih0, ih1, ih2, ih3, ih4⟩ := z25.mono_l k
  refine ⟨?_, ?_, ?_, ?_, ?_⟩
  ·intro y0 y1 y2 y3 y4
   unfold z25.l0
   repeat' first
   | (with_reducible exact ih0 _ _ _ _ _)
   | (with_reducible exact ih1 _ _ _ _ _ _ _)
   | (with_reducible exact ih2 _ _ _ _ _)
   | (with_reducible exact ih3 _ _ _ _ _ _ _ _ _ _ _)
   | (with_reducible exact ih4 _ _ _)
   | (with_reducible exact z22.mono _ _ _ _ _)
   | (with_reducible exact z19.mono _ _ _)
   | (with_reducible exact LeO.refl _)
   | (with_reducible exact LeO.none _)
   | (with_reducible refine LeO.ite ?_ ?_)
   | (with_reducible refine LeO.bind ?_ (fun _ => ?_))
   | exact ih0 _ _ _ _ _
   | exact ih1 _ _ _ _ _ _ _
   | exact ih2 _ _ _ _ _
   | exact ih3 _ _ _ _ _ _ _ _ _ _ _
   | exact ih4 _ _ _
   | exact z22.mono _ _ _ _ _
   | exact z19.mono _ _ _
   | exact LeO.none _
   | refine LeO.ite ?_ ?_
   | refine LeO.bind ?_ (fun _ => ?_)
  ·intro y0 y1 y2 y3 y4 y5 y6
   unfold z25.l1
   repeat' first
   | (with_reducible exact ih0 _ _ _ _ _)
   | (with_reducible exact ih1 _ _ _ _ _ _ _)
   | (with_reducible exact ih2 _ _ _ _ _)
   | (with_reducible exact ih3 _ _ _ _ _ _ _ _ _ _ _)
   | (with_reducible exact ih4 _ _ _)
   | (with_reducible exact z22.mono _ _ _ _ _)
   | (with_reducible exact z19.mono _ _ _)
   | (with_reducible exact LeO.refl _)
   | (with_reducible exact LeO.none _)
   | (with_reducible refine LeO.ite ?_ ?_)
   | (with_reducible refine LeO.bind ?_ (fun _ => ?_))
   | exact ih0 _ _ _ _ _
   | exact ih1 _ _ _ _ _ _ _
   | exact ih2 _ _ _ _ _
   | exact ih3 _ _ _ _ _ _ _ _ _ _ _
   | exact ih4 _ _ _
   | exact z22.mono _ _ _ _ _
   | exact z19.mono _ _ _
   | exact LeO.none _
   | refine LeO.ite ?_ ?_
   | refine LeO.bind ?_ (fun _ => ?_)
  ·intro y0 y1 y2 y3 y4
   unfold z25.l2
   repeat' first
   | (with_reducible exact ih0 _ _ _ _ _)
   | (with_reducible exact ih1 _ _ _ _ _ _ _)
   | (with_reducible exact ih2 _ _ _ _ _)
   | (with_reducible exact ih3 _ _ _ _ _ _ _ _ _ _ _)
   | (with_reducible exact ih4 _ _ _)
   | (with_reducible exact z22.mono _ _ _ _ _)
   | (with_reducible exact z19.mono _ _ _)
   | (with_reducible exact LeO.refl _)
   | (with_reducible exact LeO.none _)
   | (with_reducible refine LeO.ite ?_ ?_)
   | (with_reducible refine LeO.bind ?_ (fun _ => ?_))
   | exact ih0 _ _ _ _ _
   | exact ih1 _ _ _ _ _ _ _
   | exact ih2 _ _ _ _ _
   | exact ih3 _ _ _ _ _ _ _ _ _ _ _
   | exact ih4 _ _ _
   | exact z22.mono _ _ _ _ _
   | exact z19.mono _ _ _
   | exact LeO.none _
   | refine LeO.ite ?_ ?_
   | refine LeO.bind ?_ (fun _ => ?_)
  ·intro y0 y1 y2 y3 y4 y5 y6 y7 y8 y9 y10
   unfold z25.l3
   repeat' first
   | (with_reducible exact ih0 _ _ _ _ _)
   | (with_reducible exact ih1 _ _ _ _ _ _ _)
   | (with_reducible exact ih2 _ _ _ _ _)
   | (with_reducible exact ih3 _ _ _ _ _ _ _ _ _ _ _)
   | (with_reducible exact ih4 _ _ _)
   | (with_reducible exact z22.mono _ _ _ _ _)
   | (with_reducible exact z19.mono _ _ _)
   | (with_reducible exact LeO.refl _)
   | (with_reducible exact LeO.none _)
   | (with_reducible refine LeO.ite ?_ ?_)
   | (with_reducible refine LeO.bind ?_ (fun _ => ?_))
   | exact ih0 _ _ _ _ _
   | exact ih1 _ _ _ _ _ _ _
   | exact ih2 _ _ _ _ _
   | exact ih3 _ _ _ _ _ _ _ _ _ _ _
   | exact ih4 _ _ _
   | exact z22.mono _ _ _ _ _
   | exact z19.mono _ _ _
   | exact LeO.none _
   | refine LeO.ite ?_ ?_
   | refine LeO.bind ?_ (fun _ => ?_)
  ·intro y0 y1 y2
   unfold z25.l4
   repeat' first
   | (with_reducible exact ih0 _ _ _ _ _)
   | (with_reducible exact ih1 _ _ _ _ _ _ _)
   | (with_reducible exact ih2 _ _ _ _ _)
   | (with_reducible exact ih3 _ _ _ _ _ _ _ _ _ _ _)
   | (with_reducible exact ih4 _ _ _)
   | (with_reducible exact z22.mono _ _ _ _ _)
   | (with_reducible exact z19.mono _ _ _)
   | (with_reducible exact LeO.refl _)
   | (with_reducible exact LeO.none _)
   | (with_reducible refine LeO.ite ?_ ?_)
   | (with_reducible refine LeO.bind ?_ (fun _ => ?_))
   | exact ih0 _ _ _ _ _
   | exact ih1 _ _ _ _ _ _ _
   | exact ih2 _ _ _ _ _
   | exact ih3 _ _ _ _ _ _ _ _ _ _ _
   | exact ih4 _ _ _
   | exact z22.mono _ _ _ _ _
   | exact z19.mono _ _ _
   | exact LeO.none _
   | refine LeO.ite ?_ ?_
   | refine LeO.bind ?_ (fun _ => ?_)
theorem z25.mono : ∀ a0 a1 a2 k, LeO (z25.f k a0 a1 a2) (z25.f (k + 1) a0 a1 a2) := by
 intro a0 a1 a2 k
 obtain ⟨ih0, ih1, ih2, ih3, ih4⟩ := z25.mono_l k
 unfold z25.f
 repeat' first
   | (with_reducible exact ih0 _ _ _ _ _)
   | (with_reducible exact ih1 _ _ _ _ _ _ _)
   | (with_reducible exact ih2 _ _ _ _ _)
   | (with_reducible exact ih3 _ _ _ _ _ _ _ _ _ _ _)
   | (with_reducible exact ih4 _ _ _)
   | (with_reducible exact z22.mono _ _ _ _ _)
   | (with_reducible exact z19.mono _ _ _)
   | (with_reducible exact LeO.refl _)
   | (with_reducible exact LeO.none _)
   | (with_reducible refine LeO.ite ?_ ?_)
   | (with_reducible refine LeO.bind ?_ (fun _ => ?_))
   | exact ih0 _ _ _ _ _
   | exact ih1 _ _ _ _ _ _ _
   | exact ih2 _ _ _ _ _
   | exact ih3 _ _ _ _ _ _ _ _ _ _ _
   | exact ih4 _ _ _
   | exact z22.mono _ _ _ _ _
   | exact z19.mono _ _ _
   | exact LeO.none _
   | refine LeO.ite ?_ ?_
   | refine LeO.bind ?_ (fun _ => ?_)
def z25.T9 : Bool × List (List Nat × List Nat) := (true, [([], []), ([], []), ([0, 1], [0, 1]), ([2], [2]), ([3], [3]), ([4], [4]), ([5], [5]), ([6], [6]), ([6], [6]), ([7, 8, 6], [6, 7, 8]), ([9, 6], [6, 9]), ([10, 6], [6, 10]), ([6], [6]), ([6], [6]), ([12, 13, 6], [6, 12, 13]), ([14, 6], [6, 14]), ([15, 6], [6, 15]), ([11, 16, 6], [6, 11, 16]), ([17, 6, 6], [6, 17]), ([18], [18]), ([18], [18]), ([19, 20, 18], [18, 19, 20]), ([21, 18], [18, 21]), ([22, 18], [18, 22]), ([18], [18]), ([18], [18]), ([24, 25, 18], [18, 24, 25]), ([26, 18], [18, 26]), ([27, 18], [18, 27]), ([23, 28, 18, 18], [18, 23, 28]), ([18, 29, 6], [6, 18, 29]), ([6, 30], [6, 30])])
def z25.B9 : List Nat := [0, 0, 3, 7, 15, 31, 63, 127, 127, 511, 1023, 2047, 127, 127, 12415, 28799, 61567, 131071, 262143, 524287, 524287, 2097151, 4194303, 8388607, 524287, 524287, 50855935, 117964799, 252182527, 536870911, 1073741823, 2147483647]
theorem z25.tab9 : rtab .any (opsOf Tryz.f9 9) = z25.T9 := by kernel_rfl
theorem z25.bits9 : waitsOk z25.T9.2 z25.B9 = true := by kernel_rfl
def z25.T24 : Bool × List (List Nat × List Nat) := (true, [([], []), ([0], [0]), ([1], [1]), ([1], [1]), ([2, 3, 1], [1, 2, 3]), ([4, 1], [1, 4]), ([5, 1], [1, 5]), ([6, 1], [1, 6]), ([7, 1, 1], [1, 7]), ([8], [8]), ([9, 8], [8, 9]), ([8], [8]), ([8], [8]), ([11, 12, 8], [8, 11, 12]), ([13, 8], [8, 13]), ([14, 8], [8, 14]), ([10, 15, 8, 8], [8, 10, 15]), ([8, 16, 1], [1, 8, 16]), ([1, 17], [1, 17]), ([18, 16, 0, 1, 2, 3, 4, 5, 6, 7, 8, 9, 10, 11, 12, 13, 14, 15, 16, 17, 18], [0, 18])])
def z25.B24 : List Nat := [0, 1, 3, 3, 15, 31, 63, 127, 255, 511, 1023, 511, 511, 6655, 14847, 31231, 65535, 131071, 262143, 524287]
theorem z25.tab24 : rtab .any (opsOf Tryz.f9 24) = z25.T24 := by kernel_rfl
theorem z25.bits24 : waitsOk z25.T24.2 z25.B24 = true := by kernel_rfl
set_option maxHeartbeats 8000000 in
set_option maxRecDepth 100000 in
theorem z25.calls (k : Nat) (A0 : Option Addr) (c0 : Nat) (l0 : List (S35)) (A1 : Option Addr) (c1 : Nat) (l1 : List (S35)) (a2 : Bool) (r : List (S35)) (w : World) (hr0 : Kd.C k35 w A0 l0.length l0) (hc0 : l0.length ≤ c0) (hr1 : Kd.C k35 w A1 l1.length l1) (hc1 : l1.length ≤ c1) (h : z25.f k l0 l1 a2 = some r) :
  Calls Tryz.prog 9 #[.slice A0 l0.length c0, .slice A1 l1.length c1, .bool a2] w fun e w' => ∃ v0_ : Value, e = .returned (v0_) ∧ Kd.R k35 35 w' w.heap.size (fun _ => True) v0_ r ∧ Below w.heap.size w w' := by
 have hu35 := Tryz.underlying35
 have HR0 := Aside0.mk hr0
 have HC0 := Aside0.mk hc0
 clear hr0 hc0
 have HR1 := Aside0.mk hr1
 have HC1 := Aside0.mk hc1
 clear hr1 hc1
 have HB := Aside0.mk (Below.refl w.heap.size w)
 have H : (z25.l0 k l0 l1 a2 ([] : List (S35)) 0) = some r := h
 clear h
 have H' := Aside0.mk H
 clear H
 go_enter Tryz.func9, Tryz.ntmps9
 go_wp2
 go_loopg [7, 8] k (fun kq v7 v8 w' => ∃ (x7_1 : List (S35)) (x8_1 : Int), v8 = .int .i64 x8_1 ∧ Aside0 (z25.l0 kq l0 l1 a2 x7_1 x8_1 = some r) ∧ Aside0 (kq ≤ k) ∧ Aside0 (Kd.R k35 35 w' w.heap.size (fun _ => True) v7 x7_1) ∧ Aside0 (Below w.heap.size w w'))
 case atStart => exact ⟨(([] : List (S35))), (0), (by first | rfl | (simp; done) | (simp [*]; done)), H', ⟨Nat.le_refl _⟩, ⟨by first | exact Kd.R_nil _ _ _ _ _ | exact Kd.N_nil _ _ _ _ _ | exact Kd.V_nil _ _ _ _ _ | exact Kd.Q_nil _ _ _ _ _ | exact Kd.S_nil _ _ _ _ _⟩, ⟨by repeat (first | (with_reducible first | exact HB.out | apply qA | apply qN | apply qD) | exact HB.out)⟩⟩
 case round =>
  clear H'
  try clear c1
  try clear p2
  obtain ⟨x7_1, x8_1, rfl, HA, HK1, HO_7, HB⟩ := hrel
  cases gk with
  | zero => exact absurd HA.out (by simp [z25.l0])
  | succ k1 =>
   have H := HA.out
   clear HA
   simp only [z25.l0] at H
   by_cases c4 : x8_1 < (l0.length : Int)
   ·rw [if_pos c4] at H
    have c4b0 : decide (x8_1 < (l0.length : Int)) = true := decide_eq_true c4
    clear c4
    have H' := Aside0.mk H
    clear H
    go_wp2
    go_loopg [9, 10] k1 (fun kq v9 v10 w' => ∃ (x9_2 : Bool) (x10_2 : Int), v9 = .bool x9_2 ∧ v10 = .int .i64 x10_2 ∧ Aside0 (z25.l1 kq l0 l1 a2 x7_1 x8_1 x9_2 x10_2 = some r) ∧ Aside0 (kq ≤ k1) ∧ Aside0 (Kd.R k35 35 w' w.heap.size (fun _ => True) u7 x7_1) ∧ Aside0 (Below w.heap.size w w'))
    case atStart => exact ⟨(false), (0), (by first | rfl | (simp; done) | (simp [*]; done)), (by first | rfl | (simp; done) | (simp [*]; done)), H', ⟨Nat.le_refl _⟩, ⟨by (with_reducible repeat (first | apply Kd.R_alloc | apply Kd.R_drewN | apply Kd.R_drew)); exact HO_7.out⟩, ⟨by repeat (first | (with_reducible first | exact HB.out | apply qA | apply qN | apply qD) | exact HB.out)⟩⟩
    case round =>
     clear H'
     try clear c1
     try clear p2
     try clear c4
     try clear c4b0
     try clear p2
     obtain ⟨x9_2, x10_2, rfl, rfl, HA, HK2, HO_7, HB⟩ := hrel
     cases gk with
     | zero => exact absurd HA.out (by simp [z25.l1])
     | succ k2 =>
      have H := HA.out
      clear HA
      simp only [z25.l1] at H
      by_cases c5 : x10_2 < (l1.length : Int)
      ·rw [if_pos c5] at H
       have c5b0 : decide (x10_2 < (l1.length : Int)) = true := decide_eq_true c5
       clear c5
       by_cases c6 : 0 ≤ x10_2
       ·rw [if_pos c6] at H
        have c6b0 : decide (0 ≤ x10_2) = true := decide_eq_true c6
        clear c6
        by_cases c7 : ((rd_T35 l1 x10_2).f1) = 2
        ·rw [if_pos c7] at H
         have c7b0 : (((rd_T35 l1 x10_2).f1) == 2) = true := beq_iff_eq.mpr c7
         have c7b1 : (((rd_T35 l1 x10_2).f1) != 2) = false := bne_eq_false_iff_eq.mpr c7
         clear c7
         have H' := Aside0.mk H
         clear H
         try go_wp2
         have n0_ := Aside0.mk (Kd.R_drew HO_7.out)
         have n1_ := Aside0.mk (qD HB.out)
         clear HO_7
         clear HB
         have HO_7 := n0_
         have HB := n1_
         clear n0_ n1_
         have p261 : 0 ≤ (x10_2 : Int) := of_decide_eq_true (by first | (with_reducible assumption) | assumption)
         have q261 : x10_2 < (l1.length : Int) := of_decide_eq_true (by first | (with_reducible assumption) | assumption)
         obtain ⟨ad261, e261, hx261_0, hx261_1, hx261_2⟩ := at_T35 HR1.out x10_2 p261 q261
         have hw261_2 := hx261_2
         have hw261_1 := hx261_1
         have hw261_0 := hx261_0
         cases e261
         replace hx261_0 := (HB.out.cell (World.block_lt_of_cell? w _ hx261_0)).trans hx261_0
         replace hx261_1 := (HB.out.cell (World.block_lt_of_cell? w _ hx261_1)).trans hx261_1
         replace hx261_2 := (HB.out.cell (World.block_lt_of_cell? w _ hx261_2)).trans hx261_2
         replace p261 := eq_true p261
         replace q261 := eq_true q261
         refine start_ (n := 32) (S := fun w' => w'.cell? (ad261.add ((x10_2).toNat * 3)) = some (.string ((rd_T35 l1 x10_2).f0)) ∧ w'.cell? ⟨(ad261.add ((x10_2).toNat * 3)).block, (ad261.add ((x10_2).toNat * 3)).off + 1, none⟩ = some (.int .i64 ((rd_T35 l1 x10_2).f1)) ∧ w'.cell? ⟨(ad261.add ((x10_2).toNat * 3)).block, (ad261.add ((x10_2).toNat * 3)).off + 2, none⟩ = some (.string ((rd_T35 l1 x10_2).f2))) (ds := []) #[false, false, false, false, false, false, false, false, false, false, false, false, false, false, false, false, false, false, false, false, false, false, false, false, false, false, false, false, false, false, false, false] (by kernel_rfl) rfl rfl ⟨((HB.out.cell (World.block_lt_of_cell? w _ hw261_0)).trans hw261_0), ((HB.out.cell (World.block_lt_of_cell? w _ hw261_1)).trans hw261_1), ((HB.out.cell (World.block_lt_of_cell? w _ hw261_2)).trans hw261_2)⟩ (fun hHeld => ?_); refine with_tabW z25.tab9 z25.bits9 (fun HT_ HW_ => ?_)
         generalize wr.drew = w8 at HO_7 HB hx261_0 hx261_1 hx261_2 hHeld ⊢
         refine pure_ (i := 0) (N := some 32) (v := ?_) (a' := ?_) #[true, false, false, false, false, false, false, false, false, false, false, false, false, false, false, false, false, false, false, false, false, false, false, false, false, false, false, false, false, false, false, false] rfl rfl (any_of HT_.out (by kernel_rfl)) (fun _ _ _ h => h) (Or.inl ⟨by rfl, ?_⟩) ?_ ?_
         rotate_left
         ·intro w'
          go_simp
          with_reducible rfl
         rotate_left
         ·simp only [Act.put, sT, sZ, sS, i64_w, i32_w]
          rfl
         refine pure_ (i := 1) (N := some 33) (v := ?_) (a' := ?_) #[true, true, false, false, false, false, false, false, false, false, false, false, false, false, false, false, false, false, false, false, false, false, false, false, false, false, false, false, false, false, false, false] rfl rfl (any_of HT_.out (by kernel_rfl)) (fun _ _ _ h => h) (Or.inl ⟨by rfl, ?_⟩) ?_ ?_
         rotate_left
         ·intro w'
          go_simp
          with_reducible rfl
         rotate_left
         ·simp only [Act.put, sT, sZ, sS, i64_w, i32_w]
          rfl
         refine pure_ (i := 2) (N := some 34) (v := ?_) (a' := ?_) #[true, true, true, false, false, false, false, false, false, false, false, false, false, false, false, false, false, false, false, false, false, false, false, false, false, false, false, false, false, false, false, false] rfl rfl (any_of HT_.out (by kernel_rfl)) (fun _ _ _ h => h) (Or.inl ⟨by rfl, ?_⟩) ?_ ?_
         rotate_left
         ·intro w'
          go_simp
          with_reducible rfl
         rotate_left
         ·simp only [Act.put, sT, sZ, sS, i64_w, i32_w]
          rfl
         refine pure_ (i := 3) (N := some 35) (v := ?_) (a' := ?_) #[true, true, true, true, false, false, false, false, false, false, false, false, false, false, false, false, false, false, false, false, false, false, false, false, false, false, false, false, false, false, false, false] rfl rfl (any_of HT_.out (by kernel_rfl)) (fun _ _ _ h => h) (Or.inl ⟨by rfl, ?_⟩) ?_ ?_
         rotate_left
         ·intro w'
          go_simp
          with_reducible rfl
         rotate_left
         ·simp only [Act.put, sT, sZ, sS, i64_w, i32_w]
          rfl
         refine take_ (i := 4) (N := some 36) (v := ?_) (a' := ?_) #[true, true, true, true, true, false, false, false, false, false, false, false, false, false, false, false, false, false, false, false, false, false, false, false, false, false, false, false, false, false, false, false] rfl rfl (take_ofW HT_.out HW_.out (by kernel_rfl)) (fun _ _ _ h => h) (Or.inl ⟨by rfl, ?_⟩) hHeld ?_ ?_
         rotate_left
         ·rintro w' ⟨s0, s1, s2⟩
          go_simp
          with_reducible rfl
         rotate_left
         ·simp only [Act.put, sT, sZ, sS, i64_w, i32_w]
          rfl
         refine pure_ (i := 5) (N := some 37) (v := ?_) (a' := ?_) #[true, true, true, true, true, true, false, false, false, false, false, false, false, false, false, false, false, false, false, false, false, false, false, false, false, false, false, false, false, false, false, false] rfl rfl (any_of HT_.out (by kernel_rfl)) (fun _ _ _ h => h) (Or.inl ⟨by rfl, ?_⟩) ?_ ?_
         rotate_left
         ·intro w'
          go_simp
          with_reducible rfl
         rotate_left
         ·simp only [Act.put, sT, sZ, sS, i64_w, i32_w]
          rfl
         refine pure_ (i := 6) (N := some 38) (v := ?_) (a' := ?_) #[true, true, true, true, true, true, true, false, false, false, false, false, false, false, false, false, false, false, false, false, false, false, false, false, false, false, false, false, false, false, false, false] rfl rfl (any_of HT_.out (by kernel_rfl)) (fun _ _ _ h => h) (Or.inl ⟨by rfl, ?_⟩) ?_ ?_
         rotate_left
         ·intro w'
          go_simp
          with_reducible rfl
         rotate_left
         ·simp only [Act.put, sT, sZ, sS, i64_w, i32_w]
          rfl
         refine pure_ (i := 7) (N := some 39) (v := undef) (a' := ?_) #[true, true, true, true, true, true, true, true, false, false, false, false, false, false, false, false, false, false, false, false, false, false, false, false, false, false, false, false, false, false, false, false] rfl rfl (any_of HT_.out (by kernel_rfl)) (fun _ _ _ h => h) (Or.inr ⟨by rfl, rfl⟩) ?_ ?_
         rotate_left
         ·simp only [Act.put, sT, sZ, sS, i64_w, i32_w]
          rfl
         refine pure_ (i := 8) (N := some 40) (v := undef) (a' := ?_) #[true, true, true, true, true, true, true, true, true, false, false, false, false, false, false, false, false, false, false, false, false, false, false, false, false, false, false, false, false, false, false, false] rfl rfl (any_of HT_.out (by kernel_rfl)) (fun _ _ _ h => h) (Or.inr ⟨by rfl, rfl⟩) ?_ ?_
         rotate_left
         ·simp only [Act.put, sT, sZ, sS, i64_w, i32_w]
          rfl
         refine pure_ (i := 9) (N := some 41) (v := undef) (a' := ?_) #[true, true, true, true, true, true, true, true, true, true, false, false, false, false, false, false, false, false, false, false, false, false, false, false, false, false, false, false, false, false, false, false] rfl rfl (any_of HT_.out (by kernel_rfl)) (fun _ _ _ h => h) (Or.inr ⟨by rfl, rfl⟩) ?_ ?_
         rotate_left
         ·simp only [Act.put, sT, sZ, sS, i64_w, i32_w]
          rfl
         refine pure_ (i := 10) (N := some 42) (v := undef) (a' := ?_) #[true, true, true, true, true, true, true, true, true, true, true, false, false, false, false, false, false, false, false, false, false, false, false, false, false, false, false, false, false, false, false, false] rfl rfl (any_of HT_.out (by kernel_rfl)) (fun _ _ _ h => h) (Or.inr ⟨by rfl, rfl⟩) ?_ ?_
         rotate_left
         ·simp only [Act.put, sT, sZ, sS, i64_w, i32_w]
          rfl
         refine pure_ (i := 11) (N := some 43) (v := undef) (a' := ?_) #[true, true, true, true, true, true, true, true, true, true, true, true, false, false, false, false, false, false, false, false, false, false, false, false, false, false, false, false, false, false, false, false] rfl rfl (any_of HT_.out (by kernel_rfl)) (fun _ _ _ h => h) (Or.inr ⟨by rfl, rfl⟩) ?_ ?_
         rotate_left
         ·simp only [Act.put, sT, sZ, sS, i64_w, i32_w]
          rfl
         refine pure_ (i := 12) (N := some 44) (v := undef) (a' := ?_) #[true, true, true, true, true, true, true, true, true, true, true, true, true, false, false, false, false, false, false, false, false, false, false, false, false, false, false, false, false, false, false, false] rfl rfl (any_of HT_.out (by kernel_rfl)) (fun _ _ _ h => h) (Or.inr ⟨by rfl, rfl⟩) ?_ ?_
         rotate_left
         ·simp only [Act.put, sT, sZ, sS, i64_w, i32_w]
          rfl
         refine pure_ (i := 13) (N := some 45) (v := undef) (a' := ?_) #[true, true, true, true, true, true, true, true, true, true, true, true, true, true, false, false, false, false, false, false, false, false, false, false, false, false, false, false, false, false, false, false] rfl rfl (any_of HT_.out (by kernel_rfl)) (fun _ _ _ h => h) (Or.inr ⟨by rfl, rfl⟩) ?_ ?_
         rotate_left
         ·simp only [Act.put, sT, sZ, sS, i64_w, i32_w]
          rfl
         refine pure_ (i := 14) (N := some 46) (v := undef) (a' := ?_) #[true, true, true, true, true, true, true, true, true, true, true, true, true, true, true, false, false, false, false, false, false, false, false, false, false, false, false, false, false, false, false, false] rfl rfl (any_of HT_.out (by kernel_rfl)) (fun _ _ _ h => h) (Or.inr ⟨by rfl, rfl⟩) ?_ ?_
         rotate_left
         ·simp only [Act.put, sT, sZ, sS, i64_w, i32_w]
          rfl
         refine pure_ (i := 15) (N := some 47) (v := undef) (a' := ?_) #[true, true, true, true, true, true, true, true, true, true, true, true, true, true, true, true, false, false, false, false, false, false, false, false, false, false, false, false, false, false, false, false] rfl rfl (any_of HT_.out (by kernel_rfl)) (fun _ _ _ h => h) (Or.inr ⟨by rfl, rfl⟩) ?_ ?_
         rotate_left
         ·simp only [Act.put, sT, sZ, sS, i64_w, i32_w]
          rfl
         refine pure_ (i := 16) (N := some 48) (v := undef) (a' := ?_) #[true, true, true, true, true, true, true, true, true, true, true, true, true, true, true, true, true, false, false, false, false, false, false, false, false, false, false, false, false, false, false, false] rfl rfl (any_of HT_.out (by kernel_rfl)) (fun _ _ _ h => h) (Or.inr ⟨by rfl, rfl⟩) ?_ ?_
         rotate_left
         ·simp only [Act.put, sT, sZ, sS, i64_w, i32_w]
          rfl
         refine pure_ (i := 17) (N := some 49) (v := undef) (a' := ?_) #[true, true, true, true, true, true, true, true, true, true, true, true, true, true, true, true, true, true, false, false, false, false, false, false, false, false, false, false, false, false, false, false] rfl rfl (any_of HT_.out (by kernel_rfl)) (fun _ _ _ h => h) (Or.inr ⟨by rfl, rfl⟩) ?_ ?_
         rotate_left
         ·simp only [Act.put, sT, sZ, sS, i64_w, i32_w]
          rfl
         refine pure_ (i := 18) (N := some 50) (v := undef) (a' := ?_) #[true, true, true, true, true, true, true, true, true, true, true, true, true, true, true, true, true, true, true, false, false, false, false, false, false, false, false, false, false, false, false, false] rfl rfl (any_of HT_.out (by kernel_rfl)) (fun _ _ _ h => h) (Or.inr ⟨by rfl, rfl⟩) ?_ ?_
         rotate_left
         ·simp only [Act.put, sT, sZ, sS, i64_w, i32_w]
          rfl
         refine pure_ (i := 19) (N := some 51) (v := undef) (a' := ?_) #[true, true, true, true, true, true, true, true, true, true, true, true, true, true, true, true, true, true, true, true, false, false, false, false, false, false, false, false, false, false, false, false] rfl rfl (any_of HT_.out (by kernel_rfl)) (fun _ _ _ h => h) (Or.inr ⟨by rfl, rfl⟩) ?_ ?_
         rotate_left
         ·simp only [Act.put, sT, sZ, sS, i64_w, i32_w]
          rfl
         refine pure_ (i := 20) (N := some 52) (v := undef) (a' := ?_) #[true, true, true, true, true, true, true, true, true, true, true, true, true, true, true, true, true, true, true, true, true, false, false, false, false, false, false, false, false, false, false, false] rfl rfl (any_of HT_.out (by kernel_rfl)) (fun _ _ _ h => h) (Or.inr ⟨by rfl, rfl⟩) ?_ ?_
         rotate_left
         ·simp only [Act.put, sT, sZ, sS, i64_w, i32_w]
          rfl
         refine pure_ (i := 21) (N := some 53) (v := undef) (a' := ?_) #[true, true, true, true, true, true, true, true, true, true, true, true, true, true, true, true, true, true, true, true, true, true, false, false, false, false, false, false, false, false, false, false] rfl rfl (any_of HT_.out (by kernel_rfl)) (fun _ _ _ h => h) (Or.inr ⟨by rfl, rfl⟩) ?_ ?_
         rotate_left
         ·simp only [Act.put, sT, sZ, sS, i64_w, i32_w]
          rfl
         refine pure_ (i := 22) (N := some 54) (v := undef) (a' := ?_) #[true, true, true, true, true, true, true, true, true, true, true, true, true, true, true, true, true, true, true, true, true, true, true, false, false, false, false, false, false, false, false, false] rfl rfl (any_of HT_.out (by kernel_rfl)) (fun _ _ _ h => h) (Or.inr ⟨by rfl, rfl⟩) ?_ ?_
         rotate_left
         ·simp only [Act.put, sT, sZ, sS, i64_w, i32_w]
          rfl
         refine pure_ (i := 23) (N := some 55) (v := undef) (a' := ?_) #[true, true, true, true, true, true, true, true, true, true, true, true, true, true, true, true, true, true, true, true, true, true, true, true, false, false, false, false, false, false, false, false] rfl rfl (any_of HT_.out (by kernel_rfl)) (fun _ _ _ h => h) (Or.inr ⟨by rfl, rfl⟩) ?_ ?_
         rotate_left
         ·simp only [Act.put, sT, sZ, sS, i64_w, i32_w]
          rfl
         refine pure_ (i := 24) (N := some 56) (v := undef) (a' := ?_) #[true, true, true, true, true, true, true, true, true, true, true, true, true, true, true, true, true, true, true, true, true, true, true, true, true, false, false, false, false, false, false, false] rfl rfl (any_of HT_.out (by kernel_rfl)) (fun _ _ _ h => h) (Or.inr ⟨by rfl, rfl⟩) ?_ ?_
         rotate_left
         ·simp only [Act.put, sT, sZ, sS, i64_w, i32_w]
          rfl
         refine pure_ (i := 25) (N := some 57) (v := undef) (a' := ?_) #[true, true, true, true, true, true, true, true, true, true, true, true, true, true, true, true, true, true, true, true, true, true, true, true, true, true, false, false, false, false, false, false] rfl rfl (any_of HT_.out (by kernel_rfl)) (fun _ _ _ h => h) (Or.inr ⟨by rfl, rfl⟩) ?_ ?_
         rotate_left
         ·simp only [Act.put, sT, sZ, sS, i64_w, i32_w]
          rfl
         refine pure_ (i := 26) (N := some 58) (v := undef) (a' := ?_) #[true, true, true, true, true, true, true, true, true, true, true, true, true, true, true, true, true, true, true, true, true, true, true, true, true, true, true, false, false, false, false, false] rfl rfl (any_of HT_.out (by kernel_rfl)) (fun _ _ _ h => h) (Or.inr ⟨by rfl, rfl⟩) ?_ ?_
         rotate_left
         ·simp only [Act.put, sT, sZ, sS, i64_w, i32_w]
          rfl
         refine pure_ (i := 27) (N := some 59) (v := undef) (a' := ?_) #[true, true, true, true, true, true, true, true, true, true, true, true, true, true, true, true, true, true, true, true, true, true, true, true, true, true, true, true, false, false, false, false] rfl rfl (any_of HT_.out (by kernel_rfl)) (fun _ _ _ h => h) (Or.inr ⟨by rfl, rfl⟩) ?_ ?_
         rotate_left
         ·simp only [Act.put, sT, sZ, sS, i64_w, i32_w]
          rfl
         refine pure_ (i := 28) (N := some 60) (v := undef) (a' := ?_) #[true, true, true, true, true, true, true, true, true, true, true, true, true, true, true, true, true, true, true, true, true, true, true, true, true, true, true, true, true, false, false, false] rfl rfl (any_of HT_.out (by kernel_rfl)) (fun _ _ _ h => h) (Or.inr ⟨by rfl, rfl⟩) ?_ ?_
         rotate_left
         ·simp only [Act.put, sT, sZ, sS, i64_w, i32_w]
          rfl
         refine pure_ (i := 29) (N := some 61) (v := undef) (a' := ?_) #[true, true, true, true, true, true, true, true, true, true, true, true, true, true, true, true, true, true, true, true, true, true, true, true, true, true, true, true, true, true, false, false] rfl rfl (any_of HT_.out (by kernel_rfl)) (fun _ _ _ h => h) (Or.inr ⟨by rfl, rfl⟩) ?_ ?_
         rotate_left
         ·simp only [Act.put, sT, sZ, sS, i64_w, i32_w]
          rfl
         refine pure_ (i := 30) (N := some 62) (v := undef) (a' := ?_) #[true, true, true, true, true, true, true, true, true, true, true, true, true, true, true, true, true, true, true, true, true, true, true, true, true, true, true, true, true, true, true, false] rfl rfl (any_of HT_.out (by kernel_rfl)) (fun _ _ _ h => h) (Or.inr ⟨by rfl, rfl⟩) ?_ ?_
         rotate_left
         ·simp only [Act.put, sT, sZ, sS, i64_w, i32_w]
          rfl
         refine pure_ (i := 31) (N := some 63) (v := ?_) (a' := ?_) #[true, true, true, true, true, true, true, true, true, true, true, true, true, true, true, true, true, true, true, true, true, true, true, true, true, true, true, true, true, true, true, true] rfl rfl (any_of HT_.out (by kernel_rfl)) (fun _ _ _ h => h) (Or.inl ⟨by rfl, ?_⟩) ?_ ?_
         rotate_left
         ·intro w'
          go_simp
          with_reducible rfl
         rotate_left
         ·simp only [Act.put, sT, sZ, sS, i64_w, i32_w]
          rfl
         refine done_ (done_of HT_.out (by kernel_rfl)) ?_
         try go_wp2
         go_roundg k2
         case measure => have := HK1.out; have := HK2.out; omega
         case rel => exact ⟨(x9_2), (wrap64 (x10_2 + 1)), (by first | rfl | (simp; done) | (simp [*]; done)), (by first | rfl | (simp; done) | (simp [*]; done)), H', ⟨by have := HK1.out; have := HK2.out; omega⟩, ⟨by (with_reducible repeat (first | apply Kd.R_alloc | apply Kd.R_drewN | apply Kd.R_drew)); exact HO_7.out⟩, ⟨by repeat (first | (with_reducible first | exact HB.out | apply qA | apply qN | apply qD) | exact HB.out)⟩⟩
        ·rw [if_neg c7] at H
         have c7b0 : (((rd_T35 l1 x10_2).f1) == 2) = false := beq_eq_false_iff_ne.mpr c7
         have c7b1 : (((rd_T35 l1 x10_2).f1) != 2) = true := bne_iff_ne.mpr c7
         by_cases c9 : 0 ≤ x8_1
         ·rw [if_pos c9] at H
          have c9b0 : decide (0 ≤ x8_1) = true := decide_eq_true c9
          clear c9
          by_cases c10 : x8_1 < (l0.length : Int)
          ·rw [if_pos c10] at H
           have c10b0 : decide (x8_1 < (l0.length : Int)) = true := decide_eq_true c10
           clear c10
           by_cases c11 : ((rd_T35 l1 x10_2).f0).toList = ((rd_T35 l0 x8_1).f0).toList
           ·rw [if_pos c11] at H
            have c11b0 : (((rd_T35 l1 x10_2).f0).toList == ((rd_T35 l0 x8_1).f0).toList) = true := beq_iff_eq.mpr c11
            have c11b1 : (((rd_T35 l1 x10_2).f0).toList != ((rd_T35 l0 x8_1).f0).toList) = false := bne_eq_false_iff_eq.mpr c11
            clear c11
            have H' := Aside0.mk H
            clear H
            try go_wp2
            have n0_ := Aside0.mk (Kd.R_drew HO_7.out)
            have n1_ := Aside0.mk (qD HB.out)
            clear HO_7
            clear HB
            have HO_7 := n0_
            have HB := n1_
            clear n0_ n1_
            have p261 : 0 ≤ (x10_2 : Int) := of_decide_eq_true (by first | (with_reducible assumption) | assumption)
            have q261 : x10_2 < (l1.length : Int) := of_decide_eq_true (by first | (with_reducible assumption) | assumption)
            obtain ⟨ad261, e261, hx261_0, hx261_1, hx261_2⟩ := at_T35 HR1.out x10_2 p261 q261
            have hw261_2 := hx261_2
            have hw261_1 := hx261_1
            have hw261_0 := hx261_0
            cases e261
            replace hx261_0 := (HB.out.cell (World.block_lt_of_cell? w _ hx261_0)).trans hx261_0
            replace hx261_1 := (HB.out.cell (World.block_lt_of_cell? w _ hx261_1)).trans hx261_1
            replace hx261_2 := (HB.out.cell (World.block_lt_of_cell? w _ hx261_2)).trans hx261_2
            replace p261 := eq_true p261
            replace q261 := eq_true q261
            have p262 : 0 ≤ (x10_2 : Int) := of_decide_eq_true (by first | (with_reducible assumption) | assumption)
            have q262 : x10_2 < (l1.length : Int) := of_decide_eq_true (by first | (with_reducible assumption) | assumption)
            obtain ⟨ad262, e262, hx262_0, hx262_1, hx262_2⟩ := at_T35 HR1.out x10_2 p262 q262
            have hw262_2 := hx262_2
            have hw262_1 := hx262_1
            have hw262_0 := hx262_0
            obtain rfl : ad261 = ad262 := (by injection e262)
            replace hx262_0 := (HB.out.cell (World.block_lt_of_cell? w _ hx262_0)).trans hx262_0
            replace hx262_1 := (HB.out.cell (World.block_lt_of_cell? w _ hx262_1)).trans hx262_1
            replace hx262_2 := (HB.out.cell (World.block_lt_of_cell? w _ hx262_2)).trans hx262_2
            replace p262 := eq_true p262
            replace q262 := eq_true q262
            have p263 : 0 ≤ (x8_1 : Int) := of_decide_eq_true (by first | (with_reducible assumption) | assumption)
            have q263 : x8_1 < (l0.length : Int) := of_decide_eq_true (by first | (with_reducible assumption) | assumption)
            obtain ⟨ad263, e263, hx263_0, hx263_1, hx263_2⟩ := at_T35 HR0.out x8_1 p263 q263
            have hw263_2 := hx263_2
            have hw263_1 := hx263_1
            have hw263_0 := hx263_0
            cases e263
            replace hx263_0 := (HB.out.cell (World.block_lt_of_cell? w _ hx263_0)).trans hx263_0
            replace hx263_1 := (HB.out.cell (World.block_lt_of_cell? w _ hx263_1)).trans hx263_1
            replace hx263_2 := (HB.out.cell (World.block_lt_of_cell? w _ hx263_2)).trans hx263_2
            replace p263 := eq_true p263
            replace q263 := eq_true q263
            refine start_ (n := 32) (S := fun w' => w'.cell? (ad261.add ((x10_2).toNat * 3)) = some (.string ((rd_T35 l1 x10_2).f0)) ∧ w'.cell? ⟨(ad261.add ((x10_2).toNat * 3)).block, (ad261.add ((x10_2).toNat * 3)).off + 1, none⟩ = some (.int .i64 ((rd_T35 l1 x10_2).f1)) ∧ w'.cell? ⟨(ad261.add ((x10_2).toNat * 3)).block, (ad261.add ((x10_2).toNat * 3)).off + 2, none⟩ = some (.string ((rd_T35 l1 x10_2).f2)) ∧ w'.cell? (ad261.add ((x10_2).toNat * 3)) = some (.string ((rd_T35 l1 x10_2).f0)) ∧ w'.cell? ⟨(ad261.add ((x10_2).toNat * 3)).block, (ad261.add ((x10_2).toNat * 3)).off + 1, none⟩ = some (.int .i64 ((rd_T35 l1 x10_2).f1)) ∧ w'.cell? ⟨(ad261.add ((x10_2).toNat * 3)).block, (ad261.add ((x10_2).toNat * 3)).off + 2, none⟩ = some (.string ((rd_T35 l1 x10_2).f2)) ∧ w'.cell? (ad263.add ((x8_1).toNat * 3)) = some (.string ((rd_T35 l0 x8_1).f0)) ∧ w'.cell? ⟨(ad263.add ((x8_1).toNat * 3)).block, (ad263.add ((x8_1).toNat * 3)).off + 1, none⟩ = some (.int .i64 ((rd_T35 l0 x8_1).f1)) ∧ w'.cell? ⟨(ad263.add ((x8_1).toNat * 3)).block, (ad263.add ((x8_1).toNat * 3)).off + 2, none⟩ = some (.string ((rd_T35 l0 x8_1).f2))) (ds := []) #[false, false, false, false, false, false, false, false, false, false, false, false, false, false, false, false, false, false, false, false, false, false, false, false, false, false, false, false, false, false, false, false] (by kernel_rfl) rfl rfl ⟨((HB.out.cell (World.block_lt_of_cell? w _ hw261_0)).trans hw261_0), ((HB.out.cell (World.block_lt_of_cell? w _ hw261_1)).trans hw261_1), ((HB.out.cell (World.block_lt_of_cell? w _ hw261_2)).trans hw261_2), ((HB.out.cell (World.block_lt_of_cell? w _ hw262_0)).trans hw262_0), ((HB.out.cell (World.block_lt_of_cell? w _ hw262_1)).trans hw262_1), ((HB.out.cell (World.block_lt_of_cell? w _ hw262_2)).trans hw262_2), ((HB.out.cell (World.block_lt_of_cell? w _ hw263_0)).trans hw263_0), ((HB.out.cell (World.block_lt_of_cell? w _ hw263_1)).trans hw263_1), ((HB.out.cell (World.block_lt_of_cell? w _ hw263_2)).trans hw263_2)⟩ (fun hHeld => ?_); refine with_tabW z25.tab9 z25.bits9 (fun HT_ HW_ => ?_)
            generalize wr.drew = w12 at HO_7 HB hx261_0 hx261_1 hx261_2 hx262_0 hx262_1 hx262_2 hx263_0 hx263_1 hx263_2 hHeld ⊢
            refine pure_ (i := 0) (N := some 32) (v := ?_) (a' := ?_) #[true, false, false, false, false, false, false, false, false, false, false, false, false, false, false, false, false, false, false, false, false, false, false, false, false, false, false, false, false, false, false, false] rfl rfl (any_of HT_.out (by kernel_rfl)) (fun _ _ _ h => h) (Or.inl ⟨by rfl, ?_⟩) ?_ ?_
            rotate_left
            ·intro w'
             go_simp
             with_reducible rfl
            rotate_left
            ·simp only [Act.put, sT, sZ, sS, i64_w, i32_w]
             rfl
            refine pure_ (i := 1) (N := some 33) (v := ?_) (a' := ?_) #[true, true, false, false, false, false, false, false, false, false, false, false, false, false, false, false, false, false, false, false, false, false, false, false, false, false, false, false, false, false, false, false] rfl rfl (any_of HT_.out (by kernel_rfl)) (fun _ _ _ h => h) (Or.inl ⟨by rfl, ?_⟩) ?_ ?_
            rotate_left
            ·intro w'
             go_simp
             with_reducible rfl
            rotate_left
            ·simp only [Act.put, sT, sZ, sS, i64_w, i32_w]
             rfl
            refine pure_ (i := 2) (N := some 34) (v := ?_) (a' := ?_) #[true, true, true, false, false, false, false, false, false, false, false, false, false, false, false, false, false, false, false, false, false, false, false, false, false, false, false, false, false, false, false, false] rfl rfl (any_of HT_.out (by kernel_rfl)) (fun _ _ _ h => h) (Or.inl ⟨by rfl, ?_⟩) ?_ ?_
            rotate_left
            ·intro w'
             go_simp
             with_reducible rfl
            rotate_left
            ·simp only [Act.put, sT, sZ, sS, i64_w, i32_w]
             rfl
            refine pure_ (i := 3) (N := some 35) (v := ?_) (a' := ?_) #[true, true, true, true, false, false, false, false, false, false, false, false, false, false, false, false, false, false, false, false, false, false, false, false, false, false, false, false, false, false, false, false] rfl rfl (any_of HT_.out (by kernel_rfl)) (fun _ _ _ h => h) (Or.inl ⟨by rfl, ?_⟩) ?_ ?_
            rotate_left
            ·intro w'
             go_simp
             with_reducible rfl
            rotate_left
            ·simp only [Act.put, sT, sZ, sS, i64_w, i32_w]
             rfl
            refine take_ (i := 4) (N := some 36) (v := ?_) (a' := ?_) #[true, true, true, true, true, false, false, false, false, false, false, false, false, false, false, false, false, false, false, false, false, false, false, false, false, false, false, false, false, false, false, false] rfl rfl (take_ofW HT_.out HW_.out (by kernel_rfl)) (fun _ _ _ h => h) (Or.inl ⟨by rfl, ?_⟩) hHeld ?_ ?_
            rotate_left
            ·rintro w' ⟨s0, s1, s2, s3, s4, s5, s6, s7, s8⟩
             go_simp
             with_reducible rfl
            rotate_left
            ·simp only [Act.put, sT, sZ, sS, i64_w, i32_w]
             rfl
            refine pure_ (i := 5) (N := some 37) (v := ?_) (a' := ?_) #[true, true, true, true, true, true, false, false, false, false, false, false, false, false, false, false, false, false, false, false, false, false, false, false, false, false, false, false, false, false, false, false] rfl rfl (any_of HT_.out (by kernel_rfl)) (fun _ _ _ h => h) (Or.inl ⟨by rfl, ?_⟩) ?_ ?_
            rotate_left
            ·intro w'
             go_simp
             with_reducible rfl
            rotate_left
            ·simp only [Act.put, sT, sZ, sS, i64_w, i32_w]
             rfl
            refine pure_ (i := 6) (N := some 38) (v := ?_) (a' := ?_) #[true, true, true, true, true, true, true, false, false, false, false, false, false, false, false, false, false, false, false, false, false, false, false, false, false, false, false, false, false, false, false, false] rfl rfl (any_of HT_.out (by kernel_rfl)) (fun _ _ _ h => h) (Or.inl ⟨by rfl, ?_⟩) ?_ ?_
            rotate_left
            ·intro w'
             go_simp
             with_reducible rfl
            rotate_left
            ·simp only [Act.put, sT, sZ, sS, i64_w, i32_w]
             rfl
            refine pure_ (i := 7) (N := some 39) (v := ?_) (a' := ?_) #[true, true, true, true, true, true, true, true, false, false, false, false, false, false, false, false, false, false, false, false, false, false, false, false, false, false, false, false, false, false, false, false] rfl rfl (any_of HT_.out (by kernel_rfl)) (fun _ _ _ h => h) (Or.inl ⟨by rfl, ?_⟩) ?_ ?_
            rotate_left
            ·intro w'
             go_simp
             with_reducible rfl
            rotate_left
            ·simp only [Act.put, sT, sZ, sS, i64_w, i32_w]
             rfl
            refine pure_ (i := 8) (N := some 40) (v := ?_) (a' := ?_) #[true, true, true, true, true, true, true, true, true, false, false, false, false, false, false, false, false, false, false, false, false, false, false, false, false, false, false, false, false, false, false, false] rfl rfl (any_of HT_.out (by kernel_rfl)) (fun _ _ _ h => h) (Or.inl ⟨by rfl, ?_⟩) ?_ ?_
            rotate_left
            ·intro w'
             go_simp
             with_reducible rfl
            rotate_left
            ·simp only [Act.put, sT, sZ, sS, i64_w, i32_w]
             rfl
            refine pure_ (i := 9) (N := some 41) (v := ?_) (a' := ?_) #[true, true, true, true, true, true, true, true, true, true, false, false, false, false, false, false, false, false, false, false, false, false, false, false, false, false, false, false, false, false, false, false] rfl rfl (any_of HT_.out (by kernel_rfl)) (fun _ _ _ h => h) (Or.inl ⟨by rfl, ?_⟩) ?_ ?_
            rotate_left
            ·intro w'
             go_simp
             with_reducible rfl
            rotate_left
            ·simp only [Act.put, sT, sZ, sS, i64_w, i32_w]
             rfl
            refine pure_ (i := 10) (N := some 42) (v := ?_) (a' := ?_) #[true, true, true, true, true, true, true, true, true, true, true, false, false, false, false, false, false, false, false, false, false, false, false, false, false, false, false, false, false, false, false, false] rfl rfl (any_of HT_.out (by kernel_rfl)) (fun _ _ _ h => h) (Or.inl ⟨by rfl, ?_⟩) ?_ ?_
            rotate_left
            ·intro w'
             go_simp
             with_reducible rfl
            rotate_left
            ·simp only [Act.put, sT, sZ, sS, i64_w, i32_w]
             rfl
            refine pure_ (i := 12) (N := some 44) (v := ?_) (a' := ?_) #[true, true, true, true, true, true, true, true, true, true, true, false, true, false, false, false, false, false, false, false, false, false, false, false, false, false, false, false, false, false, false, false] rfl rfl (any_of HT_.out (by kernel_rfl)) (fun _ _ _ h => h) (Or.inl ⟨by rfl, ?_⟩) ?_ ?_
            rotate_left
            ·intro w'
             go_simp
             with_reducible rfl
            rotate_left
            ·simp only [Act.put, sT, sZ, sS, i64_w, i32_w]
             rfl
            refine pure_ (i := 13) (N := some 45) (v := ?_) (a' := ?_) #[true, true, true, true, true, true, true, true, true, true, true, false, true, true, false, false, false, false, false, false, false, false, false, false, false, false, false, false, false, false, false, false] rfl rfl (any_of HT_.out (by kernel_rfl)) (fun _ _ _ h => h) (Or.inl ⟨by rfl, ?_⟩) ?_ ?_
            rotate_left
            ·intro w'
             go_simp
             with_reducible rfl
            rotate_left
            ·simp only [Act.put, sT, sZ, sS, i64_w, i32_w]
             rfl
            refine pure_ (i := 14) (N := some 46) (v := ?_) (a' := ?_) #[true, true, true, true, true, true, true, true, true, true, true, false, true, true, true, false, false, false, false, false, false, false, false, false, false, false, false, false, false, false, false, false] rfl rfl (any_of HT_.out (by kernel_rfl)) (fun _ _ _ h => h) (Or.inl ⟨by rfl, ?_⟩) ?_ ?_
            rotate_left
            ·intro w'
             go_simp
             with_reducible rfl
            rotate_left
            ·simp only [Act.put, sT, sZ, sS, i64_w, i32_w]
             rfl
            refine pure_ (i := 15) (N := some 47) (v := ?_) (a' := ?_) #[true, true, true, true, true, true, true, true, true, true, true, false, true, true, true, true, false, false, false, false, false, false, false, false, false, false, false, false, false, false, false, false] rfl rfl (any_of HT_.out (by kernel_rfl)) (fun _ _ _ h => h) (Or.inl ⟨by rfl, ?_⟩) ?_ ?_
            rotate_left
            ·intro w'
             go_simp
             with_reducible rfl
            rotate_left
            ·simp only [Act.put, sT, sZ, sS, i64_w, i32_w]
             rfl
            refine take_ (i := 11) (N := some 43) (v := ?_) (a' := ?_) #[true, true, true, true, true, true, true, true, true, true, true, true, true, true, true, true, false, false, false, false, false, false, false, false, false, false, false, false, false, false, false, false] rfl rfl (take_ofW HT_.out HW_.out (by kernel_rfl)) (fun _ _ _ h => h) (Or.inl ⟨by rfl, ?_⟩) hHeld ?_ ?_
            rotate_left
            ·rintro w' ⟨s0, s1, s2, s3, s4, s5, s6, s7, s8⟩
             go_simp
             with_reducible rfl
            rotate_left
            ·simp only [Act.put, sT, sZ, sS, i64_w, i32_w]
             rfl
            refine take_ (i := 16) (N := some 48) (v := ?_) (a' := ?_) #[true, true, true, true, true, true, true, true, true, true, true, true, true, true, true, true, true, false, false, false, false, false, false, false, false, false, false, false, false, false, false, false] rfl rfl (take_ofW HT_.out HW_.out (by kernel_rfl)) (fun _ _ _ h => h) (Or.inl ⟨by rfl, ?_⟩) hHeld ?_ ?_
            rotate_left
            ·rintro w' ⟨s0, s1, s2, s3, s4, s5, s6, s7, s8⟩
             go_simp
             with_reducible rfl
            rotate_left
            ·simp only [Act.put, sT, sZ, sS, i64_w, i32_w]
             rfl
            refine pure_ (i := 17) (N := some 49) (v := ?_) (a' := ?_) #[true, true, true, true, true, true, true, true, true, true, true, true, true, true, true, true, true, true, false, false, false, false, false, false, false, false, false, false, false, false, false, false] rfl rfl (any_of HT_.out (by kernel_rfl)) (fun _ _ _ h => h) (Or.inl ⟨by rfl, ?_⟩) ?_ ?_
            rotate_left
            ·intro w'
             go_simp
             with_reducible rfl
            rotate_left
            ·simp only [Act.put, sT, sZ, sS, i64_w, i32_w]
             rfl
            refine pure_ (i := 18) (N := some 50) (v := ?_) (a' := ?_) #[true, true, true, true, true, true, true, true, true, true, true, true, true, true, true, true, true, true, true, false, false, false, false, false, false, false, false, false, false, false, false, false] rfl rfl (any_of HT_.out (by kernel_rfl)) (fun _ _ _ h => h) (Or.inl ⟨by rfl, ?_⟩) ?_ ?_
            rotate_left
            ·intro w'
             go_simp
             with_reducible rfl
            rotate_left
            ·simp only [Act.put, sT, sZ, sS, i64_w, i32_w]
             rfl
            refine pure_ (i := 19) (N := some 51) (v := undef) (a' := ?_) #[true, true, true, true, true, true, true, true, true, true, true, true, true, true, true, true, true, true, true, true, false, false, false, false, false, false, false, false, false, false, false, false] rfl rfl (any_of HT_.out (by kernel_rfl)) (fun _ _ _ h => h) (Or.inr ⟨by rfl, rfl⟩) ?_ ?_
            rotate_left
            ·simp only [Act.put, sT, sZ, sS, i64_w, i32_w]
             rfl
            refine pure_ (i := 20) (N := some 52) (v := undef) (a' := ?_) #[true, true, true, true, true, true, true, true, true, true, true, true, true, true, true, true, true, true, true, true, true, false, false, false, false, false, false, false, false, false, false, false] rfl rfl (any_of HT_.out (by kernel_rfl)) (fun _ _ _ h => h) (Or.inr ⟨by rfl, rfl⟩) ?_ ?_
            rotate_left
            ·simp only [Act.put, sT, sZ, sS, i64_w, i32_w]
             rfl
            refine pure_ (i := 21) (N := some 53) (v := undef) (a' := ?_) #[true, true, true, true, true, true, true, true, true, true, true, true, true, true, true, true, true, true, true, true, true, true, false, false, false, false, false, false, false, false, false, false] rfl rfl (any_of HT_.out (by kernel_rfl)) (fun _ _ _ h => h) (Or.inr ⟨by rfl, rfl⟩) ?_ ?_
            rotate_left
            ·simp only [Act.put, sT, sZ, sS, i64_w, i32_w]
             rfl
            refine pure_ (i := 22) (N := some 54) (v := undef) (a' := ?_) #[true, true, true, true, true, true, true, true, true, true, true, true, true, true, true, true, true, true, true, true, true, true, true, false, false, false, false, false, false, false, false, false] rfl rfl (any_of HT_.out (by kernel_rfl)) (fun _ _ _ h => h) (Or.inr ⟨by rfl, rfl⟩) ?_ ?_
            rotate_left
            ·simp only [Act.put, sT, sZ, sS, i64_w, i32_w]
             rfl
            refine pure_ (i := 23) (N := some 55) (v := undef) (a' := ?_) #[true, true, true, true, true, true, true, true, true, true, true, true, true, true, true, true, true, true, true, true, true, true, true, true, false, false, false, false, false, false, false, false] rfl rfl (any_of HT_.out (by kernel_rfl)) (fun _ _ _ h => h) (Or.inr ⟨by rfl, rfl⟩) ?_ ?_
            rotate_left
            ·simp only [Act.put, sT, sZ, sS, i64_w, i32_w]
             rfl
            refine pure_ (i := 24) (N := some 56) (v := undef) (a' := ?_) #[true, true, true, true, true, true, true, true, true, true, true, true, true, true, true, true, true, true, true, true, true, true, true, true, true, false, false, false, false, false, false, false] rfl rfl (any_of HT_.out (by kernel_rfl)) (fun _ _ _ h => h) (Or.inr ⟨by rfl, rfl⟩) ?_ ?_
            rotate_left
            ·simp only [Act.put, sT, sZ, sS, i64_w, i32_w]
             rfl
            refine pure_ (i := 25) (N := some 57) (v := undef) (a' := ?_) #[true, true, true, true, true, true, true, true, true, true, true, true, true, true, true, true, true, true, true, true, true, true, true, true, true, true, false, false, false, false, false, false] rfl rfl (any_of HT_.out (by kernel_rfl)) (fun _ _ _ h => h) (Or.inr ⟨by rfl, rfl⟩) ?_ ?_
            rotate_left
            ·simp only [Act.put, sT, sZ, sS, i64_w, i32_w]
             rfl
            refine pure_ (i := 26) (N := some 58) (v := undef) (a' := ?_) #[true, true, true, true, true, true, true, true, true, true, true, true, true, true, true, true, true, true, true, true, true, true, true, true, true, true, true, false, false, false, false, false] rfl rfl (any_of HT_.out (by kernel_rfl)) (fun _ _ _ h => h) (Or.inr ⟨by rfl, rfl⟩) ?_ ?_
            rotate_left
            ·simp only [Act.put, sT, sZ, sS, i64_w, i32_w]
             rfl
            refine pure_ (i := 27) (N := some 59) (v := undef) (a' := ?_) #[true, true, true, true, true, true, true, true, true, true, true, true, true, true, true, true, true, true, true, true, true, true, true, true, true, true, true, true, false, false, false, false] rfl rfl (any_of HT_.out (by kernel_rfl)) (fun _ _ _ h => h) (Or.inr ⟨by rfl, rfl⟩) ?_ ?_
            rotate_left
            ·simp only [Act.put, sT, sZ, sS, i64_w, i32_w]
             rfl
            refine pure_ (i := 28) (N := some 60) (v := undef) (a' := ?_) #[true, true, true, true, true, true, true, true, true, true, true, true, true, true, true, true, true, true, true, true, true, true, true, true, true, true, true, true, true, false, false, false] rfl rfl (any_of HT_.out (by kernel_rfl)) (fun _ _ _ h => h) (Or.inr ⟨by rfl, rfl⟩) ?_ ?_
            rotate_left
            ·simp only [Act.put, sT, sZ, sS, i64_w, i32_w]
             rfl
            refine pure_ (i := 29) (N := some 61) (v := undef) (a' := ?_) #[true, true, true, true, true, true, true, true, true, true, true, true, true, true, true, true, true, true, true, true, true, true, true, true, true, true, true, true, true, true, false, false] rfl rfl (any_of HT_.out (by kernel_rfl)) (fun _ _ _ h => h) (Or.inr ⟨by rfl, rfl⟩) ?_ ?_
            rotate_left
            ·simp only [Act.put, sT, sZ, sS, i64_w, i32_w]
             rfl
            refine pure_ (i := 30) (N := some 62) (v := ?_) (a' := ?_) #[true, true, true, true, true, true, true, true, true, true, true, true, true, true, true, true, true, true, true, true, true, true, true, true, true, true, true, true, true, true, true, false] rfl rfl (any_of HT_.out (by kernel_rfl)) (fun _ _ _ h => h) (Or.inl ⟨by rfl, ?_⟩) ?_ ?_
            rotate_left
            ·intro w'
             go_simp
             with_reducible rfl
            rotate_left
            ·simp only [Act.put, sT, sZ, sS, i64_w, i32_w]
             rfl
            refine pure_ (i := 31) (N := some 63) (v := ?_) (a' := ?_) #[true, true, true, true, true, true, true, true, true, true, true, true, true, true, true, true, true, true, true, true, true, true, true, true, true, true, true, true, true, true, true, true] rfl rfl (any_of HT_.out (by kernel_rfl)) (fun _ _ _ h => h) (Or.inl ⟨by rfl, ?_⟩) ?_ ?_
            rotate_left
            ·intro w'
             go_simp
             with_reducible rfl
            rotate_left
            ·simp only [Act.put, sT, sZ, sS, i64_w, i32_w]
             rfl
            refine done_ (done_of HT_.out (by kernel_rfl)) ?_
            try go_wp2
            go_roundg k2
            case measure => have := HK1.out; have := HK2.out; omega
            case rel => exact ⟨(true), (wrap64 (x10_2 + 1)), (by first | rfl | (simp; done) | (simp [*]; done)), (by first | rfl | (simp; done) | (simp [*]; done)), H', ⟨by have := HK1.out; have := HK2.out; omega⟩, ⟨by (with_reducible repeat (first | apply Kd.R_alloc | apply Kd.R_drewN | apply Kd.R_drew)); exact HO_7.out⟩, ⟨by repeat (first | (with_reducible first | exact HB.out | apply qA | apply qN | apply qD) | exact HB.out)⟩⟩
           ·rw [if_neg c11] at H
            have c11b0 : (((rd_T35 l1 x10_2).f0).toList == ((rd_T35 l0 x8_1).f0).toList) = false := beq_eq_false_iff_ne.mpr c11
            have c11b1 : (((rd_T35 l1 x10_2).f0).toList != ((rd_T35 l0 x8_1).f0).toList) = true := bne_iff_ne.mpr c11
            replace H := Option.bind_eq_some_iff.mp H
            obtain ⟨t266, A130, H⟩ := H
            replace H : (if t266 = true then (z25.l1 k2 l0 l1 a2 x7_1 x8_1 true (wrap64 (x10_2 + 1))) else (z25.l1 k2 l0 l1 a2 x7_1 x8_1 x9_2 (wrap64 (x10_2 + 1)))) = some r := H
            have A13 := Aside0.mk A130
            clear A130
            by_cases c14 : t266 = true
            ·subst c14
             have H1 : (z25.l1 k2 l0 l1 a2 x7_1 x8_1 true (wrap64 (x10_2 + 1))) = some r := by rw [if_pos rfl] at H; exact H
             clear H
             have H := H1
             clear H1
             have H' := Aside0.mk H
             clear H
             try go_wp2
             have n0_ := Aside0.mk (Kd.R_drew HO_7.out)
             have n1_ := Aside0.mk (qD HB.out)
             clear HO_7
             clear HB
             have HO_7 := n0_
             have HB := n1_
             clear n0_ n1_
             have p261 : 0 ≤ (x10_2 : Int) := of_decide_eq_true (by first | (with_reducible assumption) | assumption)
             have q261 : x10_2 < (l1.length : Int) := of_decide_eq_true (by first | (with_reducible assumption) | assumption)
             obtain ⟨ad261, e261, hx261_0, hx261_1, hx261_2⟩ := at_T35 HR1.out x10_2 p261 q261
             have hw261_2 := hx261_2
             have hw261_1 := hx261_1
             have hw261_0 := hx261_0
             cases e261
             replace hx261_0 := (HB.out.cell (World.block_lt_of_cell? w _ hx261_0)).trans hx261_0
             replace hx261_1 := (HB.out.cell (World.block_lt_of_cell? w _ hx261_1)).trans hx261_1
             replace hx261_2 := (HB.out.cell (World.block_lt_of_cell? w _ hx261_2)).trans hx261_2
             replace p261 := eq_true p261
             replace q261 := eq_true q261
             have p262 : 0 ≤ (x10_2 : Int) := of_decide_eq_true (by first | (with_reducible assumption) | assumption)
             have q262 : x10_2 < (l1.length : Int) := of_decide_eq_true (by first | (with_reducible assumption) | assumption)
             obtain ⟨ad262, e262, hx262_0, hx262_1, hx262_2⟩ := at_T35 HR1.out x10_2 p262 q262
             have hw262_2 := hx262_2
             have hw262_1 := hx262_1
             have hw262_0 := hx262_0
             obtain rfl : ad261 = ad262 := (by injection e262)
             replace hx262_0 := (HB.out.cell (World.block_lt_of_cell? w _ hx262_0)).trans hx262_0
             replace hx262_1 := (HB.out.cell (World.block_lt_of_cell? w _ hx262_1)).trans hx262_1
             replace hx262_2 := (HB.out.cell (World.block_lt_of_cell? w _ hx262_2)).trans hx262_2
             replace p262 := eq_true p262
             replace q262 := eq_true q262
             have p263 : 0 ≤ (x8_1 : Int) := of_decide_eq_true (by first | (with_reducible assumption) | assumption)
             have q263 : x8_1 < (l0.length : Int) := of_decide_eq_true (by first | (with_reducible assumption) | assumption)
             obtain ⟨ad263, e263, hx263_0, hx263_1, hx263_2⟩ := at_T35 HR0.out x8_1 p263 q263
             have hw263_2 := hx263_2
             have hw263_1 := hx263_1
             have hw263_0 := hx263_0
             cases e263
             replace hx263_0 := (HB.out.cell (World.block_lt_of_cell? w _ hx263_0)).trans hx263_0
             replace hx263_1 := (HB.out.cell (World.block_lt_of_cell? w _ hx263_1)).trans hx263_1
             replace hx263_2 := (HB.out.cell (World.block_lt_of_cell? w _ hx263_2)).trans hx263_2
             replace p263 := eq_true p263
             replace q263 := eq_true q263
             have p264 : 0 ≤ (x8_1 : Int) := of_decide_eq_true (by first | (with_reducible assumption) | assumption)
             have q264 : x8_1 < (l0.length : Int) := of_decide_eq_true (by first | (with_reducible assumption) | assumption)
             obtain ⟨ad264, e264, hx264_0, hx264_1, hx264_2⟩ := at_T35 HR0.out x8_1 p264 q264
             have hw264_2 := hx264_2
             have hw264_1 := hx264_1
             have hw264_0 := hx264_0
             obtain rfl : ad263 = ad264 := (by injection e264)
             replace hx264_0 := (HB.out.cell (World.block_lt_of_cell? w _ hx264_0)).trans hx264_0
             replace hx264_1 := (HB.out.cell (World.block_lt_of_cell? w _ hx264_1)).trans hx264_1
             replace hx264_2 := (HB.out.cell (World.block_lt_of_cell? w _ hx264_2)).trans hx264_2
             replace p264 := eq_true p264
             replace q264 := eq_true q264
             have p265 : 0 ≤ (x10_2 : Int) := of_decide_eq_true (by first | (with_reducible assumption) | assumption)
             have q265 : x10_2 < (l1.length : Int) := of_decide_eq_true (by first | (with_reducible assumption) | assumption)
             obtain ⟨ad265, e265, hx265_0, hx265_1, hx265_2⟩ := at_T35 HR1.out x10_2 p265 q265
             have hw265_2 := hx265_2
             have hw265_1 := hx265_1
             have hw265_0 := hx265_0
             obtain rfl : ad261 = ad265 := (by injection e265)
             replace hx265_0 := (HB.out.cell (World.block_lt_of_cell? w _ hx265_0)).trans hx265_0
             replace hx265_1 := (HB.out.cell (World.block_lt_of_cell? w _ hx265_1)).trans hx265_1
             replace hx265_2 := (HB.out.cell (World.block_lt_of_cell? w _ hx265_2)).trans hx265_2
             replace p265 := eq_true p265
             replace q265 := eq_true q265
             refine start_ (n := 32) (S := fun w' => w'.cell? (ad261.add ((x10_2).toNat * 3)) = some (.string ((rd_T35 l1 x10_2).f0)) ∧ w'.cell? ⟨(ad261.add ((x10_2).toNat * 3)).block, (ad261.add ((x10_2).toNat * 3)).off + 1, none⟩ = some (.int .i64 ((rd_T35 l1 x10_2).f1)) ∧ w'.cell? ⟨(ad261.add ((x10_2).toNat * 3)).block, (ad261.add ((x10_2).toNat * 3)).off + 2, none⟩ = some (.string ((rd_T35 l1 x10_2).f2)) ∧ w'.cell? (ad261.add ((x10_2).toNat * 3)) = some (.string ((rd_T35 l1 x10_2).f0)) ∧ w'.cell? ⟨(ad261.add ((x10_2).toNat * 3)).block, (ad261.add ((x10_2).toNat * 3)).off + 1, none⟩ = some (.int .i64 ((rd_T35 l1 x10_2).f1)) ∧ w'.cell? ⟨(ad261.add ((x10_2).toNat * 3)).block, (ad261.add ((x10_2).toNat * 3)).off + 2, none⟩ = some (.string ((rd_T35 l1 x10_2).f2)) ∧ w'.cell? (ad263.add ((x8_1).toNat * 3)) = some (.string ((rd_T35 l0 x8_1).f0)) ∧ w'.cell? ⟨(ad263.add ((x8_1).toNat * 3)).block, (ad263.add ((x8_1).toNat * 3)).off + 1, none⟩ = some (.int .i64 ((rd_T35 l0 x8_1).f1)) ∧ w'.cell? ⟨(ad263.add ((x8_1).toNat * 3)).block, (ad263.add ((x8_1).toNat * 3)).off + 2, none⟩ = some (.string ((rd_T35 l0 x8_1).f2)) ∧ w'.cell? (ad263.add ((x8_1).toNat * 3)) = some (.string ((rd_T35 l0 x8_1).f0)) ∧ w'.cell? ⟨(ad263.add ((x8_1).toNat * 3)).block, (ad263.add ((x8_1).toNat * 3)).off + 1, none⟩ = some (.int .i64 ((rd_T35 l0 x8_1).f1)) ∧ w'.cell? ⟨(ad263.add ((x8_1).toNat * 3)).block, (ad263.add ((x8_1).toNat * 3)).off + 2, none⟩ = some (.string ((rd_T35 l0 x8_1).f2)) ∧ w'.cell? (ad261.add ((x10_2).toNat * 3)) = some (.string ((rd_T35 l1 x10_2).f0)) ∧ w'.cell? ⟨(ad261.add ((x10_2).toNat * 3)).block, (ad261.add ((x10_2).toNat * 3)).off + 1, none⟩ = some (.int .i64 ((rd_T35 l1 x10_2).f1)) ∧ w'.cell? ⟨(ad261.add ((x10_2).toNat * 3)).block, (ad261.add ((x10_2).toNat * 3)).off + 2, none⟩ = some (.string ((rd_T35 l1 x10_2).f2))) (ds := []) #[false, false, false, false, false, false, false, false, false, false, false, false, false, false, false, false, false, false, false, false, false, false, false, false, false, false, false, false, false, false, false, false] (by kernel_rfl) rfl rfl ⟨((HB.out.cell (World.block_lt_of_cell? w _ hw261_0)).trans hw261_0), ((HB.out.cell (World.block_lt_of_cell? w _ hw261_1)).trans hw261_1), ((HB.out.cell (World.block_lt_of_cell? w _ hw261_2)).trans hw261_2), ((HB.out.cell (World.block_lt_of_cell? w _ hw262_0)).trans hw262_0), ((HB.out.cell (World.block_lt_of_cell? w _ hw262_1)).trans hw262_1), ((HB.out.cell (World.block_lt_of_cell? w _ hw262_2)).trans hw262_2), ((HB.out.cell (World.block_lt_of_cell? w _ hw263_0)).trans hw263_0), ((HB.out.cell (World.block_lt_of_cell? w _ hw263_1)).trans hw263_1), ((HB.out.cell (World.block_lt_of_cell? w _ hw263_2)).trans hw263_2), ((HB.out.cell (World.block_lt_of_cell? w _ hw264_0)).trans hw264_0), ((HB.out.cell (World.block_lt_of_cell? w _ hw264_1)).trans hw264_1), ((HB.out.cell (World.block_lt_of_cell? w _ hw264_2)).trans hw264_2), ((HB.out.cell (World.block_lt_of_cell? w _ hw265_0)).trans hw265_0), ((HB.out.cell (World.block_lt_of_cell? w _ hw265_1)).trans hw265_1), ((HB.out.cell (World.block_lt_of_cell? w _ hw265_2)).trans hw265_2)⟩ (fun hHeld => ?_); refine with_tabW z25.tab9 z25.bits9 (fun HT_ HW_ => ?_)
             generalize wr.drew = w15 at HO_7 HB hx261_0 hx261_1 hx261_2 hx262_0 hx262_1 hx262_2 hx263_0 hx263_1 hx263_2 hx264_0 hx264_1 hx264_2 hx265_0 hx265_1 hx265_2 hHeld ⊢
             refine pure_ (i := 0) (N := some 32) (v := ?_) (a' := ?_) #[true, false, false, false, false, false, false, false, false, false, false, false, false, false, false, false, false, false, false, false, false, false, false, false, false, false, false, false, false, false, false, false] rfl rfl (any_of HT_.out (by kernel_rfl)) (fun _ _ _ h => h) (Or.inl ⟨by rfl, ?_⟩) ?_ ?_
             rotate_left
             ·intro w'
              go_simp
              with_reducible rfl
             rotate_left
             ·simp only [Act.put, sT, sZ, sS, i64_w, i32_w]
              rfl
             refine pure_ (i := 1) (N := some 33) (v := ?_) (a' := ?_) #[true, true, false, false, false, false, false, false, false, false, false, false, false, false, false, false, false, false, false, false, false, false, false, false, false, false, false, false, false, false, false, false] rfl rfl (any_of HT_.out (by kernel_rfl)) (fun _ _ _ h => h) (Or.inl ⟨by rfl, ?_⟩) ?_ ?_
             rotate_left
             ·intro w'
              go_simp
              with_reducible rfl
             rotate_left
             ·simp only [Act.put, sT, sZ, sS, i64_w, i32_w]
              rfl
             refine pure_ (i := 2) (N := some 34) (v := ?_) (a' := ?_) #[true, true, true, false, false, false, false, false, false, false, false, false, false, false, false, false, false, false, false, false, false, false, false, false, false, false, false, false, false, false, false, false] rfl rfl (any_of HT_.out (by kernel_rfl)) (fun _ _ _ h => h) (Or.inl ⟨by rfl, ?_⟩) ?_ ?_
             rotate_left
             ·intro w'
              go_simp
              with_reducible rfl
             rotate_left
             ·simp only [Act.put, sT, sZ, sS, i64_w, i32_w]
              rfl
             refine pure_ (i := 3) (N := some 35) (v := ?_) (a' := ?_) #[true, true, true, true, false, false, false, false, false, false, false, false, false, false, false, false, false, false, false, false, false, false, false, false, false, false, false, false, false, false, false, false] rfl rfl (any_of HT_.out (by kernel_rfl)) (fun _ _ _ h => h) (Or.inl ⟨by rfl, ?_⟩) ?_ ?_
             rotate_left
             ·intro w'
              go_simp
              with_reducible rfl
             rotate_left
             ·simp only [Act.put, sT, sZ, sS, i64_w, i32_w]
              rfl
             refine take_ (i := 4) (N := some 36) (v := ?_) (a' := ?_) #[true, true, true, true, true, false, false, false, false, false, false, false, false, false, false, false, false, false, false, false, false, false, false, false, false, false, false, false, false, false, false, false] rfl rfl (take_ofW HT_.out HW_.out (by kernel_rfl)) (fun _ _ _ h => h) (Or.inl ⟨by rfl, ?_⟩) hHeld ?_ ?_
             rotate_left
             ·rintro w' ⟨s0, s1, s2, s3, s4, s5, s6, s7, s8, s9, s10, s11, s12, s13, s14⟩
              go_simp
              with_reducible rfl
             rotate_left
             ·simp only [Act.put, sT, sZ, sS, i64_w, i32_w]
              rfl
             refine pure_ (i := 5) (N := some 37) (v := ?_) (a' := ?_) #[true, true, true, true, true, true, false, false, false, false, false, false, false, false, false, false, false, false, false, false, false, false, false, false, false, false, false, false, false, false, false, false] rfl rfl (any_of HT_.out (by kernel_rfl)) (fun _ _ _ h => h) (Or.inl ⟨by rfl, ?_⟩) ?_ ?_
             rotate_left
             ·intro w'
              go_simp
              with_reducible rfl
             rotate_left
             ·simp only [Act.put, sT, sZ, sS, i64_w, i32_w]
              rfl
             refine pure_ (i := 6) (N := some 38) (v := ?_) (a' := ?_) #[true, true, true, true, true, true, true, false, false, false, false, false, false, false, false, false, false, false, false, false, false, false, false, false, false, false, false, false, false, false, false, false] rfl rfl (any_of HT_.out (by kernel_rfl)) (fun _ _ _ h => h) (Or.inl ⟨by rfl, ?_⟩) ?_ ?_
             rotate_left
             ·intro w'
              go_simp
              with_reducible rfl
             rotate_left
             ·simp only [Act.put, sT, sZ, sS, i64_w, i32_w]
              rfl
             refine pure_ (i := 7) (N := some 39) (v := ?_) (a' := ?_) #[true, true, true, true, true, true, true, true, false, false, false, false, false, false, false, false, false, false, false, false, false, false, false, false, false, false, false, false, false, false, false, false] rfl rfl (any_of HT_.out (by kernel_rfl)) (fun _ _ _ h => h) (Or.inl ⟨by rfl, ?_⟩) ?_ ?_
             rotate_left
             ·intro w'
              go_simp
              with_reducible rfl
             rotate_left
             ·simp only [Act.put, sT, sZ, sS, i64_w, i32_w]
              rfl
             refine pure_ (i := 8) (N := some 40) (v := ?_) (a' := ?_) #[true, true, true, true, true, true, true, true, true, false, false, false, false, false, false, false, false, false, false, false, false, false, false, false, false, false, false, false, false, false, false, false] rfl rfl (any_of HT_.out (by kernel_rfl)) (fun _ _ _ h => h) (Or.inl ⟨by rfl, ?_⟩) ?_ ?_
             rotate_left
             ·intro w'
              go_simp
              with_reducible rfl
             rotate_left
             ·simp only [Act.put, sT, sZ, sS, i64_w, i32_w]
              rfl
             refine pure_ (i := 9) (N := some 41) (v := ?_) (a' := ?_) #[true, true, true, true, true, true, true, true, true, true, false, false, false, false, false, false, false, false, false, false, false, false, false, false, false, false, false, false, false, false, false, false] rfl rfl (any_of HT_.out (by kernel_rfl)) (fun _ _ _ h => h) (Or.inl ⟨by rfl, ?_⟩) ?_ ?_
             rotate_left
             ·intro w'
              go_simp
              with_reducible rfl
             rotate_left
             ·simp only [Act.put, sT, sZ, sS, i64_w, i32_w]
              rfl
             refine pure_ (i := 10) (N := some 42) (v := ?_) (a' := ?_) #[true, true, true, true, true, true, true, true, true, true, true, false, false, false, false, false, false, false, false, false, false, false, false, false, false, false, false, false, false, false, false, false] rfl rfl (any_of HT_.out (by kernel_rfl)) (fun _ _ _ h => h) (Or.inl ⟨by rfl, ?_⟩) ?_ ?_
             rotate_left
             ·intro w'
              go_simp
              with_reducible rfl
             rotate_left
             ·simp only [Act.put, sT, sZ, sS, i64_w, i32_w]
              rfl
             refine pure_ (i := 12) (N := some 44) (v := ?_) (a' := ?_) #[true, true, true, true, true, true, true, true, true, true, true, false, true, false, false, false, false, false, false, false, false, false, false, false, false, false, false, false, false, false, false, false] rfl rfl (any_of HT_.out (by kernel_rfl)) (fun _ _ _ h => h) (Or.inl ⟨by rfl, ?_⟩) ?_ ?_
             rotate_left
             ·intro w'
              go_simp
              with_reducible rfl
             rotate_left
             ·simp only [Act.put, sT, sZ, sS, i64_w, i32_w]
              rfl
             refine pure_ (i := 13) (N := some 45) (v := ?_) (a' := ?_) #[true, true, true, true, true, true, true, true, true, true, true, false, true, true, false, false, false, false, false, false, false, false, false, false, false, false, false, false, false, false, false, false] rfl rfl (any_of HT_.out (by kernel_rfl)) (fun _ _ _ h => h) (Or.inl ⟨by rfl, ?_⟩) ?_ ?_
             rotate_left
             ·intro w'
              go_simp
              with_reducible rfl
             rotate_left
             ·simp only [Act.put, sT, sZ, sS, i64_w, i32_w]
              rfl
             refine pure_ (i := 14) (N := some 46) (v := ?_) (a' := ?_) #[true, true, true, true, true, true, true, true, true, true, true, false, true, true, true, false, false, false, false, false, false, false, false, false, false, false, false, false, false, false, false, false] rfl rfl (any_of HT_.out (by kernel_rfl)) (fun _ _ _ h => h) (Or.inl ⟨by rfl, ?_⟩) ?_ ?_
             rotate_left
             ·intro w'
              go_simp
              with_reducible rfl
             rotate_left
             ·simp only [Act.put, sT, sZ, sS, i64_w, i32_w]
              rfl
             refine pure_ (i := 15) (N := some 47) (v := ?_) (a' := ?_) #[true, true, true, true, true, true, true, true, true, true, true, false, true, true, true, true, false, false, false, false, false, false, false, false, false, false, false, false, false, false, false, false] rfl rfl (any_of HT_.out (by kernel_rfl)) (fun _ _ _ h => h) (Or.inl ⟨by rfl, ?_⟩) ?_ ?_
             rotate_left
             ·intro w'
              go_simp
              with_reducible rfl
             rotate_left
             ·simp only [Act.put, sT, sZ, sS, i64_w, i32_w]
              rfl
             refine take_ (i := 11) (N := some 43) (v := ?_) (a' := ?_) #[true, true, true, true, true, true, true, true, true, true, true, true, true, true, true, true, false, false, false, false, false, false, false, false, false, false, false, false, false, false, false, false] rfl rfl (take_ofW HT_.out HW_.out (by kernel_rfl)) (fun _ _ _ h => h) (Or.inl ⟨by rfl, ?_⟩) hHeld ?_ ?_
             rotate_left
             ·rintro w' ⟨s0, s1, s2, s3, s4, s5, s6, s7, s8, s9, s10, s11, s12, s13, s14⟩
              go_simp
              with_reducible rfl
             rotate_left
             ·simp only [Act.put, sT, sZ, sS, i64_w, i32_w]
              rfl
             refine take_ (i := 16) (N := some 48) (v := ?_) (a' := ?_) #[true, true, true, true, true, true, true, true, true, true, true, true, true, true, true, true, true, false, false, false, false, false, false, false, false, false, false, false, false, false, false, false] rfl rfl (take_ofW HT_.out HW_.out (by kernel_rfl)) (fun _ _ _ h => h) (Or.inl ⟨by rfl, ?_⟩) hHeld ?_ ?_
             rotate_left
             ·rintro w' ⟨s0, s1, s2, s3, s4, s5, s6, s7, s8, s9, s10, s11, s12, s13, s14⟩
              go_simp
              with_reducible rfl
             rotate_left
             ·simp only [Act.put, sT, sZ, sS, i64_w, i32_w]
              rfl
             refine pure_ (i := 17) (N := some 49) (v := ?_) (a' := ?_) #[true, true, true, true, true, true, true, true, true, true, true, true, true, true, true, true, true, true, false, false, false, false, false, false, false, false, false, false, false, false, false, false] rfl rfl (any_of HT_.out (by kernel_rfl)) (fun _ _ _ h => h) (Or.inl ⟨by rfl, ?_⟩) ?_ ?_
             rotate_left
             ·intro w'
              go_simp
              with_reducible rfl
             rotate_left
             ·simp only [Act.put, sT, sZ, sS, i64_w, i32_w]
              rfl
             refine pure_ (i := 18) (N := some 50) (v := ?_) (a' := ?_) #[true, true, true, true, true, true, true, true, true, true, true, true, true, true, true, true, true, true, true, false, false, false, false, false, false, false, false, false, false, false, false, false] rfl rfl (any_of HT_.out (by kernel_rfl)) (fun _ _ _ h => h) (Or.inl ⟨by rfl, ?_⟩) ?_ ?_
             rotate_left
             ·intro w'
              go_simp
              with_reducible rfl
             rotate_left
             ·simp only [Act.put, sT, sZ, sS, i64_w, i32_w]
              rfl
             refine pure_ (i := 19) (N := some 51) (v := ?_) (a' := ?_) #[true, true, true, true, true, true, true, true, true, true, true, true, true, true, true, true, true, true, true, true, false, false, false, false, false, false, false, false, false, false, false, false] rfl rfl (any_of HT_.out (by kernel_rfl)) (fun _ _ _ h => h) (Or.inl ⟨by rfl, ?_⟩) ?_ ?_
             rotate_left
             ·intro w'
              go_simp
              with_reducible rfl
             rotate_left
             ·simp only [Act.put, sT, sZ, sS, i64_w, i32_w]
              rfl
             refine pure_ (i := 20) (N := some 52) (v := ?_) (a' := ?_) #[true, true, true, true, true, true, true, true, true, true, true, true, true, true, true, true, true, true, true, true, true, false, false, false, false, false, false, false, false, false, false, false] rfl rfl (any_of HT_.out (by kernel_rfl)) (fun _ _ _ h => h) (Or.inl ⟨by rfl, ?_⟩) ?_ ?_
             rotate_left
             ·intro w'
              go_simp
              with_reducible rfl
             rotate_left
             ·simp only [Act.put, sT, sZ, sS, i64_w, i32_w]
              rfl
             refine pure_ (i := 21) (N := some 53) (v := ?_) (a' := ?_) #[true, true, true, true, true, true, true, true, true, true, true, true, true, true, true, true, true, true, true, true, true, true, false, false, false, false, false, false, false, false, false, false] rfl rfl (any_of HT_.out (by kernel_rfl)) (fun _ _ _ h => h) (Or.inl ⟨by rfl, ?_⟩) ?_ ?_
             rotate_left
             ·intro w'
              go_simp
              with_reducible rfl
             rotate_left
             ·simp only [Act.put, sT, sZ, sS, i64_w, i32_w]
              rfl
             refine pure_ (i := 22) (N := some 54) (v := ?_) (a' := ?_) #[true, true, true, true, true, true, true, true, true, true, true, true, true, true, true, true, true, true, true, true, true, true, true, false, false, false, false, false, false, false, false, false] rfl rfl (any_of HT_.out (by kernel_rfl)) (fun _ _ _ h => h) (Or.inl ⟨by rfl, ?_⟩) ?_ ?_
             rotate_left
             ·intro w'
              go_simp
              with_reducible rfl
             rotate_left
             ·simp only [Act.put, sT, sZ, sS, i64_w, i32_w]
              rfl
             refine pure_ (i := 24) (N := some 56) (v := ?_) (a' := ?_) #[true, true, true, true, true, true, true, true, true, true, true, true, true, true, true, true, true, true, true, true, true, true, true, false, true, false, false, false, false, false, false, false] rfl rfl (any_of HT_.out (by kernel_rfl)) (fun _ _ _ h => h) (Or.inl ⟨by rfl, ?_⟩) ?_ ?_
             rotate_left
             ·intro w'
              go_simp
              with_reducible rfl
             rotate_left
             ·simp only [Act.put, sT, sZ, sS, i64_w, i32_w]
              rfl
             refine pure_ (i := 25) (N := some 57) (v := ?_) (a' := ?_) #[true, true, true, true, true, true, true, true, true, true, true, true, true, true, true, true, true, true, true, true, true, true, true, false, true, true, false, false, false, false, false, false] rfl rfl (any_of HT_.out (by kernel_rfl)) (fun _ _ _ h => h) (Or.inl ⟨by rfl, ?_⟩) ?_ ?_
             rotate_left
             ·intro w'
              go_simp
              with_reducible rfl
             rotate_left
             ·simp only [Act.put, sT, sZ, sS, i64_w, i32_w]
              rfl
             refine pure_ (i := 26) (N := some 58) (v := ?_) (a' := ?_) #[true, true, true, true, true, true, true, true, true, true, true, true, true, true, true, true, true, true, true, true, true, true, true, false, true, true, true, false, false, false, false, false] rfl rfl (any_of HT_.out (by kernel_rfl)) (fun _ _ _ h => h) (Or.inl ⟨by rfl, ?_⟩) ?_ ?_
             rotate_left
             ·intro w'
              go_simp
              with_reducible rfl
             rotate_left
             ·simp only [Act.put, sT, sZ, sS, i64_w, i32_w]
              rfl
             refine pure_ (i := 27) (N := some 59) (v := ?_) (a' := ?_) #[true, true, true, true, true, true, true, true, true, true, true, true, true, true, true, true, true, true, true, true, true, true, true, false, true, true, true, true, false, false, false, false] rfl rfl (any_of HT_.out (by kernel_rfl)) (fun _ _ _ h => h) (Or.inl ⟨by rfl, ?_⟩) ?_ ?_
             rotate_left
             ·intro w'
              go_simp
              with_reducible rfl
             rotate_left
             ·simp only [Act.put, sT, sZ, sS, i64_w, i32_w]
              rfl
             refine take_ (i := 23) (N := some 55) (v := ?_) (a' := ?_) #[true, true, true, true, true, true, true, true, true, true, true, true, true, true, true, true, true, true, true, true, true, true, true, true, true, true, true, true, false, false, false, false] rfl rfl (take_ofW HT_.out HW_.out (by kernel_rfl)) (fun _ _ _ h => h) (Or.inl ⟨by rfl, ?_⟩) hHeld ?_ ?_
             rotate_left
             ·rintro w' ⟨s0, s1, s2, s3, s4, s5, s6, s7, s8, s9, s10, s11, s12, s13, s14⟩
              go_simp
              with_reducible rfl
             rotate_left
             ·simp only [Act.put, sT, sZ, sS, i64_w, i32_w]
              rfl
             refine take_ (i := 28) (N := some 60) (v := ?_) (a' := ?_) #[true, true, true, true, true, true, true, true, true, true, true, true, true, true, true, true, true, true, true, true, true, true, true, true, true, true, true, true, true, false, false, false] rfl rfl (take_ofW HT_.out HW_.out (by kernel_rfl)) (fun _ _ _ h => h) (Or.inl ⟨by rfl, ?_⟩) hHeld ?_ ?_
             rotate_left
             ·rintro w' ⟨s0, s1, s2, s3, s4, s5, s6, s7, s8, s9, s10, s11, s12, s13, s14⟩
              go_simp
              with_reducible rfl
             rotate_left
             ·simp only [Act.put, sT, sZ, sS, i64_w, i32_w]
              rfl
             refine one_ (i := 29) (N := some 61) #[true, true, true, true, true, true, true, true, true, true, true, true, true, true, true, true, true, true, true, true, true, true, true, true, true, true, true, true, true, true, false, false] rfl rfl (one_of HT_.out (by kernel_rfl)) (by decide) (fun K hK => ?_)
             refine goes_ Tryz.func20 (by kernel_rfl) rfl #[.string ((rd_T35 l0 x8_1).f0), .string ((rd_T35 l1 x10_2).f0)] (by rfl) rfl rfl (by (try simp only [List.map_toArray, List.map_cons, List.map_nil]); first | done | rfl | (simp only [List.length_drop, List.length_take]; rfl)) ?_
             with_reducible refine (z13.calls ((rd_T35 l0 x8_1).f0) ((rd_T35 l1 x10_2).f0) true _ A13.out).mono ?_
             rintro e w' ⟨rfl, ⟨nd, rfl⟩⟩
             refine ⟨_, rfl, ?_⟩
             refine hK.out _ _ ⟨((HB.out.cell (World.block_lt_of_cell? w _ hw261_0)).trans hw261_0), ((HB.out.cell (World.block_lt_of_cell? w _ hw261_1)).trans hw261_1), ((HB.out.cell (World.block_lt_of_cell? w _ hw261_2)).trans hw261_2), ((HB.out.cell (World.block_lt_of_cell? w _ hw262_0)).trans hw262_0), ((HB.out.cell (World.block_lt_of_cell? w _ hw262_1)).trans hw262_1), ((HB.out.cell (World.block_lt_of_cell? w _ hw262_2)).trans hw262_2), ((HB.out.cell (World.block_lt_of_cell? w _ hw263_0)).trans hw263_0), ((HB.out.cell (World.block_lt_of_cell? w _ hw263_1)).trans hw263_1), ((HB.out.cell (World.block_lt_of_cell? w _ hw263_2)).trans hw263_2), ((HB.out.cell (World.block_lt_of_cell? w _ hw264_0)).trans hw264_0), ((HB.out.cell (World.block_lt_of_cell? w _ hw264_1)).trans hw264_1), ((HB.out.cell (World.block_lt_of_cell? w _ hw264_2)).trans hw264_2), ((HB.out.cell (World.block_lt_of_cell? w _ hw265_0)).trans hw265_0), ((HB.out.cell (World.block_lt_of_cell? w _ hw265_1)).trans hw265_1), ((HB.out.cell (World.block_lt_of_cell? w _ hw265_2)).trans hw265_2)⟩ (fun hHeld => ?_)
             clear hK K
             refine norm_ (a' := ?_) ?_ ?_
             rotate_left
             ·show Act.put _ (some 61) _ = _
              simp only [Act.put, sT, sZ, sS, i64_w, i32_w]
              rfl
             refine pure_ (i := 30) (N := some 62) (v := ?_) (a' := ?_) #[true, true, true, true, true, true, true, true, true, true, true, true, true, true, true, true, true, true, true, true, true, true, true, true, true, true, true, true, true, true, true, false] rfl rfl (any_of HT_.out (by kernel_rfl)) (fun _ _ _ h => h) (Or.inl ⟨by rfl, ?_⟩) ?_ ?_
             rotate_left
             ·intro w'
              go_simp
              with_reducible rfl
             rotate_left
             ·simp only [Act.put, sT, sZ, sS, i64_w, i32_w]
              rfl
             refine pure_ (i := 31) (N := some 63) (v := ?_) (a' := ?_) #[true, true, true, true, true, true, true, true, true, true, true, true, true, true, true, true, true, true, true, true, true, true, true, true, true, true, true, true, true, true, true, true] rfl rfl (any_of HT_.out (by kernel_rfl)) (fun _ _ _ h => h) (Or.inl ⟨by rfl, ?_⟩) ?_ ?_
             rotate_left
             ·intro w'
              go_simp
              with_reducible rfl
             rotate_left
             ·simp only [Act.put, sT, sZ, sS, i64_w, i32_w]
              rfl
             refine done_ (done_of HT_.out (by kernel_rfl)) ?_
             try go_wp2
             go_roundg k2
             case measure => have := HK1.out; have := HK2.out; omega
             case rel => exact ⟨(true), (wrap64 (x10_2 + 1)), (by first | rfl | (simp; done) | (simp [*]; done)), (by first | rfl | (simp; done) | (simp [*]; done)), H', ⟨by have := HK1.out; have := HK2.out; omega⟩, ⟨by (with_reducible repeat (first | apply Kd.R_alloc | apply Kd.R_drewN | apply Kd.R_drew)); exact HO_7.out⟩, ⟨by repeat (first | (with_reducible first | exact HB.out | apply qA | apply qN | apply qD) | exact HB.out)⟩⟩
            ·replace c14 := Bool.eq_false_iff.mpr c14
             subst c14
             have H1 : (z25.l1 k2 l0 l1 a2 x7_1 x8_1 x9_2 (wrap64 (x10_2 + 1))) = some r := by rw [if_neg (show ¬ (false = true) by decide)] at H; exact H
             clear H
             have H := H1
             clear H1
             have H' := Aside0.mk H
             clear H
             try go_wp2
             have n0_ := Aside0.mk (Kd.R_drew HO_7.out)
             have n1_ := Aside0.mk (qD HB.out)
             clear HO_7
             clear HB
             have HO_7 := n0_
             have HB := n1_
             clear n0_ n1_
             have p261 : 0 ≤ (x10_2 : Int) := of_decide_eq_true (by first | (with_reducible assumption) | assumption)
             have q261 : x10_2 < (l1.length : Int) := of_decide_eq_true (by first | (with_reducible assumption) | assumption)
             obtain ⟨ad261, e261, hx261_0, hx261_1, hx261_2⟩ := at_T35 HR1.out x10_2 p261 q261
             have hw261_2 := hx261_2
             have hw261_1 := hx261_1
             have hw261_0 := hx261_0
             cases e261
             replace hx261_0 := (HB.out.cell (World.block_lt_of_cell? w _ hx261_0)).trans hx261_0
             replace hx261_1 := (HB.out.cell (World.block_lt_of_cell? w _ hx261_1)).trans hx261_1
             replace hx261_2 := (HB.out.cell (World.block_lt_of_cell? w _ hx261_2)).trans hx261_2
             replace p261 := eq_true p261
             replace q261 := eq_true q261
             have p262 : 0 ≤ (x10_2 : Int) := of_decide_eq_true (by first | (with_reducible assumption) | assumption)
             have q262 : x10_2 < (l1.length : Int) := of_decide_eq_true (by first | (with_reducible assumption) | assumption)
             obtain ⟨ad262, e262, hx262_0, hx262_1, hx262_2⟩ := at_T35 HR1.out x10_2 p262 q262
             have hw262_2 := hx262_2
             have hw262_1 := hx262_1
             have hw262_0 := hx262_0
             obtain rfl : ad261 = ad262 := (by injection e262)
             replace hx262_0 := (HB.out.cell (World.block_lt_of_cell? w _ hx262_0)).trans hx262_0
             replace hx262_1 := (HB.out.cell (World.block_lt_of_cell? w _ hx262_1)).trans hx262_1
             replace hx262_2 := (HB.out.cell (World.block_lt_of_cell? w _ hx262_2)).trans hx262_2
             replace p262 := eq_true p262
             replace q262 := eq_true q262
             have p263 : 0 ≤ (x8_1 : Int) := of_decide_eq_true (by first | (with_reducible assumption) | assumption)
             have q263 : x8_1 < (l0.length : Int) := of_decide_eq_true (by first | (with_reducible assumption) | assumption)
             obtain ⟨ad263, e263, hx263_0, hx263_1, hx263_2⟩ := at_T35 HR0.out x8_1 p263 q263
             have hw263_2 := hx263_2
             have hw263_1 := hx263_1
             have hw263_0 := hx263_0
             cases e263
             replace hx263_0 := (HB.out.cell (World.block_lt_of_cell? w _ hx263_0)).trans hx263_0
             replace hx263_1 := (HB.out.cell (World.block_lt_of_cell? w _ hx263_1)).trans hx263_1
             replace hx263_2 := (HB.out.cell (World.block_lt_of_cell? w _ hx263_2)).trans hx263_2
             replace p263 := eq_true p263
             replace q263 := eq_true q263
             have p264 : 0 ≤ (x8_1 : Int) := of_decide_eq_true (by first | (with_reducible assumption) | assumption)
             have q264 : x8_1 < (l0.length : Int) := of_decide_eq_true (by first | (with_reducible assumption) | assumption)
             obtain ⟨ad264, e264, hx264_0, hx264_1, hx264_2⟩ := at_T35 HR0.out x8_1 p264 q264
             have hw264_2 := hx264_2
             have hw264_1 := hx264_1
             have hw264_0 := hx264_0
             obtain rfl : ad263 = ad264 := (by injection e264)
             replace hx264_0 := (HB.out.cell (World.block_lt_of_cell? w _ hx264_0)).trans hx264_0
             replace hx264_1 := (HB.out.cell (World.block_lt_of_cell? w _ hx264_1)).trans hx264_1
             replace hx264_2 := (HB.out.cell (World.block_lt_of_cell? w _ hx264_2)).trans hx264_2
             replace p264 := eq_true p264
             replace q264 := eq_true q264
             have p265 : 0 ≤ (x10_2 : Int) := of_decide_eq_true (by first | (with_reducible assumption) | assumption)
             have q265 : x10_2 < (l1.length : Int) := of_decide_eq_true (by first | (with_reducible assumption) | assumption)
             obtain ⟨ad265, e265, hx265_0, hx265_1, hx265_2⟩ := at_T35 HR1.out x10_2 p265 q265
             have hw265_2 := hx265_2
             have hw265_1 := hx265_1
             have hw265_0 := hx265_0
             obtain rfl : ad261 = ad265 := (by injection e265)
             replace hx265_0 := (HB.out.cell (World.block_lt_of_cell? w _ hx265_0)).trans hx265_0
             replace hx265_1 := (HB.out.cell (World.block_lt_of_cell? w _ hx265_1)).trans hx265_1
             replace hx265_2 := (HB.out.cell (World.block_lt_of_cell? w _ hx265_2)).trans hx265_2
             replace p265 := eq_true p265
             replace q265 := eq_true q265
             refine start_ (n := 32) (S := fun w' => w'.cell? (ad261.add ((x10_2).toNat * 3)) = some (.string ((rd_T35 l1 x10_2).f0)) ∧ w'.cell? ⟨(ad261.add ((x10_2).toNat * 3)).block, (ad261.add ((x10_2).toNat * 3)).off + 1, none⟩ = some (.int .i64 ((rd_T35 l1 x10_2).f1)) ∧ w'.cell? ⟨(ad261.add ((x10_2).toNat * 3)).block, (ad261.add ((x10_2).toNat * 3)).off + 2, none⟩ = some (.string ((rd_T35 l1 x10_2).f2)) ∧ w'.cell? (ad261.add ((x10_2).toNat * 3)) = some (.string ((rd_T35 l1 x10_2).f0)) ∧ w'.cell? ⟨(ad261.add ((x10_2).toNat * 3)).block, (ad261.add ((x10_2).toNat * 3)).off + 1, none⟩ = some (.int .i64 ((rd_T35 l1 x10_2).f1)) ∧ w'.cell? ⟨(ad261.add ((x10_2).toNat * 3)).block, (ad261.add ((x10_2).toNat * 3)).off + 2, none⟩ = some (.string ((rd_T35 l1 x10_2).f2)) ∧ w'.cell? (ad263.add ((x8_1).toNat * 3)) = some (.string ((rd_T35 l0 x8_1).f0)) ∧ w'.cell? ⟨(ad263.add ((x8_1).toNat * 3)).block, (ad263.add ((x8_1).toNat * 3)).off + 1, none⟩ = some (.int .i64 ((rd_T35 l0 x8_1).f1)) ∧ w'.cell? ⟨(ad263.add ((x8_1).toNat * 3)).block, (ad263.add ((x8_1).toNat * 3)).off + 2, none⟩ = some (.string ((rd_T35 l0 x8_1).f2)) ∧ w'.cell? (ad263.add ((x8_1).toNat * 3)) = some (.string ((rd_T35 l0 x8_1).f0)) ∧ w'.cell? ⟨(ad263.add ((x8_1).toNat * 3)).block, (ad263.add ((x8_1).toNat * 3)).off + 1, none⟩ = some (.int .i64 ((rd_T35 l0 x8_1).f1)) ∧ w'.cell? ⟨(ad263.add ((x8_1).toNat * 3)).block, (ad263.add ((x8_1).toNat * 3)).off + 2, none⟩ = some (.string ((rd_T35 l0 x8_1).f2)) ∧ w'.cell? (ad261.add ((x10_2).toNat * 3)) = some (.string ((rd_T35 l1 x10_2).f0)) ∧ w'.cell? ⟨(ad261.add ((x10_2).toNat * 3)).block, (ad261.add ((x10_2).toNat * 3)).off + 1, none⟩ = some (.int .i64 ((rd_T35 l1 x10_2).f1)) ∧ w'.cell? ⟨(ad261.add ((x10_2).toNat * 3)).block, (ad261.add ((x10_2).toNat * 3)).off + 2, none⟩ = some (.string ((rd_T35 l1 x10_2).f2))) (ds := []) #[false, false, false, false, false, false, false, false, false, false, false, false, false, false, false, false, false, false, false, false, false, false, false, false, false, false, false, false, false, false, false, false] (by kernel_rfl) rfl rfl ⟨((HB.out.cell (World.block_lt_of_cell? w _ hw261_0)).trans hw261_0), ((HB.out.cell (World.block_lt_of_cell? w _ hw261_1)).trans hw261_1), ((HB.out.cell (World.block_lt_of_cell? w _ hw261_2)).trans hw261_2), ((HB.out.cell (World.block_lt_of_cell? w _ hw262_0)).trans hw262_0), ((HB.out.cell (World.block_lt_of_cell? w _ hw262_1)).trans hw262_1), ((HB.out.cell (World.block_lt_of_cell? w _ hw262_2)).trans hw262_2), ((HB.out.cell (World.block_lt_of_cell? w _ hw263_0)).trans hw263_0), ((HB.out.cell (World.block_lt_of_cell? w _ hw263_1)).trans hw263_1), ((HB.out.cell (World.block_lt_of_cell? w _ hw263_2)).trans hw263_2), ((HB.out.cell (World.block_lt_of_cell? w _ hw264_0)).trans hw264_0), ((HB.out.cell (World.block_lt_of_cell? w _ hw264_1)).trans hw264_1), ((HB.out.cell (World.block_lt_of_cell? w _ hw264_2)).trans hw264_2), ((HB.out.cell (World.block_lt_of_cell? w _ hw265_0)).trans hw265_0), ((HB.out.cell (World.block_lt_of_cell? w _ hw265_1)).trans hw265_1), ((HB.out.cell (World.block_lt_of_cell? w _ hw265_2)).trans hw265_2)⟩ (fun hHeld => ?_); refine with_tabW z25.tab9 z25.bits9 (fun HT_ HW_ => ?_)
             generalize wr.drew = w16 at HO_7 HB hx261_0 hx261_1 hx261_2 hx262_0 hx262_1 hx262_2 hx263_0 hx263_1 hx263_2 hx264_0 hx264_1 hx264_2 hx265_0 hx265_1 hx265_2 hHeld ⊢
             refine pure_ (i := 0) (N := some 32) (v := ?_) (a' := ?_) #[true, false, false, false, false, false, false, false, false, false, false, false, false, false, false, false, false, false, false, false, false, false, false, false, false, false, false, false, false, false, false, false] rfl rfl (any_of HT_.out (by kernel_rfl)) (fun _ _ _ h => h) (Or.inl ⟨by rfl, ?_⟩) ?_ ?_
             rotate_left
             ·intro w'
              go_simp
              with_reducible rfl
             rotate_left
             ·simp only [Act.put, sT, sZ, sS, i64_w, i32_w]
              rfl
             refine pure_ (i := 1) (N := some 33) (v := ?_) (a' := ?_) #[true, true, false, false, false, false, false, false, false, false, false, false, false, false, false, false, false, false, false, false, false, false, false, false, false, false, false, false, false, false, false, false] rfl rfl (any_of HT_.out (by kernel_rfl)) (fun _ _ _ h => h) (Or.inl ⟨by rfl, ?_⟩) ?_ ?_
             rotate_left
             ·intro w'
              go_simp
              with_reducible rfl
             rotate_left
             ·simp only [Act.put, sT, sZ, sS, i64_w, i32_w]
              rfl
             refine pure_ (i := 2) (N := some 34) (v := ?_) (a' := ?_) #[true, true, true, false, false, false, false, false, false, false, false, false, false, false, false, false, false, false, false, false, false, false, false, false, false, false, false, false, false, false, false, false] rfl rfl (any_of HT_.out (by kernel_rfl)) (fun _ _ _ h => h) (Or.inl ⟨by rfl, ?_⟩) ?_ ?_
             rotate_left
             ·intro w'
              go_simp
              with_reducible rfl
             rotate_left
             ·simp only [Act.put, sT, sZ, sS, i64_w, i32_w]
              rfl
             refine pure_ (i := 3) (N := some 35) (v := ?_) (a' := ?_) #[true, true, true, true, false, false, false, false, false, false, false, false, false, false, false, false, false, false, false, false, false, false, false, false, false, false, false, false, false, false, false, false] rfl rfl (any_of HT_.out (by kernel_rfl)) (fun _ _ _ h => h) (Or.inl ⟨by rfl, ?_⟩) ?_ ?_
             rotate_left
             ·intro w'
              go_simp
              with_reducible rfl
             rotate_left
             ·simp only [Act.put, sT, sZ, sS, i64_w, i32_w]
              rfl
             refine take_ (i := 4) (N := some 36) (v := ?_) (a' := ?_) #[true, true, true, true, true, false, false, false, false, false, false, false, false, false, false, false, false, false, false, false, false, false, false, false, false, false, false, false, false, false, false, false] rfl rfl (take_ofW HT_.out HW_.out (by kernel_rfl)) (fun _ _ _ h => h) (Or.inl ⟨by rfl, ?_⟩) hHeld ?_ ?_
             rotate_left
             ·rintro w' ⟨s0, s1, s2, s3, s4, s5, s6, s7, s8, s9, s10, s11, s12, s13, s14⟩
              go_simp
              with_reducible rfl
             rotate_left
             ·simp only [Act.put, sT, sZ, sS, i64_w, i32_w]
              rfl
             refine pure_ (i := 5) (N := some 37) (v := ?_) (a' := ?_) #[true, true, true, true, true, true, false, false, false, false, false, false, false, false, false, false, false, false, false, false, false, false, false, false, false, false, false, false, false, false, false, false] rfl rfl (any_of HT_.out (by kernel_rfl)) (fun _ _ _ h => h) (Or.inl ⟨by rfl, ?_⟩) ?_ ?_
             rotate_left
             ·intro w'
              go_simp
              with_reducible rfl
             rotate_left
             ·simp only [Act.put, sT, sZ, sS, i64_w, i32_w]
              rfl
             refine pure_ (i := 6) (N := some 38) (v := ?_) (a' := ?_) #[true, true, true, true, true, true, true, false, false, false, false, false, false, false, false, false, false, false, false, false, false, false, false, false, false, false, false, false, false, false, false, false] rfl rfl (any_of HT_.out (by kernel_rfl)) (fun _ _ _ h => h) (Or.inl ⟨by rfl, ?_⟩) ?_ ?_
             rotate_left
             ·intro w'
              go_simp
              with_reducible rfl
             rotate_left
             ·simp only [Act.put, sT, sZ, sS, i64_w, i32_w]
              rfl
             refine pure_ (i := 7) (N := some 39) (v := ?_) (a' := ?_) #[true, true, true, true, true, true, true, true, false, false, false, false, false, false, false, false, false, false, false, false, false, false, false, false, false, false, false, false, false, false, false, false] rfl rfl (any_of HT_.out (by kernel_rfl)) (fun _ _ _ h => h) (Or.inl ⟨by rfl, ?_⟩) ?_ ?_
             rotate_left
             ·intro w'
              go_simp
              with_reducible rfl
             rotate_left
             ·simp only [Act.put, sT, sZ, sS, i64_w, i32_w]
              rfl
             refine pure_ (i := 8) (N := some 40) (v := ?_) (a' := ?_) #[true, true, true, true, true, true, true, true, true, false, false, false, false, false, false, false, false, false, false, false, false, false, false, false, false, false, false, false, false, false, false, false] rfl rfl (any_of HT_.out (by kernel_rfl)) (fun _ _ _ h => h) (Or.inl ⟨by rfl, ?_⟩) ?_ ?_
             rotate_left
             ·intro w'
              go_simp
              with_reducible rfl
             rotate_left
             ·simp only [Act.put, sT, sZ, sS, i64_w, i32_w]
              rfl
             refine pure_ (i := 9) (N := some 41) (v := ?_) (a' := ?_) #[true, true, true, true, true, true, true, true, true, true, false, false, false, false, false, false, false, false, false, false, false, false, false, false, false, false, false, false, false, false, false, false] rfl rfl (any_of HT_.out (by kernel_rfl)) (fun _ _ _ h => h) (Or.inl ⟨by rfl, ?_⟩) ?_ ?_
             rotate_left
             ·intro w'
              go_simp
              with_reducible rfl
             rotate_left
             ·simp only [Act.put, sT, sZ, sS, i64_w, i32_w]
              rfl
             refine pure_ (i := 10) (N := some 42) (v := ?_) (a' := ?_) #[true, true, true, true, true, true, true, true, true, true, true, false, false, false, false, false, false, false, false, false, false, false, false, false, false, false, false, false, false, false, false, false] rfl rfl (any_of HT_.out (by kernel_rfl)) (fun _ _ _ h => h) (Or.inl ⟨by rfl, ?_⟩) ?_ ?_
             rotate_left
             ·intro w'
              go_simp
              with_reducible rfl
             rotate_left
             ·simp only [Act.put, sT, sZ, sS, i64_w, i32_w]
              rfl
             refine pure_ (i := 12) (N := some 44) (v := ?_) (a' := ?_) #[true, true, true, true, true, true, true, true, true, true, true, false, true, false, false, false, false, false, false, false, false, false, false, false, false, false, false, false, false, false, false, false] rfl rfl (any_of HT_.out (by kernel_rfl)) (fun _ _ _ h => h) (Or.inl ⟨by rfl, ?_⟩) ?_ ?_
             rotate_left
             ·intro w'
              go_simp
              with_reducible rfl
             rotate_left
             ·simp only [Act.put, sT, sZ, sS, i64_w, i32_w]
              rfl
             refine pure_ (i := 13) (N := some 45) (v := ?_) (a' := ?_) #[true, true, true, true, true, true, true, true, true, true, true, false, true, true, false, false, false, false, false, false, false, false, false, false, false, false, false, false, false, false, false, false] rfl rfl (any_of HT_.out (by kernel_rfl)) (fun _ _ _ h => h) (Or.inl ⟨by rfl, ?_⟩) ?_ ?_
             rotate_left
             ·intro w'
              go_simp
              with_reducible rfl
             rotate_left
             ·simp only [Act.put, sT, sZ, sS, i64_w, i32_w]
              rfl
             refine pure_ (i := 14) (N := some 46) (v := ?_) (a' := ?_) #[true, true, true, true, true, true, true, true, true, true, true, false, true, true, true, false, false, false, false, false, false, false, false, false, false, false, false, false, false, false, false, false] rfl rfl (any_of HT_.out (by kernel_rfl)) (fun _ _ _ h => h) (Or.inl ⟨by rfl, ?_⟩) ?_ ?_
             rotate_left
             ·intro w'
              go_simp
              with_reducible rfl
             rotate_left
             ·simp only [Act.put, sT, sZ, sS, i64_w, i32_w]
              rfl
             refine pure_ (i := 15) (N := some 47) (v := ?_) (a' := ?_) #[true, true, true, true, true, true, true, true, true, true, true, false, true, true, true, true, false, false, false, false, false, false, false, false, false, false, false, false, false, false, false, false] rfl rfl (any_of HT_.out (by kernel_rfl)) (fun _ _ _ h => h) (Or.inl ⟨by rfl, ?_⟩) ?_ ?_
             rotate_left
             ·intro w'
              go_simp
              with_reducible rfl
             rotate_left
             ·simp only [Act.put, sT, sZ, sS, i64_w, i32_w]
              rfl
             refine take_ (i := 11) (N := some 43) (v := ?_) (a' := ?_) #[true, true, true, true, true, true, true, true, true, true, true, true, true, true, true, true, false, false, false, false, false, false, false, false, false, false, false, false, false, false, false, false] rfl rfl (take_ofW HT_.out HW_.out (by kernel_rfl)) (fun _ _ _ h => h) (Or.inl ⟨by rfl, ?_⟩) hHeld ?_ ?_
             rotate_left
             ·rintro w' ⟨s0, s1, s2, s3, s4, s5, s6, s7, s8, s9, s10, s11, s12, s13, s14⟩
              go_simp
              with_reducible rfl
             rotate_left
             ·simp only [Act.put, sT, sZ, sS, i64_w, i32_w]
              rfl
             refine take_ (i := 16) (N := some 48) (v := ?_) (a' := ?_) #[true, true, true, true, true, true, true, true, true, true, true, true, true, true, true, true, true, false, false, false, false, false, false, false, false, false, false, false, false, false, false, false] rfl rfl (take_ofW HT_.out HW_.out (by kernel_rfl)) (fun _ _ _ h => h) (Or.inl ⟨by rfl, ?_⟩) hHeld ?_ ?_
             rotate_left
             ·rintro w' ⟨s0, s1, s2, s3, s4, s5, s6, s7, s8, s9, s10, s11, s12, s13, s14⟩
              go_simp
              with_reducible rfl
             rotate_left
             ·simp only [Act.put, sT, sZ, sS, i64_w, i32_w]
              rfl
             refine pure_ (i := 17) (N := some 49) (v := ?_) (a' := ?_) #[true, true, true, true, true, true, true, true, true, true, true, true, true, true, true, true, true, true, false, false, false, false, false, false, false, false, false, false, false, false, false, false] rfl rfl (any_of HT_.out (by kernel_rfl)) (fun _ _ _ h => h) (Or.inl ⟨by rfl, ?_⟩) ?_ ?_
             rotate_left
             ·intro w'
              go_simp
              with_reducible rfl
             rotate_left
             ·simp only [Act.put, sT, sZ, sS, i64_w, i32_w]
              rfl
             refine pure_ (i := 18) (N := some 50) (v := ?_) (a' := ?_) #[true, true, true, true, true, true, true, true, true, true, true, true, true, true, true, true, true, true, true, false, false, false, false, false, false, false, false, false, false, false, false, false] rfl rfl (any_of HT_.out (by kernel_rfl)) (fun _ _ _ h => h) (Or.inl ⟨by rfl, ?_⟩) ?_ ?_
             rotate_left
             ·intro w'
              go_simp
              with_reducible rfl
             rotate_left
             ·simp only [Act.put, sT, sZ, sS, i64_w, i32_w]
              rfl
             refine pure_ (i := 19) (N := some 51) (v := ?_) (a' := ?_) #[true, true, true, true, true, true, true, true, true, true, true, true, true, true, true, true, true, true, true, true, false, false, false, false, false, false, false, false, false, false, false, false] rfl rfl (any_of HT_.out (by kernel_rfl)) (fun _ _ _ h => h) (Or.inl ⟨by rfl, ?_⟩) ?_ ?_
             rotate_left
             ·intro w'
              go_simp
              with_reducible rfl
             rotate_left
             ·simp only [Act.put, sT, sZ, sS, i64_w, i32_w]
              rfl
             refine pure_ (i := 20) (N := some 52) (v := ?_) (a' := ?_) #[true, true, true, true, true, true, true, true, true, true, true, true, true, true, true, true, true, true, true, true, true, false, false, false, false, false, false, false, false, false, false, false] rfl rfl (any_of HT_.out (by kernel_rfl)) (fun _ _ _ h => h) (Or.inl ⟨by rfl, ?_⟩) ?_ ?_
             rotate_left
             ·intro w'
              go_simp
              with_reducible rfl
             rotate_left
             ·simp only [Act.put, sT, sZ, sS, i64_w, i32_w]
              rfl
             refine pure_ (i := 21) (N := some 53) (v := ?_) (a' := ?_) #[true, true, true, true, true, true, true, true, true, true, true, true, true, true, true, true, true, true, true, true, true, true, false, false, false, false, false, false, false, false, false, false] rfl rfl (any_of HT_.out (by kernel_rfl)) (fun _ _ _ h => h) (Or.inl ⟨by rfl, ?_⟩) ?_ ?_
             rotate_left
             ·intro w'
              go_simp
              with_reducible rfl
             rotate_left
             ·simp only [Act.put, sT, sZ, sS, i64_w, i32_w]
              rfl
             refine pure_ (i := 22) (N := some 54) (v := ?_) (a' := ?_) #[true, true, true, true, true, true, true, true, true, true, true, true, true, true, true, true, true, true, true, true, true, true, true, false, false, false, false, false, false, false, false, false] rfl rfl (any_of HT_.out (by kernel_rfl)) (fun _ _ _ h => h) (Or.inl ⟨by rfl, ?_⟩) ?_ ?_
             rotate_left
             ·intro w'
              go_simp
              with_reducible rfl
             rotate_left
             ·simp only [Act.put, sT, sZ, sS, i64_w, i32_w]
              rfl
             refine pure_ (i := 24) (N := some 56) (v := ?_) (a' := ?_) #[true, true, true, true, true, true, true, true, true, true, true, true, true, true, true, true, true, true, true, true, true, true, true, false, true, false, false, false, false, false, false, false] rfl rfl (any_of HT_.out (by kernel_rfl)) (fun _ _ _ h => h) (Or.inl ⟨by rfl, ?_⟩) ?_ ?_
             rotate_left
             ·intro w'
              go_simp
              with_reducible rfl
             rotate_left
             ·simp only [Act.put, sT, sZ, sS, i64_w, i32_w]
              rfl
             refine pure_ (i := 25) (N := some 57) (v := ?_) (a' := ?_) #[true, true, true, true, true, true, true, true, true, true, true, true, true, true, true, true, true, true, true, true, true, true, true, false, true, true, false, false, false, false, false, false] rfl rfl (any_of HT_.out (by kernel_rfl)) (fun _ _ _ h => h) (Or.inl ⟨by rfl, ?_⟩) ?_ ?_
             rotate_left
             ·intro w'
              go_simp
              with_reducible rfl
             rotate_left
             ·simp only [Act.put, sT, sZ, sS, i64_w, i32_w]
              rfl
             refine pure_ (i := 26) (N := some 58) (v := ?_) (a' := ?_) #[true, true, true, true, true, true, true, true, true, true, true, true, true, true, true, true, true, true, true, true, true, true, true, false, true, true, true, false, false, false, false, false] rfl rfl (any_of HT_.out (by kernel_rfl)) (fun _ _ _ h => h) (Or.inl ⟨by rfl, ?_⟩) ?_ ?_
             rotate_left
             ·intro w'
              go_simp
              with_reducible rfl
             rotate_left
             ·simp only [Act.put, sT, sZ, sS, i64_w, i32_w]
              rfl
             refine pure_ (i := 27) (N := some 59) (v := ?_) (a' := ?_) #[true, true, true, true, true, true, true, true, true, true, true, true, true, true, true, true, true, true, true, true, true, true, true, false, true, true, true, true, false, false, false, false] rfl rfl (any_of HT_.out (by kernel_rfl)) (fun _ _ _ h => h) (Or.inl ⟨by rfl, ?_⟩) ?_ ?_
             rotate_left
             ·intro w'
              go_simp
              with_reducible rfl
             rotate_left
             ·simp only [Act.put, sT, sZ, sS, i64_w, i32_w]
              rfl
             refine take_ (i := 23) (N := some 55) (v := ?_) (a' := ?_) #[true, true, true, true, true, true, true, true, true, true, true, true, true, true, true, true, true, true, true, true, true, true, true, true, true, true, true, true, false, false, false, false] rfl rfl (take_ofW HT_.out HW_.out (by kernel_rfl)) (fun _ _ _ h => h) (Or.inl ⟨by rfl, ?_⟩) hHeld ?_ ?_
             rotate_left
             ·rintro w' ⟨s0, s1, s2, s3, s4, s5, s6, s7, s8, s9, s10, s11, s12, s13, s14⟩
              go_simp
              with_reducible rfl
             rotate_left
             ·simp only [Act.put, sT, sZ, sS, i64_w, i32_w]
              rfl
             refine take_ (i := 28) (N := some 60) (v := ?_) (a' := ?_) #[true, true, true, true, true, true, true, true, true, true, true, true, true, true, true, true, true, true, true, true, true, true, true, true, true, true, true, true, true, false, false, false] rfl rfl (take_ofW HT_.out HW_.out (by kernel_rfl)) (fun _ _ _ h => h) (Or.inl ⟨by rfl, ?_⟩) hHeld ?_ ?_
             rotate_left
             ·rintro w' ⟨s0, s1, s2, s3, s4, s5, s6, s7, s8, s9, s10, s11, s12, s13, s14⟩
              go_simp
              with_reducible rfl
             rotate_left
             ·simp only [Act.put, sT, sZ, sS, i64_w, i32_w]
              rfl
             refine one_ (i := 29) (N := some 61) #[true, true, true, true, true, true, true, true, true, true, true, true, true, true, true, true, true, true, true, true, true, true, true, true, true, true, true, true, true, true, false, false] rfl rfl (one_of HT_.out (by kernel_rfl)) (by decide) (fun K hK => ?_)
             refine goes_ Tryz.func20 (by kernel_rfl) rfl #[.string ((rd_T35 l0 x8_1).f0), .string ((rd_T35 l1 x10_2).f0)] (by rfl) rfl rfl (by (try simp only [List.map_toArray, List.map_cons, List.map_nil]); first | done | rfl | (simp only [List.length_drop, List.length_take]; rfl)) ?_
             with_reducible refine (z13.calls ((rd_T35 l0 x8_1).f0) ((rd_T35 l1 x10_2).f0) false _ A13.out).mono ?_
             rintro e w' ⟨rfl, ⟨nd, rfl⟩⟩
             refine ⟨_, rfl, ?_⟩
             refine hK.out _ _ ⟨((HB.out.cell (World.block_lt_of_cell? w _ hw261_0)).trans hw261_0), ((HB.out.cell (World.block_lt_of_cell? w _ hw261_1)).trans hw261_1), ((HB.out.cell (World.block_lt_of_cell? w _ hw261_2)).trans hw261_2), ((HB.out.cell (World.block_lt_of_cell? w _ hw262_0)).trans hw262_0), ((HB.out.cell (World.block_lt_of_cell? w _ hw262_1)).trans hw262_1), ((HB.out.cell (World.block_lt_of_cell? w _ hw262_2)).trans hw262_2), ((HB.out.cell (World.block_lt_of_cell? w _ hw263_0)).trans hw263_0), ((HB.out.cell (World.block_lt_of_cell? w _ hw263_1)).trans hw263_1), ((HB.out.cell (World.block_lt_of_cell? w _ hw263_2)).trans hw263_2), ((HB.out.cell (World.block_lt_of_cell? w _ hw264_0)).trans hw264_0), ((HB.out.cell (World.block_lt_of_cell? w _ hw264_1)).trans hw264_1), ((HB.out.cell (World.block_lt_of_cell? w _ hw264_2)).trans hw264_2), ((HB.out.cell (World.block_lt_of_cell? w _ hw265_0)).trans hw265_0), ((HB.out.cell (World.block_lt_of_cell? w _ hw265_1)).trans hw265_1), ((HB.out.cell (World.block_lt_of_cell? w _ hw265_2)).trans hw265_2)⟩ (fun hHeld => ?_)
             clear hK K
             refine norm_ (a' := ?_) ?_ ?_
             rotate_left
             ·show Act.put _ (some 61) _ = _
              simp only [Act.put, sT, sZ, sS, i64_w, i32_w]
              rfl
             refine pure_ (i := 30) (N := some 62) (v := ?_) (a' := ?_) #[true, true, true, true, true, true, true, true, true, true, true, true, true, true, true, true, true, true, true, true, true, true, true, true, true, true, true, true, true, true, true, false] rfl rfl (any_of HT_.out (by kernel_rfl)) (fun _ _ _ h => h) (Or.inl ⟨by rfl, ?_⟩) ?_ ?_
             rotate_left
             ·intro w'
              go_simp
              with_reducible rfl
             rotate_left
             ·simp only [Act.put, sT, sZ, sS, i64_w, i32_w]
              rfl
             refine pure_ (i := 31) (N := some 63) (v := ?_) (a' := ?_) #[true, true, true, true, true, true, true, true, true, true, true, true, true, true, true, true, true, true, true, true, true, true, true, true, true, true, true, true, true, true, true, true] rfl rfl (any_of HT_.out (by kernel_rfl)) (fun _ _ _ h => h) (Or.inl ⟨by rfl, ?_⟩) ?_ ?_
             rotate_left
             ·intro w'
              go_simp
              with_reducible rfl
             rotate_left
             ·simp only [Act.put, sT, sZ, sS, i64_w, i32_w]
              rfl
             refine done_ (done_of HT_.out (by kernel_rfl)) ?_
             try go_wp2
             go_roundg k2
             case measure => have := HK1.out; have := HK2.out; omega
             case rel => exact ⟨(x9_2), (wrap64 (x10_2 + 1)), (by first | rfl | (simp; done) | (simp [*]; done)), (by first | rfl | (simp; done) | (simp [*]; done)), H', ⟨by have := HK1.out; have := HK2.out; omega⟩, ⟨by (with_reducible repeat (first | apply Kd.R_alloc | apply Kd.R_drewN | apply Kd.R_drew)); exact HO_7.out⟩, ⟨by repeat (first | (with_reducible first | exact HB.out | apply qA | apply qN | apply qD) | exact HB.out)⟩⟩
          ·rw [if_neg c10] at H
           exact absurd H (by simp)
         ·rw [if_neg c9] at H
          exact absurd H (by simp)
       ·rw [if_neg c6] at H
        exact absurd H (by simp)
      ·rw [if_neg c5] at H
       have c5b0 : decide (x10_2 < (l1.length : Int)) = false := decide_eq_false c5
       clear c5
       by_cases c17 : 0 ≤ x8_1
       ·rw [if_pos c17] at H
        have c17b0 : decide (0 ≤ x8_1) = true := decide_eq_true c17
        clear c17
        by_cases c18 : x8_1 < (l0.length : Int)
        ·rw [if_pos c18] at H
         have c18b0 : decide (x8_1 < (l0.length : Int)) = true := decide_eq_true c18
         clear c18
         replace H := Option.bind_eq_some_iff.mp H
         obtain ⟨t268, A190, H⟩ := H
         replace H : (if x9_2 = true then (z25.l0 k2 l0 l1 a2 x7_1 (wrap64 (x8_1 + 1))) else (if t268 < 0 then (if x7_1.length < 3518437208883 then (z25.l0 k2 l0 l1 a2 (x7_1 ++ [(⟨(rd_T35 l0 x8_1).f0, (rd_T35 l0 x8_1).f1, (rd_T35 l0 x8_1).f2⟩ : S35)]) (wrap64 (x8_1 + 1))) else (none)) else (if ((rd_T35 l0 x8_1).f1) = 2 then (if x7_1.length < 3518437208883 then (z25.l0 k2 l0 l1 a2 (x7_1 ++ [(⟨(rd_T35 l0 x8_1).f0, (rd_T35 l0 x8_1).f1, (rd_T35 l0 x8_1).f2⟩ : S35)]) (wrap64 (x8_1 + 1))) else (none)) else (if ((rd_T35 l0 x8_1).f1) = 4 then (if x7_1.length < 3518437208883 then (z25.l0 k2 l0 l1 a2 (x7_1 ++ [(⟨(rd_T35 l0 x8_1).f0, (rd_T35 l0 x8_1).f1, (rd_T35 l0 x8_1).f2⟩ : S35)]) (wrap64 (x8_1 + 1))) else (none)) else (z25.l0 k2 l0 l1 a2 x7_1 (wrap64 (x8_1 + 1))))))) = some r := H
         have A19 := Aside0.mk A190
         clear A190
         by_cases c20 : x9_2 = true
         ·subst c20
          have H1 : (z25.l0 k2 l0 l1 a2 x7_1 (wrap64 (x8_1 + 1))) = some r := by rw [if_pos rfl] at H; exact H
          clear H
          have H := H1
          clear H1
          have H' := Aside0.mk H
          clear H
          have p267 : 0 ≤ (x8_1 : Int) := of_decide_eq_true (by first | (with_reducible assumption) | assumption)
          have q267 : x8_1 < (l0.length : Int) := of_decide_eq_true (by first | (with_reducible assumption) | assumption)
          obtain ⟨ad267, e267, hx267_0, hx267_1, hx267_2⟩ := at_T35 HR0.out x8_1 p267 q267
          cases e267
          replace hx267_0 := (HB.out.cell (World.block_lt_of_cell? w _ hx267_0)).trans hx267_0
          replace hx267_1 := (HB.out.cell (World.block_lt_of_cell? w _ hx267_1)).trans hx267_1
          replace hx267_2 := (HB.out.cell (World.block_lt_of_cell? w _ hx267_2)).trans hx267_2
          replace p267 := eq_true p267
          replace q267 := eq_true q267
          go_wp2_with (first | ((with_reducible refine qg (f := 21) rfl ?_); refine goesL_ (some 70) rfl rfl Tryz.func21 (by kernel_rfl) rfl #[.slice A1 l1.length c1, .string ((rd_T35 l0 x8_1).f0)] rfl (by (try simp only [List.map_toArray, List.map_cons, List.map_nil]); first | done | rfl | (simp only [List.length_drop, List.length_take]; rfl)) ?_; (with_reducible refine (z19.calls k2 _ _ l1 ((rd_T35 l0 x8_1).f0) t268 _ ?side1 ?side2 A19.out).mono ?_); (case side1 => repeat (first | exact (Kd.C_below HR1.out HB.out) | (with_reducible refine Kd.C_alloc ?_ _) | (with_reducible refine Kd.C_drewN ?_ _) | (with_reducible refine Kd.C_drew ?_))); (case side2 => exact HC1.out); rintro e w' ⟨rfl, ⟨nd, rfl⟩⟩; refine ⟨_, rfl, ?_⟩))
          go_roundg k2
          case measure => have := HK1.out; have := HK2.out; omega
          case rel => exact ⟨(x7_1), (wrap64 (x8_1 + 1)), (by first | rfl | (simp; done) | (simp [*]; done)), H', ⟨by have := HK1.out; have := HK2.out; omega⟩, ⟨by (with_reducible repeat (first | apply Kd.R_alloc | apply Kd.R_drewN | apply Kd.R_drew)); exact HO_7.out⟩, ⟨by repeat (first | (with_reducible first | exact HB.out | apply qA | apply qN | apply qD) | exact HB.out)⟩⟩
         ·replace c20 := Bool.eq_false_iff.mpr c20
          subst c20
          have H1 : (if t268 < 0 then (if x7_1.length < 3518437208883 then (z25.l0 k2 l0 l1 a2 (x7_1 ++ [(⟨(rd_T35 l0 x8_1).f0, (rd_T35 l0 x8_1).f1, (rd_T35 l0 x8_1).f2⟩ : S35)]) (wrap64 (x8_1 + 1))) else (none)) else (if ((rd_T35 l0 x8_1).f1) = 2 then (if x7_1.length < 3518437208883 then (z25.l0 k2 l0 l1 a2 (x7_1 ++ [(⟨(rd_T35 l0 x8_1).f0, (rd_T35 l0 x8_1).f1, (rd_T35 l0 x8_1).f2⟩ : S35)]) (wrap64 (x8_1 + 1))) else (none)) else (if ((rd_T35 l0 x8_1).f1) = 4 then (if x7_1.length < 3518437208883 then (z25.l0 k2 l0 l1 a2 (x7_1 ++ [(⟨(rd_T35 l0 x8_1).f0, (rd_T35 l0 x8_1).f1, (rd_T35 l0 x8_1).f2⟩ : S35)]) (wrap64 (x8_1 + 1))) else (none)) else (z25.l0 k2 l0 l1 a2 x7_1 (wrap64 (x8_1 + 1)))))) = some r := by rw [if_neg (show ¬ (false = true) by decide)] at H; exact H
          clear H
          have H := H1
          clear H1
          by_cases c21 : t268 < 0
          ·rw [if_pos c21] at H
           have c21b0 : decide (t268 < 0) = true := decide_eq_true c21
           clear c21
           by_cases c22 : x7_1.length < 3518437208883
           ·rw [if_pos c22] at H
            have LMc22 := Aside0.mk c22
            clear c22
            obtain ⟨y270, hy270⟩ : ∃ y_ : List (S35), y_ = (x7_1 ++ [(⟨(rd_T35 l0 x8_1).f0, (rd_T35 l0 x8_1).f1, (rd_T35 l0 x8_1).f2⟩ : S35)]) := ⟨_, rfl⟩
            replace H : (z25.l0 k2 l0 l1 a2 y270 (wrap64 (x8_1 + 1))) = some r := by first | (rw [hy270]; with_reducible exact H) | (have H2_ := (Option.bind_some _ _).symm.trans H; rw [hy270]; with_reducible exact H2_) | (have H2_ := (Option.bind_some _ _).symm.trans H; with_reducible exact H2_) | with_reducible exact H | (rw [hy270]; exact H) | exact H
            have Ny270 := Aside0.mk hy270
            clear hy270
            have H' := Aside0.mk H
            clear H
            have p267 : 0 ≤ (x8_1 : Int) := of_decide_eq_true (by first | (with_reducible assumption) | assumption)
            have q267 : x8_1 < (l0.length : Int) := of_decide_eq_true (by first | (with_reducible assumption) | assumption)
            obtain ⟨ad267, e267, hx267_0, hx267_1, hx267_2⟩ := at_T35 HR0.out x8_1 p267 q267
            cases e267
            replace hx267_0 := (HB.out.cell (World.block_lt_of_cell? w _ hx267_0)).trans hx267_0
            replace hx267_1 := (HB.out.cell (World.block_lt_of_cell? w _ hx267_1)).trans hx267_1
            replace hx267_2 := (HB.out.cell (World.block_lt_of_cell? w _ hx267_2)).trans hx267_2
            replace p267 := eq_true p267
            replace q267 := eq_true q267
            go_wp2_with (first | ((with_reducible refine qg (f := 21) rfl ?_); refine goesL_ (some 70) rfl rfl Tryz.func21 (by kernel_rfl) rfl #[.slice A1 l1.length c1, .string ((rd_T35 l0 x8_1).f0)] rfl (by (try simp only [List.map_toArray, List.map_cons, List.map_nil]); first | done | rfl | (simp only [List.length_drop, List.length_take]; rfl)) ?_; (with_reducible refine (z19.calls k2 _ _ l1 ((rd_T35 l0 x8_1).f0) t268 _ ?side1 ?side2 A19.out).mono ?_); (case side1 => repeat (first | exact (Kd.C_below HR1.out HB.out) | (with_reducible refine Kd.C_alloc ?_ _) | (with_reducible refine Kd.C_drewN ?_ _) | (with_reducible refine Kd.C_drew ?_))); (case side2 => exact HC1.out); rintro e w' ⟨rfl, ⟨nd, rfl⟩⟩; refine ⟨_, rfl, ?_⟩; have p269 : 0 ≤ (x8_1 : Int) := of_decide_eq_true (by first | (with_reducible assumption) | assumption); have q269 : x8_1 < (l0.length : Int) := of_decide_eq_true (by first | (with_reducible assumption) | assumption); obtain ⟨ad269, e269, hx269_0, hx269_1, hx269_2⟩ := at_T35 HR0.out x8_1 p269 q269; obtain rfl : ad267 = ad269 := (by injection e269); replace hx269_0 := (HB.out.cell (World.block_lt_of_cell? w _ hx269_0)).trans hx269_0; replace hx269_1 := (HB.out.cell (World.block_lt_of_cell? w _ hx269_1)).trans hx269_1; replace hx269_2 := (HB.out.cell (World.block_lt_of_cell? w _ hx269_2)).trans hx269_2; replace p269 := eq_true p269; replace q269 := eq_true q269) | ((with_reducible refine gate_builtin (b := .append) (xs := #[.tmp 93, .tmp 98]) rfl ?_); at_builtin; refine Kd.R_append k35 (w0 := w) w.heap.size rfl (.tmp 93) (.tmp 98) 22 35 (.agg #[(.string ⟨#[]⟩), (.int .i64 0), (.string ⟨#[]⟩)]) 40 rfl Tryz.underlying22 info35 rfl (by decide) (by omega) u7 x7_1 (⟨(rd_T35 l0 x8_1).f0, (rd_T35 l0 x8_1).f1, (rd_T35 l0 x8_1).f2⟩ : S35) [.string ((rd_T35 l0 x8_1).f0), .int .i64 ((rd_T35 l0 x8_1).f1), .string ((rd_T35 l0 x8_1).f2)] (fun _ => True) (fun _ => False) rfl rfl ?aP (fun _ hk => hk.elim) ?aF ?aO ?aB ?aS ?aL ?_; (case aP => exact k35_mkM _ _ _ (⟨(rd_T35 l0 x8_1).f0, (rd_T35 l0 x8_1).f1, (rd_T35 l0 x8_1).f2⟩ : S35)); (case aB => exact (by repeat (first | (with_reducible first | exact HB.out | apply qA | apply qN | apply qD) | exact HB.out))); (case aF => exact (fun _ _ => trivial)); (case aO => exact (by (with_reducible repeat (first | apply Kd.R_alloc | apply Kd.R_drewN | apply Kd.R_drew)); exact HO_7.out)); (case aS => exact (qZ (by repeat (first | (with_reducible first | exact HB.out | apply qA | apply qN | apply qD) | exact HB.out)))); (case aL => have := LMc22.out; omega); intro v271 w23 ho hb hg hat; rw [← Ny270.out] at ho; have n0_ := Aside0.mk (hb); have n1_ := Aside0.mk (ho); clear HB; clear HO_7; have HB := n0_; have HO272 := n1_; clear n0_ n1_; clear ho hb hg hat))
            go_roundg k2
            case measure => have := HK1.out; have := HK2.out; omega
            case rel => exact ⟨(y270), (wrap64 (x8_1 + 1)), (by first | rfl | (simp; done) | (simp [*]; done)), H', ⟨by have := HK1.out; have := HK2.out; omega⟩, ⟨by (with_reducible repeat (first | apply Kd.R_alloc | apply Kd.R_drewN | apply Kd.R_drew)); exact HO272.out⟩, ⟨by repeat (first | (with_reducible first | exact HB.out | apply qA | apply qN | apply qD) | exact HB.out)⟩⟩
           ·rw [if_neg c22] at H
            exact absurd H (by simp)
          ·rw [if_neg c21] at H
           have c21b0 : decide (t268 < 0) = false := decide_eq_false c21
           clear c21
           by_cases c24 : ((rd_T35 l0 x8_1).f1) = 2
           ·rw [if_pos c24] at H
            have c24b0 : (((rd_T35 l0 x8_1).f1) == 2) = true := beq_iff_eq.mpr c24
            have c24b1 : (((rd_T35 l0 x8_1).f1) != 2) = false := bne_eq_false_iff_eq.mpr c24
            clear c24
            by_cases c25 : x7_1.length < 3518437208883
            ·rw [if_pos c25] at H
             have LMc25 := Aside0.mk c25
             clear c25
             obtain ⟨y275, hy275⟩ : ∃ y_ : List (S35), y_ = (x7_1 ++ [(⟨(rd_T35 l0 x8_1).f0, (rd_T35 l0 x8_1).f1, (rd_T35 l0 x8_1).f2⟩ : S35)]) := ⟨_, rfl⟩
             replace H : (z25.l0 k2 l0 l1 a2 y275 (wrap64 (x8_1 + 1))) = some r := by first | (rw [hy275]; with_reducible exact H) | (have H2_ := (Option.bind_some _ _).symm.trans H; rw [hy275]; with_reducible exact H2_) | (have H2_ := (Option.bind_some _ _).symm.trans H; with_reducible exact H2_) | with_reducible exact H | (rw [hy275]; exact H) | exact H
             have Ny275 := Aside0.mk hy275
             clear hy275
             have H' := Aside0.mk H
             clear H
             have p267 : 0 ≤ (x8_1 : Int) := of_decide_eq_true (by first | (with_reducible assumption) | assumption)
             have q267 : x8_1 < (l0.length : Int) := of_decide_eq_true (by first | (with_reducible assumption) | assumption)
             obtain ⟨ad267, e267, hx267_0, hx267_1, hx267_2⟩ := at_T35 HR0.out x8_1 p267 q267
             cases e267
             replace hx267_0 := (HB.out.cell (World.block_lt_of_cell? w _ hx267_0)).trans hx267_0
             replace hx267_1 := (HB.out.cell (World.block_lt_of_cell? w _ hx267_1)).trans hx267_1
             replace hx267_2 := (HB.out.cell (World.block_lt_of_cell? w _ hx267_2)).trans hx267_2
             replace p267 := eq_true p267
             replace q267 := eq_true q267
             go_wp2_with (first | ((with_reducible refine qg (f := 21) rfl ?_); refine goesL_ (some 70) rfl rfl Tryz.func21 (by kernel_rfl) rfl #[.slice A1 l1.length c1, .string ((rd_T35 l0 x8_1).f0)] rfl (by (try simp only [List.map_toArray, List.map_cons, List.map_nil]); first | done | rfl | (simp only [List.length_drop, List.length_take]; rfl)) ?_; (with_reducible refine (z19.calls k2 _ _ l1 ((rd_T35 l0 x8_1).f0) t268 _ ?side1 ?side2 A19.out).mono ?_); (case side1 => repeat (first | exact (Kd.C_below HR1.out HB.out) | (with_reducible refine Kd.C_alloc ?_ _) | (with_reducible refine Kd.C_drewN ?_ _) | (with_reducible refine Kd.C_drew ?_))); (case side2 => exact HC1.out); rintro e w' ⟨rfl, ⟨nd, rfl⟩⟩; refine ⟨_, rfl, ?_⟩; have p273 : 0 ≤ (x8_1 : Int) := of_decide_eq_true (by first | (with_reducible assumption) | assumption); have q273 : x8_1 < (l0.length : Int) := of_decide_eq_true (by first | (with_reducible assumption) | assumption); obtain ⟨ad273, e273, hx273_0, hx273_1, hx273_2⟩ := at_T35 HR0.out x8_1 p273 q273; obtain rfl : ad267 = ad273 := (by injection e273); replace hx273_0 := (HB.out.cell (World.block_lt_of_cell? w _ hx273_0)).trans hx273_0; replace hx273_1 := (HB.out.cell (World.block_lt_of_cell? w _ hx273_1)).trans hx273_1; replace hx273_2 := (HB.out.cell (World.block_lt_of_cell? w _ hx273_2)).trans hx273_2; replace p273 := eq_true p273; replace q273 := eq_true q273; have p274 : 0 ≤ (x8_1 : Int) := of_decide_eq_true (by first | (with_reducible assumption) | assumption); have q274 : x8_1 < (l0.length : Int) := of_decide_eq_true (by first | (with_reducible assumption) | assumption); obtain ⟨ad274, e274, hx274_0, hx274_1, hx274_2⟩ := at_T35 HR0.out x8_1 p274 q274; obtain rfl : ad267 = ad274 := (by injection e274); replace hx274_0 := (HB.out.cell (World.block_lt_of_cell? w _ hx274_0)).trans hx274_0; replace hx274_1 := (HB.out.cell (World.block_lt_of_cell? w _ hx274_1)).trans hx274_1; replace hx274_2 := (HB.out.cell (World.block_lt_of_cell? w _ hx274_2)).trans hx274_2; replace p274 := eq_true p274; replace q274 := eq_true q274) | ((with_reducible refine gate_builtin (b := .append) (xs := #[.tmp 93, .tmp 98]) rfl ?_); at_builtin; refine Kd.R_append k35 (w0 := w) w.heap.size rfl (.tmp 93) (.tmp 98) 22 35 (.agg #[(.string ⟨#[]⟩), (.int .i64 0), (.string ⟨#[]⟩)]) 40 rfl Tryz.underlying22 info35 rfl (by decide) (by omega) u7 x7_1 (⟨(rd_T35 l0 x8_1).f0, (rd_T35 l0 x8_1).f1, (rd_T35 l0 x8_1).f2⟩ : S35) [.string ((rd_T35 l0 x8_1).f0), .int .i64 ((rd_T35 l0 x8_1).f1), .string ((rd_T35 l0 x8_1).f2)] (fun _ => True) (fun _ => False) rfl rfl ?aP (fun _ hk => hk.elim) ?aF ?aO ?aB ?aS ?aL ?_; (case aP => exact k35_mkM _ _ _ (⟨(rd_T35 l0 x8_1).f0, (rd_T35 l0 x8_1).f1, (rd_T35 l0 x8_1).f2⟩ : S35)); (case aB => exact (by repeat (first | (with_reducible first | exact HB.out | apply qA | apply qN | apply qD) | exact HB.out))); (case aF => exact (fun _ _ => trivial)); (case aO => exact (by (with_reducible repeat (first | apply Kd.R_alloc | apply Kd.R_drewN | apply Kd.R_drew)); exact HO_7.out)); (case aS => exact (qZ (by repeat (first | (with_reducible first | exact HB.out | apply qA | apply qN | apply qD) | exact HB.out)))); (case aL => have := LMc25.out; omega); intro v276 w26 ho hb hg hat; rw [← Ny275.out] at ho; have n0_ := Aside0.mk (hb); have n1_ := Aside0.mk (ho); clear HB; clear HO_7; have HB := n0_; have HO277 := n1_; clear n0_ n1_; clear ho hb hg hat))
             go_roundg k2
             case measure => have := HK1.out; have := HK2.out; omega
             case rel => exact ⟨(y275), (wrap64 (x8_1 + 1)), (by first | rfl | (simp; done) | (simp [*]; done)), H', ⟨by have := HK1.out; have := HK2.out; omega⟩, ⟨by (with_reducible repeat (first | apply Kd.R_alloc | apply Kd.R_drewN | apply Kd.R_drew)); exact HO277.out⟩, ⟨by repeat (first | (with_reducible first | exact HB.out | apply qA | apply qN | apply qD) | exact HB.out)⟩⟩
            ·rw [if_neg c25] at H
             exact absurd H (by simp)
           ·rw [if_neg c24] at H
            have c24b0 : (((rd_T35 l0 x8_1).f1) == 2) = false := beq_eq_false_iff_ne.mpr c24
            have c24b1 : (((rd_T35 l0 x8_1).f1) != 2) = true := bne_iff_ne.mpr c24
            by_cases c27 : ((rd_T35 l0 x8_1).f1) = 4
            ·rw [if_pos c27] at H
             have c27b0 : (((rd_T35 l0 x8_1).f1) == 4) = true := beq_iff_eq.mpr c27
             have c27b1 : (((rd_T35 l0 x8_1).f1) != 4) = false := bne_eq_false_iff_eq.mpr c27
             clear c27
             by_cases c28 : x7_1.length < 3518437208883
             ·rw [if_pos c28] at H
              have LMc28 := Aside0.mk c28
              clear c28
              obtain ⟨y280, hy280⟩ : ∃ y_ : List (S35), y_ = (x7_1 ++ [(⟨(rd_T35 l0 x8_1).f0, (rd_T35 l0 x8_1).f1, (rd_T35 l0 x8_1).f2⟩ : S35)]) := ⟨_, rfl⟩
              replace H : (z25.l0 k2 l0 l1 a2 y280 (wrap64 (x8_1 + 1))) = some r := by first | (rw [hy280]; with_reducible exact H) | (have H2_ := (Option.bind_some _ _).symm.trans H; rw [hy280]; with_reducible exact H2_) | (have H2_ := (Option.bind_some _ _).symm.trans H; with_reducible exact H2_) | with_reducible exact H | (rw [hy280]; exact H) | exact H
              have Ny280 := Aside0.mk hy280
              clear hy280
              have H' := Aside0.mk H
              clear H
              have p267 : 0 ≤ (x8_1 : Int) := of_decide_eq_true (by first | (with_reducible assumption) | assumption)
              have q267 : x8_1 < (l0.length : Int) := of_decide_eq_true (by first | (with_reducible assumption) | assumption)
              obtain ⟨ad267, e267, hx267_0, hx267_1, hx267_2⟩ := at_T35 HR0.out x8_1 p267 q267
              cases e267
              replace hx267_0 := (HB.out.cell (World.block_lt_of_cell? w _ hx267_0)).trans hx267_0
              replace hx267_1 := (HB.out.cell (World.block_lt_of_cell? w _ hx267_1)).trans hx267_1
              replace hx267_2 := (HB.out.cell (World.block_lt_of_cell? w _ hx267_2)).trans hx267_2
              replace p267 := eq_true p267
              replace q267 := eq_true q267
              go_wp2_with (first | ((with_reducible refine qg (f := 21) rfl ?_); refine goesL_ (some 70) rfl rfl Tryz.func21 (by kernel_rfl) rfl #[.slice A1 l1.length c1, .string ((rd_T35 l0 x8_1).f0)] rfl (by (try simp only [List.map_toArray, List.map_cons, List.map_nil]); first | done | rfl | (simp only [List.length_drop, List.length_take]; rfl)) ?_; (with_reducible refine (z19.calls k2 _ _ l1 ((rd_T35 l0 x8_1).f0) t268 _ ?side1 ?side2 A19.out).mono ?_); (case side1 => repeat (first | exact (Kd.C_below HR1.out HB.out) | (with_reducible refine Kd.C_alloc ?_ _) | (with_reducible refine Kd.C_drewN ?_ _) | (with_reducible refine Kd.C_drew ?_))); (case side2 => exact HC1.out); rintro e w' ⟨rfl, ⟨nd, rfl⟩⟩; refine ⟨_, rfl, ?_⟩; have p273 : 0 ≤ (x8_1 : Int) := of_decide_eq_true (by first | (with_reducible assumption) | assumption); have q273 : x8_1 < (l0.length : Int) := of_decide_eq_true (by first | (with_reducible assumption) | assumption); obtain ⟨ad273, e273, hx273_0, hx273_1, hx273_2⟩ := at_T35 HR0.out x8_1 p273 q273; obtain rfl : ad267 = ad273 := (by injection e273); replace hx273_0 := (HB.out.cell (World.block_lt_of_cell? w _ hx273_0)).trans hx273_0; replace hx273_1 := (HB.out.cell (World.block_lt_of_cell? w _ hx273_1)).trans hx273_1; replace hx273_2 := (HB.out.cell (World.block_lt_of_cell? w _ hx273_2)).trans hx273_2; replace p273 := eq_true p273; replace q273 := eq_true q273; have p278 : 0 ≤ (x8_1 : Int) := of_decide_eq_true (by first | (with_reducible assumption) | assumption); have q278 : x8_1 < (l0.length : Int) := of_decide_eq_true (by first | (with_reducible assumption) | assumption); obtain ⟨ad278, e278, hx278_0, hx278_1, hx278_2⟩ := at_T35 HR0.out x8_1 p278 q278; obtain rfl : ad267 = ad278 := (by injection e278); replace hx278_0 := (HB.out.cell (World.block_lt_of_cell? w _ hx278_0)).trans hx278_0; replace hx278_1 := (HB.out.cell (World.block_lt_of_cell? w _ hx278_1)).trans hx278_1; replace hx278_2 := (HB.out.cell (World.block_lt_of_cell? w _ hx278_2)).trans hx278_2; replace p278 := eq_true p278; replace q278 := eq_true q278; have p279 : 0 ≤ (x8_1 : Int) := of_decide_eq_true (by first | (with_reducible assumption) | assumption); have q279 : x8_1 < (l0.length : Int) := of_decide_eq_true (by first | (with_reducible assumption) | assumption); obtain ⟨ad279, e279, hx279_0, hx279_1, hx279_2⟩ := at_T35 HR0.out x8_1 p279 q279; obtain rfl : ad267 = ad279 := (by injection e279); replace hx279_0 := (HB.out.cell (World.block_lt_of_cell? w _ hx279_0)).trans hx279_0; replace hx279_1 := (HB.out.cell (World.block_lt_of_cell? w _ hx279_1)).trans hx279_1; replace hx279_2 := (HB.out.cell (World.block_lt_of_cell? w _ hx279_2)).trans hx279_2; replace p279 := eq_true p279; replace q279 := eq_true q279) | ((with_reducible refine gate_builtin (b := .append) (xs := #[.tmp 93, .tmp 98]) rfl ?_); at_builtin; refine Kd.R_append k35 (w0 := w) w.heap.size rfl (.tmp 93) (.tmp 98) 22 35 (.agg #[(.string ⟨#[]⟩), (.int .i64 0), (.string ⟨#[]⟩)]) 40 rfl Tryz.underlying22 info35 rfl (by decide) (by omega) u7 x7_1 (⟨(rd_T35 l0 x8_1).f0, (rd_T35 l0 x8_1).f1, (rd_T35 l0 x8_1).f2⟩ : S35) [.string ((rd_T35 l0 x8_1).f0), .int .i64 ((rd_T35 l0 x8_1).f1), .string ((rd_T35 l0 x8_1).f2)] (fun _ => True) (fun _ => False) rfl rfl ?aP (fun _ hk => hk.elim) ?aF ?aO ?aB ?aS ?aL ?_; (case aP => exact k35_mkM _ _ _ (⟨(rd_T35 l0 x8_1).f0, (rd_T35 l0 x8_1).f1, (rd_T35 l0 x8_1).f2⟩ : S35)); (case aB => exact (by repeat (first | (with_reducible first | exact HB.out | apply qA | apply qN | apply qD) | exact HB.out))); (case aF => exact (fun _ _ => trivial)); (case aO => exact (by (with_reducible repeat (first | apply Kd.R_alloc | apply Kd.R_drewN | apply Kd.R_drew)); exact HO_7.out)); (case aS => exact (qZ (by repeat (first | (with_reducible first | exact HB.out | apply qA | apply qN | apply qD) | exact HB.out)))); (case aL => have := LMc28.out; omega); intro v281 w29 ho hb hg hat; rw [← Ny280.out] at ho; have n0_ := Aside0.mk (hb); have n1_ := Aside0.mk (ho); clear HB; clear HO_7; have HB := n0_; have HO282 := n1_; clear n0_ n1_; clear ho hb hg hat))
              go_roundg k2
              case measure => have := HK1.out; have := HK2.out; omega
              case rel => exact ⟨(y280), (wrap64 (x8_1 + 1)), (by first | rfl | (simp; done) | (simp [*]; done)), H', ⟨by have := HK1.out; have := HK2.out; omega⟩, ⟨by (with_reducible repeat (first | apply Kd.R_alloc | apply Kd.R_drewN | apply Kd.R_drew)); exact HO282.out⟩, ⟨by repeat (first | (with_reducible first | exact HB.out | apply qA | apply qN | apply qD) | exact HB.out)⟩⟩
             ·rw [if_neg c28] at H
              exact absurd H (by simp)
            ·rw [if_neg c27] at H
             have c27b0 : (((rd_T35 l0 x8_1).f1) == 4) = false := beq_eq_false_iff_ne.mpr c27
             have c27b1 : (((rd_T35 l0 x8_1).f1) != 4) = true := bne_iff_ne.mpr c27
             have H' := Aside0.mk H
             clear H
             have p267 : 0 ≤ (x8_1 : Int) := of_decide_eq_true (by first | (with_reducible assumption) | assumption)
             have q267 : x8_1 < (l0.length : Int) := of_decide_eq_true (by first | (with_reducible assumption) | assumption)
             obtain ⟨ad267, e267, hx267_0, hx267_1, hx267_2⟩ := at_T35 HR0.out x8_1 p267 q267
             cases e267
             replace hx267_0 := (HB.out.cell (World.block_lt_of_cell? w _ hx267_0)).trans hx267_0
             replace hx267_1 := (HB.out.cell (World.block_lt_of_cell? w _ hx267_1)).trans hx267_1
             replace hx267_2 := (HB.out.cell (World.block_lt_of_cell? w _ hx267_2)).trans hx267_2
             replace p267 := eq_true p267
             replace q267 := eq_true q267
             go_wp2_with (first | ((with_reducible refine qg (f := 21) rfl ?_); refine goesL_ (some 70) rfl rfl Tryz.func21 (by kernel_rfl) rfl #[.slice A1 l1.length c1, .string ((rd_T35 l0 x8_1).f0)] rfl (by (try simp only [List.map_toArray, List.map_cons, List.map_nil]); first | done | rfl | (simp only [List.length_drop, List.length_take]; rfl)) ?_; (with_reducible refine (z19.calls k2 _ _ l1 ((rd_T35 l0 x8_1).f0) t268 _ ?side1 ?side2 A19.out).mono ?_); (case side1 => repeat (first | exact (Kd.C_below HR1.out HB.out) | (with_reducible refine Kd.C_alloc ?_ _) | (with_reducible refine Kd.C_drewN ?_ _) | (with_reducible refine Kd.C_drew ?_))); (case side2 => exact HC1.out); rintro e w' ⟨rfl, ⟨nd, rfl⟩⟩; refine ⟨_, rfl, ?_⟩; have p273 : 0 ≤ (x8_1 : Int) := of_decide_eq_true (by first | (with_reducible assumption) | assumption); have q273 : x8_1 < (l0.length : Int) := of_decide_eq_true (by first | (with_reducible assumption) | assumption); obtain ⟨ad273, e273, hx273_0, hx273_1, hx273_2⟩ := at_T35 HR0.out x8_1 p273 q273; obtain rfl : ad267 = ad273 := (by injection e273); replace hx273_0 := (HB.out.cell (World.block_lt_of_cell? w _ hx273_0)).trans hx273_0; replace hx273_1 := (HB.out.cell (World.block_lt_of_cell? w _ hx273_1)).trans hx273_1; replace hx273_2 := (HB.out.cell (World.block_lt_of_cell? w _ hx273_2)).trans hx273_2; replace p273 := eq_true p273; replace q273 := eq_true q273; have p278 : 0 ≤ (x8_1 : Int) := of_decide_eq_true (by first | (with_reducible assumption) | assumption); have q278 : x8_1 < (l0.length : Int) := of_decide_eq_true (by first | (with_reducible assumption) | assumption); obtain ⟨ad278, e278, hx278_0, hx278_1, hx278_2⟩ := at_T35 HR0.out x8_1 p278 q278; obtain rfl : ad267 = ad278 := (by injection e278); replace hx278_0 := (HB.out.cell (World.block_lt_of_cell? w _ hx278_0)).trans hx278_0; replace hx278_1 := (HB.out.cell (World.block_lt_of_cell? w _ hx278_1)).trans hx278_1; replace hx278_2 := (HB.out.cell (World.block_lt_of_cell? w _ hx278_2)).trans hx278_2; replace p278 := eq_true p278; replace q278 := eq_true q278))
             go_roundg k2
             case measure => have := HK1.out; have := HK2.out; omega
             case rel => exact ⟨(x7_1), (wrap64 (x8_1 + 1)), (by first | rfl | (simp; done) | (simp [*]; done)), H', ⟨by have := HK1.out; have := HK2.out; omega⟩, ⟨by (with_reducible repeat (first | apply Kd.R_alloc | apply Kd.R_drewN | apply Kd.R_drew)); exact HO_7.out⟩, ⟨by repeat (first | (with_reducible first | exact HB.out | apply qA | apply qN | apply qD) | exact HB.out)⟩⟩
        ·rw [if_neg c18] at H
         exact absurd H (by simp)
       ·rw [if_neg c17] at H
        exact absurd H (by simp)
   ·rw [if_neg c4] at H
    have c4b0 : decide (x8_1 < (l0.length : Int)) = false := decide_eq_false c4
    clear c4
    have H' := Aside0.mk H
    clear H
    go_wp2
    go_loopg [7, 12] k1 (fun kq v7 v12 w' => ∃ (x7_2 : List (S35)) (x12_2 : Int), v12 = .int .i64 x12_2 ∧ Aside0 (z25.l2 kq l0 l1 a2 x7_2 x12_2 = some r) ∧ Aside0 (kq ≤ k1) ∧ Aside0 (Kd.R k35 35 w' w.heap.size (fun _ => True) v7 x7_2) ∧ Aside0 (Below w.heap.size w w'))
    case atStart => exact ⟨(x7_1), (0), (by first | rfl | (simp; done) | (simp [*]; done)), H', ⟨Nat.le_refl _⟩, ⟨by (with_reducible repeat (first | apply Kd.R_alloc | apply Kd.R_drewN | apply Kd.R_drew)); exact HO_7.out⟩, ⟨by repeat (first | (with_reducible first | exact HB.out | apply qA | apply qN | apply qD) | exact HB.out)⟩⟩
    case round =>
     clear H'
     try clear c1
     try clear c2
     try clear p2
     try clear q2
     try clear hx2
     try clear c4
     try clear c4b0
     try clear c5
     try clear c5b0
     try clear c6
     try clear p6
     try clear c9
     try clear c10
     try clear c14
     try clear c17
     try clear c17b0
     try clear c18
     try clear c18b0
     try clear c20
     try clear c21
     try clear c21b0
     try clear c22
     try clear c24
     try clear c24b0
     try clear c24b1
     try clear c25
     try clear p26
     try clear q26
     try clear hx26
     try clear c27
     try clear c27b0
     try clear c27b1
     try clear p27
     try clear q27
     try clear hx27
     try clear c28
     try clear hx261_0
     try clear hx261_1
     try clear hx261_2
     try clear hx262_0
     try clear hx262_1
     try clear hx262_2
     try clear hx263_0
     try clear hx263_1
     try clear hx263_2
     try clear hx264_0
     try clear hx264_1
     try clear hx264_2
     try clear hx265_0
     try clear hx265_1
     try clear hx265_2
     try clear hx267_0
     try clear hx267_1
     try clear hx267_2
     try clear hx269_0
     try clear hx269_1
     try clear hx269_2
     try clear hx273_0
     try clear hx273_1
     try clear hx273_2
     try clear hx274_0
     try clear hx274_1
     try clear hx274_2
     try clear hx278_0
     try clear hx278_1
     try clear hx278_2
     try clear hx279_0
     try clear hx279_1
     try clear hx279_2
     try clear p261
     try clear p262
     try clear p263
     try clear p264
     try clear p265
     try clear p267
     try clear p269
     try clear p273
     try clear p274
     try clear p278
     try clear p279
     try clear q261
     try clear q262
     try clear q263
     try clear q264
     try clear q265
     try clear q267
     try clear q269
     try clear q273
     try clear q274
     try clear q278
     try clear q279
     obtain ⟨x7_2, x12_2, rfl, HA, HK2, HO_7, HB⟩ := hrel
     cases gk with
     | zero => exact absurd HA.out (by simp [z25.l2])
     | succ k2 =>
      have H := HA.out
      clear HA
      simp only [z25.l2] at H
      by_cases c30 : x12_2 < (l1.length : Int)
      ·rw [if_pos c30] at H
       have c30b0 : decide (x12_2 < (l1.length : Int)) = true := decide_eq_true c30
       clear c30
       by_cases c31 : 0 ≤ x12_2
       ·rw [if_pos c31] at H
        have c31b0 : decide (0 ≤ x12_2) = true := decide_eq_true c31
        clear c31
        replace H := Option.bind_eq_some_iff.mp H
        obtain ⟨t284, A320, H⟩ := H
        replace H : (if t284 ≥ 0 then (z25.l2 k2 l0 l1 a2 x7_2 (wrap64 (x12_2 + 1))) else ((z19.f k2 l0 ((rd_T35 l1 x12_2).f0)).bind fun t287 => (z25.l3 k2 l0 l1 a2 x7_2 x12_2 t287 false 0 ((rd_T35 l1 x12_2).f0) ((rd_T35 l1 x12_2).f1) ((rd_T35 l1 x12_2).f2)))) = some r := H
        have A32 := Aside0.mk A320
        clear A320
        by_cases c33 : t284 ≥ 0
        ·rw [if_pos c33] at H
         have c33b0 : decide (0 ≤ t284) = true := decide_eq_true c33
         clear c33
         have H' := Aside0.mk H
         clear H
         have p283 : 0 ≤ (x12_2 : Int) := of_decide_eq_true (by first | (with_reducible assumption) | assumption)
         have q283 : x12_2 < (l1.length : Int) := of_decide_eq_true (by first | (with_reducible assumption) | assumption)
         obtain ⟨ad283, e283, hx283_0, hx283_1, hx283_2⟩ := at_T35 HR1.out x12_2 p283 q283
         cases e283
         replace hx283_0 := (HB.out.cell (World.block_lt_of_cell? w _ hx283_0)).trans hx283_0
         replace hx283_1 := (HB.out.cell (World.block_lt_of_cell? w _ hx283_1)).trans hx283_1
         replace hx283_2 := (HB.out.cell (World.block_lt_of_cell? w _ hx283_2)).trans hx283_2
         replace p283 := eq_true p283
         replace q283 := eq_true q283
         obtain ⟨Ao34, co34, eo34⟩ := Kd.R_slice HO_7.out
         subst eo34
         go_wp2_with (first | ((with_reducible refine qg (f := 21) rfl ?_); refine goesL_ (some 112) rfl rfl Tryz.func21 (by kernel_rfl) rfl #[.slice Ao34 x7_2.length co34, .string ((rd_T35 l1 x12_2).f0)] rfl (by (try simp only [List.map_toArray, List.map_cons, List.map_nil]); first | done | rfl | (simp only [List.length_drop, List.length_take]; rfl)) ?_; (with_reducible refine (z19.calls k2 _ _ x7_2 ((rd_T35 l1 x12_2).f0) t284 _ ?side1 ?side2 A32.out).mono ?_); (case side1 => repeat (first | exact (Kd.R_reads' HO_7.out).2.2 | (with_reducible refine Kd.C_alloc ?_ _) | (with_reducible refine Kd.C_drewN ?_ _) | (with_reducible refine Kd.C_drew ?_))); (case side2 => exact (Kd.R_reads' HO_7.out).2.1); rintro e w' ⟨rfl, ⟨nd, rfl⟩⟩; refine ⟨_, rfl, ?_⟩))
         go_roundg k2
         case measure => have := HK1.out; have := HK2.out; omega
         case rel => exact ⟨(x7_2), (wrap64 (x12_2 + 1)), (by first | rfl | (simp; done) | (simp [*]; done)), H', ⟨by have := HK1.out; have := HK2.out; omega⟩, ⟨by (with_reducible repeat (first | apply Kd.R_alloc | apply Kd.R_drewN | apply Kd.R_drew)); exact HO_7.out⟩, ⟨by repeat (first | (with_reducible first | exact HB.out | apply qA | apply qN | apply qD) | exact HB.out)⟩⟩
        ·rw [if_neg c33] at H
         have c33b0 : decide (0 ≤ t284) = false := decide_eq_false c33
         clear c33
         replace H := Option.bind_eq_some_iff.mp H
         obtain ⟨t287, A350, H⟩ := H
         replace H : (z25.l3 k2 l0 l1 a2 x7_2 x12_2 t287 false 0 ((rd_T35 l1 x12_2).f0) ((rd_T35 l1 x12_2).f1) ((rd_T35 l1 x12_2).f2)) = some r := H
         have A35 := Aside0.mk A350
         clear A350
         have H' := Aside0.mk H
         clear H
         have p283 : 0 ≤ (x12_2 : Int) := of_decide_eq_true (by first | (with_reducible assumption) | assumption)
         have q283 : x12_2 < (l1.length : Int) := of_decide_eq_true (by first | (with_reducible assumption) | assumption)
         obtain ⟨ad283, e283, hx283_0, hx283_1, hx283_2⟩ := at_T35 HR1.out x12_2 p283 q283
         cases e283
         replace hx283_0 := (HB.out.cell (World.block_lt_of_cell? w _ hx283_0)).trans hx283_0
         replace hx283_1 := (HB.out.cell (World.block_lt_of_cell? w _ hx283_1)).trans hx283_1
         replace hx283_2 := (HB.out.cell (World.block_lt_of_cell? w _ hx283_2)).trans hx283_2
         replace p283 := eq_true p283
         replace q283 := eq_true q283
         obtain ⟨Ao36, co36, eo36⟩ := Kd.R_slice HO_7.out
         subst eo36
         go_wp2_with (first | ((with_reducible refine qg (f := 21) rfl ?_); refine goesL_ (some 112) rfl rfl Tryz.func21 (by kernel_rfl) rfl #[.slice Ao36 x7_2.length co36, .string ((rd_T35 l1 x12_2).f0)] rfl (by (try simp only [List.map_toArray, List.map_cons, List.map_nil]); first | done | rfl | (simp only [List.length_drop, List.length_take]; rfl)) ?_; (with_reducible refine (z19.calls k2 _ _ x7_2 ((rd_T35 l1 x12_2).f0) t284 _ ?side1 ?side2 A32.out).mono ?_); (case side1 => repeat (first | exact (Kd.R_reads' HO_7.out).2.2 | (with_reducible refine Kd.C_alloc ?_ _) | (with_reducible refine Kd.C_drewN ?_ _) | (with_reducible refine Kd.C_drew ?_))); (case side2 => exact (Kd.R_reads' HO_7.out).2.1); rintro e w' ⟨rfl, ⟨nd, rfl⟩⟩; refine ⟨_, rfl, ?_⟩; (try (rw [drewN_self wr]; generalize hq_ : World.drewN wr _ = wr; have n0_ : Aside0 (Kd.R k35 35 wr w.heap.size (fun _ => True) (.slice Ao36 x7_2.length co36) x7_2) := ⟨by rw [← hq_]; exact (by (with_reducible repeat (first | apply Kd.R_alloc | apply Kd.R_drewN | apply Kd.R_drew)); exact HO_7.out)⟩; have n1_ : Aside0 (Below w.heap.size w wr) := ⟨by rw [← hq_]; exact (by repeat (first | (with_reducible first | exact HB.out | apply qA | apply qN | apply qD) | exact HB.out))⟩; clear HO_7 HB hq_; have HO_7 := n0_; have HB := n1_; clear n0_ n1_)); have p285 : 0 ≤ (x12_2 : Int) := of_decide_eq_true (by first | (with_reducible assumption) | assumption); have q285 : x12_2 < (l1.length : Int) := of_decide_eq_true (by first | (with_reducible assumption) | assumption); obtain ⟨ad285, e285, hx285_0, hx285_1, hx285_2⟩ := at_T35 HR1.out x12_2 p285 q285; obtain rfl : ad283 = ad285 := (by injection e285); replace hx285_0 := (HB.out.cell (World.block_lt_of_cell? w _ hx285_0)).trans hx285_0; replace hx285_1 := (HB.out.cell (World.block_lt_of_cell? w _ hx285_1)).trans hx285_1; replace hx285_2 := (HB.out.cell (World.block_lt_of_cell? w _ hx285_2)).trans hx285_2; replace p285 := eq_true p285; replace q285 := eq_true q285) | ((with_reducible refine qd (N := 13) rfl ?_); refine qx ?hg (N := 13) ?hd (cs := #[.string (⟨#[]⟩ : ByteArray), .int .i64 0, .string (⟨#[]⟩ : ByteArray)]) (t := 35) ?hr ?_; (case hd => rfl); (case hg => rfl); (case hr => first | (go_simp; done) | (go_simp; rfl)); intro gb286 hg w37 hbox hb; have n0_ := Aside0.mk (Kd.R_below (Kd.R_elderB (by (with_reducible repeat (first | apply Kd.R_alloc | apply Kd.R_drewN | apply Kd.R_drew)); exact HO_7.out) gb286 (Nat.le_of_eq hg.symm)) hb); have n1_ := Aside0.mk (qT (by repeat (first | (with_reducible first | exact HB.out | apply qA | apply qN | apply qD) | exact HB.out)) hb); have n2_ := Aside0.mk (hbox); have n3_ := Aside0.mk ((by rw [hg]; exact (qZ (by repeat (first | (with_reducible first | exact HB.out | apply qA | apply qN | apply qD) | exact HB.out))) : w.heap.size ≤ gb286)); have n4_ := Aside0.mk ((by rw [hg]; exact (qZ (by repeat (first | (with_reducible first | exact HB.out | apply qA | apply qN | apply qD) | exact HB.out))) : w.heap.size ≤ gb286)); clear HO_7; clear HB; have HO_7 := n0_; have HB := n1_; have BK286 := n2_; have GW286 := n3_; have GE286 := n4_; clear n0_ n1_ n2_ n3_ n4_; clear hb hbox hg; have hcz38_0 : w37.cell? ⟨gb286, 0, none⟩ = some (.string (⟨#[]⟩ : ByteArray)) := (qC BK286.out 0).trans rfl; have hcz38_1 : w37.cell? ⟨gb286, 1, none⟩ = some (.int .i64 0) := (qC BK286.out 1).trans rfl; have hcz38_2 : w37.cell? ⟨gb286, 2, none⟩ = some (.string (⟨#[]⟩ : ByteArray)) := (qC BK286.out 2).trans rfl; have hfz38_0 := qF BK286.out 0; have hfz38_1 := qF BK286.out 1; have hfz38_2 := qF BK286.out 2) | ((with_reducible refine qg (f := 21) rfl ?_); refine goesL_ (some 121) rfl rfl Tryz.func21 (by kernel_rfl) rfl #[.slice A0 l0.length c0, .string ((rd_T35 l1 x12_2).f0)] rfl (by (try simp only [List.map_toArray, List.map_cons, List.map_nil]); first | done | rfl | (simp only [List.length_drop, List.length_take]; rfl)) ?_; (with_reducible refine (z19.calls k2 _ _ l0 ((rd_T35 l1 x12_2).f0) t287 _ ?side1 ?side2 A35.out).mono ?_); (case side1 => exact Kd.C_below HR0.out (by repeat (first | (with_reducible first | exact HB.out | apply qA | apply qN | apply qD | refine qS ?_ GE286.out) | exact HB.out))); (case side2 => exact HC0.out); rintro e w' ⟨rfl, ⟨nd, rfl⟩⟩; refine ⟨_, rfl, ?_⟩))
         go_loopg [15, 16] k2 (fun kq v15 v16 w' => ∃ (x15_3 : Bool) (x16_3 : Int), v15 = .bool x15_3 ∧ v16 = .int .i64 x16_3 ∧ Aside0 (z25.l3 kq l0 l1 a2 x7_2 x12_2 t287 x15_3 x16_3 ((rd_T35 l1 x12_2).f0) ((rd_T35 l1 x12_2).f1) ((rd_T35 l1 x12_2).f2) = some r) ∧ Aside0 (kq ≤ k2) ∧ Aside0 (Kd.R k35 35 w' w.heap.size (fun k_ => k_ ≠ gb286) (.slice Ao36 x7_2.length co36) x7_2) ∧ Aside0 (w'.heap[gb286]? = some (.cells #[.string ((rd_T35 l1 x12_2).f0), .int .i64 ((rd_T35 l1 x12_2).f1), .string ((rd_T35 l1 x12_2).f2)] 35 (0, 0))) ∧ Aside0 (Below w.heap.size w w'))
         case atStart => exact ⟨(false), (0), (by first | rfl | (simp; done) | (simp [*]; done)), (by first | rfl | (simp; done) | (simp [*]; done)), H', ⟨Nat.le_refl _⟩, ⟨by (with_reducible repeat (first | apply Kd.R_alloc | apply Kd.R_drewN | apply Kd.R_drew)); exact Kd.R_mono (Kd.R_far (p := ⟨gb286, 2, none⟩) (Kd.R_far (p := ⟨gb286, 1, none⟩) (Kd.R_far (p := ⟨gb286, 0, none⟩) (Kd.R_mono HO_7.out (fun k_ hk => (⟨hk, hk.2⟩ : _ ∧ k_ ≠ gb286))) (fun _ hk => hk.2) (.string ((rd_T35 l1 x12_2).f0))) (fun _ hk => hk.2) (.int .i64 ((rd_T35 l1 x12_2).f1))) (fun _ hk => hk.2) (.string ((rd_T35 l1 x12_2).f2))) (fun _ hk => hk.1.2)⟩, ⟨by (with_reducible repeat (first | refine qM ?_ _ | refine qW ?_ | refine qL ?_ _)); refine qu (cs := #[.string ((rd_T35 l1 x12_2).f0), .int .i64 ((rd_T35 l1 x12_2).f1), .string (⟨#[]⟩ : ByteArray)]) ?_ 2 _ rfl; (with_reducible repeat (first | refine qM ?_ _ | refine qW ?_ | refine qL ?_ _)); refine qu (cs := #[.string ((rd_T35 l1 x12_2).f0), .int .i64 0, .string (⟨#[]⟩ : ByteArray)]) ?_ 1 _ rfl; (with_reducible repeat (first | refine qM ?_ _ | refine qW ?_ | refine qL ?_ _)); refine qu (cs := #[.string (⟨#[]⟩ : ByteArray), .int .i64 0, .string (⟨#[]⟩ : ByteArray)]) ?_ 0 _ rfl; (with_reducible repeat (first | refine qM ?_ _ | refine qW ?_ | refine qL ?_ _)); exact BK286.out⟩, ⟨by repeat (first | (with_reducible first | exact HB.out | apply qA | apply qN | apply qD | refine qS ?_ GE286.out) | exact HB.out)⟩⟩
         case round =>
          clear H'
          try clear c1
          try clear c2
          try clear p2
          try clear q2
          try clear hx2
          try clear c3
          try clear c4
          try clear c4b0
          try clear c5
          try clear c5b0
          try clear c6
          try clear p6
          try clear c9
          try clear c10
          try clear c14
          try clear c17
          try clear c17b0
          try clear c18
          try clear c18b0
          try clear c20
          try clear c21
          try clear c21b0
          try clear c22
          try clear c24
          try clear c24b0
          try clear c24b1
          try clear c25
          try clear p26
          try clear q26
          try clear hx26
          try clear c27
          try clear c27b0
          try clear c27b1
          try clear p27
          try clear q27
          try clear hx27
          try clear c28
          try clear p28
          try clear q28
          try clear hx28
          try clear c30
          try clear c30b0
          try clear c31
          try clear c31b0
          try clear c33
          try clear c33b0
          try clear hcz38_0
          try clear hcz38_1
          try clear hcz38_2
          try clear hfz38_0
          try clear hfz38_1
          try clear hfz38_2
          try clear hx261_0
          try clear hx261_1
          try clear hx261_2
          try clear hx262_0
          try clear hx262_1
          try clear hx262_2
          try clear hx263_0
          try clear hx263_1
          try clear hx263_2
          try clear hx264_0
          try clear hx264_1
          try clear hx264_2
          try clear hx265_0
          try clear hx265_1
          try clear hx265_2
          try clear hx267_0
          try clear hx267_1
          try clear hx267_2
          try clear hx269_0
          try clear hx269_1
          try clear hx269_2
          try clear hx273_0
          try clear hx273_1
          try clear hx273_2
          try clear hx274_0
          try clear hx274_1
          try clear hx274_2
          try clear hx278_0
          try clear hx278_1
          try clear hx278_2
          try clear hx279_0
          try clear hx279_1
          try clear hx279_2
          try clear hx283_0
          try clear hx283_1
          try clear hx283_2
          try clear hx285_0
          try clear hx285_1
          try clear hx285_2
          try clear p2
          try clear p26
          try clear p261
          try clear p262
          try clear p263
          try clear p264
          try clear p265
          try clear p267
          try clear p269
          try clear p27
          try clear p273
          try clear p274
          try clear p278
          try clear p279
          try clear p283
          try clear p285
          try clear p6
          try clear q2
          try clear q26
          try clear q261
          try clear q262
          try clear q263
          try clear q264
          try clear q265
          try clear q267
          try clear q269
          try clear q27
          try clear q273
          try clear q274
          try clear q278
          try clear q279
          try clear q283
          try clear q285
          obtain ⟨x15_3, x16_3, rfl, rfl, HA, HK3, HO_7, BK286, HB⟩ := hrel
          cases gk with
          | zero => exact absurd HA.out (by simp [z25.l3])
          | succ k3 =>
           have H := HA.out
           clear HA
           simp only [z25.l3] at H
           by_cases c39 : x16_3 < x12_2
           ·rw [if_pos c39] at H
            have c39b0 : decide (x16_3 < x12_2) = true := decide_eq_true c39
            clear c39
            by_cases c40 : x15_3 = true
            ·subst c40
             have H1 : (z25.l3 k3 l0 l1 a2 x7_2 x12_2 t287 true (wrap64 (x16_3 + 1)) ((rd_T35 l1 x12_2).f0) ((rd_T35 l1 x12_2).f1) ((rd_T35 l1 x12_2).f2)) = some r := by rw [if_pos rfl] at H; exact H
             clear H
             have H := H1
             clear H1
             have H' := Aside0.mk H
             clear H
             try go_wp2
             have n0_ := Aside0.mk (Kd.R_drew HO_7.out)
             have n1_ := Aside0.mk (qW BK286.out)
             have n2_ := Aside0.mk (qD HB.out)
             clear HO_7
             clear BK286
             clear HB
             have HO_7 := n0_
             have BK286 := n1_
             have HB := n2_
             clear n0_ n1_ n2_
             refine start_ (n := 20) (S := fun w' => True) (ds := []) #[false, false, false, false, false, false, false, false, false, false, false, false, false, false, false, false, false, false, false, false] (by kernel_rfl) rfl rfl trivial (fun hHeld => ?_); refine with_tabW z25.tab24 z25.bits24 (fun HT_ HW_ => ?_)
             generalize wr.drew = w41 at HO_7 BK286 HB hHeld ⊢
             refine pure_ (i := 0) (N := some 127) (v := ?_) (a' := ?_) #[true, false, false, false, false, false, false, false, false, false, false, false, false, false, false, false, false, false, false, false] rfl rfl (any_of HT_.out (by kernel_rfl)) (fun _ _ _ h => h) (Or.inl ⟨by rfl, ?_⟩) ?_ ?_
             rotate_left
             ·intro w'
              go_simp
              with_reducible rfl
             rotate_left
             ·simp only [Act.put, sT, sZ, sS, i64_w, i32_w]
              rfl
             refine pure_ (i := 1) (N := some 128) (v := ?_) (a' := ?_) #[true, true, false, false, false, false, false, false, false, false, false, false, false, false, false, false, false, false, false, false] rfl rfl (any_of HT_.out (by kernel_rfl)) (fun _ _ _ h => h) (Or.inl ⟨by rfl, ?_⟩) ?_ ?_
             rotate_left
             ·intro w'
              go_simp
              with_reducible rfl
             rotate_left
             ·simp only [Act.put, sT, sZ, sS, i64_w, i32_w]
              rfl
             refine pure_ (i := 2) (N := some 129) (v := undef) (a' := ?_) #[true, true, true, false, false, false, false, false, false, false, false, false, false, false, false, false, false, false, false, false] rfl rfl (any_of HT_.out (by kernel_rfl)) (fun _ _ _ h => h) (Or.inr ⟨by rfl, rfl⟩) ?_ ?_
             rotate_left
             ·simp only [Act.put, sT, sZ, sS, i64_w, i32_w]
              rfl
             refine pure_ (i := 3) (N := some 130) (v := undef) (a' := ?_) #[true, true, true, true, false, false, false, false, false, false, false, false, false, false, false, false, false, false, false, false] rfl rfl (any_of HT_.out (by kernel_rfl)) (fun _ _ _ h => h) (Or.inr ⟨by rfl, rfl⟩) ?_ ?_
             rotate_left
             ·simp only [Act.put, sT, sZ, sS, i64_w, i32_w]
              rfl
             refine pure_ (i := 4) (N := some 131) (v := undef) (a' := ?_) #[true, true, true, true, true, false, false, false, false, false, false, false, false, false, false, false, false, false, false, false] rfl rfl (any_of HT_.out (by kernel_rfl)) (fun _ _ _ h => h) (Or.inr ⟨by rfl, rfl⟩) ?_ ?_
             rotate_left
             ·simp only [Act.put, sT, sZ, sS, i64_w, i32_w]
              rfl
             refine pure_ (i := 5) (N := some 132) (v := undef) (a' := ?_) #[true, true, true, true, true, true, false, false, false, false, false, false, false, false, false, false, false, false, false, false] rfl rfl (any_of HT_.out (by kernel_rfl)) (fun _ _ _ h => h) (Or.inr ⟨by rfl, rfl⟩) ?_ ?_
             rotate_left
             ·simp only [Act.put, sT, sZ, sS, i64_w, i32_w]
              rfl
             refine pure_ (i := 6) (N := some 133) (v := undef) (a' := ?_) #[true, true, true, true, true, true, true, false, false, false, false, false, false, false, false, false, false, false, false, false] rfl rfl (any_of HT_.out (by kernel_rfl)) (fun _ _ _ h => h) (Or.inr ⟨by rfl, rfl⟩) ?_ ?_
             rotate_left
             ·simp only [Act.put, sT, sZ, sS, i64_w, i32_w]
              rfl
             refine pure_ (i := 7) (N := some 134) (v := undef) (a' := ?_) #[true, true, true, true, true, true, true, true, false, false, false, false, false, false, false, false, false, false, false, false] rfl rfl (any_of HT_.out (by kernel_rfl)) (fun _ _ _ h => h) (Or.inr ⟨by rfl, rfl⟩) ?_ ?_
             rotate_left
             ·simp only [Act.put, sT, sZ, sS, i64_w, i32_w]
              rfl
             refine pure_ (i := 8) (N := some 135) (v := undef) (a' := ?_) #[true, true, true, true, true, true, true, true, true, false, false, false, false, false, false, false, false, false, false, false] rfl rfl (any_of HT_.out (by kernel_rfl)) (fun _ _ _ h => h) (Or.inr ⟨by rfl, rfl⟩) ?_ ?_
             rotate_left
             ·simp only [Act.put, sT, sZ, sS, i64_w, i32_w]
              rfl
             refine pure_ (i := 9) (N := some 136) (v := undef) (a' := ?_) #[true, true, true, true, true, true, true, true, true, true, false, false, false, false, false, false, false, false, false, false] rfl rfl (any_of HT_.out (by kernel_rfl)) (fun _ _ _ h => h) (Or.inr ⟨by rfl, rfl⟩) ?_ ?_
             rotate_left
             ·simp only [Act.put, sT, sZ, sS, i64_w, i32_w]
              rfl
             refine pure_ (i := 10) (N := some 137) (v := undef) (a' := ?_) #[true, true, true, true, true, true, true, true, true, true, true, false, false, false, false, false, false, false, false, false] rfl rfl (any_of HT_.out (by kernel_rfl)) (fun _ _ _ h => h) (Or.inr ⟨by rfl, rfl⟩) ?_ ?_
             rotate_left
             ·simp only [Act.put, sT, sZ, sS, i64_w, i32_w]
              rfl
             refine pure_ (i := 11) (N := some 138) (v := undef) (a' := ?_) #[true, true, true, true, true, true, true, true, true, true, true, true, false, false, false, false, false, false, false, false] rfl rfl (any_of HT_.out (by kernel_rfl)) (fun _ _ _ h => h) (Or.inr ⟨by rfl, rfl⟩) ?_ ?_
             rotate_left
             ·simp only [Act.put, sT, sZ, sS, i64_w, i32_w]
              rfl
             refine pure_ (i := 12) (N := some 139) (v := undef) (a' := ?_) #[true, true, true, true, true, true, true, true, true, true, true, true, true, false, false, false, false, false, false, false] rfl rfl (any_of HT_.out (by kernel_rfl)) (fun _ _ _ h => h) (Or.inr ⟨by rfl, rfl⟩) ?_ ?_
             rotate_left
             ·simp only [Act.put, sT, sZ, sS, i64_w, i32_w]
              rfl
             refine pure_ (i := 13) (N := some 140) (v := undef) (a' := ?_) #[true, true, true, true, true, true, true, true, true, true, true, true, true, true, false, false, false, false, false, false] rfl rfl (any_of HT_.out (by kernel_rfl)) (fun _ _ _ h => h) (Or.inr ⟨by rfl, rfl⟩) ?_ ?_
             rotate_left
             ·simp only [Act.put, sT, sZ, sS, i64_w, i32_w]
              rfl
             refine pure_ (i := 14) (N := some 141) (v := undef) (a' := ?_) #[true, true, true, true, true, true, true, true, true, true, true, true, true, true, true, false, false, false, false, false] rfl rfl (any_of HT_.out (by kernel_rfl)) (fun _ _ _ h => h) (Or.inr ⟨by rfl, rfl⟩) ?_ ?_
             rotate_left
             ·simp only [Act.put, sT, sZ, sS, i64_w, i32_w]
              rfl
             refine pure_ (i := 15) (N := some 142) (v := undef) (a' := ?_) #[true, true, true, true, true, true, true, true, true, true, true, true, true, true, true, true, false, false, false, false] rfl rfl (any_of HT_.out (by kernel_rfl)) (fun _ _ _ h => h) (Or.inr ⟨by rfl, rfl⟩) ?_ ?_
             rotate_left
             ·simp only [Act.put, sT, sZ, sS, i64_w, i32_w]
              rfl
             refine pure_ (i := 16) (N := some 143) (v := undef) (a' := ?_) #[true, true, true, true, true, true, true, true, true, true, true, true, true, true, true, true, true, false, false, false] rfl rfl (any_of HT_.out (by kernel_rfl)) (fun _ _ _ h => h) (Or.inr ⟨by rfl, rfl⟩) ?_ ?_
             rotate_left
             ·simp only [Act.put, sT, sZ, sS, i64_w, i32_w]
              rfl
             refine pure_ (i := 17) (N := some 144) (v := undef) (a' := ?_) #[true, true, true, true, true, true, true, true, true, true, true, true, true, true, true, true, true, true, false, false] rfl rfl (any_of HT_.out (by kernel_rfl)) (fun _ _ _ h => h) (Or.inr ⟨by rfl, rfl⟩) ?_ ?_
             rotate_left
             ·simp only [Act.put, sT, sZ, sS, i64_w, i32_w]
              rfl
             refine pure_ (i := 18) (N := some 145) (v := ?_) (a' := ?_) #[true, true, true, true, true, true, true, true, true, true, true, true, true, true, true, true, true, true, true, false] rfl rfl (any_of HT_.out (by kernel_rfl)) (fun _ _ _ h => h) (Or.inl ⟨by rfl, ?_⟩) ?_ ?_
             rotate_left
             ·intro w'
              go_simp
              with_reducible rfl
             rotate_left
             ·simp only [Act.put, sT, sZ, sS, i64_w, i32_w]
              rfl
             refine pure_ (i := 19) (N := some 15) (v := ?_) (a' := ?_) #[true, true, true, true, true, true, true, true, true, true, true, true, true, true, true, true, true, true, true, true] rfl rfl (any_of HT_.out (by kernel_rfl)) (fun _ _ _ h => h) (Or.inl ⟨by rfl, ?_⟩) ?_ ?_
             rotate_left
             ·intro w'
              go_simp
              with_reducible rfl
             rotate_left
             ·simp only [Act.put, sT, sZ, sS, i64_w, i32_w]
              rfl
             refine done_ (done_of HT_.out (by kernel_rfl)) ?_
             try go_wp2
             go_roundg k3
             case measure => have := HK1.out; have := HK2.out; have := HK3.out; omega
             case rel => exact ⟨(true), (wrap64 (x16_3 + 1)), (by first | rfl | (simp; done) | (simp [*]; done)), (by first | rfl | (simp; done) | (simp [*]; done)), H', ⟨by have := HK1.out; have := HK2.out; have := HK3.out; omega⟩, ⟨by (with_reducible repeat (first | apply Kd.R_alloc | apply Kd.R_drewN | apply Kd.R_drew)); exact HO_7.out⟩, ⟨by (with_reducible repeat (first | refine qM ?_ _ | refine qW ?_ | refine qL ?_ _)); exact BK286.out⟩, ⟨by repeat (first | (with_reducible first | exact HB.out | apply qA | apply qN | apply qD | refine qS ?_ GE286.out) | exact HB.out)⟩⟩
            ·replace c40 := Bool.eq_false_iff.mpr c40
             subst c40
             have H1 : (if 0 ≤ x16_3 then (if x16_3 < (l1.length : Int) then (if ((rd_T35 l1 x16_3).f1) = 2 then (z25.l3 k3 l0 l1 a2 x7_2 x12_2 t287 false (wrap64 (x16_3 + 1)) ((rd_T35 l1 x12_2).f0) ((rd_T35 l1 x12_2).f1) ((rd_T35 l1 x12_2).f2)) else ((z13.f ((rd_T35 l1 x12_2).f0) ((rd_T35 l1 x16_3).f0)).bind fun t290 => (z25.l3 k3 l0 l1 a2 x7_2 x12_2 t287 t290 (wrap64 (x16_3 + 1)) ((rd_T35 l1 x12_2).f0) ((rd_T35 l1 x12_2).f1) ((rd_T35 l1 x12_2).f2)))) else (none)) else (none)) = some r := by rw [if_neg (show ¬ (false = true) by decide)] at H; exact H
             clear H
             have H := H1
             clear H1
             by_cases c42 : 0 ≤ x16_3
             ·rw [if_pos c42] at H
              have c42b0 : decide (0 ≤ x16_3) = true := decide_eq_true c42
              clear c42
              by_cases c43 : x16_3 < (l1.length : Int)
              ·rw [if_pos c43] at H
               have c43b0 : decide (x16_3 < (l1.length : Int)) = true := decide_eq_true c43
               clear c43
               by_cases c44 : ((rd_T35 l1 x16_3).f1) = 2
               ·rw [if_pos c44] at H
                have c44b0 : (((rd_T35 l1 x16_3).f1) == 2) = true := beq_iff_eq.mpr c44
                have c44b1 : (((rd_T35 l1 x16_3).f1) != 2) = false := bne_eq_false_iff_eq.mpr c44
                clear c44
                have H' := Aside0.mk H
                clear H
                try go_wp2
                have n0_ := Aside0.mk (Kd.R_drew HO_7.out)
                have n1_ := Aside0.mk (qW BK286.out)
                have n2_ := Aside0.mk (qD HB.out)
                clear HO_7
                clear BK286
                clear HB
                have HO_7 := n0_
                have BK286 := n1_
                have HB := n2_
                clear n0_ n1_ n2_
                have p288 : 0 ≤ (x16_3 : Int) := of_decide_eq_true (by first | (with_reducible assumption) | assumption)
                have q288 : x16_3 < (l1.length : Int) := of_decide_eq_true (by first | (with_reducible assumption) | assumption)
                obtain ⟨ad288, e288, hx288_0, hx288_1, hx288_2⟩ := at_T35 HR1.out x16_3 p288 q288
                have hw288_2 := hx288_2
                have hw288_1 := hx288_1
                have hw288_0 := hx288_0
                obtain rfl : ad283 = ad288 := (by injection e288)
                replace hx288_0 := (HB.out.cell (World.block_lt_of_cell? w _ hx288_0)).trans hx288_0
                replace hx288_1 := (HB.out.cell (World.block_lt_of_cell? w _ hx288_1)).trans hx288_1
                replace hx288_2 := (HB.out.cell (World.block_lt_of_cell? w _ hx288_2)).trans hx288_2
                replace p288 := eq_true p288
                replace q288 := eq_true q288
                refine start_ (n := 20) (S := fun w' => w'.cell? (ad283.add ((x16_3).toNat * 3)) = some (.string ((rd_T35 l1 x16_3).f0)) ∧ w'.cell? ⟨(ad283.add ((x16_3).toNat * 3)).block, (ad283.add ((x16_3).toNat * 3)).off + 1, none⟩ = some (.int .i64 ((rd_T35 l1 x16_3).f1)) ∧ w'.cell? ⟨(ad283.add ((x16_3).toNat * 3)).block, (ad283.add ((x16_3).toNat * 3)).off + 2, none⟩ = some (.string ((rd_T35 l1 x16_3).f2))) (ds := []) #[false, false, false, false, false, false, false, false, false, false, false, false, false, false, false, false, false, false, false, false] (by kernel_rfl) rfl rfl ⟨((HB.out.cell (World.block_lt_of_cell? w _ hw288_0)).trans hw288_0), ((HB.out.cell (World.block_lt_of_cell? w _ hw288_1)).trans hw288_1), ((HB.out.cell (World.block_lt_of_cell? w _ hw288_2)).trans hw288_2)⟩ (fun hHeld => ?_); refine with_tabW z25.tab24 z25.bits24 (fun HT_ HW_ => ?_)
                generalize wr.drew = w45 at HO_7 BK286 HB hx288_0 hx288_1 hx288_2 hHeld ⊢
                refine pure_ (i := 0) (N := some 127) (v := ?_) (a' := ?_) #[true, false, false, false, false, false, false, false, false, false, false, false, false, false, false, false, false, false, false, false] rfl rfl (any_of HT_.out (by kernel_rfl)) (fun _ _ _ h => h) (Or.inl ⟨by rfl, ?_⟩) ?_ ?_
                rotate_left
                ·intro w'
                 go_simp
                 with_reducible rfl
                rotate_left
                ·simp only [Act.put, sT, sZ, sS, i64_w, i32_w]
                 rfl
                refine pure_ (i := 1) (N := some 128) (v := ?_) (a' := ?_) #[true, true, false, false, false, false, false, false, false, false, false, false, false, false, false, false, false, false, false, false] rfl rfl (any_of HT_.out (by kernel_rfl)) (fun _ _ _ h => h) (Or.inl ⟨by rfl, ?_⟩) ?_ ?_
                rotate_left
                ·intro w'
                 go_simp
                 with_reducible rfl
                rotate_left
                ·simp only [Act.put, sT, sZ, sS, i64_w, i32_w]
                 rfl
                refine pure_ (i := 2) (N := some 129) (v := ?_) (a' := ?_) #[true, true, true, false, false, false, false, false, false, false, false, false, false, false, false, false, false, false, false, false] rfl rfl (any_of HT_.out (by kernel_rfl)) (fun _ _ _ h => h) (Or.inl ⟨by rfl, ?_⟩) ?_ ?_
                rotate_left
                ·intro w'
                 go_simp
                 with_reducible rfl
                rotate_left
                ·simp only [Act.put, sT, sZ, sS, i64_w, i32_w]
                 rfl
                refine pure_ (i := 3) (N := some 130) (v := ?_) (a' := ?_) #[true, true, true, true, false, false, false, false, false, false, false, false, false, false, false, false, false, false, false, false] rfl rfl (any_of HT_.out (by kernel_rfl)) (fun _ _ _ h => h) (Or.inl ⟨by rfl, ?_⟩) ?_ ?_
                rotate_left
                ·intro w'
                 go_simp
                 with_reducible rfl
                rotate_left
                ·simp only [Act.put, sT, sZ, sS, i64_w, i32_w]
                 rfl
                refine pure_ (i := 4) (N := some 131) (v := ?_) (a' := ?_) #[true, true, true, true, true, false, false, false, false, false, false, false, false, false, false, false, false, false, false, false] rfl rfl (any_of HT_.out (by kernel_rfl)) (fun _ _ _ h => h) (Or.inl ⟨by rfl, ?_⟩) ?_ ?_
                rotate_left
                ·intro w'
                 go_simp
                 with_reducible rfl
                rotate_left
                ·simp only [Act.put, sT, sZ, sS, i64_w, i32_w]
                 rfl
                refine pure_ (i := 5) (N := some 132) (v := ?_) (a' := ?_) #[true, true, true, true, true, true, false, false, false, false, false, false, false, false, false, false, false, false, false, false] rfl rfl (any_of HT_.out (by kernel_rfl)) (fun _ _ _ h => h) (Or.inl ⟨by rfl, ?_⟩) ?_ ?_
                rotate_left
                ·intro w'
                 go_simp
                 with_reducible rfl
                rotate_left
                ·simp only [Act.put, sT, sZ, sS, i64_w, i32_w]
                 rfl
                refine take_ (i := 6) (N := some 133) (v := ?_) (a' := ?_) #[true, true, true, true, true, true, true, false, false, false, false, false, false, false, false, false, false, false, false, false] rfl rfl (take_ofW HT_.out HW_.out (by kernel_rfl)) (fun _ _ _ h => h) (Or.inl ⟨by rfl, ?_⟩) hHeld ?_ ?_
                rotate_left
                ·rintro w' ⟨s0, s1, s2⟩
                 go_simp
                 with_reducible rfl
                rotate_left
                ·simp only [Act.put, sT, sZ, sS, i64_w, i32_w]
                 rfl
                refine pure_ (i := 7) (N := some 134) (v := ?_) (a' := ?_) #[true, true, true, true, true, true, true, true, false, false, false, false, false, false, false, false, false, false, false, false] rfl rfl (any_of HT_.out (by kernel_rfl)) (fun _ _ _ h => h) (Or.inl ⟨by rfl, ?_⟩) ?_ ?_
                rotate_left
                ·intro w'
                 go_simp
                 with_reducible rfl
                rotate_left
                ·simp only [Act.put, sT, sZ, sS, i64_w, i32_w]
                 rfl
                refine pure_ (i := 8) (N := some 135) (v := ?_) (a' := ?_) #[true, true, true, true, true, true, true, true, true, false, false, false, false, false, false, false, false, false, false, false] rfl rfl (any_of HT_.out (by kernel_rfl)) (fun _ _ _ h => h) (Or.inl ⟨by rfl, ?_⟩) ?_ ?_
                rotate_left
                ·intro w'
                 go_simp
                 with_reducible rfl
                rotate_left
                ·simp only [Act.put, sT, sZ, sS, i64_w, i32_w]
                 rfl
                refine pure_ (i := 9) (N := some 136) (v := undef) (a' := ?_) #[true, true, true, true, true, true, true, true, true, true, false, false, false, false, false, false, false, false, false, false] rfl rfl (any_of HT_.out (by kernel_rfl)) (fun _ _ _ h => h) (Or.inr ⟨by rfl, rfl⟩) ?_ ?_
                rotate_left
                ·simp only [Act.put, sT, sZ, sS, i64_w, i32_w]
                 rfl
                refine pure_ (i := 10) (N := some 137) (v := undef) (a' := ?_) #[true, true, true, true, true, true, true, true, true, true, true, false, false, false, false, false, false, false, false, false] rfl rfl (any_of HT_.out (by kernel_rfl)) (fun _ _ _ h => h) (Or.inr ⟨by rfl, rfl⟩) ?_ ?_
                rotate_left
                ·simp only [Act.put, sT, sZ, sS, i64_w, i32_w]
                 rfl
                refine pure_ (i := 11) (N := some 138) (v := undef) (a' := ?_) #[true, true, true, true, true, true, true, true, true, true, true, true, false, false, false, false, false, false, false, false] rfl rfl (any_of HT_.out (by kernel_rfl)) (fun _ _ _ h => h) (Or.inr ⟨by rfl, rfl⟩) ?_ ?_
                rotate_left
                ·simp only [Act.put, sT, sZ, sS, i64_w, i32_w]
                 rfl
                refine pure_ (i := 12) (N := some 139) (v := undef) (a' := ?_) #[true, true, true, true, true, true, true, true, true, true, true, true, true, false, false, false, false, false, false, false] rfl rfl (any_of HT_.out (by kernel_rfl)) (fun _ _ _ h => h) (Or.inr ⟨by rfl, rfl⟩) ?_ ?_
                rotate_left
                ·simp only [Act.put, sT, sZ, sS, i64_w, i32_w]
                 rfl
                refine pure_ (i := 13) (N := some 140) (v := undef) (a' := ?_) #[true, true, true, true, true, true, true, true, true, true, true, true, true, true, false, false, false, false, false, false] rfl rfl (any_of HT_.out (by kernel_rfl)) (fun _ _ _ h => h) (Or.inr ⟨by rfl, rfl⟩) ?_ ?_
                rotate_left
                ·simp only [Act.put, sT, sZ, sS, i64_w, i32_w]
                 rfl
                refine pure_ (i := 14) (N := some 141) (v := undef) (a' := ?_) #[true, true, true, true, true, true, true, true, true, true, true, true, true, true, true, false, false, false, false, false] rfl rfl (any_of HT_.out (by kernel_rfl)) (fun _ _ _ h => h) (Or.inr ⟨by rfl, rfl⟩) ?_ ?_
                rotate_left
                ·simp only [Act.put, sT, sZ, sS, i64_w, i32_w]
                 rfl
                refine pure_ (i := 15) (N := some 142) (v := undef) (a' := ?_) #[true, true, true, true, true, true, true, true, true, true, true, true, true, true, true, true, false, false, false, false] rfl rfl (any_of HT_.out (by kernel_rfl)) (fun _ _ _ h => h) (Or.inr ⟨by rfl, rfl⟩) ?_ ?_
                rotate_left
                ·simp only [Act.put, sT, sZ, sS, i64_w, i32_w]
                 rfl
                refine pure_ (i := 16) (N := some 143) (v := undef) (a' := ?_) #[true, true, true, true, true, true, true, true, true, true, true, true, true, true, true, true, true, false, false, false] rfl rfl (any_of HT_.out (by kernel_rfl)) (fun _ _ _ h => h) (Or.inr ⟨by rfl, rfl⟩) ?_ ?_
                rotate_left
                ·simp only [Act.put, sT, sZ, sS, i64_w, i32_w]
                 rfl
                refine pure_ (i := 17) (N := some 144) (v := ?_) (a' := ?_) #[true, true, true, true, true, true, true, true, true, true, true, true, true, true, true, true, true, true, false, false] rfl rfl (any_of HT_.out (by kernel_rfl)) (fun _ _ _ h => h) (Or.inl ⟨by rfl, ?_⟩) ?_ ?_
                rotate_left
                ·intro w'
                 go_simp
                 with_reducible rfl
                rotate_left
                ·simp only [Act.put, sT, sZ, sS, i64_w, i32_w]
                 rfl
                refine pure_ (i := 18) (N := some 145) (v := ?_) (a' := ?_) #[true, true, true, true, true, true, true, true, true, true, true, true, true, true, true, true, true, true, true, false] rfl rfl (any_of HT_.out (by kernel_rfl)) (fun _ _ _ h => h) (Or.inl ⟨by rfl, ?_⟩) ?_ ?_
                rotate_left
                ·intro w'
                 go_simp
                 with_reducible rfl
                rotate_left
                ·simp only [Act.put, sT, sZ, sS, i64_w, i32_w]
                 rfl
                refine pure_ (i := 19) (N := some 15) (v := ?_) (a' := ?_) #[true, true, true, true, true, true, true, true, true, true, true, true, true, true, true, true, true, true, true, true] rfl rfl (any_of HT_.out (by kernel_rfl)) (fun _ _ _ h => h) (Or.inl ⟨by rfl, ?_⟩) ?_ ?_
                rotate_left
                ·intro w'
                 go_simp
                 with_reducible rfl
                rotate_left
                ·simp only [Act.put, sT, sZ, sS, i64_w, i32_w]
                 rfl
                refine done_ (done_of HT_.out (by kernel_rfl)) ?_
                try go_wp2
                go_roundg k3
                case measure => have := HK1.out; have := HK2.out; have := HK3.out; omega
                case rel => exact ⟨(false), (wrap64 (x16_3 + 1)), (by first | rfl | (simp; done) | (simp [*]; done)), (by first | rfl | (simp; done) | (simp [*]; done)), H', ⟨by have := HK1.out; have := HK2.out; have := HK3.out; omega⟩, ⟨by (with_reducible repeat (first | apply Kd.R_alloc | apply Kd.R_drewN | apply Kd.R_drew)); exact HO_7.out⟩, ⟨by (with_reducible repeat (first | refine qM ?_ _ | refine qW ?_ | refine qL ?_ _)); exact BK286.out⟩, ⟨by repeat (first | (with_reducible first | exact HB.out | apply qA | apply qN | apply qD | refine qS ?_ GE286.out) | exact HB.out)⟩⟩
               ·rw [if_neg c44] at H
                have c44b0 : (((rd_T35 l1 x16_3).f1) == 2) = false := beq_eq_false_iff_ne.mpr c44
                have c44b1 : (((rd_T35 l1 x16_3).f1) != 2) = true := bne_iff_ne.mpr c44
                replace H := Option.bind_eq_some_iff.mp H
                obtain ⟨t290, A460, H⟩ := H
                replace H : (z25.l3 k3 l0 l1 a2 x7_2 x12_2 t287 t290 (wrap64 (x16_3 + 1)) ((rd_T35 l1 x12_2).f0) ((rd_T35 l1 x12_2).f1) ((rd_T35 l1 x12_2).f2)) = some r := H
                have A46 := Aside0.mk A460
                clear A460
                have H' := Aside0.mk H
                clear H
                try go_wp2
                have n0_ := Aside0.mk (Kd.R_drew HO_7.out)
                have n1_ := Aside0.mk (qW BK286.out)
                have n2_ := Aside0.mk (qD HB.out)
                clear HO_7
                clear BK286
                clear HB
                have HO_7 := n0_
                have BK286 := n1_
                have HB := n2_
                clear n0_ n1_ n2_
                have p288 : 0 ≤ (x16_3 : Int) := of_decide_eq_true (by first | (with_reducible assumption) | assumption)
                have q288 : x16_3 < (l1.length : Int) := of_decide_eq_true (by first | (with_reducible assumption) | assumption)
                obtain ⟨ad288, e288, hx288_0, hx288_1, hx288_2⟩ := at_T35 HR1.out x16_3 p288 q288
                have hw288_2 := hx288_2
                have hw288_1 := hx288_1
                have hw288_0 := hx288_0
                obtain rfl : ad283 = ad288 := (by injection e288)
                replace hx288_0 := (HB.out.cell (World.block_lt_of_cell? w _ hx288_0)).trans hx288_0
                replace hx288_1 := (HB.out.cell (World.block_lt_of_cell? w _ hx288_1)).trans hx288_1
                replace hx288_2 := (HB.out.cell (World.block_lt_of_cell? w _ hx288_2)).trans hx288_2
                replace p288 := eq_true p288
                replace q288 := eq_true q288
                have p289 : 0 ≤ (x16_3 : Int) := of_decide_eq_true (by first | (with_reducible assumption) | assumption)
                have q289 : x16_3 < (l1.length : Int) := of_decide_eq_true (by first | (with_reducible assumption) | assumption)
                obtain ⟨ad289, e289, hx289_0, hx289_1, hx289_2⟩ := at_T35 HR1.out x16_3 p289 q289
                have hw289_2 := hx289_2
                have hw289_1 := hx289_1
                have hw289_0 := hx289_0
                obtain rfl : ad283 = ad289 := (by injection e289)
                replace hx289_0 := (HB.out.cell (World.block_lt_of_cell? w _ hx289_0)).trans hx289_0
                replace hx289_1 := (HB.out.cell (World.block_lt_of_cell? w _ hx289_1)).trans hx289_1
                replace hx289_2 := (HB.out.cell (World.block_lt_of_cell? w _ hx289_2)).trans hx289_2
                replace p289 := eq_true p289
                replace q289 := eq_true q289
                refine start_ (n := 20) (S := fun w' => w'.cell? ⟨gb286, 0, none⟩ = some (.string ((rd_T35 l1 x12_2).f0)) ∧ w'.cell? ⟨gb286, 1, none⟩ = some (.int .i64 ((rd_T35 l1 x12_2).f1)) ∧ w'.cell? ⟨gb286, 2, none⟩ = some (.string ((rd_T35 l1 x12_2).f2)) ∧ w'.cell? (ad283.add ((x16_3).toNat * 3)) = some (.string ((rd_T35 l1 x16_3).f0)) ∧ w'.cell? ⟨(ad283.add ((x16_3).toNat * 3)).block, (ad283.add ((x16_3).toNat * 3)).off + 1, none⟩ = some (.int .i64 ((rd_T35 l1 x16_3).f1)) ∧ w'.cell? ⟨(ad283.add ((x16_3).toNat * 3)).block, (ad283.add ((x16_3).toNat * 3)).off + 2, none⟩ = some (.string ((rd_T35 l1 x16_3).f2)) ∧ w'.cell? (ad283.add ((x16_3).toNat * 3)) = some (.string ((rd_T35 l1 x16_3).f0)) ∧ w'.cell? ⟨(ad283.add ((x16_3).toNat * 3)).block, (ad283.add ((x16_3).toNat * 3)).off + 1, none⟩ = some (.int .i64 ((rd_T35 l1 x16_3).f1)) ∧ w'.cell? ⟨(ad283.add ((x16_3).toNat * 3)).block, (ad283.add ((x16_3).toNat * 3)).off + 2, none⟩ = some (.string ((rd_T35 l1 x16_3).f2))) (ds := []) #[false, false, false, false, false, false, false, false, false, false, false, false, false, false, false, false, false, false, false, false] (by kernel_rfl) rfl rfl ⟨(qC BK286.out 0).trans rfl, (qC BK286.out 1).trans rfl, (qC BK286.out 2).trans rfl, ((HB.out.cell (World.block_lt_of_cell? w _ hw288_0)).trans hw288_0), ((HB.out.cell (World.block_lt_of_cell? w _ hw288_1)).trans hw288_1), ((HB.out.cell (World.block_lt_of_cell? w _ hw288_2)).trans hw288_2), ((HB.out.cell (World.block_lt_of_cell? w _ hw289_0)).trans hw289_0), ((HB.out.cell (World.block_lt_of_cell? w _ hw289_1)).trans hw289_1), ((HB.out.cell (World.block_lt_of_cell? w _ hw289_2)).trans hw289_2)⟩ (fun hHeld => ?_); refine with_tabW z25.tab24 z25.bits24 (fun HT_ HW_ => ?_)
                generalize wr.drew = w47 at HO_7 BK286 HB hx288_0 hx288_1 hx288_2 hx289_0 hx289_1 hx289_2 hHeld ⊢
                refine pure_ (i := 0) (N := some 127) (v := ?_) (a' := ?_) #[true, false, false, false, false, false, false, false, false, false, false, false, false, false, false, false, false, false, false, false] rfl rfl (any_of HT_.out (by kernel_rfl)) (fun _ _ _ h => h) (Or.inl ⟨by rfl, ?_⟩) ?_ ?_
                rotate_left
                ·intro w'
                 go_simp
                 with_reducible rfl
                rotate_left
                ·simp only [Act.put, sT, sZ, sS, i64_w, i32_w]
                 rfl
                refine pure_ (i := 1) (N := some 128) (v := ?_) (a' := ?_) #[true, true, false, false, false, false, false, false, false, false, false, false, false, false, false, false, false, false, false, false] rfl rfl (any_of HT_.out (by kernel_rfl)) (fun _ _ _ h => h) (Or.inl ⟨by rfl, ?_⟩) ?_ ?_
                rotate_left
                ·intro w'
                 go_simp
                 with_reducible rfl
                rotate_left
                ·simp only [Act.put, sT, sZ, sS, i64_w, i32_w]
                 rfl
                refine pure_ (i := 2) (N := some 129) (v := ?_) (a' := ?_) #[true, true, true, false, false, false, false, false, false, false, false, false, false, false, false, false, false, false, false, false] rfl rfl (any_of HT_.out (by kernel_rfl)) (fun _ _ _ h => h) (Or.inl ⟨by rfl, ?_⟩) ?_ ?_
                rotate_left
                ·intro w'
                 go_simp
                 with_reducible rfl
                rotate_left
                ·simp only [Act.put, sT, sZ, sS, i64_w, i32_w]
                 rfl
                refine pure_ (i := 3) (N := some 130) (v := ?_) (a' := ?_) #[true, true, true, true, false, false, false, false, false, false, false, false, false, false, false, false, false, false, false, false] rfl rfl (any_of HT_.out (by kernel_rfl)) (fun _ _ _ h => h) (Or.inl ⟨by rfl, ?_⟩) ?_ ?_
                rotate_left
                ·intro w'
                 go_simp
                 with_reducible rfl
                rotate_left
                ·simp only [Act.put, sT, sZ, sS, i64_w, i32_w]
                 rfl
                refine pure_ (i := 4) (N := some 131) (v := ?_) (a' := ?_) #[true, true, true, true, true, false, false, false, false, false, false, false, false, false, false, false, false, false, false, false] rfl rfl (any_of HT_.out (by kernel_rfl)) (fun _ _ _ h => h) (Or.inl ⟨by rfl, ?_⟩) ?_ ?_
                rotate_left
                ·intro w'
                 go_simp
                 with_reducible rfl
                rotate_left
                ·simp only [Act.put, sT, sZ, sS, i64_w, i32_w]
                 rfl
                refine pure_ (i := 5) (N := some 132) (v := ?_) (a' := ?_) #[true, true, true, true, true, true, false, false, false, false, false, false, false, false, false, false, false, false, false, false] rfl rfl (any_of HT_.out (by kernel_rfl)) (fun _ _ _ h => h) (Or.inl ⟨by rfl, ?_⟩) ?_ ?_
                rotate_left
                ·intro w'
                 go_simp
                 with_reducible rfl
                rotate_left
                ·simp only [Act.put, sT, sZ, sS, i64_w, i32_w]
                 rfl
                refine take_ (i := 6) (N := some 133) (v := ?_) (a' := ?_) #[true, true, true, true, true, true, true, false, false, false, false, false, false, false, false, false, false, false, false, false] rfl rfl (take_ofW HT_.out HW_.out (by kernel_rfl)) (fun _ _ _ h => h) (Or.inl ⟨by rfl, ?_⟩) hHeld ?_ ?_
                rotate_left
                ·rintro w' ⟨s0, s1, s2, s3, s4, s5, s6, s7, s8⟩
                 go_simp
                 with_reducible rfl
                rotate_left
                ·simp only [Act.put, sT, sZ, sS, i64_w, i32_w]
                 rfl
                refine pure_ (i := 7) (N := some 134) (v := ?_) (a' := ?_) #[true, true, true, true, true, true, true, true, false, false, false, false, false, false, false, false, false, false, false, false] rfl rfl (any_of HT_.out (by kernel_rfl)) (fun _ _ _ h => h) (Or.inl ⟨by rfl, ?_⟩) ?_ ?_
                rotate_left
                ·intro w'
                 go_simp
                 with_reducible rfl
                rotate_left
                ·simp only [Act.put, sT, sZ, sS, i64_w, i32_w]
                 rfl
                refine pure_ (i := 8) (N := some 135) (v := ?_) (a' := ?_) #[true, true, true, true, true, true, true, true, true, false, false, false, false, false, false, false, false, false, false, false] rfl rfl (any_of HT_.out (by kernel_rfl)) (fun _ _ _ h => h) (Or.inl ⟨by rfl, ?_⟩) ?_ ?_
                rotate_left
                ·intro w'
                 go_simp
                 with_reducible rfl
                rotate_left
                ·simp only [Act.put, sT, sZ, sS, i64_w, i32_w]
                 rfl
                refine pure_ (i := 9) (N := some 136) (v := ?_) (a' := ?_) #[true, true, true, true, true, true, true, true, true, true, false, false, false, false, false, false, false, false, false, false] rfl rfl (any_of HT_.out (by kernel_rfl)) (fun _ _ _ h => h) (Or.inl ⟨by rfl, ?_⟩) ?_ ?_
                rotate_left
                ·intro w'
                 go_simp
                 with_reducible rfl
                rotate_left
                ·simp only [Act.put, sT, sZ, sS, i64_w, i32_w]
                 rfl
                refine pure_ (i := 11) (N := some 138) (v := ?_) (a' := ?_) #[true, true, true, true, true, true, true, true, true, true, false, true, false, false, false, false, false, false, false, false] rfl rfl (any_of HT_.out (by kernel_rfl)) (fun _ _ _ h => h) (Or.inl ⟨by rfl, ?_⟩) ?_ ?_
                rotate_left
                ·intro w'
                 go_simp
                 with_reducible rfl
                rotate_left
                ·simp only [Act.put, sT, sZ, sS, i64_w, i32_w]
                 rfl
                refine pure_ (i := 12) (N := some 139) (v := ?_) (a' := ?_) #[true, true, true, true, true, true, true, true, true, true, false, true, true, false, false, false, false, false, false, false] rfl rfl (any_of HT_.out (by kernel_rfl)) (fun _ _ _ h => h) (Or.inl ⟨by rfl, ?_⟩) ?_ ?_
                rotate_left
                ·intro w'
                 go_simp
                 with_reducible rfl
                rotate_left
                ·simp only [Act.put, sT, sZ, sS, i64_w, i32_w]
                 rfl
                refine pure_ (i := 13) (N := some 140) (v := ?_) (a' := ?_) #[true, true, true, true, true, true, true, true, true, true, false, true, true, true, false, false, false, false, false, false] rfl rfl (any_of HT_.out (by kernel_rfl)) (fun _ _ _ h => h) (Or.inl ⟨by rfl, ?_⟩) ?_ ?_
                rotate_left
                ·intro w'
                 go_simp
                 with_reducible rfl
                rotate_left
                ·simp only [Act.put, sT, sZ, sS, i64_w, i32_w]
                 rfl
                refine pure_ (i := 14) (N := some 141) (v := ?_) (a' := ?_) #[true, true, true, true, true, true, true, true, true, true, false, true, true, true, true, false, false, false, false, false] rfl rfl (any_of HT_.out (by kernel_rfl)) (fun _ _ _ h => h) (Or.inl ⟨by rfl, ?_⟩) ?_ ?_
                rotate_left
                ·intro w'
                 go_simp
                 with_reducible rfl
                rotate_left
                ·simp only [Act.put, sT, sZ, sS, i64_w, i32_w]
                 rfl
                refine take_ (i := 10) (N := some 137) (v := ?_) (a' := ?_) #[true, true, true, true, true, true, true, true, true, true, true, true, true, true, true, false, false, false, false, false] rfl rfl (take_ofW HT_.out HW_.out (by kernel_rfl)) (fun _ _ _ h => h) (Or.inl ⟨by rfl, ?_⟩) hHeld ?_ ?_
                rotate_left
                ·rintro w' ⟨s0, s1, s2, s3, s4, s5, s6, s7, s8⟩
                 go_simp
                 with_reducible rfl
                rotate_left
                ·simp only [Act.put, sT, sZ, sS, i64_w, i32_w]
                 rfl
                refine take_ (i := 15) (N := some 142) (v := ?_) (a' := ?_) #[true, true, true, true, true, true, true, true, true, true, true, true, true, true, true, true, false, false, false, false] rfl rfl (take_ofW HT_.out HW_.out (by kernel_rfl)) (fun _ _ _ h => h) (Or.inl ⟨by rfl, ?_⟩) hHeld ?_ ?_
                rotate_left
                ·rintro w' ⟨s0, s1, s2, s3, s4, s5, s6, s7, s8⟩
                 go_simp
                 with_reducible rfl
                rotate_left
                ·simp only [Act.put, sT, sZ, sS, i64_w, i32_w]
                 rfl
                refine one_ (i := 16) (N := some 143) #[true, true, true, true, true, true, true, true, true, true, true, true, true, true, true, true, true, false, false, false] rfl rfl (one_of HT_.out (by kernel_rfl)) (by decide) (fun K hK => ?_)
                refine goes_ Tryz.func20 (by kernel_rfl) rfl #[.string ((rd_T35 l1 x12_2).f0), .string ((rd_T35 l1 x16_3).f0)] (by rfl) rfl rfl (by (try simp only [List.map_toArray, List.map_cons, List.map_nil]); first | done | rfl | (simp only [List.length_drop, List.length_take]; rfl)) ?_
                with_reducible refine (z13.calls ((rd_T35 l1 x12_2).f0) ((rd_T35 l1 x16_3).f0) t290 _ A46.out).mono ?_
                rintro e w' ⟨rfl, ⟨nd, rfl⟩⟩
                refine ⟨_, rfl, ?_⟩
                refine hK.out _ _ ⟨(qC BK286.out 0).trans rfl, (qC BK286.out 1).trans rfl, (qC BK286.out 2).trans rfl, ((HB.out.cell (World.block_lt_of_cell? w _ hw288_0)).trans hw288_0), ((HB.out.cell (World.block_lt_of_cell? w _ hw288_1)).trans hw288_1), ((HB.out.cell (World.block_lt_of_cell? w _ hw288_2)).trans hw288_2), ((HB.out.cell (World.block_lt_of_cell? w _ hw289_0)).trans hw289_0), ((HB.out.cell (World.block_lt_of_cell? w _ hw289_1)).trans hw289_1), ((HB.out.cell (World.block_lt_of_cell? w _ hw289_2)).trans hw289_2)⟩ (fun hHeld => ?_)
                clear hK K
                refine norm_ (a' := ?_) ?_ ?_
                rotate_left
                ·show Act.put _ (some 143) _ = _
                 simp only [Act.put, sT, sZ, sS, i64_w, i32_w]
                 rfl
                refine pure_ (i := 17) (N := some 144) (v := ?_) (a' := ?_) #[true, true, true, true, true, true, true, true, true, true, true, true, true, true, true, true, true, true, false, false] rfl rfl (any_of HT_.out (by kernel_rfl)) (fun _ _ _ h => h) (Or.inl ⟨by rfl, ?_⟩) ?_ ?_
                rotate_left
                ·intro w'
                 go_simp
                 with_reducible rfl
                rotate_left
                ·simp only [Act.put, sT, sZ, sS, i64_w, i32_w]
                 rfl
                refine pure_ (i := 18) (N := some 145) (v := ?_) (a' := ?_) #[true, true, true, true, true, true, true, true, true, true, true, true, true, true, true, true, true, true, true, false] rfl rfl (any_of HT_.out (by kernel_rfl)) (fun _ _ _ h => h) (Or.inl ⟨by rfl, ?_⟩) ?_ ?_
                rotate_left
                ·intro w'
                 go_simp
                 with_reducible rfl
                rotate_left
                ·simp only [Act.put, sT, sZ, sS, i64_w, i32_w]
                 rfl
                refine pure_ (i := 19) (N := some 15) (v := ?_) (a' := ?_) #[true, true, true, true, true, true, true, true, true, true, true, true, true, true, true, true, true, true, true, true] rfl rfl (any_of HT_.out (by kernel_rfl)) (fun _ _ _ h => h) (Or.inl ⟨by rfl, ?_⟩) ?_ ?_
                rotate_left
                ·intro w'
                 go_simp
                 with_reducible rfl
                rotate_left
                ·simp only [Act.put, sT, sZ, sS, i64_w, i32_w]
                 rfl
                refine done_ (done_of HT_.out (by kernel_rfl)) ?_
                try go_wp2
                go_roundg k3
                case measure => have := HK1.out; have := HK2.out; have := HK3.out; omega
                case rel => exact ⟨(t290), (wrap64 (x16_3 + 1)), (by first | rfl | (simp; done) | (simp [*]; done)), (by first | rfl | (simp; done) | (simp [*]; done)), H', ⟨by have := HK1.out; have := HK2.out; have := HK3.out; omega⟩, ⟨by (with_reducible repeat (first | apply Kd.R_alloc | apply Kd.R_drewN | apply Kd.R_drew)); exact HO_7.out⟩, ⟨by (with_reducible repeat (first | refine qM ?_ _ | refine qW ?_ | refine qL ?_ _)); exact BK286.out⟩, ⟨by repeat (first | (with_reducible first | exact HB.out | apply qA | apply qN | apply qD | refine qS ?_ GE286.out) | exact HB.out)⟩⟩
              ·rw [if_neg c43] at H
               exact absurd H (by simp)
             ·rw [if_neg c42] at H
              exact absurd H (by simp)
           ·rw [if_neg c39] at H
            have c39b0 : decide (x16_3 < x12_2) = false := decide_eq_false c39
            clear c39
            by_cases c48 : ((rd_T35 l1 x12_2).f1) = 2
            ·rw [if_pos c48] at H
             have c48b0 : (((rd_T35 l1 x12_2).f1) == 2) = true := beq_iff_eq.mpr c48
             have c48b1 : (((rd_T35 l1 x12_2).f1) != 2) = false := bne_eq_false_iff_eq.mpr c48
             clear c48
             by_cases c49 : t287 ≥ 0
             ·rw [if_pos c49] at H
              have c49b0 : decide (0 ≤ t287) = true := decide_eq_true c49
              clear c49
              by_cases c50 : x15_3 = true
              ·subst c50
               have H1 : ((z22.f k3 x7_2 ((rd_T35 l1 x12_2).f0) ((rd_T35 l1 x12_2).f1) ((rd_T35 l1 x12_2).f2)).bind fun t291 => (z25.l2 k3 l0 l1 a2 t291 (wrap64 (x12_2 + 1)))) = some r := by rw [if_pos rfl] at H; exact H
               clear H
               have H := H1
               clear H1
               replace H := Option.bind_eq_some_iff.mp H
               obtain ⟨t291, A510, H⟩ := H
               replace H : (z25.l2 k3 l0 l1 a2 t291 (wrap64 (x12_2 + 1))) = some r := H
               have A51 := Aside0.mk A510
               clear A510
               have H' := Aside0.mk H
               clear H
               have hcz52_0 : wr.cell? ⟨gb286, 0, none⟩ = some (.string ((rd_T35 l1 x12_2).f0)) := (qC BK286.out 0).trans rfl
               have hcz52_1 : wr.cell? ⟨gb286, 1, none⟩ = some (.int .i64 ((rd_T35 l1 x12_2).f1)) := (qC BK286.out 1).trans rfl
               have hcz52_2 : wr.cell? ⟨gb286, 2, none⟩ = some (.string ((rd_T35 l1 x12_2).f2)) := (qC BK286.out 2).trans rfl
               have hfz52_0 := qF BK286.out 0
               have hfz52_1 := qF BK286.out 1
               have hfz52_2 := qF BK286.out 2
               go_wp2_with (first | ((with_reducible refine qg (f := 22) rfl ?_); refine goesL_ (some 160) rfl rfl Tryz.func22 (by kernel_rfl) rfl #[.slice Ao36 x7_2.length co36, .agg #[.string ((rd_T35 l1 x12_2).f0), .int .i64 ((rd_T35 l1 x12_2).f1), .string ((rd_T35 l1 x12_2).f2)]] rfl (by (try simp only [List.map_toArray, List.map_cons, List.map_nil]); first | done | rfl | (simp only [List.length_drop, List.length_take]; rfl)) ?_; (with_reducible refine (z22.calls k3 _ _ x7_2 ((rd_T35 l1 x12_2).f0) ((rd_T35 l1 x12_2).f1) ((rd_T35 l1 x12_2).f2) t291 _ ?side1 ?side2 A51.out).mono ?_); (case side1 => repeat (first | exact (Kd.R_reads' HO_7.out).2.2 | (with_reducible refine Kd.C_alloc ?_ _) | (with_reducible refine Kd.C_drewN ?_ _) | (with_reducible refine Kd.C_drew ?_))); (case side2 => exact (Kd.R_reads' HO_7.out).2.1); rintro e w53 ⟨v292, rfl, ho0, hb⟩; refine ⟨_, rfl, ?_⟩; have n0_ := Aside0.mk (Kd.R_elder' (by (with_reducible repeat (first | apply Kd.R_alloc | apply Kd.R_drewN | apply Kd.R_drew)); exact HO_7.out) (Kd.R_base ho0) hb); have n1_ := Aside0.mk (Kd.R_lower (Kd.R_newB (Kd.R_new' ho0 (Kd.R_lt (by (with_reducible repeat (first | apply Kd.R_alloc | apply Kd.R_drewN | apply Kd.R_drew)); exact HO_7.out))) (g := gb286) (o := .cells #[.string ((rd_T35 l1 x12_2).f0), .int .i64 ((rd_T35 l1 x12_2).f1), .string ((rd_T35 l1 x12_2).f2)] 35 (0, 0)) (by (with_reducible repeat (first | refine qM ?_ _ | refine qW ?_ | refine qL ?_ _)); exact BK286.out)) (qZ (by repeat (first | (with_reducible first | exact HB.out | apply qA | apply qN | apply qD | refine qS ?_ GE286.out) | exact HB.out)))); have n2_ := Aside0.mk (qb (g := gb286) (o := .cells #[.string ((rd_T35 l1 x12_2).f0), .int .i64 ((rd_T35 l1 x12_2).f1), .string ((rd_T35 l1 x12_2).f2)] 35 (0, 0)) (by (with_reducible repeat (first | refine qM ?_ _ | refine qW ?_ | refine qL ?_ _)); exact BK286.out) hb); have n3_ := Aside0.mk (qT (by repeat (first | (with_reducible first | exact HB.out | apply qA | apply qN | apply qD | refine qS ?_ GE286.out) | exact HB.out)) hb); clear HO_7; clear BK286; clear HB; have HO_7 := n0_; have HO293 := n1_; have BK286 := n2_; have HB := n3_; clear n0_ n1_ n2_ n3_; (try clear hb); (try clear hb2); (try clear hk); (try clear hi); (try clear ho0)))
               go_roundg k3
               case measure => have := HK1.out; have := HK2.out; have := HK3.out; omega
               case rel => exact ⟨(t291), (wrap64 (x12_2 + 1)), (by first | rfl | (simp; done) | (simp [*]; done)), H', ⟨by have := HK1.out; have := HK2.out; have := HK3.out; omega⟩, ⟨by (with_reducible repeat (first | apply Kd.R_alloc | apply Kd.R_drewN | apply Kd.R_drew)); exact Kd.R_mono HO293.out (fun _ hk => trivial)⟩, ⟨by repeat (first | (with_reducible first | exact HB.out | apply qA | apply qN | apply qD | refine qS ?_ GE286.out) | exact HB.out)⟩⟩
              ·replace c50 := Bool.eq_false_iff.mpr c50
               subst c50
               have H1 : ((z22.f k3 x7_2 ((rd_T35 l1 x12_2).f0) 4 ((rd_T35 l1 x12_2).f2)).bind fun t294 => (z25.l2 k3 l0 l1 a2 t294 (wrap64 (x12_2 + 1)))) = some r := by rw [if_neg (show ¬ (false = true) by decide)] at H; exact H
               clear H
               have H := H1
               clear H1
               replace H := Option.bind_eq_some_iff.mp H
               obtain ⟨t294, A540, H⟩ := H
               replace H : (z25.l2 k3 l0 l1 a2 t294 (wrap64 (x12_2 + 1))) = some r := H
               have A54 := Aside0.mk A540
               clear A540
               have H' := Aside0.mk H
               clear H
               have hcz55_0 : wr.cell? ⟨gb286, 0, none⟩ = some (.string ((rd_T35 l1 x12_2).f0)) := (qC BK286.out 0).trans rfl
               have hcz55_1 : wr.cell? ⟨gb286, 1, none⟩ = some (.int .i64 ((rd_T35 l1 x12_2).f1)) := (qC BK286.out 1).trans rfl
               have hcz55_2 : wr.cell? ⟨gb286, 2, none⟩ = some (.string ((rd_T35 l1 x12_2).f2)) := (qC BK286.out 2).trans rfl
               have hfz55_0 := qF BK286.out 0
               have hfz55_1 := qF BK286.out 1
               have hfz55_2 := qF BK286.out 2
               go_wp2_with (first | ((with_reducible refine qg (f := 22) rfl ?_); refine goesL_ (some 160) rfl rfl Tryz.func22 (by kernel_rfl) rfl #[.slice Ao36 x7_2.length co36, .agg #[.string ((rd_T35 l1 x12_2).f0), .int .i64 4, .string ((rd_T35 l1 x12_2).f2)]] rfl (by (try simp only [List.map_toArray, List.map_cons, List.map_nil]); first | done | rfl | (simp only [List.length_drop, List.length_take]; rfl)) ?_; (with_reducible refine (z22.calls k3 _ _ x7_2 ((rd_T35 l1 x12_2).f0) 4 ((rd_T35 l1 x12_2).f2) t294 _ ?side1 ?side2 A54.out).mono ?_); (case side1 => refine (Kd.R_reads' (e := 35) (base := w.heap.size) (ok := fun k_ => k_ ≠ gb286) (n := x7_2.length) (c := co36) ?_).2.2; exact (by (with_reducible repeat (first | apply Kd.R_alloc | apply Kd.R_drewN | apply Kd.R_drew)); exact (Kd.R_mono (Kd.R_far (p := ⟨gb286, 1, none⟩) (Kd.R_mono HO_7.out (fun k_ hk => (⟨hk, hk⟩ : _ ∧ k_ ≠ gb286))) (fun _ hk => hk.2) (.int .i64 4)) (fun _ h_ => h_.1)))); (case side2 => exact (Kd.R_reads' HO_7.out).2.1); rintro e w56 ⟨v295, rfl, ho0, hb⟩; refine ⟨_, rfl, ?_⟩; have n0_ := Aside0.mk (Kd.R_elder' (by (with_reducible repeat (first | apply Kd.R_alloc | apply Kd.R_drewN | apply Kd.R_drew)); exact (Kd.R_mono (Kd.R_far (p := ⟨gb286, 1, none⟩) (Kd.R_mono HO_7.out (fun k_ hk => (⟨hk, hk⟩ : _ ∧ k_ ≠ gb286))) (fun _ hk => hk.2) (.int .i64 4)) (fun _ h_ => h_.1))) (Kd.R_base ho0) hb); have n1_ := Aside0.mk (Kd.R_lower (Kd.R_newB (Kd.R_new' ho0 (Kd.R_lt (by (with_reducible repeat (first | apply Kd.R_alloc | apply Kd.R_drewN | apply Kd.R_drew)); exact (Kd.R_mono (Kd.R_far (p := ⟨gb286, 1, none⟩) (Kd.R_mono HO_7.out (fun k_ hk => (⟨hk, hk⟩ : _ ∧ k_ ≠ gb286))) (fun _ hk => hk.2) (.int .i64 4)) (fun _ h_ => h_.1))))) (g := gb286) (o := .cells #[.string ((rd_T35 l1 x12_2).f0), .int .i64 4, .string ((rd_T35 l1 x12_2).f2)] 35 (0, 0)) (by (with_reducible repeat (first | refine qM ?_ _ | refine qW ?_ | refine qL ?_ _)); refine qu (cs := #[.string ((rd_T35 l1 x12_2).f0), .int .i64 ((rd_T35 l1 x12_2).f1), .string ((rd_T35 l1 x12_2).f2)]) ?_ 1 _ rfl; (with_reducible repeat (first | refine qM ?_ _ | refine qW ?_ | refine qL ?_ _)); exact BK286.out)) (qZ (by repeat (first | (with_reducible first | exact HB.out | apply qA | apply qN | apply qD | refine qS ?_ GE286.out) | exact HB.out)))); have n2_ := Aside0.mk (qb (g := gb286) (o := .cells #[.string ((rd_T35 l1 x12_2).f0), .int .i64 4, .string ((rd_T35 l1 x12_2).f2)] 35 (0, 0)) (by (with_reducible repeat (first | refine qM ?_ _ | refine qW ?_ | refine qL ?_ _)); refine qu (cs := #[.string ((rd_T35 l1 x12_2).f0), .int .i64 ((rd_T35 l1 x12_2).f1), .string ((rd_T35 l1 x12_2).f2)]) ?_ 1 _ rfl; (with_reducible repeat (first | refine qM ?_ _ | refine qW ?_ | refine qL ?_ _)); exact BK286.out) hb); have n3_ := Aside0.mk (qT (by repeat (first | (with_reducible first | exact HB.out | apply qA | apply qN | apply qD | refine qS ?_ GE286.out) | exact HB.out)) hb); clear HO_7; clear BK286; clear HB; have HO_7 := n0_; have HO296 := n1_; have BK286 := n2_; have HB := n3_; clear n0_ n1_ n2_ n3_; (try clear hb); (try clear hb2); (try clear hk); (try clear hi); (try clear ho0)))
               go_roundg k3
               case measure => have := HK1.out; have := HK2.out; have := HK3.out; omega
               case rel => exact ⟨(t294), (wrap64 (x12_2 + 1)), (by first | rfl | (simp; done) | (simp [*]; done)), H', ⟨by have := HK1.out; have := HK2.out; have := HK3.out; omega⟩, ⟨by (with_reducible repeat (first | apply Kd.R_alloc | apply Kd.R_drewN | apply Kd.R_drew)); exact Kd.R_mono HO296.out (fun _ hk => trivial)⟩, ⟨by repeat (first | (with_reducible first | exact HB.out | apply qA | apply qN | apply qD | refine qS ?_ GE286.out) | exact HB.out)⟩⟩
             ·rw [if_neg c49] at H
              have c49b0 : decide (0 ≤ t287) = false := decide_eq_false c49
              clear c49
              replace H := Option.bind_eq_some_iff.mp H
              obtain ⟨t297, A570, H⟩ := H
              replace H : (z25.l2 k3 l0 l1 a2 t297 (wrap64 (x12_2 + 1))) = some r := H
              have A57 := Aside0.mk A570
              clear A570
              have H' := Aside0.mk H
              clear H
              have hcz58_0 : wr.cell? ⟨gb286, 0, none⟩ = some (.string ((rd_T35 l1 x12_2).f0)) := (qC BK286.out 0).trans rfl
              have hcz58_1 : wr.cell? ⟨gb286, 1, none⟩ = some (.int .i64 ((rd_T35 l1 x12_2).f1)) := (qC BK286.out 1).trans rfl
              have hcz58_2 : wr.cell? ⟨gb286, 2, none⟩ = some (.string ((rd_T35 l1 x12_2).f2)) := (qC BK286.out 2).trans rfl
              have hfz58_0 := qF BK286.out 0
              have hfz58_1 := qF BK286.out 1
              have hfz58_2 := qF BK286.out 2
              go_wp2_with (first | ((with_reducible refine qg (f := 22) rfl ?_); refine goesL_ (some 160) rfl rfl Tryz.func22 (by kernel_rfl) rfl #[.slice Ao36 x7_2.length co36, .agg #[.string ((rd_T35 l1 x12_2).f0), .int .i64 ((rd_T35 l1 x12_2).f1), .string ((rd_T35 l1 x12_2).f2)]] rfl (by (try simp only [List.map_toArray, List.map_cons, List.map_nil]); first | done | rfl | (simp only [List.length_drop, List.length_take]; rfl)) ?_; (with_reducible refine (z22.calls k3 _ _ x7_2 ((rd_T35 l1 x12_2).f0) ((rd_T35 l1 x12_2).f1) ((rd_T35 l1 x12_2).f2) t297 _ ?side1 ?side2 A57.out).mono ?_); (case side1 => repeat (first | exact (Kd.R_reads' HO_7.out).2.2 | (with_reducible refine Kd.C_alloc ?_ _) | (with_reducible refine Kd.C_drewN ?_ _) | (with_reducible refine Kd.C_drew ?_))); (case side2 => exact (Kd.R_reads' HO_7.out).2.1); rintro e w59 ⟨v298, rfl, ho0, hb⟩; refine ⟨_, rfl, ?_⟩; have n0_ := Aside0.mk (Kd.R_elder' (by (with_reducible repeat (first | apply Kd.R_alloc | apply Kd.R_drewN | apply Kd.R_drew)); exact HO_7.out) (Kd.R_base ho0) hb); have n1_ := Aside0.mk (Kd.R_lower (Kd.R_newB (Kd.R_new' ho0 (Kd.R_lt (by (with_reducible repeat (first | apply Kd.R_alloc | apply Kd.R_drewN | apply Kd.R_drew)); exact HO_7.out))) (g := gb286) (o := .cells #[.string ((rd_T35 l1 x12_2).f0), .int .i64 ((rd_T35 l1 x12_2).f1), .string ((rd_T35 l1 x12_2).f2)] 35 (0, 0)) (by (with_reducible repeat (first | refine qM ?_ _ | refine qW ?_ | refine qL ?_ _)); exact BK286.out)) (qZ (by repeat (first | (with_reducible first | exact HB.out | apply qA | apply qN | apply qD | refine qS ?_ GE286.out) | exact HB.out)))); have n2_ := Aside0.mk (qb (g := gb286) (o := .cells #[.string ((rd_T35 l1 x12_2).f0), .int .i64 ((rd_T35 l1 x12_2).f1), .string ((rd_T35 l1 x12_2).f2)] 35 (0, 0)) (by (with_reducible repeat (first | refine qM ?_ _ | refine qW ?_ | refine qL ?_ _)); exact BK286.out) hb); have n3_ := Aside0.mk (qT (by repeat (first | (with_reducible first | exact HB.out | apply qA | apply qN | apply qD | refine qS ?_ GE286.out) | exact HB.out)) hb); clear HO_7; clear BK286; clear HB; have HO_7 := n0_; have HO299 := n1_; have BK286 := n2_; have HB := n3_; clear n0_ n1_ n2_ n3_; (try clear hb); (try clear hb2); (try clear hk); (try clear hi); (try clear ho0)))
              go_roundg k3
              case measure => have := HK1.out; have := HK2.out; have := HK3.out; omega
              case rel => exact ⟨(t297), (wrap64 (x12_2 + 1)), (by first | rfl | (simp; done) | (simp [*]; done)), H', ⟨by have := HK1.out; have := HK2.out; have := HK3.out; omega⟩, ⟨by (with_reducible repeat (first | apply Kd.R_alloc | apply Kd.R_drewN | apply Kd.R_drew)); exact Kd.R_mono HO299.out (fun _ hk => trivial)⟩, ⟨by repeat (first | (with_reducible first | exact HB.out | apply qA | apply qN | apply qD | refine qS ?_ GE286.out) | exact HB.out)⟩⟩
            ·rw [if_neg c48] at H
             have c48b0 : (((rd_T35 l1 x12_2).f1) == 2) = false := beq_eq_false_iff_ne.mpr c48
             have c48b1 : (((rd_T35 l1 x12_2).f1) != 2) = true := bne_iff_ne.mpr c48
             replace H := Option.bind_eq_some_iff.mp H
             obtain ⟨t300, A600, H⟩ := H
             replace H : (z25.l2 k3 l0 l1 a2 t300 (wrap64 (x12_2 + 1))) = some r := H
             have A60 := Aside0.mk A600
             clear A600
             have H' := Aside0.mk H
             clear H
             have hcz61_0 : wr.cell? ⟨gb286, 0, none⟩ = some (.string ((rd_T35 l1 x12_2).f0)) := (qC BK286.out 0).trans rfl
             have hcz61_1 : wr.cell? ⟨gb286, 1, none⟩ = some (.int .i64 ((rd_T35 l1 x12_2).f1)) := (qC BK286.out 1).trans rfl
             have hcz61_2 : wr.cell? ⟨gb286, 2, none⟩ = some (.string ((rd_T35 l1 x12_2).f2)) := (qC BK286.out 2).trans rfl
             have hfz61_0 := qF BK286.out 0
             have hfz61_1 := qF BK286.out 1
             have hfz61_2 := qF BK286.out 2
             go_wp2_with (first | ((with_reducible refine qg (f := 22) rfl ?_); refine goesL_ (some 160) rfl rfl Tryz.func22 (by kernel_rfl) rfl #[.slice Ao36 x7_2.length co36, .agg #[.string ((rd_T35 l1 x12_2).f0), .int .i64 ((rd_T35 l1 x12_2).f1), .string ((rd_T35 l1 x12_2).f2)]] rfl (by (try simp only [List.map_toArray, List.map_cons, List.map_nil]); first | done | rfl | (simp only [List.length_drop, List.length_take]; rfl)) ?_; (with_reducible refine (z22.calls k3 _ _ x7_2 ((rd_T35 l1 x12_2).f0) ((rd_T35 l1 x12_2).f1) ((rd_T35 l1 x12_2).f2) t300 _ ?side1 ?side2 A60.out).mono ?_); (case side1 => repeat (first | exact (Kd.R_reads' HO_7.out).2.2 | (with_reducible refine Kd.C_alloc ?_ _) | (with_reducible refine Kd.C_drewN ?_ _) | (with_reducible refine Kd.C_drew ?_))); (case side2 => exact (Kd.R_reads' HO_7.out).2.1); rintro e w62 ⟨v301, rfl, ho0, hb⟩; refine ⟨_, rfl, ?_⟩; have n0_ := Aside0.mk (Kd.R_elder' (by (with_reducible repeat (first | apply Kd.R_alloc | apply Kd.R_drewN | apply Kd.R_drew)); exact HO_7.out) (Kd.R_base ho0) hb); have n1_ := Aside0.mk (Kd.R_lower (Kd.R_newB (Kd.R_new' ho0 (Kd.R_lt (by (with_reducible repeat (first | apply Kd.R_alloc | apply Kd.R_drewN | apply Kd.R_drew)); exact HO_7.out))) (g := gb286) (o := .cells #[.string ((rd_T35 l1 x12_2).f0), .int .i64 ((rd_T35 l1 x12_2).f1), .string ((rd_T35 l1 x12_2).f2)] 35 (0, 0)) (by (with_reducible repeat (first | refine qM ?_ _ | refine qW ?_ | refine qL ?_ _)); exact BK286.out)) (qZ (by repeat (first | (with_reducible first | exact HB.out | apply qA | apply qN | apply qD | refine qS ?_ GE286.out) | exact HB.out)))); have n2_ := Aside0.mk (qb (g := gb286) (o := .cells #[.string ((rd_T35 l1 x12_2).f0), .int .i64 ((rd_T35 l1 x12_2).f1), .string ((rd_T35 l1 x12_2).f2)] 35 (0, 0)) (by (with_reducible repeat (first | refine qM ?_ _ | refine qW ?_ | refine qL ?_ _)); exact BK286.out) hb); have n3_ := Aside0.mk (qT (by repeat (first | (with_reducible first | exact HB.out | apply qA | apply qN | apply qD | refine qS ?_ GE286.out) | exact HB.out)) hb); clear HO_7; clear BK286; clear HB; have HO_7 := n0_; have HO302 := n1_; have BK286 := n2_; have HB := n3_; clear n0_ n1_ n2_ n3_; (try clear hb); (try clear hb2); (try clear hk); (try clear hi); (try clear ho0)))
             go_roundg k3
             case measure => have := HK1.out; have := HK2.out; have := HK3.out; omega
             case rel => exact ⟨(t300), (wrap64 (x12_2 + 1)), (by first | rfl | (simp; done) | (simp [*]; done)), H', ⟨by have := HK1.out; have := HK2.out; have := HK3.out; omega⟩, ⟨by (with_reducible repeat (first | apply Kd.R_alloc | apply Kd.R_drewN | apply Kd.R_drew)); exact Kd.R_mono HO302.out (fun _ hk => trivial)⟩, ⟨by repeat (first | (with_reducible first | exact HB.out | apply qA | apply qN | apply qD | refine qS ?_ GE286.out) | exact HB.out)⟩⟩
       ·rw [if_neg c31] at H
        exact absurd H (by simp)
      ·rw [if_neg c30] at H
       have c30b0 : decide (x12_2 < (l1.length : Int)) = false := decide_eq_false c30
       clear c30
       by_cases c63 : a2 = true
       ·subst c63
        have H1 : (z25.l4 k2 x7_2 ([] : List (S35)) 0) = some r := by rw [if_pos rfl] at H; exact H
        clear H
        have H := H1
        clear H1
        have H' := Aside0.mk H
        clear H
        go_wp2
        go_loopg [17, 18] k2 (fun kq v17 v18 w' => ∃ (x17_3 : List (S35)) (x18_3 : Int), v18 = .int .i64 x18_3 ∧ Aside0 (z25.l4 kq x7_2 x17_3 x18_3 = some r) ∧ Aside0 (kq ≤ k2) ∧ Aside0 (Kd.R k35 35 w' w.heap.size (fun k_ => some k_ ≠ (v17 : Value).ownBlock) u7 x7_2) ∧ Aside0 (Kd.R k35 35 w' w.heap.size (fun k_ => some k_ ≠ (u7 : Value).ownBlock) v17 x17_3) ∧ Aside0 (Below w.heap.size w w'))
        case atStart => exact ⟨(([] : List (S35))), (0), (by first | rfl | (simp; done) | (simp [*]; done)), H', ⟨Nat.le_refl _⟩, ⟨by (with_reducible repeat (first | apply Kd.R_alloc | apply Kd.R_drewN | apply Kd.R_drew)); exact Kd.R_mono HO_7.out (fun _ hk => (by simp [Value.ownBlock]))⟩, ⟨by first | exact Kd.R_nil _ _ _ _ _ | exact Kd.N_nil _ _ _ _ _ | exact Kd.V_nil _ _ _ _ _ | exact Kd.Q_nil _ _ _ _ _ | exact Kd.S_nil _ _ _ _ _⟩, ⟨by repeat (first | (with_reducible first | exact HB.out | apply qA | apply qN | apply qD) | exact HB.out)⟩⟩
        case round =>
         clear H'
         try clear c2
         try clear p2
         try clear q2
         try clear hx2
         try clear c3
         try clear c4
         try clear c5
         try clear c6
         try clear p6
         try clear c20
         try clear c22
         try clear p28
         try clear q28
         try clear hx28
         try clear c30
         try clear c30b0
         try clear c31
         try clear c39
         try clear c39b0
         try clear c40
         try clear c42
         try clear c42b0
         try clear c43
         try clear c43b0
         try clear c44
         try clear c44b0
         try clear c44b1
         try clear c48
         try clear c48b0
         try clear c48b1
         try clear c49
         try clear c49b0
         try clear c50
         try clear c63
         try clear hcz52_0
         try clear hcz52_1
         try clear hcz52_2
         try clear hcz55_0
         try clear hcz55_1
         try clear hcz55_2
         try clear hcz58_0
         try clear hcz58_1
         try clear hcz58_2
         try clear hcz61_0
         try clear hcz61_1
         try clear hcz61_2
         try clear hfz52_0
         try clear hfz52_1
         try clear hfz52_2
         try clear hfz55_0
         try clear hfz55_1
         try clear hfz55_2
         try clear hfz58_0
         try clear hfz58_1
         try clear hfz58_2
         try clear hfz61_0
         try clear hfz61_1
         try clear hfz61_2
         try clear hx288_0
         try clear hx288_1
         try clear hx288_2
         try clear hx289_0
         try clear hx289_1
         try clear hx289_2
         try clear p288
         try clear p289
         try clear q288
         try clear q289
         obtain ⟨x17_3, x18_3, rfl, HA, HK3, HO_7, HO_17, HB⟩ := hrel
         cases gk with
         | zero => exact absurd HA.out (by simp [z25.l4])
         | succ k3 =>
          have H := HA.out
          clear HA
          simp only [z25.l4] at H
          by_cases c64 : x18_3 < (x7_2.length : Int)
          ·rw [if_pos c64] at H
           have c64b0 : decide (x18_3 < (x7_2.length : Int)) = true := decide_eq_true c64
           clear c64
           by_cases c65 : 0 ≤ x18_3
           ·rw [if_pos c65] at H
            have c65b0 : decide (0 ≤ x18_3) = true := decide_eq_true c65
            clear c65
            by_cases c66 : ((rd_T35 x7_2 x18_3).f1) = 4
            ·rw [if_pos c66] at H
             have c66b0 : (((rd_T35 x7_2 x18_3).f1) == 4) = true := beq_iff_eq.mpr c66
             have c66b1 : (((rd_T35 x7_2 x18_3).f1) != 4) = false := bne_eq_false_iff_eq.mpr c66
             clear c66
             by_cases c67 : 2 = 3
             ·exact absurd c67 (by decide)
             ·rw [if_neg c67] at H
              have c67b0 : (2 == 3) = false := beq_eq_false_iff_ne.mpr c67
              have c67b1 : (2 != 3) = true := bne_iff_ne.mpr c67
              by_cases c71 : x17_3.length < 3518437208883
              ·rw [if_pos c71] at H
               have LMc71 := Aside0.mk c71
               clear c71
               obtain ⟨y305, hy305⟩ : ∃ y_ : List (S35), y_ = (x17_3 ++ [(⟨(rd_T35 x7_2 x18_3).f0, 2, (rd_T35 x7_2 x18_3).f2⟩ : S35)]) := ⟨_, rfl⟩
               replace H : (z25.l4 k3 x7_2 y305 (wrap64 (x18_3 + 1))) = some r := by first | (rw [hy305]; with_reducible exact H) | (have H2_ := (Option.bind_some _ _).symm.trans H; rw [hy305]; with_reducible exact H2_) | (have H2_ := (Option.bind_some _ _).symm.trans H; with_reducible exact H2_) | with_reducible exact H | (rw [hy305]; exact H) | exact H
               have Ny305 := Aside0.mk hy305
               clear hy305
               have H' := Aside0.mk H
               clear H
               obtain ⟨Ao72, co72, eo72⟩ := Kd.R_slice HO_7.out
               subst eo72
               have p303 : 0 ≤ (x18_3 : Int) := of_decide_eq_true (by first | (with_reducible assumption) | assumption)
               have q303 : x18_3 < (x7_2.length : Int) := of_decide_eq_true (by first | (with_reducible assumption) | assumption)
               obtain ⟨ad303, e303, hx303_0, hx303_1, hx303_2⟩ := at_T35 (Kd.R_reads' HO_7.out).2.2 x18_3 p303 q303
               cases e303
               replace p303 := eq_true p303
               replace q303 := eq_true q303
               go_wp2_with (first | ((with_reducible refine qd (N := 19) rfl ?_); refine qx ?hg (N := 19) ?hd (cs := #[.string (⟨#[]⟩ : ByteArray), .int .i64 0, .string (⟨#[]⟩ : ByteArray)]) (t := 35) ?hr ?_; (case hd => rfl); (case hg => rfl); (case hr => first | (go_simp; done) | (go_simp; rfl)); intro gb304 hg w73 hbox hb; have n0_ := Aside0.mk (Kd.R_below (Kd.R_elderB (by (with_reducible repeat (first | apply Kd.R_alloc | apply Kd.R_drewN | apply Kd.R_drew)); exact HO_7.out) gb304 (Nat.le_of_eq hg.symm)) hb); have n1_ := Aside0.mk (Kd.R_below (Kd.R_elderB (by (with_reducible repeat (first | apply Kd.R_alloc | apply Kd.R_drewN | apply Kd.R_drew)); exact HO_17.out) gb304 (Nat.le_of_eq hg.symm)) hb); have n2_ := Aside0.mk (qT (by repeat (first | (with_reducible first | exact HB.out | apply qA | apply qN | apply qD) | exact HB.out)) hb); have n3_ := Aside0.mk (hbox); have n4_ := Aside0.mk ((by rw [hg]; exact (qZ (by repeat (first | (with_reducible first | exact HB.out | apply qA | apply qN | apply qD) | exact HB.out))) : w.heap.size ≤ gb304)); have n5_ := Aside0.mk ((by rw [hg]; exact (qZ (by repeat (first | (with_reducible first | exact HB.out | apply qA | apply qN | apply qD) | exact HB.out))) : w.heap.size ≤ gb304)); clear HO_7; clear HO_17; clear HB; have HO_7 := n0_; have HO_17 := n1_; have HB := n2_; have BK304 := n3_; have GW304 := n4_; have GE304 := n5_; clear n0_ n1_ n2_ n3_ n4_ n5_; clear hb hbox hg; have hcz74_0 : w73.cell? ⟨gb304, 0, none⟩ = some (.string (⟨#[]⟩ : ByteArray)) := (qC BK304.out 0).trans rfl; have hcz74_1 : w73.cell? ⟨gb304, 1, none⟩ = some (.int .i64 0) := (qC BK304.out 1).trans rfl; have hcz74_2 : w73.cell? ⟨gb304, 2, none⟩ = some (.string (⟨#[]⟩ : ByteArray)) := (qC BK304.out 2).trans rfl; have hfz74_0 := qF BK304.out 0; have hfz74_1 := qF BK304.out 1; have hfz74_2 := qF BK304.out 2; have hq0_ : (((((w73.setCell ⟨gb304, 0, none⟩ (.string (rd_T35 x7_2 x18_3).f0)).setCell ⟨gb304, 1, none⟩ (.int .i64 (rd_T35 x7_2 x18_3).f1)).setCell ⟨gb304, 2, none⟩ (.string (rd_T35 x7_2 x18_3).f2)).setCell ⟨gb304, 1, none⟩ (.int .i64 2))).cell? ⟨gb304, 0, none⟩ = some (.string (rd_T35 x7_2 x18_3).f0) := (qC (qu (cs := #[.string (rd_T35 x7_2 x18_3).f0, .int .i64 (rd_T35 x7_2 x18_3).f1, .string (rd_T35 x7_2 x18_3).f2]) (qu (cs := #[.string (rd_T35 x7_2 x18_3).f0, .int .i64 (rd_T35 x7_2 x18_3).f1, .string (⟨#[]⟩ : ByteArray)]) (qu (cs := #[.string (rd_T35 x7_2 x18_3).f0, .int .i64 0, .string (⟨#[]⟩ : ByteArray)]) (qu (cs := #[.string (⟨#[]⟩ : ByteArray), .int .i64 0, .string (⟨#[]⟩ : ByteArray)]) BK304.out 0 _ rfl) 1 _ rfl) 2 _ rfl) 1 _ rfl) 0).trans rfl; have hq1_ : (((((w73.setCell ⟨gb304, 0, none⟩ (.string (rd_T35 x7_2 x18_3).f0)).setCell ⟨gb304, 1, none⟩ (.int .i64 (rd_T35 x7_2 x18_3).f1)).setCell ⟨gb304, 2, none⟩ (.string (rd_T35 x7_2 x18_3).f2)).setCell ⟨gb304, 1, none⟩ (.int .i64 2))).cell? ⟨gb304, 1, none⟩ = some (.int .i64 2) := (qC (qu (cs := #[.string (rd_T35 x7_2 x18_3).f0, .int .i64 (rd_T35 x7_2 x18_3).f1, .string (rd_T35 x7_2 x18_3).f2]) (qu (cs := #[.string (rd_T35 x7_2 x18_3).f0, .int .i64 (rd_T35 x7_2 x18_3).f1, .string (⟨#[]⟩ : ByteArray)]) (qu (cs := #[.string (rd_T35 x7_2 x18_3).f0, .int .i64 0, .string (⟨#[]⟩ : ByteArray)]) (qu (cs := #[.string (⟨#[]⟩ : ByteArray), .int .i64 0, .string (⟨#[]⟩ : ByteArray)]) BK304.out 0 _ rfl) 1 _ rfl) 2 _ rfl) 1 _ rfl) 1).trans rfl; have hq2_ : (((((w73.setCell ⟨gb304, 0, none⟩ (.string (rd_T35 x7_2 x18_3).f0)).setCell ⟨gb304, 1, none⟩ (.int .i64 (rd_T35 x7_2 x18_3).f1)).setCell ⟨gb304, 2, none⟩ (.string (rd_T35 x7_2 x18_3).f2)).setCell ⟨gb304, 1, none⟩ (.int .i64 2))).cell? ⟨gb304, 2, none⟩ = some (.string (rd_T35 x7_2 x18_3).f2) := (qC (qu (cs := #[.string (rd_T35 x7_2 x18_3).f0, .int .i64 (rd_T35 x7_2 x18_3).f1, .string (rd_T35 x7_2 x18_3).f2]) (qu (cs := #[.string (rd_T35 x7_2 x18_3).f0, .int .i64 (rd_T35 x7_2 x18_3).f1, .string (⟨#[]⟩ : ByteArray)]) (qu (cs := #[.string (rd_T35 x7_2 x18_3).f0, .int .i64 0, .string (⟨#[]⟩ : ByteArray)]) (qu (cs := #[.string (⟨#[]⟩ : ByteArray), .int .i64 0, .string (⟨#[]⟩ : ByteArray)]) BK304.out 0 _ rfl) 1 _ rfl) 2 _ rfl) 1 _ rfl) 2).trans rfl) | ((with_reducible refine gate_builtin (b := .append) (xs := #[.tmp 181, .tmp 183]) rfl ?_); at_builtin; refine Kd.R_append k35 (w0 := w) w.heap.size rfl (.tmp 181) (.tmp 183) 22 35 (.agg #[(.string ⟨#[]⟩), (.int .i64 0), (.string ⟨#[]⟩)]) 40 rfl Tryz.underlying22 info35 rfl (by decide) (by omega) u17 x17_3 (⟨(rd_T35 x7_2 x18_3).f0, 2, (rd_T35 x7_2 x18_3).f2⟩ : S35) [.string ((rd_T35 x7_2 x18_3).f0), .int .i64 2, .string ((rd_T35 x7_2 x18_3).f2)] (fun k_ => some k_ ≠ (.slice (some ad303) x7_2.length co72 : Value).ownBlock ∧ k_ ≠ gb304) (fun _ => False) rfl (by first | (go_simp; done) | (go_simp; rfl)) ?aP (fun _ hk => hk.elim) ?aF ?aO ?aB ?aS ?aL ?_; (case aP => exact k35_mkM _ _ _ (⟨(rd_T35 x7_2 x18_3).f0, 2, (rd_T35 x7_2 x18_3).f2⟩ : S35)); (case aB => exact (by repeat (first | (with_reducible first | exact HB.out | apply qA | apply qN | apply qD | refine qS ?_ GE304.out) | exact HB.out))); (case aF => exact (fun k_ hk => ⟨Kd.fresh' (Kd.R_lt (by (with_reducible repeat (first | apply Kd.R_alloc | apply Kd.R_drewN | apply Kd.R_drew)); exact (Kd.R_mono (Kd.R_far (p := ⟨gb304, 1, none⟩) (Kd.R_far (p := ⟨gb304, 2, none⟩) (Kd.R_far (p := ⟨gb304, 1, none⟩) (Kd.R_far (p := ⟨gb304, 0, none⟩) (Kd.R_mono HO_7.out (fun k_ hk => (⟨hk, hk.2⟩ : _ ∧ k_ ≠ gb304))) (fun _ hk => hk.2) (.string ((rd_T35 x7_2 x18_3).f0))) (fun _ hk => hk.2) (.int .i64 ((rd_T35 x7_2 x18_3).f1))) (fun _ hk => hk.2) (.string ((rd_T35 x7_2 x18_3).f2))) (fun _ hk => hk.2) (.int .i64 2)) (fun _ h_ => h_.1)))) k_ hk, Kd.freshB (g := gb304) (o := .cells #[.string ((rd_T35 x7_2 x18_3).f0), .int .i64 2, .string ((rd_T35 x7_2 x18_3).f2)] 35 (0, 0)) (by (with_reducible repeat (first | refine qM ?_ _ | refine qW ?_ | refine qL ?_ _)); refine qu (cs := #[.string ((rd_T35 x7_2 x18_3).f0), .int .i64 ((rd_T35 x7_2 x18_3).f1), .string ((rd_T35 x7_2 x18_3).f2)]) ?_ 1 _ rfl; (with_reducible repeat (first | refine qM ?_ _ | refine qW ?_ | refine qL ?_ _)); refine qu (cs := #[.string ((rd_T35 x7_2 x18_3).f0), .int .i64 ((rd_T35 x7_2 x18_3).f1), .string (⟨#[]⟩ : ByteArray)]) ?_ 2 _ rfl; (with_reducible repeat (first | refine qM ?_ _ | refine qW ?_ | refine qL ?_ _)); refine qu (cs := #[.string ((rd_T35 x7_2 x18_3).f0), .int .i64 0, .string (⟨#[]⟩ : ByteArray)]) ?_ 1 _ rfl; (with_reducible repeat (first | refine qM ?_ _ | refine qW ?_ | refine qL ?_ _)); refine qu (cs := #[.string (⟨#[]⟩ : ByteArray), .int .i64 0, .string (⟨#[]⟩ : ByteArray)]) ?_ 0 _ rfl; (with_reducible repeat (first | refine qM ?_ _ | refine qW ?_ | refine qL ?_ _)); exact BK304.out) k_ hk⟩)); (case aO => exact (by (with_reducible repeat (first | apply Kd.R_alloc | apply Kd.R_drewN | apply Kd.R_drew)); exact Kd.R_mono (Kd.R_far (p := ⟨gb304, 1, none⟩) (Kd.R_far (p := ⟨gb304, 2, none⟩) (Kd.R_far (p := ⟨gb304, 1, none⟩) (Kd.R_far (p := ⟨gb304, 0, none⟩) (Kd.R_mono HO_17.out (fun k_ hk => (⟨hk, hk.2⟩ : _ ∧ k_ ≠ gb304))) (fun _ hk => hk.2) (.string ((rd_T35 x7_2 x18_3).f0))) (fun _ hk => hk.2) (.int .i64 ((rd_T35 x7_2 x18_3).f1))) (fun _ hk => hk.2) (.string ((rd_T35 x7_2 x18_3).f2))) (fun _ hk => hk.2) (.int .i64 2)) (fun _ hk => ⟨hk.1.1, hk.1.2⟩))); (case aS => exact (qZ (by repeat (first | (with_reducible first | exact HB.out | apply qA | apply qN | apply qD | refine qS ?_ GE304.out) | exact HB.out)))); (case aL => have := LMc71.out; omega); intro v306 w75 ho hb hg hat; rw [← Ny305.out] at ho; have n0_ := Aside0.mk (Kd.R_after (ok := (fun k_ => k_ ≠ gb304)) (by (with_reducible repeat (first | apply Kd.R_alloc | apply Kd.R_drewN | apply Kd.R_drew)); exact Kd.R_mono (Kd.R_far (p := ⟨gb304, 1, none⟩) (Kd.R_far (p := ⟨gb304, 2, none⟩) (Kd.R_far (p := ⟨gb304, 1, none⟩) (Kd.R_far (p := ⟨gb304, 0, none⟩) (Kd.R_mono HO_7.out (fun k_ hk => (⟨hk, hk.2⟩ : _ ∧ k_ ≠ gb304))) (fun _ hk => hk.2) (.string ((rd_T35 x7_2 x18_3).f0))) (fun _ hk => hk.2) (.int .i64 ((rd_T35 x7_2 x18_3).f1))) (fun _ hk => hk.2) (.string ((rd_T35 x7_2 x18_3).f2))) (fun _ hk => hk.2) (.int .i64 2)) (fun _ hk => ⟨hk.1.2, hk.1.1⟩)) hg hat); have n1_ := Aside0.mk (blk_grown (g := gb304) (o := .cells #[.string ((rd_T35 x7_2 x18_3).f0), .int .i64 2, .string ((rd_T35 x7_2 x18_3).f2)] 35 (0, 0)) (by (with_reducible repeat (first | refine qM ?_ _ | refine qW ?_ | refine qL ?_ _)); refine qu (cs := #[.string ((rd_T35 x7_2 x18_3).f0), .int .i64 ((rd_T35 x7_2 x18_3).f1), .string ((rd_T35 x7_2 x18_3).f2)]) ?_ 1 _ rfl; (with_reducible repeat (first | refine qM ?_ _ | refine qW ?_ | refine qL ?_ _)); refine qu (cs := #[.string ((rd_T35 x7_2 x18_3).f0), .int .i64 ((rd_T35 x7_2 x18_3).f1), .string (⟨#[]⟩ : ByteArray)]) ?_ 2 _ rfl; (with_reducible repeat (first | refine qM ?_ _ | refine qW ?_ | refine qL ?_ _)); refine qu (cs := #[.string ((rd_T35 x7_2 x18_3).f0), .int .i64 0, .string (⟨#[]⟩ : ByteArray)]) ?_ 1 _ rfl; (with_reducible repeat (first | refine qM ?_ _ | refine qW ?_ | refine qL ?_ _)); refine qu (cs := #[.string (⟨#[]⟩ : ByteArray), .int .i64 0, .string (⟨#[]⟩ : ByteArray)]) ?_ 0 _ rfl; (with_reducible repeat (first | refine qM ?_ _ | refine qW ?_ | refine qL ?_ _)); exact BK304.out) hg (Kd.R_away HO_17.out (fun _ hk => hk.2))); have n2_ := Aside0.mk (hb); have n3_ := Aside0.mk (ho); clear HO_7; clear BK304; clear HB; clear HO_17; have HO_7 := n0_; have BK304 := n1_; have HB := n2_; have HO307 := n3_; clear n0_ n1_ n2_ n3_; clear ho hb hg hat))
               go_roundg k3
               case measure => have := HK1.out; have := HK2.out; have := HK3.out; omega
               case rel => exact ⟨(y305), (wrap64 (x18_3 + 1)), (by first | rfl | (simp; done) | (simp [*]; done)), H', ⟨by have := HK1.out; have := HK2.out; have := HK3.out; omega⟩, ⟨by (with_reducible repeat (first | apply Kd.R_alloc | apply Kd.R_drewN | apply Kd.R_drew)); exact Kd.R_mono HO_7.out (fun _ hk => hk.2)⟩, ⟨by (with_reducible repeat (first | apply Kd.R_alloc | apply Kd.R_drewN | apply Kd.R_drew)); exact Kd.R_mono HO307.out (fun _ hk => hk.1)⟩, ⟨by repeat (first | (with_reducible first | exact HB.out | apply qA | apply qN | apply qD | refine qS ?_ GE304.out) | exact HB.out)⟩⟩
              ·rw [if_neg c71] at H
               exact absurd H (by simp)
            ·rw [if_neg c66] at H
             have c66b0 : (((rd_T35 x7_2 x18_3).f1) == 4) = false := beq_eq_false_iff_ne.mpr c66
             have c66b1 : (((rd_T35 x7_2 x18_3).f1) != 4) = true := bne_iff_ne.mpr c66
             by_cases c76 : ((rd_T35 x7_2 x18_3).f1) = 3
             ·rw [if_pos c76] at H
              have c76b0 : (((rd_T35 x7_2 x18_3).f1) == 3) = true := beq_iff_eq.mpr c76
              have c76b1 : (((rd_T35 x7_2 x18_3).f1) != 3) = false := bne_eq_false_iff_eq.mpr c76
              clear c76
              have H' := Aside0.mk H
              clear H
              obtain ⟨Ao77, co77, eo77⟩ := Kd.R_slice HO_7.out
              subst eo77
              have p303 : 0 ≤ (x18_3 : Int) := of_decide_eq_true (by first | (with_reducible assumption) | assumption)
              have q303 : x18_3 < (x7_2.length : Int) := of_decide_eq_true (by first | (with_reducible assumption) | assumption)
              obtain ⟨ad303, e303, hx303_0, hx303_1, hx303_2⟩ := at_T35 (Kd.R_reads' HO_7.out).2.2 x18_3 p303 q303
              cases e303
              replace p303 := eq_true p303
              replace q303 := eq_true q303
              go_wp2_with (first | ((with_reducible refine qd (N := 19) rfl ?_); refine qx ?hg (N := 19) ?hd (cs := #[.string (⟨#[]⟩ : ByteArray), .int .i64 0, .string (⟨#[]⟩ : ByteArray)]) (t := 35) ?hr ?_; (case hd => rfl); (case hg => rfl); (case hr => first | (go_simp; done) | (go_simp; rfl)); intro gb304 hg w78 hbox hb; have n0_ := Aside0.mk (Kd.R_below (Kd.R_elderB (by (with_reducible repeat (first | apply Kd.R_alloc | apply Kd.R_drewN | apply Kd.R_drew)); exact HO_7.out) gb304 (Nat.le_of_eq hg.symm)) hb); have n1_ := Aside0.mk (Kd.R_below (Kd.R_elderB (by (with_reducible repeat (first | apply Kd.R_alloc | apply Kd.R_drewN | apply Kd.R_drew)); exact HO_17.out) gb304 (Nat.le_of_eq hg.symm)) hb); have n2_ := Aside0.mk (qT (by repeat (first | (with_reducible first | exact HB.out | apply qA | apply qN | apply qD) | exact HB.out)) hb); have n3_ := Aside0.mk (hbox); have n4_ := Aside0.mk ((by rw [hg]; exact (qZ (by repeat (first | (with_reducible first | exact HB.out | apply qA | apply qN | apply qD) | exact HB.out))) : w.heap.size ≤ gb304)); have n5_ := Aside0.mk ((by rw [hg]; exact (qZ (by repeat (first | (with_reducible first | exact HB.out | apply qA | apply qN | apply qD) | exact HB.out))) : w.heap.size ≤ gb304)); clear HO_7; clear HO_17; clear HB; have HO_7 := n0_; have HO_17 := n1_; have HB := n2_; have BK304 := n3_; have GW304 := n4_; have GE304 := n5_; clear n0_ n1_ n2_ n3_ n4_ n5_; clear hb hbox hg; have hcz79_0 : w78.cell? ⟨gb304, 0, none⟩ = some (.string (⟨#[]⟩ : ByteArray)) := (qC BK304.out 0).trans rfl; have hcz79_1 : w78.cell? ⟨gb304, 1, none⟩ = some (.int .i64 0) := (qC BK304.out 1).trans rfl; have hcz79_2 : w78.cell? ⟨gb304, 2, none⟩ = some (.string (⟨#[]⟩ : ByteArray)) := (qC BK304.out 2).trans rfl; have hfz79_0 := qF BK304.out 0; have hfz79_1 := qF BK304.out 1; have hfz79_2 := qF BK304.out 2; have hq0_ : (((((w78.setCell ⟨gb304, 0, none⟩ (.string (rd_T35 x7_2 x18_3).f0)).setCell ⟨gb304, 1, none⟩ (.int .i64 (rd_T35 x7_2 x18_3).f1)).setCell ⟨gb304, 2, none⟩ (.string (rd_T35 x7_2 x18_3).f2)).setCell ⟨gb304, 1, none⟩ (.int .i64 2))).cell? ⟨gb304, 0, none⟩ = some (.string (rd_T35 x7_2 x18_3).f0) := (qC (qu (cs := #[.string (rd_T35 x7_2 x18_3).f0, .int .i64 (rd_T35 x7_2 x18_3).f1, .string (rd_T35 x7_2 x18_3).f2]) (qu (cs := #[.string (rd_T35 x7_2 x18_3).f0, .int .i64 (rd_T35 x7_2 x18_3).f1, .string (⟨#[]⟩ : ByteArray)]) (qu (cs := #[.string (rd_T35 x7_2 x18_3).f0, .int .i64 0, .string (⟨#[]⟩ : ByteArray)]) (qu (cs := #[.string (⟨#[]⟩ : ByteArray), .int .i64 0, .string (⟨#[]⟩ : ByteArray)]) BK304.out 0 _ rfl) 1 _ rfl) 2 _ rfl) 1 _ rfl) 0).trans rfl; have hq1_ : (((((w78.setCell ⟨gb304, 0, none⟩ (.string (rd_T35 x7_2 x18_3).f0)).setCell ⟨gb304, 1, none⟩ (.int .i64 (rd_T35 x7_2 x18_3).f1)).setCell ⟨gb304, 2, none⟩ (.string (rd_T35 x7_2 x18_3).f2)).setCell ⟨gb304, 1, none⟩ (.int .i64 2))).cell? ⟨gb304, 1, none⟩ = some (.int .i64 2) := (qC (qu (cs := #[.string (rd_T35 x7_2 x18_3).f0, .int .i64 (rd_T35 x7_2 x18_3).f1, .string (rd_T35 x7_2 x18_3).f2]) (qu (cs := #[.string (rd_T35 x7_2 x18_3).f0, .int .i64 (rd_T35 x7_2 x18_3).f1, .string (⟨#[]⟩ : ByteArray)]) (qu (cs := #[.string (rd_T35 x7_2 x18_3).f0, .int .i64 0, .string (⟨#[]⟩ : ByteArray)]) (qu (cs := #[.string (⟨#[]⟩ : ByteArray), .int .i64 0, .string (⟨#[]⟩ : ByteArray)]) BK304.out 0 _ rfl) 1 _ rfl) 2 _ rfl) 1 _ rfl) 1).trans rfl; have hq2_ : (((((w78.setCell ⟨gb304, 0, none⟩ (.string (rd_T35 x7_2 x18_3).f0)).setCell ⟨gb304, 1, none⟩ (.int .i64 (rd_T35 x7_2 x18_3).f1)).setCell ⟨gb304, 2, none⟩ (.string (rd_T35 x7_2 x18_3).f2)).setCell ⟨gb304, 1, none⟩ (.int .i64 2))).cell? ⟨gb304, 2, none⟩ = some (.string (rd_T35 x7_2 x18_3).f2) := (qC (qu (cs := #[.string (rd_T35 x7_2 x18_3).f0, .int .i64 (rd_T35 x7_2 x18_3).f1, .string (rd_T35 x7_2 x18_3).f2]) (qu (cs := #[.string (rd_T35 x7_2 x18_3).f0, .int .i64 (rd_T35 x7_2 x18_3).f1, .string (⟨#[]⟩ : ByteArray)]) (qu (cs := #[.string (rd_T35 x7_2 x18_3).f0, .int .i64 0, .string (⟨#[]⟩ : ByteArray)]) (qu (cs := #[.string (⟨#[]⟩ : ByteArray), .int .i64 0, .string (⟨#[]⟩ : ByteArray)]) BK304.out 0 _ rfl) 1 _ rfl) 2 _ rfl) 1 _ rfl) 2).trans rfl))
              go_roundg k3
              case measure => have := HK1.out; have := HK2.out; have := HK3.out; omega
              case rel => exact ⟨(x17_3), (wrap64 (x18_3 + 1)), (by first | rfl | (simp; done) | (simp [*]; done)), H', ⟨by have := HK1.out; have := HK2.out; have := HK3.out; omega⟩, ⟨by (with_reducible repeat (first | apply Kd.R_alloc | apply Kd.R_drewN | apply Kd.R_drew)); exact Kd.R_mono (Kd.R_far (p := ⟨gb304, 2, none⟩) (Kd.R_far (p := ⟨gb304, 1, none⟩) (Kd.R_far (p := ⟨gb304, 0, none⟩) (Kd.R_mono HO_7.out (fun k_ hk => (⟨hk, hk.2⟩ : _ ∧ k_ ≠ gb304))) (fun _ hk => hk.2) (.string ((rd_T35 x7_2 x18_3).f0))) (fun _ hk => hk.2) (.int .i64 ((rd_T35 x7_2 x18_3).f1))) (fun _ hk => hk.2) (.string ((rd_T35 x7_2 x18_3).f2))) (fun _ hk => hk.1.1)⟩, ⟨by (with_reducible repeat (first | apply Kd.R_alloc | apply Kd.R_drewN | apply Kd.R_drew)); exact Kd.R_mono (Kd.R_far (p := ⟨gb304, 2, none⟩) (Kd.R_far (p := ⟨gb304, 1, none⟩) (Kd.R_far (p := ⟨gb304, 0, none⟩) (Kd.R_mono HO_17.out (fun k_ hk => (⟨hk, hk.2⟩ : _ ∧ k_ ≠ gb304))) (fun _ hk => hk.2) (.string ((rd_T35 x7_2 x18_3).f0))) (fun _ hk => hk.2) (.int .i64 ((rd_T35 x7_2 x18_3).f1))) (fun _ hk => hk.2) (.string ((rd_T35 x7_2 x18_3).f2))) (fun _ hk => hk.1.1)⟩, ⟨by repeat (first | (with_reducible first | exact HB.out | apply qA | apply qN | apply qD | refine qS ?_ GE304.out) | exact HB.out)⟩⟩
             ·rw [if_neg c76] at H
              have c76b0 : (((rd_T35 x7_2 x18_3).f1) == 3) = false := beq_eq_false_iff_ne.mpr c76
              have c76b1 : (((rd_T35 x7_2 x18_3).f1) != 3) = true := bne_iff_ne.mpr c76
              by_cases c80 : x17_3.length < 3518437208883
              ·rw [if_pos c80] at H
               have LMc80 := Aside0.mk c80
               clear c80
               obtain ⟨y308, hy308⟩ : ∃ y_ : List (S35), y_ = (x17_3 ++ [(⟨(rd_T35 x7_2 x18_3).f0, (rd_T35 x7_2 x18_3).f1, (rd_T35 x7_2 x18_3).f2⟩ : S35)]) := ⟨_, rfl⟩
               replace H : (z25.l4 k3 x7_2 y308 (wrap64 (x18_3 + 1))) = some r := by first | (rw [hy308]; with_reducible exact H) | (have H2_ := (Option.bind_some _ _).symm.trans H; rw [hy308]; with_reducible exact H2_) | (have H2_ := (Option.bind_some _ _).symm.trans H; with_reducible exact H2_) | with_reducible exact H | (rw [hy308]; exact H) | exact H
               have Ny308 := Aside0.mk hy308
               clear hy308
               have H' := Aside0.mk H
               clear H
               obtain ⟨Ao81, co81, eo81⟩ := Kd.R_slice HO_7.out
               subst eo81
               have p303 : 0 ≤ (x18_3 : Int) := of_decide_eq_true (by first | (with_reducible assumption) | assumption)
               have q303 : x18_3 < (x7_2.length : Int) := of_decide_eq_true (by first | (with_reducible assumption) | assumption)
               obtain ⟨ad303, e303, hx303_0, hx303_1, hx303_2⟩ := at_T35 (Kd.R_reads' HO_7.out).2.2 x18_3 p303 q303
               cases e303
               replace p303 := eq_true p303
               replace q303 := eq_true q303
               go_wp2_with (first | ((with_reducible refine qd (N := 19) rfl ?_); refine qx ?hg (N := 19) ?hd (cs := #[.string (⟨#[]⟩ : ByteArray), .int .i64 0, .string (⟨#[]⟩ : ByteArray)]) (t := 35) ?hr ?_; (case hd => rfl); (case hg => rfl); (case hr => first | (go_simp; done) | (go_simp; rfl)); intro gb304 hg w82 hbox hb; have n0_ := Aside0.mk (Kd.R_below (Kd.R_elderB (by (with_reducible repeat (first | apply Kd.R_alloc | apply Kd.R_drewN | apply Kd.R_drew)); exact HO_7.out) gb304 (Nat.le_of_eq hg.symm)) hb); have n1_ := Aside0.mk (Kd.R_below (Kd.R_elderB (by (with_reducible repeat (first | apply Kd.R_alloc | apply Kd.R_drewN | apply Kd.R_drew)); exact HO_17.out) gb304 (Nat.le_of_eq hg.symm)) hb); have n2_ := Aside0.mk (qT (by repeat (first | (with_reducible first | exact HB.out | apply qA | apply qN | apply qD) | exact HB.out)) hb); have n3_ := Aside0.mk (hbox); have n4_ := Aside0.mk ((by rw [hg]; exact (qZ (by repeat (first | (with_reducible first | exact HB.out | apply qA | apply qN | apply qD) | exact HB.out))) : w.heap.size ≤ gb304)); have n5_ := Aside0.mk ((by rw [hg]; exact (qZ (by repeat (first | (with_reducible first | exact HB.out | apply qA | apply qN | apply qD) | exact HB.out))) : w.heap.size ≤ gb304)); clear HO_7; clear HO_17; clear HB; have HO_7 := n0_; have HO_17 := n1_; have HB := n2_; have BK304 := n3_; have GW304 := n4_; have GE304 := n5_; clear n0_ n1_ n2_ n3_ n4_ n5_; clear hb hbox hg; have hcz83_0 : w82.cell? ⟨gb304, 0, none⟩ = some (.string (⟨#[]⟩ : ByteArray)) := (qC BK304.out 0).trans rfl; have hcz83_1 : w82.cell? ⟨gb304, 1, none⟩ = some (.int .i64 0) := (qC BK304.out 1).trans rfl; have hcz83_2 : w82.cell? ⟨gb304, 2, none⟩ = some (.string (⟨#[]⟩ : ByteArray)) := (qC BK304.out 2).trans rfl; have hfz83_0 := qF BK304.out 0; have hfz83_1 := qF BK304.out 1; have hfz83_2 := qF BK304.out 2) | ((with_reducible refine gate_builtin (b := .append) (xs := #[.tmp 181, .tmp 183]) rfl ?_); at_builtin; refine Kd.R_append k35 (w0 := w) w.heap.size rfl (.tmp 181) (.tmp 183) 22 35 (.agg #[(.string ⟨#[]⟩), (.int .i64 0), (.string ⟨#[]⟩)]) 40 rfl Tryz.underlying22 info35 rfl (by decide) (by omega) u17 x17_3 (⟨(rd_T35 x7_2 x18_3).f0, (rd_T35 x7_2 x18_3).f1, (rd_T35 x7_2 x18_3).f2⟩ : S35) [.string ((rd_T35 x7_2 x18_3).f0), .int .i64 ((rd_T35 x7_2 x18_3).f1), .string ((rd_T35 x7_2 x18_3).f2)] (fun k_ => some k_ ≠ (.slice (some ad303) x7_2.length co81 : Value).ownBlock ∧ k_ ≠ gb304) (fun _ => False) rfl (by first | (go_simp; done) | (go_simp; rfl)) ?aP (fun _ hk => hk.elim) ?aF ?aO ?aB ?aS ?aL ?_; (case aP => exact k35_mkM _ _ _ (⟨(rd_T35 x7_2 x18_3).f0, (rd_T35 x7_2 x18_3).f1, (rd_T35 x7_2 x18_3).f2⟩ : S35)); (case aB => exact (by repeat (first | (with_reducible first | exact HB.out | apply qA | apply qN | apply qD | refine qS ?_ GE304.out) | exact HB.out))); (case aF => exact (fun k_ hk => ⟨Kd.fresh' (Kd.R_lt (by (with_reducible repeat (first | apply Kd.R_alloc | apply Kd.R_drewN | apply Kd.R_drew)); exact (Kd.R_mono (Kd.R_far (p := ⟨gb304, 2, none⟩) (Kd.R_far (p := ⟨gb304, 1, none⟩) (Kd.R_far (p := ⟨gb304, 0, none⟩) (Kd.R_mono HO_7.out (fun k_ hk => (⟨hk, hk.2⟩ : _ ∧ k_ ≠ gb304))) (fun _ hk => hk.2) (.string ((rd_T35 x7_2 x18_3).f0))) (fun _ hk => hk.2) (.int .i64 ((rd_T35 x7_2 x18_3).f1))) (fun _ hk => hk.2) (.string ((rd_T35 x7_2 x18_3).f2))) (fun _ h_ => h_.1)))) k_ hk, Kd.freshB (g := gb304) (o := .cells #[.string ((rd_T35 x7_2 x18_3).f0), .int .i64 ((rd_T35 x7_2 x18_3).f1), .string ((rd_T35 x7_2 x18_3).f2)] 35 (0, 0)) (by (with_reducible repeat (first | refine qM ?_ _ | refine qW ?_ | refine qL ?_ _)); refine qu (cs := #[.string ((rd_T35 x7_2 x18_3).f0), .int .i64 ((rd_T35 x7_2 x18_3).f1), .string (⟨#[]⟩ : ByteArray)]) ?_ 2 _ rfl; (with_reducible repeat (first | refine qM ?_ _ | refine qW ?_ | refine qL ?_ _)); refine qu (cs := #[.string ((rd_T35 x7_2 x18_3).f0), .int .i64 0, .string (⟨#[]⟩ : ByteArray)]) ?_ 1 _ rfl; (with_reducible repeat (first | refine qM ?_ _ | refine qW ?_ | refine qL ?_ _)); refine qu (cs := #[.string (⟨#[]⟩ : ByteArray), .int .i64 0, .string (⟨#[]⟩ : ByteArray)]) ?_ 0 _ rfl; (with_reducible repeat (first | refine qM ?_ _ | refine qW ?_ | refine qL ?_ _)); exact BK304.out) k_ hk⟩)); (case aO => exact (by (with_reducible repeat (first | apply Kd.R_alloc | apply Kd.R_drewN | apply Kd.R_drew)); exact Kd.R_mono (Kd.R_far (p := ⟨gb304, 2, none⟩) (Kd.R_far (p := ⟨gb304, 1, none⟩) (Kd.R_far (p := ⟨gb304, 0, none⟩) (Kd.R_mono HO_17.out (fun k_ hk => (⟨hk, hk.2⟩ : _ ∧ k_ ≠ gb304))) (fun _ hk => hk.2) (.string ((rd_T35 x7_2 x18_3).f0))) (fun _ hk => hk.2) (.int .i64 ((rd_T35 x7_2 x18_3).f1))) (fun _ hk => hk.2) (.string ((rd_T35 x7_2 x18_3).f2))) (fun _ hk => ⟨hk.1.1, hk.1.2⟩))); (case aS => exact (qZ (by repeat (first | (with_reducible first | exact HB.out | apply qA | apply qN | apply qD | refine qS ?_ GE304.out) | exact HB.out)))); (case aL => have := LMc80.out; omega); intro v309 w84 ho hb hg hat; rw [← Ny308.out] at ho; have n0_ := Aside0.mk (Kd.R_after (ok := (fun k_ => k_ ≠ gb304)) (by (with_reducible repeat (first | apply Kd.R_alloc | apply Kd.R_drewN | apply Kd.R_drew)); exact Kd.R_mono (Kd.R_far (p := ⟨gb304, 2, none⟩) (Kd.R_far (p := ⟨gb304, 1, none⟩) (Kd.R_far (p := ⟨gb304, 0, none⟩) (Kd.R_mono HO_7.out (fun k_ hk => (⟨hk, hk.2⟩ : _ ∧ k_ ≠ gb304))) (fun _ hk => hk.2) (.string ((rd_T35 x7_2 x18_3).f0))) (fun _ hk => hk.2) (.int .i64 ((rd_T35 x7_2 x18_3).f1))) (fun _ hk => hk.2) (.string ((rd_T35 x7_2 x18_3).f2))) (fun _ hk => ⟨hk.1.2, hk.1.1⟩)) hg hat); have n1_ := Aside0.mk (blk_grown (g := gb304) (o := .cells #[.string ((rd_T35 x7_2 x18_3).f0), .int .i64 ((rd_T35 x7_2 x18_3).f1), .string ((rd_T35 x7_2 x18_3).f2)] 35 (0, 0)) (by (with_reducible repeat (first | refine qM ?_ _ | refine qW ?_ | refine qL ?_ _)); refine qu (cs := #[.string ((rd_T35 x7_2 x18_3).f0), .int .i64 ((rd_T35 x7_2 x18_3).f1), .string (⟨#[]⟩ : ByteArray)]) ?_ 2 _ rfl; (with_reducible repeat (first | refine qM ?_ _ | refine qW ?_ | refine qL ?_ _)); refine qu (cs := #[.string ((rd_T35 x7_2 x18_3).f0), .int .i64 0, .string (⟨#[]⟩ : ByteArray)]) ?_ 1 _ rfl; (with_reducible repeat (first | refine qM ?_ _ | refine qW ?_ | refine qL ?_ _)); refine qu (cs := #[.string (⟨#[]⟩ : ByteArray), .int .i64 0, .string (⟨#[]⟩ : ByteArray)]) ?_ 0 _ rfl; (with_reducible repeat (first | refine qM ?_ _ | refine qW ?_ | refine qL ?_ _)); exact BK304.out) hg (Kd.R_away HO_17.out (fun _ hk => hk.2))); have n2_ := Aside0.mk (hb); have n3_ := Aside0.mk (ho); clear HO_7; clear BK304; clear HB; clear HO_17; have HO_7 := n0_; have BK304 := n1_; have HB := n2_; have HO310 := n3_; clear n0_ n1_ n2_ n3_; clear ho hb hg hat))
               go_roundg k3
               case measure => have := HK1.out; have := HK2.out; have := HK3.out; omega
               case rel => exact ⟨(y308), (wrap64 (x18_3 + 1)), (by first | rfl | (simp; done) | (simp [*]; done)), H', ⟨by have := HK1.out; have := HK2.out; have := HK3.out; omega⟩, ⟨by (with_reducible repeat (first | apply Kd.R_alloc | apply Kd.R_drewN | apply Kd.R_drew)); exact Kd.R_mono HO_7.out (fun _ hk => hk.2)⟩, ⟨by (with_reducible repeat (first | apply Kd.R_alloc | apply Kd.R_drewN | apply Kd.R_drew)); exact Kd.R_mono HO310.out (fun _ hk => hk.1)⟩, ⟨by repeat (first | (with_reducible first | exact HB.out | apply qA | apply qN | apply qD | refine qS ?_ GE304.out) | exact HB.out)⟩⟩
              ·rw [if_neg c80] at H
               exact absurd H (by simp)
           ·rw [if_neg c65] at H
            exact absurd H (by simp)
          ·rw [if_neg c64] at H
           have c64b0 : decide (x18_3 < (x7_2.length : Int)) = false := decide_eq_false c64
           clear c64
           obtain rfl := Option.some.inj H
           obtain ⟨Ao85, co85, eo85⟩ := Kd.R_slice HO_7.out
           subst eo85
           go_wp2
           go_ret
           exact ⟨_, by first | rfl | (simp [qn, qe] <;> rfl) | (simp [*, qn, qe] <;> rfl), by (with_reducible repeat (first | apply Kd.R_alloc | apply Kd.R_drewN | apply Kd.R_drew)); exact Kd.R_mono HO_17.out (fun _ hk => trivial), by repeat (first | (with_reducible first | exact HB.out | apply qA | apply qN | apply qD) | exact HB.out)⟩
       ·replace c63 := Bool.eq_false_iff.mpr c63
        subst c63
        have H1 : (some x7_2) = some r := by rw [if_neg (show ¬ (false = true) by decide)] at H; exact H
        clear H
        have H := H1
        clear H1
        obtain rfl := Option.some.inj H
        go_wp2
        go_ret
        exact ⟨_, by first | rfl | (simp [qn, qe] <;> rfl) | (simp [*, qn, qe] <;> rfl), by (with_reducible repeat (first | apply Kd.R_alloc | apply Kd.R_drewN | apply Kd.R_drew)); exact HO_7.out, by repeat (first | (with_reducible first | exact HB.out | apply qA | apply qN | apply qD) | exact HB.out)⟩

end Go.Proofs.YtljndnmmnkpmnaaGreatDoor.Print
