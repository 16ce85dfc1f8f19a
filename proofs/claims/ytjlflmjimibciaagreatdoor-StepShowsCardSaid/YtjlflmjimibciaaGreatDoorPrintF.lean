import Derived.Test.YtjlflmjimibciaaGreatDoorPrint0
import Derived.Test.YtjlflmjimibciaaGreatDoorPrint1
namespace Go.Proofs.YtjlflmjimibciaaGreatDoor.Print
open Go.RowKit Go.Proofs.YtjlflmjimibciaaGreatDoorW.PrintWords Go.Proofs.YtjlflmjimibciaaGreatDoorW.PrintLast Go.Proofs.YtjlflmjimibciaaGreatDoorW.PrintMore
attribute [local go_sem] max2_int min2_int max_two min_two max_three min_three max_four min_four   -- for this text's walks alone
set_option linter.unusedVariables false
set_option linter.unusedSimpArgs false
def fail_Code.f (l0 : List Int) : Option (Int) := some (l0.headD 0)
set_option maxHeartbeats 8000000 in
theorem fail_Code.calls (A0 : Option Addr) (c0 : Nat) (l0 : List Int) (r : Int) (w : World) (hr0 : kdF.C w A0 l0.length l0) (hc0 : l0.length ≤ c0) (hG : Gl w) (h : fail_Code.f l0 = some r) :
  Calls Tryz.prog 15 #[errV (.slice A0 l0.length c0)] w fun e w' => e = .returned (.int .i64 r) ∧ Below w.heap.size w w' := by
 obtain rfl := Option.some.inj h
 cases l0 with
 | nil =>
  have hv : errV (.slice A0 ([] : List Int).length c0) = .nilIface := by cases A0 <;> rfl
  rw [hv]
  exact Code_nil w
 | cons c l =>
  obtain ⟨ad, rfl, hc⟩ := hr0.2.2 (by simp)
  obtain ⟨cs, _, hK, hcs⟩ := hc 0 c rfl
  obtain ⟨op, p, rfl⟩ := hK
  obtain ⟨g, o, s⟩ := ad
  have h0 : w.cell? ⟨g, o, s⟩ = some (.string op) := hcs 0 (.string op) rfl
  have h1 : w.cell? ⟨g, o + 1, none⟩ = some (.string p) := hcs 1 (.string p) rfl
  have h2 : w.cell? ⟨g, o + 2, none⟩ = some (.iface 57 (.int .i64 c)) := hcs 2 (.iface 57 (.int .i64 c)) rfl
  obtain rfl : s = none := by
   cases s with
   | none => rfl
   | some s =>
    exfalso
    unfold World.cell? at h0
    split at h0 <;> simp at h0
  have hv : errV (.slice (some ⟨g, o, none⟩) (c :: l).length c0) = .iface 74 (.pointer (some ⟨g, o, none⟩)) := rfl
  rw [hv]
  exact Code_fault c op p g o w hG h0 h1 h2
def shalelaw09_Size.l0 : Nat → List (S41) → Int → Option (Int)
 | 0, _, _ => none
 | k + 1, x0, x3 => if x3 < (x0.length : Int) then (if 0 ≤ x3 then (if (((rd_T41 x0 x3).f0).size : Int) > 100 then (some 0) else (if (((rd_T41 x0 x3).f2).size : Int) > 600 then (some 0) else (shalelaw09_Size.l0 k x0 (wrap64 (x3 + 1))))) else (none)) else (some 1)
def shalelaw09_Size.f (k : Nat) (l0 : List (S41)) : Option (Int) := if (l0.length : Int) > 70 then (some 0) else (shalelaw09_Size.l0 k l0 0)
theorem shalelaw09_Size.mono_l : ∀ k, (∀ y0 y1, LeO (shalelaw09_Size.l0 k y0 y1) (shalelaw09_Size.l0 (k + 1) y0 y1))
 | 0 => fun _ _ r h => by simp [shalelaw09_Size.l0] at h
 | k + 1 => by
  have ih0 := shalelaw09_Size.mono_l k
  ·intro y0 y1
   unfold shalelaw09_Size.l0
   repeat' first
   | (with_reducible exact ih0 _ _)
   | (with_reducible exact LeO.refl _)
   | (with_reducible exact LeO.none _)
   | (with_reducible refine LeO.ite ?_ ?_)
   | (with_reducible refine LeO.bind ?_ (fun _ => ?_))
   | exact ih0 _ _
   | exact LeO.none _
   | refine LeO.ite ?_ ?_
   | refine LeO.bind ?_ (fun _ => ?_)
theorem shalelaw09_Size.mono : ∀ a0 k, LeO (shalelaw09_Size.f k a0) (shalelaw09_Size.f (k + 1) a0) := by
 intro a0 k
 have ih0 := shalelaw09_Size.mono_l k
 unfold shalelaw09_Size.f
 repeat' first
   | (with_reducible exact ih0 _ _)
   | (with_reducible exact LeO.refl _)
   | (with_reducible exact LeO.none _)
   | (with_reducible refine LeO.ite ?_ ?_)
   | (with_reducible refine LeO.bind ?_ (fun _ => ?_))
   | exact ih0 _ _
   | exact LeO.none _
   | refine LeO.ite ?_ ?_
   | refine LeO.bind ?_ (fun _ => ?_)
set_option maxHeartbeats 8000000 in
set_option maxRecDepth 100000 in
theorem shalelaw09_Size.calls (k : Nat) (A0 : Option Addr) (c0 : Nat) (l0 : List (S41)) (r : Int) (w : World) (hr0 : Kd.C k41 w A0 l0.length l0) (hc0 : l0.length ≤ c0) (h : shalelaw09_Size.f k l0 = some r) :
  Calls Tryz.prog 9 #[.slice A0 l0.length c0] w fun e w' => e = .returned (.int .i64 r) ∧ Drawn0 w w' := by
 have HR0 := Aside0.mk hr0
 have HC0 := Aside0.mk hc0
 clear hr0 hc0
 have H : (if (l0.length : Int) > 70 then (some 0) else (shalelaw09_Size.l0 k l0 0)) = some r := h
 clear h
 by_cases c2 : (l0.length : Int) > 70
 ·rw [if_pos c2] at H
  have c2b0 : decide (70 < (l0.length : Int)) = true := decide_eq_true c2
  have c2b1 : decide (70 < l0.length) = true := decide_eq_true (by omega)
  clear c2
  obtain rfl := Option.some.inj H
  go_enter Tryz.func9, Tryz.ntmps9
  go_wp2
  go_ret
  exact ⟨by first | rfl | (simp; done) | (simp [*]; done), by repeat (first | exact Drawn0.refl _ | apply Drawn0.step)⟩
 ·rw [if_neg c2] at H
  have c2b0 : decide (70 < (l0.length : Int)) = false := decide_eq_false c2
  have c2b1 : decide (70 < l0.length) = false := decide_eq_false (by omega)
  clear c2
  have H' := Aside0.mk H
  clear H
  go_enter Tryz.func9, Tryz.ntmps9
  go_wp2
  go_loopg [3] k (fun kq v3 w' => ∃ (x3_1 : Int), v3 = .int .i64 x3_1 ∧ Aside0 (shalelaw09_Size.l0 kq l0 x3_1 = some r) ∧ Aside0 (kq ≤ k) ∧ Drawn0 w w')
  case atStart => exact ⟨(0), (by first | rfl | (simp; done) | (simp [*]; done)), H', ⟨Nat.le_refl _⟩, by repeat (first | exact Drawn0.refl _ | apply Drawn0.step)⟩
  case round =>
   clear H'
   try clear c2
   try clear c2b0
   try clear c2b1
   try clear p2
   obtain ⟨x3_1, rfl, HA, HK1, ⟨m1, rfl⟩⟩ := hrel
   cases gk with
   | zero => exact absurd HA.out (by simp [shalelaw09_Size.l0])
   | succ k1 =>
    have H := HA.out
    clear HA
    simp only [shalelaw09_Size.l0] at H
    by_cases c3 : x3_1 < (l0.length : Int)
    ·rw [if_pos c3] at H
     have c3b0 : decide (x3_1 < (l0.length : Int)) = true := decide_eq_true c3
     clear c3
     by_cases c4 : 0 ≤ x3_1
     ·rw [if_pos c4] at H
      have c4b0 : decide (0 ≤ x3_1) = true := decide_eq_true c4
      clear c4
      by_cases c5 : (((rd_T41 l0 x3_1).f0).size : Int) > 100
      ·rw [if_pos c5] at H
       have c5b0 : decide (100 < (((rd_T41 l0 x3_1).f0).size : Int)) = true := decide_eq_true c5
       have c5b1 : decide (100 < ((rd_T41 l0 x3_1).f0).size) = true := decide_eq_true (by omega)
       clear c5
       obtain rfl := Option.some.inj H
       have p170 : 0 ≤ (x3_1 : Int) := of_decide_eq_true (by first | (with_reducible assumption) | assumption)
       have q170 : x3_1 < (l0.length : Int) := of_decide_eq_true (by first | (with_reducible assumption) | assumption)
       obtain ⟨ad170, e170, hx170_0, hx170_1, hx170_2⟩ := at_T41 HR0.out x3_1 p170 q170
       cases e170
       replace p170 := eq_true p170
       replace q170 := eq_true q170
       go_wp2
       go_ret
       exact ⟨by first | rfl | (simp; done) | (simp [*]; done), by repeat (first | exact Drawn0.refl _ | apply Drawn0.step)⟩
      ·rw [if_neg c5] at H
       have c5b0 : decide (100 < (((rd_T41 l0 x3_1).f0).size : Int)) = false := decide_eq_false c5
       have c5b1 : decide (100 < ((rd_T41 l0 x3_1).f0).size) = false := decide_eq_false (by omega)
       clear c5
       by_cases c6 : (((rd_T41 l0 x3_1).f2).size : Int) > 600
       ·rw [if_pos c6] at H
        have c6b0 : decide (600 < (((rd_T41 l0 x3_1).f2).size : Int)) = true := decide_eq_true c6
        have c6b1 : decide (600 < ((rd_T41 l0 x3_1).f2).size) = true := decide_eq_true (by omega)
        clear c6
        obtain rfl := Option.some.inj H
        have p170 : 0 ≤ (x3_1 : Int) := of_decide_eq_true (by first | (with_reducible assumption) | assumption)
        have q170 : x3_1 < (l0.length : Int) := of_decide_eq_true (by first | (with_reducible assumption) | assumption)
        obtain ⟨ad170, e170, hx170_0, hx170_1, hx170_2⟩ := at_T41 HR0.out x3_1 p170 q170
        cases e170
        replace p170 := eq_true p170
        replace q170 := eq_true q170
        have p171 : 0 ≤ (x3_1 : Int) := of_decide_eq_true (by first | (with_reducible assumption) | assumption)
        have q171 : x3_1 < (l0.length : Int) := of_decide_eq_true (by first | (with_reducible assumption) | assumption)
        obtain ⟨ad171, e171, hx171_0, hx171_1, hx171_2⟩ := at_T41 HR0.out x3_1 p171 q171
        obtain rfl : ad170 = ad171 := (by injection e171)
        replace p171 := eq_true p171
        replace q171 := eq_true q171
        go_wp2
        go_ret
        exact ⟨by first | rfl | (simp; done) | (simp [*]; done), by repeat (first | exact Drawn0.refl _ | apply Drawn0.step)⟩
       ·rw [if_neg c6] at H
        have c6b0 : decide (600 < (((rd_T41 l0 x3_1).f2).size : Int)) = false := decide_eq_false c6
        have c6b1 : decide (600 < ((rd_T41 l0 x3_1).f2).size) = false := decide_eq_false (by omega)
        clear c6
        have H' := Aside0.mk H
        clear H
        have p170 : 0 ≤ (x3_1 : Int) := of_decide_eq_true (by first | (with_reducible assumption) | assumption)
        have q170 : x3_1 < (l0.length : Int) := of_decide_eq_true (by first | (with_reducible assumption) | assumption)
        obtain ⟨ad170, e170, hx170_0, hx170_1, hx170_2⟩ := at_T41 HR0.out x3_1 p170 q170
        cases e170
        replace p170 := eq_true p170
        replace q170 := eq_true q170
        have p171 : 0 ≤ (x3_1 : Int) := of_decide_eq_true (by first | (with_reducible assumption) | assumption)
        have q171 : x3_1 < (l0.length : Int) := of_decide_eq_true (by first | (with_reducible assumption) | assumption)
        obtain ⟨ad171, e171, hx171_0, hx171_1, hx171_2⟩ := at_T41 HR0.out x3_1 p171 q171
        obtain rfl : ad170 = ad171 := (by injection e171)
        replace p171 := eq_true p171
        replace q171 := eq_true q171
        go_wp2
        go_roundg k1
        case measure => have := HK1.out; omega
        case rel => exact ⟨(wrap64 (x3_1 + 1)), (by first | rfl | (simp; done) | (simp [*]; done)), H', ⟨by have := HK1.out; omega⟩, by repeat (first | exact Drawn0.refl _ | apply Drawn0.step)⟩
     ·rw [if_neg c4] at H
      exact absurd H (by simp)
    ·rw [if_neg c3] at H
     have c3b0 : decide (x3_1 < (l0.length : Int)) = false := decide_eq_false c3
     clear c3
     obtain rfl := Option.some.inj H
     go_wp2
     go_ret
     exact ⟨by first | rfl | (simp; done) | (simp [*]; done), by repeat (first | exact Drawn0.refl _ | apply Drawn0.step)⟩

def shalelaw10_Few.l0 : Nat → List (List (S41)) → Int → Option (Int)
 | 0, _, _ => none
 | k + 1, x0, x3 => if x3 < (x0.length : Int) then (if 0 ≤ x3 then ((shalelaw09_Size.f k (rd_L4 x0 x3)).bind fun t218 => (if t218 = 0 then (some 0) else (shalelaw10_Few.l0 k x0 (wrap64 (x3 + 1))))) else (none)) else (some 1)
def shalelaw10_Few.f (k : Nat) (l0 : List (List (S41))) : Option (Int) := if (l0.length : Int) > 12 then (some 0) else (shalelaw10_Few.l0 k l0 0)
theorem shalelaw10_Few.mono_l : ∀ k, (∀ y0 y1, LeO (shalelaw10_Few.l0 k y0 y1) (shalelaw10_Few.l0 (k + 1) y0 y1))
 | 0 => fun _ _ r h => by simp [shalelaw10_Few.l0] at h
 | k + 1 => by
  have ih0 := shalelaw10_Few.mono_l k
  ·intro y0 y1
   unfold shalelaw10_Few.l0
   repeat' first
   | (with_reducible exact ih0 _ _)
   | (with_reducible exact shalelaw09_Size.mono _ _)
   | (with_reducible exact LeO.refl _)
   | (with_reducible exact LeO.none _)
   | (with_reducible refine LeO.ite ?_ ?_)
   | (with_reducible refine LeO.bind ?_ (fun _ => ?_))
   | exact ih0 _ _
   | exact shalelaw09_Size.mono _ _
   | exact LeO.none _
   | refine LeO.ite ?_ ?_
   | refine LeO.bind ?_ (fun _ => ?_)
theorem shalelaw10_Few.mono : ∀ a0 k, LeO (shalelaw10_Few.f k a0) (shalelaw10_Few.f (k + 1) a0) := by
 intro a0 k
 have ih0 := shalelaw10_Few.mono_l k
 unfold shalelaw10_Few.f
 repeat' first
   | (with_reducible exact ih0 _ _)
   | (with_reducible exact shalelaw09_Size.mono _ _)
   | (with_reducible exact LeO.refl _)
   | (with_reducible exact LeO.none _)
   | (with_reducible refine LeO.ite ?_ ?_)
   | (with_reducible refine LeO.bind ?_ (fun _ => ?_))
   | exact ih0 _ _
   | exact shalelaw09_Size.mono _ _
   | exact LeO.none _
   | refine LeO.ite ?_ ?_
   | refine LeO.bind ?_ (fun _ => ?_)
set_option maxHeartbeats 8000000 in
set_option maxRecDepth 100000 in
theorem shalelaw10_Few.calls (k : Nat) (A0 : Option Addr) (c0 : Nat) (l0 : List (List (S41))) (r : Int) (w : World) (hr0 : Kd.C (Kd.slice 41 k41) w A0 l0.length l0) (hc0 : l0.length ≤ c0) (h : shalelaw10_Few.f k l0 = some r) :
  Calls Tryz.prog 20 #[.slice A0 l0.length c0] w fun e w' => e = .returned (.int .i64 r) ∧ Drawn0 w w' := by
 have HR0 := Aside0.mk hr0
 have HC0 := Aside0.mk hc0
 clear hr0 hc0
 have H : (if (l0.length : Int) > 12 then (some 0) else (shalelaw10_Few.l0 k l0 0)) = some r := h
 clear h
 by_cases c2 : (l0.length : Int) > 12
 ·rw [if_pos c2] at H
  have c2b0 : decide (12 < (l0.length : Int)) = true := decide_eq_true c2
  have c2b1 : decide (12 < l0.length) = true := decide_eq_true (by omega)
  clear c2
  obtain rfl := Option.some.inj H
  go_enter Tryz.func20, Tryz.ntmps20
  go_wp2
  go_ret
  exact ⟨by first | rfl | (simp; done) | (simp [*]; done), by repeat (first | exact Drawn0.refl _ | apply Drawn0.step)⟩
 ·rw [if_neg c2] at H
  have c2b0 : decide (12 < (l0.length : Int)) = false := decide_eq_false c2
  have c2b1 : decide (12 < l0.length) = false := decide_eq_false (by omega)
  clear c2
  have H' := Aside0.mk H
  clear H
  go_enter Tryz.func20, Tryz.ntmps20
  go_wp2
  go_loopg [3] k (fun kq v3 w' => ∃ (x3_1 : Int), v3 = .int .i64 x3_1 ∧ Aside0 (shalelaw10_Few.l0 kq l0 x3_1 = some r) ∧ Aside0 (kq ≤ k) ∧ Drawn0 w w')
  case atStart => exact ⟨(0), (by first | rfl | (simp; done) | (simp [*]; done)), H', ⟨Nat.le_refl _⟩, by repeat (first | exact Drawn0.refl _ | apply Drawn0.step)⟩
  case round =>
   clear H'
   try clear c2
   try clear c2b0
   try clear c2b1
   try clear p2
   obtain ⟨x3_1, rfl, HA, HK1, ⟨m1, rfl⟩⟩ := hrel
   cases gk with
   | zero => exact absurd HA.out (by simp [shalelaw10_Few.l0])
   | succ k1 =>
    have H := HA.out
    clear HA
    simp only [shalelaw10_Few.l0] at H
    by_cases c3 : x3_1 < (l0.length : Int)
    ·rw [if_pos c3] at H
     have c3b0 : decide (x3_1 < (l0.length : Int)) = true := decide_eq_true c3
     clear c3
     by_cases c4 : 0 ≤ x3_1
     ·rw [if_pos c4] at H
      have c4b0 : decide (0 ≤ x3_1) = true := decide_eq_true c4
      clear c4
      replace H := Option.bind_eq_some_iff.mp H
      obtain ⟨t218, A50, H⟩ := H
      replace H : (if t218 = 0 then (some 0) else (shalelaw10_Few.l0 k1 l0 (wrap64 (x3_1 + 1)))) = some r := H
      have A5 := Aside0.mk A50
      clear A50
      by_cases c6 : t218 = 0
      ·rw [if_pos c6] at H
       have c6b0 : (t218 == 0) = true := beq_iff_eq.mpr c6
       have c6b1 : (t218 != 0) = false := bne_eq_false_iff_eq.mpr c6
       clear c6
       obtain rfl := Option.some.inj H
       have p217 : 0 ≤ (x3_1 : Int) := of_decide_eq_true (by first | (with_reducible assumption) | assumption)
       have q217 : x3_1 < (l0.length : Int) := of_decide_eq_true (by first | (with_reducible assumption) | assumption)
       obtain ⟨ad217, A217_0, c217_0, e217, hx217_0, hl217_0, hi217_0⟩ := at_L4 HR0.out x3_1 p217 q217
       cases e217
       have HR217_0 := Aside0.mk hi217_0
       have HC217_0 := Aside0.mk hl217_0
       clear hi217_0 hl217_0
       replace p217 := eq_true p217
       replace q217 := eq_true q217
       go_wp2_with (first | ((with_reducible refine gate_callee (f := 9) rfl ?_); refine goesL_ (some 17) rfl rfl Tryz.func9 (by kernel_rfl) rfl #[.slice A217_0 (rd_L4 l0 x3_1).length c217_0] rfl (by (try simp only [List.map_toArray, List.map_cons, List.map_nil]); first | done | rfl | (simp only [List.length_drop, List.length_take]; rfl)) ?_; (with_reducible refine (shalelaw09_Size.calls k1 _ _ (rd_L4 l0 x3_1) t218 _ ?side1 ?side2 A5.out).mono ?_); (case side1 => repeat (first | exact HR217_0.out | (with_reducible refine Kd.C_alloc ?_ _) | (with_reducible refine Kd.C_drewN ?_ _) | (with_reducible refine Kd.C_drew ?_))); (case side2 => exact HC217_0.out); rintro e w' ⟨rfl, ⟨nd, rfl⟩⟩; refine ⟨_, rfl, ?_⟩))
       go_ret
       exact ⟨by first | rfl | (simp; done) | (simp [*]; done), by repeat (first | exact Drawn0.refl _ | apply Drawn0.step)⟩
      ·rw [if_neg c6] at H
       have c6b0 : (t218 == 0) = false := beq_eq_false_iff_ne.mpr c6
       have c6b1 : (t218 != 0) = true := bne_iff_ne.mpr c6
       have H' := Aside0.mk H
       clear H
       have p217 : 0 ≤ (x3_1 : Int) := of_decide_eq_true (by first | (with_reducible assumption) | assumption)
       have q217 : x3_1 < (l0.length : Int) := of_decide_eq_true (by first | (with_reducible assumption) | assumption)
       obtain ⟨ad217, A217_0, c217_0, e217, hx217_0, hl217_0, hi217_0⟩ := at_L4 HR0.out x3_1 p217 q217
       cases e217
       have HR217_0 := Aside0.mk hi217_0
       have HC217_0 := Aside0.mk hl217_0
       clear hi217_0 hl217_0
       replace p217 := eq_true p217
       replace q217 := eq_true q217
       go_wp2_with (first | ((with_reducible refine gate_callee (f := 9) rfl ?_); refine goesL_ (some 17) rfl rfl Tryz.func9 (by kernel_rfl) rfl #[.slice A217_0 (rd_L4 l0 x3_1).length c217_0] rfl (by (try simp only [List.map_toArray, List.map_cons, List.map_nil]); first | done | rfl | (simp only [List.length_drop, List.length_take]; rfl)) ?_; (with_reducible refine (shalelaw09_Size.calls k1 _ _ (rd_L4 l0 x3_1) t218 _ ?side1 ?side2 A5.out).mono ?_); (case side1 => repeat (first | exact HR217_0.out | (with_reducible refine Kd.C_alloc ?_ _) | (with_reducible refine Kd.C_drewN ?_ _) | (with_reducible refine Kd.C_drew ?_))); (case side2 => exact HC217_0.out); rintro e w' ⟨rfl, ⟨nd, rfl⟩⟩; refine ⟨_, rfl, ?_⟩))
       go_roundg k1
       case measure => have := HK1.out; omega
       case rel => exact ⟨(wrap64 (x3_1 + 1)), (by first | rfl | (simp; done) | (simp [*]; done)), H', ⟨by have := HK1.out; omega⟩, by repeat (first | exact Drawn0.refl _ | apply Drawn0.step)⟩
     ·rw [if_neg c4] at H
      exact absurd H (by simp)
    ·rw [if_neg c3] at H
     have c3b0 : decide (x3_1 < (l0.length : Int)) = false := decide_eq_false c3
     clear c3
     obtain rfl := Option.some.inj H
     go_wp2
     go_ret
     exact ⟨by first | rfl | (simp; done) | (simp [*]; done), by repeat (first | exact Drawn0.refl _ | apply Drawn0.step)⟩

end Go.Proofs.YtjlflmjimibciaaGreatDoor.Print
