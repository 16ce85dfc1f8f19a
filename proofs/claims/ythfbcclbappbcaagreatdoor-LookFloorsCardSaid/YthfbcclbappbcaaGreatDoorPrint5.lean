import Derived.Test.YthfbcclbappbcaaGreatDoorPrint0
import Derived.Test.YthfbcclbappbcaaGreatDoorPrint1
import Derived.Test.YthfbcclbappbcaaGreatDoorPrint4
import Derived.Test.YthfbcclbappbcaaGreatDoorPrintFi
namespace Go.Proofs.YthfbcclbappbcaaGreatDoor.Print
open Go.RowKit Go.Proofs.YthfbcclbappbcaaGreatDoorW.PrintWords Go.Proofs.YthfbcclbappbcaaGreatDoorW.PrintLast Go.Proofs.YthfbcclbappbcaaGreatDoorW.PrintMore
attribute [local go_sem] max2_int min2_int max_two min_two max_three min_three max_four min_four   -- for this text's walks alone
set_option linter.unusedVariables false
set_option linter.unusedSimpArgs false
def z34.l0 : Nat → List (List (S26)) → List (List (S26)) → Int → Int → Option (Bool)
 | 0, _, _, _, _ => none
 | k + 1, x0, x5, x6, x7 => if x7 < x6 then (if 0 ≤ x7 then (if x7 < (x5.length : Int) then ((z30.f k (rd_L4 x5 x7)).bind fun t165 => (if t165 = true then (z34.l0 k x0 x5 x6 (wrap64 (x7 + 1))) else (some false))) else (none)) else (none)) else (some (decide ((x0.length : Int) ≤ 9)))
def z34.f (k : Nat) (l0 : List (List (S26))) : Option (Bool) := z34.l0 k l0 l0 (l0.length : Int) 0
theorem z34.mono_l : ∀ k, (∀ y0 y1 y2 y3, LeO (z34.l0 k y0 y1 y2 y3) (z34.l0 (k + 1) y0 y1 y2 y3))
 | 0 => fun _ _ _ _ r h => by simp [z34.l0] at h
 | k + 1 => by
  have ih0 := z34.mono_l k
  ·intro y0 y1 y2 y3
   unfold z34.l0
   repeat' first
   | (with_reducible exact ih0 _ _ _ _)
   | (with_reducible exact z30.mono _ _)
   | (with_reducible exact LeO.refl _)
   | (with_reducible exact LeO.none _)
   | (with_reducible refine LeO.ite ?_ ?_)
   | (with_reducible refine LeO.bind ?_ (fun _ => ?_))
   | exact ih0 _ _ _ _
   | exact z30.mono _ _
   | exact LeO.none _
   | refine LeO.ite ?_ ?_
   | refine LeO.bind ?_ (fun _ => ?_)
theorem z34.mono : ∀ a0 k, LeO (z34.f k a0) (z34.f (k + 1) a0) := by
 intro a0 k
 have ih0 := z34.mono_l k
 unfold z34.f
 repeat' first
   | (with_reducible exact ih0 _ _ _ _)
   | (with_reducible exact z30.mono _ _)
   | (with_reducible exact LeO.refl _)
   | (with_reducible exact LeO.none _)
   | (with_reducible refine LeO.ite ?_ ?_)
   | (with_reducible refine LeO.bind ?_ (fun _ => ?_))
   | exact ih0 _ _ _ _
   | exact z30.mono _ _
   | exact LeO.none _
   | refine LeO.ite ?_ ?_
   | refine LeO.bind ?_ (fun _ => ?_)
set_option maxHeartbeats 8000000 in
set_option maxRecDepth 100000 in
theorem z34.calls (k : Nat) (A0 : Option Addr) (c0 : Nat) (l0 : List (List (S26))) (r : Bool) (w : World) (hr0 : Kd.C (Kd.slice 26 k26) w A0 l0.length l0) (hc0 : l0.length ≤ c0) (h : z34.f k l0 = some r) :
  Calls Tryz.prog 34 #[.slice A0 l0.length c0] w fun e w' => e = .returned (.bool r) ∧ Below w.heap.size w w' := by
 have HR0 := Aside0.mk hr0
 have HC0 := Aside0.mk hc0
 clear hr0 hc0
 have HB := Aside0.mk (Below.refl w.heap.size w)
 have H : (z34.l0 k l0 l0 (l0.length : Int) 0) = some r := h
 clear h
 have H' := Aside0.mk H
 clear H
 go_enter Tryz.func34, Tryz.ntmps34
 go_wp2
 go_loopg [7] k (fun kq v7 w' => ∃ (x7_1 : Int), v7 = .int .i64 x7_1 ∧ Aside0 (z34.l0 kq l0 l0 (l0.length : Int) x7_1 = some r) ∧ Aside0 (kq ≤ k) ∧ Aside0 (Below w.heap.size w w'))
 case atStart => exact ⟨(0), (by first | rfl | (simp; done) | (simp [*]; done)), H', ⟨Nat.le_refl _⟩, ⟨by repeat (first | (with_reducible first | exact HB.out | apply qA | apply qN | apply qD) | exact HB.out)⟩⟩
 case round =>
  clear H'
  obtain ⟨x7_1, rfl, HA, HK1, HB⟩ := hrel
  cases gk with
  | zero => exact absurd HA.out (by simp [z34.l0])
  | succ k1 =>
   have H := HA.out
   clear HA
   simp only [z34.l0] at H
   by_cases c2 : x7_1 < (l0.length : Int)
   ·rw [if_pos c2] at H
    have c2b0 : decide (x7_1 < (l0.length : Int)) = true := decide_eq_true c2
    clear c2
    by_cases c3 : 0 ≤ x7_1
    ·rw [if_pos c3] at H
     have c3b0 : decide (0 ≤ x7_1) = true := decide_eq_true c3
     clear c3
     by_cases c4 : x7_1 < (l0.length : Int)
     ·rw [if_pos c4] at H
      have c4b0 : decide (x7_1 < (l0.length : Int)) = true := decide_eq_true c4
      clear c4
      replace H := Option.bind_eq_some_iff.mp H
      obtain ⟨t165, A50, H⟩ := H
      replace H : (if t165 = true then (z34.l0 k1 l0 l0 (l0.length : Int) (wrap64 (x7_1 + 1))) else (some false)) = some r := H
      have A5 := Aside0.mk A50
      clear A50
      by_cases c6 : t165 = true
      ·subst c6
       have H1 : (z34.l0 k1 l0 l0 (l0.length : Int) (wrap64 (x7_1 + 1))) = some r := by rw [if_pos rfl] at H; exact H
       clear H
       have H := H1
       clear H1
       have H' := Aside0.mk H
       clear H
       have p164 : 0 ≤ (x7_1 : Int) := of_decide_eq_true (by first | (with_reducible assumption) | assumption)
       have q164 : x7_1 < (l0.length : Int) := of_decide_eq_true (by first | (with_reducible assumption) | assumption)
       obtain ⟨ad164, A164_0, c164_0, e164, hx164_0, hl164_0, hi164_0⟩ := at_L4 HR0.out x7_1 p164 q164
       cases e164
       replace hx164_0 := (HB.out.cell (World.block_lt_of_cell? w _ hx164_0)).trans hx164_0
       have HR164_0 := Aside0.mk hi164_0
       have HC164_0 := Aside0.mk hl164_0
       clear hi164_0 hl164_0
       replace p164 := eq_true p164
       replace q164 := eq_true q164
       go_wp2_with (first | ((with_reducible refine qg (f := 9) rfl ?_); refine goesL_ (some 12) rfl rfl Tryz.func9 (by kernel_rfl) rfl #[.slice A164_0 (rd_L4 l0 x7_1).length c164_0] rfl (by (try simp only [List.map_toArray, List.map_cons, List.map_nil]); first | done | rfl | (simp only [List.length_drop, List.length_take]; rfl)) ?_; (with_reducible refine (z30.calls k1 _ _ (rd_L4 l0 x7_1) true _ ?side1 ?side2 A5.out).mono ?_); (case side1 => repeat (first | exact (Kd.C_below HR164_0.out HB.out) | (with_reducible refine Kd.C_alloc ?_ _) | (with_reducible refine Kd.C_drewN ?_ _) | (with_reducible refine Kd.C_drew ?_))); (case side2 => exact HC164_0.out); rintro e w7 ⟨rfl, hb⟩; refine ⟨_, rfl, ?_⟩; have n0_ := Aside0.mk (qT (by repeat (first | (with_reducible first | exact HB.out | apply qA | apply qN | apply qD) | exact HB.out)) hb); clear HB; have HB := n0_; clear n0_; (try clear hb); (try clear hb2); (try clear hk); (try clear hi)))
       go_roundg k1
       case measure => have := HK1.out; omega
       case rel => exact ⟨(wrap64 (x7_1 + 1)), (by first | rfl | (simp; done) | (simp [*]; done)), H', ⟨by have := HK1.out; omega⟩, ⟨by repeat (first | (with_reducible first | exact HB.out | apply qA | apply qN | apply qD) | exact HB.out)⟩⟩
      ·replace c6 := Bool.eq_false_iff.mpr c6
       subst c6
       have H1 : (some false) = some r := by rw [if_neg (show ¬ (false = true) by decide)] at H; exact H
       clear H
       have H := H1
       clear H1
       obtain rfl := Option.some.inj H
       have p164 : 0 ≤ (x7_1 : Int) := of_decide_eq_true (by first | (with_reducible assumption) | assumption)
       have q164 : x7_1 < (l0.length : Int) := of_decide_eq_true (by first | (with_reducible assumption) | assumption)
       obtain ⟨ad164, A164_0, c164_0, e164, hx164_0, hl164_0, hi164_0⟩ := at_L4 HR0.out x7_1 p164 q164
       cases e164
       replace hx164_0 := (HB.out.cell (World.block_lt_of_cell? w _ hx164_0)).trans hx164_0
       have HR164_0 := Aside0.mk hi164_0
       have HC164_0 := Aside0.mk hl164_0
       clear hi164_0 hl164_0
       replace p164 := eq_true p164
       replace q164 := eq_true q164
       go_wp2_with (first | ((with_reducible refine qg (f := 9) rfl ?_); refine goesL_ (some 12) rfl rfl Tryz.func9 (by kernel_rfl) rfl #[.slice A164_0 (rd_L4 l0 x7_1).length c164_0] rfl (by (try simp only [List.map_toArray, List.map_cons, List.map_nil]); first | done | rfl | (simp only [List.length_drop, List.length_take]; rfl)) ?_; (with_reducible refine (z30.calls k1 _ _ (rd_L4 l0 x7_1) false _ ?side1 ?side2 A5.out).mono ?_); (case side1 => repeat (first | exact (Kd.C_below HR164_0.out HB.out) | (with_reducible refine Kd.C_alloc ?_ _) | (with_reducible refine Kd.C_drewN ?_ _) | (with_reducible refine Kd.C_drew ?_))); (case side2 => exact HC164_0.out); rintro e w8 ⟨rfl, hb⟩; refine ⟨_, rfl, ?_⟩; have n0_ := Aside0.mk (qT (by repeat (first | (with_reducible first | exact HB.out | apply qA | apply qN | apply qD) | exact HB.out)) hb); clear HB; have HB := n0_; clear n0_; (try clear hb); (try clear hb2); (try clear hk); (try clear hi)))
       go_ret
       exact ⟨by first | rfl | (simp [qn, qe] <;> rfl) | (simp [*, qn, qe] <;> rfl), by repeat (first | (with_reducible first | exact HB.out | apply qA | apply qN | apply qD) | exact HB.out)⟩
     ·rw [if_neg c4] at H
      exact absurd H (by simp)
    ·rw [if_neg c3] at H
     exact absurd H (by simp)
   ·rw [if_neg c2] at H
    have c2b0 : decide (x7_1 < (l0.length : Int)) = false := decide_eq_false c2
    clear c2
    obtain rfl := Option.some.inj H
    go_wp2
    go_ret
    exact ⟨by first | rfl | (simp [qn, qe] <;> rfl) | (simp [*, qn, qe] <;> rfl), by repeat (first | (with_reducible first | exact HB.out | apply qA | apply qN | apply qD) | exact HB.out)⟩

mutual
def z44.l0 : Nat → List (List (S26)) → ByteArray → Int → Bool → Int → ByteArray → Int → ByteArray → Int → Option (ByteArray × Int × ByteArray × Int × Bool)
 | 0, _, _, _, _, _, _, _, _, _ => none
 | k + 1, x0, x1, x2, x9, x10, x173000, x173001, x173002, x173003 => if x10 ≥ x2 then (if 0 ≤ x10 then (if x10 < (x0.length : Int) then ((z36.f k (rd_L4 x0 x10) x1).bind fun bt174 => (if bt174.2.2.2 = true then (if bt174.2.1 = 3 then (z44.j1 k x0 x1 x2 x9 x10 true x173000 x173001 x173002 x173003 bt174.1 bt174.2.1 bt174.2.2.1) else (if bt174.2.1 = 1 then (z44.j1 k x0 x1 x2 x9 x10 x9 x173000 x173001 x173002 x173003 bt174.1 bt174.2.1 bt174.2.2.1) else (z44.j1 k x0 x1 x2 x9 x10 false x173000 x173001 x173002 x173003 bt174.1 bt174.2.1 bt174.2.2.1))) else (z44.l0 k x0 x1 x2 x9 (wrap64 (x10 - 1)) x173000 x173001 x173002 x173003))) else (none)) else (none)) else (some (x173000, x173001, x173002, x173003, x9))
def z44.j1 : Nat → List (List (S26)) → ByteArray → Int → Bool → Int → Bool → ByteArray → Int → ByteArray → Int → ByteArray → Int → ByteArray → Option (ByteArray × Int × ByteArray × Int × Bool)
 | 0, _, _, _, _, _, _, _, _, _, _, _, _, _ => none
 | k + 1, x0, x1, x2, x9, x10, x36, x173000, x173001, x173002, x173003, x179000, x179001, x179002 => if x36 = true then (some (x173000, x173001, x173002, x173003, x9)) else (if x179001 = 1 then (some (x179000, x179001, x179002, x10, true)) else (if x179001 = 4 then (some (x173000, x173001, x173002, x10, true)) else (z44.l0 k x0 x1 x2 true (wrap64 (x10 - 1)) x173000 x173001 x173002 x10)))
end
def z44.f (k : Nat) (l0 : List (List (S26))) (a1 : ByteArray) (a2 : Int) : Option (ByteArray × Int × ByteArray × Int × Bool) := z44.l0 k l0 a1 a2 false (wrap64 ((l0.length : Int) - 1)) a1 2 (⟨#[]⟩ : ByteArray) 0
theorem z44.mono_l : ∀ k, (∀ y0 y1 y2 y3 y4 y5 y6 y7 y8, LeO (z44.l0 k y0 y1 y2 y3 y4 y5 y6 y7 y8) (z44.l0 (k + 1) y0 y1 y2 y3 y4 y5 y6 y7 y8)) ∧ (∀ y0 y1 y2 y3 y4 y5 y6 y7 y8 y9 y10 y11 y12, LeO (z44.j1 k y0 y1 y2 y3 y4 y5 y6 y7 y8 y9 y10 y11 y12) (z44.j1 (k + 1) y0 y1 y2 y3 y4 y5 y6 y7 y8 y9 y10 y11 y12))
 | 0 => ⟨fun _ _ _ _ _ _ _ _ _ r h => by simp [z44.l0] at h, fun _ _ _ _ _ _ _ _ _ _ _ _ _ r h => by simp [z44.j1] at h⟩
 | k + 1 => by
  obtain ⟨ih0, ih1⟩ := z44.mono_l k
  refine ⟨?_, ?_⟩
  ·intro y0 y1 y2 y3 y4 y5 y6 y7 y8
   unfold z44.l0
   repeat' first
   | (with_reducible exact ih0 _ _ _ _ _ _ _ _ _)
   | (with_reducible exact ih1 _ _ _ _ _ _ _ _ _ _ _ _ _)
   | (with_reducible exact z36.mono _ _ _)
   | (with_reducible exact LeO.refl _)
   | (with_reducible exact LeO.none _)
   | (with_reducible refine LeO.ite ?_ ?_)
   | (with_reducible refine LeO.bind ?_ (fun _ => ?_))
   | exact ih0 _ _ _ _ _ _ _ _ _
   | exact ih1 _ _ _ _ _ _ _ _ _ _ _ _ _
   | exact z36.mono _ _ _
   | exact LeO.none _
   | refine LeO.ite ?_ ?_
   | refine LeO.bind ?_ (fun _ => ?_)
  ·intro y0 y1 y2 y3 y4 y5 y6 y7 y8 y9 y10 y11 y12
   unfold z44.j1
   repeat' first
   | (with_reducible exact ih0 _ _ _ _ _ _ _ _ _)
   | (with_reducible exact ih1 _ _ _ _ _ _ _ _ _ _ _ _ _)
   | (with_reducible exact z36.mono _ _ _)
   | (with_reducible exact LeO.refl _)
   | (with_reducible exact LeO.none _)
   | (with_reducible refine LeO.ite ?_ ?_)
   | (with_reducible refine LeO.bind ?_ (fun _ => ?_))
   | exact ih0 _ _ _ _ _ _ _ _ _
   | exact ih1 _ _ _ _ _ _ _ _ _ _ _ _ _
   | exact z36.mono _ _ _
   | exact LeO.none _
   | refine LeO.ite ?_ ?_
   | refine LeO.bind ?_ (fun _ => ?_)
theorem z44.mono : ∀ a0 a1 a2 k, LeO (z44.f k a0 a1 a2) (z44.f (k + 1) a0 a1 a2) := by
 intro a0 a1 a2 k
 obtain ⟨ih0, ih1⟩ := z44.mono_l k
 unfold z44.f
 repeat' first
   | (with_reducible exact ih0 _ _ _ _ _ _ _ _ _)
   | (with_reducible exact ih1 _ _ _ _ _ _ _ _ _ _ _ _ _)
   | (with_reducible exact z36.mono _ _ _)
   | (with_reducible exact LeO.refl _)
   | (with_reducible exact LeO.none _)
   | (with_reducible refine LeO.ite ?_ ?_)
   | (with_reducible refine LeO.bind ?_ (fun _ => ?_))
   | exact ih0 _ _ _ _ _ _ _ _ _
   | exact ih1 _ _ _ _ _ _ _ _ _ _ _ _ _
   | exact z36.mono _ _ _
   | exact LeO.none _
   | refine LeO.ite ?_ ?_
   | refine LeO.bind ?_ (fun _ => ?_)
set_option maxHeartbeats 8000000 in
set_option maxRecDepth 100000 in
theorem z44.calls (k : Nat) (A0 : Option Addr) (c0 : Nat) (l0 : List (List (S26))) (a1 : ByteArray) (a2 : Int) (r1 : ByteArray) (r2 : Int) (r3 : ByteArray) (r4 : Int) (r5 : Bool) (w : World) (hr0 : Kd.C (Kd.slice 26 k26) w A0 l0.length l0) (hc0 : l0.length ≤ c0) (h : z44.f k l0 a1 a2 = some (r1, r2, r3, r4, r5)) :
  Calls Tryz.prog 37 #[.slice A0 l0.length c0, .string a1, .int .i64 a2] w fun e w' => e = .returned (.tuple #[.agg #[.string r1, .int .i64 r2, .string r3, .int .i64 r4], .bool r5]) ∧ Below w.heap.size w w' := by
 have hu31 := Tryz.underlying31
 have hu26 := Tryz.underlying26
 have HR0 := Aside0.mk hr0
 have HC0 := Aside0.mk hc0
 clear hr0 hc0
 have HB := Aside0.mk (Below.refl w.heap.size w)
 have H : (z44.l0 k l0 a1 a2 false (wrap64 ((l0.length : Int) - 1)) a1 2 (⟨#[]⟩ : ByteArray) 0) = some (r1, r2, r3, r4, r5) := h
 clear h
 have H' := Aside0.mk H
 clear H
 go_enter Tryz.func37, Tryz.ntmps37
 go_wp2_with (first | go_step3 | ((with_reducible refine qd (N := 6) rfl ?_); refine qx ?hg (N := 6) ?hd (cs := #[.string (⟨#[]⟩ : ByteArray), .int .i64 0, .string (⟨#[]⟩ : ByteArray), .int .i64 0]) (t := 31) ?hr ?_; (case hd => rfl); (case hg => rfl); (case hr => first | (go_simp; done) | (go_simp; rfl)); intro gb171 hg w4 hbox hb; have n0_ := Aside0.mk (qT (by repeat (first | (with_reducible first | exact HB.out | apply qA | apply qN | apply qD) | exact HB.out)) hb); have n1_ := Aside0.mk (hbox); have n2_ := Aside0.mk ((by rw [hg]; exact (qZ (by repeat (first | (with_reducible first | exact HB.out | apply qA | apply qN | apply qD) | exact HB.out))) : w.heap.size ≤ gb171)); have n3_ := Aside0.mk ((by rw [hg]; exact (qZ (by repeat (first | (with_reducible first | exact HB.out | apply qA | apply qN | apply qD) | exact HB.out))) : w.heap.size ≤ gb171)); clear HB; have HB := n0_; have BK171 := n1_; have GW171 := n2_; have GE171 := n3_; clear n0_ n1_ n2_ n3_; clear hb hbox hg) | ((with_reducible refine qd (N := 8) rfl ?_); refine qx ?hg (N := 8) ?hd (cs := #[.string (⟨#[]⟩ : ByteArray), .int .i64 0, .string (⟨#[]⟩ : ByteArray), .int .i64 0]) (t := 31) ?hr ?_; (case hd => rfl); (case hg => rfl); (case hr => first | (go_simp; done) | (go_simp; rfl)); intro gb172 hg w5 hbox hb; have n0_ := Aside0.mk (qb (g := gb171) (o := .cells #[.string (⟨#[]⟩ : ByteArray), .int .i64 0, .string (⟨#[]⟩ : ByteArray), .int .i64 0] 31 (0, 0)) (by (with_reducible repeat (first | refine qM ?_ _ | refine qW ?_ | refine qL ?_ _)); exact BK171.out) hb); have n1_ := Aside0.mk (qT (by repeat (first | (with_reducible first | exact HB.out | apply qA | apply qN | apply qD | refine qS ?_ GE171.out) | exact HB.out)) hb); have n2_ := Aside0.mk (hbox); have n3_ := Aside0.mk ((by rw [hg]; exact (qZ (by repeat (first | (with_reducible first | exact HB.out | apply qA | apply qN | apply qD | refine qS ?_ GE171.out) | exact HB.out))) : w.heap.size ≤ gb172)); have n4_ := Aside0.mk ((by rw [hg]; exact (qZ (by repeat (first | (with_reducible first | exact HB.out | apply qA | apply qN | apply qD | refine qS ?_ GE171.out) | exact HB.out))) : w.heap.size ≤ gb172)); have n5_ := Aside0.mk ((by rw [hg]; exact Nat.ne_of_lt (blk_lt (g := gb171) (o := .cells #[.string (⟨#[]⟩ : ByteArray), .int .i64 0, .string (⟨#[]⟩ : ByteArray), .int .i64 0] 31 (0, 0)) (by (with_reducible repeat (first | refine qM ?_ _ | refine qW ?_ | refine qL ?_ _)); exact BK171.out)) : gb171 ≠ gb172)); have n6_ := Aside0.mk ((by rw [hg]; exact Nat.ne_of_gt (blk_lt (g := gb171) (o := .cells #[.string (⟨#[]⟩ : ByteArray), .int .i64 0, .string (⟨#[]⟩ : ByteArray), .int .i64 0] 31 (0, 0)) (by (with_reducible repeat (first | refine qM ?_ _ | refine qW ?_ | refine qL ?_ _)); exact BK171.out)) : gb172 ≠ gb171)); clear BK171; clear HB; have BK171 := n0_; have HB := n1_; have BK172 := n2_; have GW172 := n3_; have GE172 := n4_; have NB171_172 := n5_; have NB172_171 := n6_; clear n0_ n1_ n2_ n3_ n4_ n5_ n6_; clear hb hbox hg; have hnb6 := NB172_171.out; have hnc6 := NB171_172.out; have hcz7_0 : w5.cell? ⟨gb172, 0, none⟩ = some (.string (⟨#[]⟩ : ByteArray)) := (qC BK172.out 0).trans rfl; have hcz7_1 : w5.cell? ⟨gb172, 1, none⟩ = some (.int .i64 0) := (qC BK172.out 1).trans rfl; have hcz7_2 : w5.cell? ⟨gb172, 2, none⟩ = some (.string (⟨#[]⟩ : ByteArray)) := (qC BK172.out 2).trans rfl; have hcz7_3 : w5.cell? ⟨gb172, 3, none⟩ = some (.int .i64 0) := (qC BK172.out 3).trans rfl; have hfz7_0 := qF BK172.out 0; have hfz7_1 := qF BK172.out 1; have hfz7_2 := qF BK172.out 2; have hfz7_3 := qF BK172.out 3))
 go_loopg [9, 10] k (fun kq v9 v10 w' => ∃ (x9_1 : Bool) (x10_1 : Int) (x172000_1 : ByteArray) (x172001_1 : Int) (x172002_1 : ByteArray) (x172003_1 : Int) (x173003_1 : Int), v9 = .bool x9_1 ∧ v10 = .int .i64 x10_1 ∧ Aside0 (z44.l0 kq l0 a1 a2 x9_1 x10_1 a1 2 (⟨#[]⟩ : ByteArray) x173003_1 = some (r1, r2, r3, r4, r5)) ∧ Aside0 (kq ≤ k) ∧ Aside0 (w'.heap[gb171]? = some (.cells #[.string x172000_1, .int .i64 x172001_1, .string x172002_1, .int .i64 x172003_1] 31 (0, 0))) ∧ Aside0 (w'.heap[gb172]? = some (.cells #[.string a1, .int .i64 2, .string (⟨#[]⟩ : ByteArray), .int .i64 x173003_1] 31 (0, 0))) ∧ Aside0 (Below w.heap.size w w'))
 case atStart => exact ⟨(false), (wrap64 ((l0.length : Int) - 1)), ((⟨#[]⟩ : ByteArray)), (0), ((⟨#[]⟩ : ByteArray)), (0), (0), (by first | rfl | (simp; done) | (simp [*]; done)), (by first | rfl | (simp; done) | (simp [*]; done)), H', ⟨Nat.le_refl _⟩, ⟨by (with_reducible repeat (first | refine qM ?_ _ | refine qW ?_ | refine qL ?_ _)); refine qv ?_ NB171_172.out _; (with_reducible repeat (first | refine qM ?_ _ | refine qW ?_ | refine qL ?_ _)); refine qv ?_ NB171_172.out _; (with_reducible repeat (first | refine qM ?_ _ | refine qW ?_ | refine qL ?_ _)); refine qv ?_ NB171_172.out _; (with_reducible repeat (first | refine qM ?_ _ | refine qW ?_ | refine qL ?_ _)); refine qv ?_ NB171_172.out _; (with_reducible repeat (first | refine qM ?_ _ | refine qW ?_ | refine qL ?_ _)); exact BK171.out⟩, ⟨by (with_reducible repeat (first | refine qM ?_ _ | refine qW ?_ | refine qL ?_ _)); refine qu (cs := #[.string a1, .int .i64 2, .string (⟨#[]⟩ : ByteArray), .int .i64 0]) ?_ 3 _ rfl; (with_reducible repeat (first | refine qM ?_ _ | refine qW ?_ | refine qL ?_ _)); refine qu (cs := #[.string a1, .int .i64 2, .string (⟨#[]⟩ : ByteArray), .int .i64 0]) ?_ 2 _ rfl; (with_reducible repeat (first | refine qM ?_ _ | refine qW ?_ | refine qL ?_ _)); refine qu (cs := #[.string a1, .int .i64 0, .string (⟨#[]⟩ : ByteArray), .int .i64 0]) ?_ 1 _ rfl; (with_reducible repeat (first | refine qM ?_ _ | refine qW ?_ | refine qL ?_ _)); refine qu (cs := #[.string (⟨#[]⟩ : ByteArray), .int .i64 0, .string (⟨#[]⟩ : ByteArray), .int .i64 0]) ?_ 0 _ rfl; (with_reducible repeat (first | refine qM ?_ _ | refine qW ?_ | refine qL ?_ _)); exact BK172.out⟩, ⟨by repeat (first | (with_reducible first | exact HB.out | apply qA | apply qN | apply qD | refine qS ?_ GE171.out | refine qS ?_ GE172.out) | exact HB.out)⟩⟩
 case round =>
  clear H'
  try clear p2
  try clear c3
  try clear c6
  try clear p6
  try clear hcz7_0
  try clear hcz7_1
  try clear hcz7_2
  try clear hcz7_3
  try clear hfz7_0
  try clear hfz7_1
  try clear hfz7_2
  try clear hfz7_3
  obtain ⟨x9_1, x10_1, x172000_1, x172001_1, x172002_1, x172003_1, x173003_1, rfl, rfl, HA, HK1, BK171, BK172, HB⟩ := hrel
  cases gk with
  | zero => exact absurd HA.out (by simp [z44.l0])
  | succ k1 =>
   have H := HA.out
   clear HA
   simp only [z44.l0] at H
   by_cases c8 : x10_1 ≥ a2
   ·rw [if_pos c8] at H
    have c8b0 : decide (a2 ≤ x10_1) = true := decide_eq_true c8
    clear c8
    by_cases c9 : 0 ≤ x10_1
    ·rw [if_pos c9] at H
     have c9b0 : decide (0 ≤ x10_1) = true := decide_eq_true c9
     clear c9
     by_cases c10 : x10_1 < (l0.length : Int)
     ·rw [if_pos c10] at H
      have c10b0 : decide (x10_1 < (l0.length : Int)) = true := decide_eq_true c10
      clear c10
      replace H := Option.bind_eq_some_iff.mp H
      obtain ⟨⟨t174, t175, t176, t177⟩, A110, H⟩ := H
      replace H : (if t177 = true then (if t175 = 3 then (z44.j1 k1 l0 a1 a2 x9_1 x10_1 true a1 2 (⟨#[]⟩ : ByteArray) x173003_1 t174 t175 t176) else (if t175 = 1 then (z44.j1 k1 l0 a1 a2 x9_1 x10_1 x9_1 a1 2 (⟨#[]⟩ : ByteArray) x173003_1 t174 t175 t176) else (z44.j1 k1 l0 a1 a2 x9_1 x10_1 false a1 2 (⟨#[]⟩ : ByteArray) x173003_1 t174 t175 t176))) else (z44.l0 k1 l0 a1 a2 x9_1 (wrap64 (x10_1 - 1)) a1 2 (⟨#[]⟩ : ByteArray) x173003_1)) = some (r1, r2, r3, r4, r5) := H
      have A11 := Aside0.mk A110
      clear A110
      by_cases c12 : t177 = true
      ·subst c12
       have H1 : (if t175 = 3 then (z44.j1 k1 l0 a1 a2 x9_1 x10_1 true a1 2 (⟨#[]⟩ : ByteArray) x173003_1 t174 t175 t176) else (if t175 = 1 then (z44.j1 k1 l0 a1 a2 x9_1 x10_1 x9_1 a1 2 (⟨#[]⟩ : ByteArray) x173003_1 t174 t175 t176) else (z44.j1 k1 l0 a1 a2 x9_1 x10_1 false a1 2 (⟨#[]⟩ : ByteArray) x173003_1 t174 t175 t176))) = some (r1, r2, r3, r4, r5) := by rw [if_pos rfl] at H; exact H
       clear H
       have H := H1
       clear H1
       have HC13 := Aside0.mk H
       clear H
       have p173 : 0 ≤ (x10_1 : Int) := of_decide_eq_true (by first | (with_reducible assumption) | assumption)
       have q173 : x10_1 < (l0.length : Int) := of_decide_eq_true (by first | (with_reducible assumption) | assumption)
       obtain ⟨ad173, A173_0, c173_0, e173, hx173_0, hl173_0, hi173_0⟩ := at_L4 HR0.out x10_1 p173 q173
       cases e173
       replace hx173_0 := (HB.out.cell (World.block_lt_of_cell? w _ hx173_0)).trans hx173_0
       have HR173_0 := Aside0.mk hi173_0
       have HC173_0 := Aside0.mk hl173_0
       clear hi173_0 hl173_0
       replace p173 := eq_true p173
       replace q173 := eq_true q173
       go_upto_region 7 with (first | ((with_reducible refine qg (f := 26) rfl ?_); refine goesL_ (some 30) rfl rfl Tryz.func26 (by kernel_rfl) rfl #[.slice A173_0 (rd_L4 l0 x10_1).length c173_0, .string a1] rfl (by (try simp only [List.map_toArray, List.map_cons, List.map_nil]); first | done | rfl | (simp only [List.length_drop, List.length_take]; rfl)) ?_; (with_reducible refine (z36.calls k1 _ _ (rd_L4 l0 x10_1) a1 t174 t175 t176 true _ ?side1 ?side2 A11.out).mono ?_); (case side1 => repeat (first | exact (Kd.C_below HR173_0.out HB.out) | (with_reducible refine Kd.C_alloc ?_ _) | (with_reducible refine Kd.C_drewN ?_ _) | (with_reducible refine Kd.C_drew ?_))); (case side2 => exact HC173_0.out); rintro e w14 ⟨rfl, hb⟩; refine ⟨_, rfl, ?_⟩; have n0_ := Aside0.mk (qb (g := gb171) (o := .cells #[.string x172000_1, .int .i64 x172001_1, .string x172002_1, .int .i64 x172003_1] 31 (0, 0)) (by (with_reducible repeat (first | refine qM ?_ _ | refine qW ?_ | refine qL ?_ _)); exact BK171.out) hb); have n1_ := Aside0.mk (qb (g := gb172) (o := .cells #[.string a1, .int .i64 2, .string (⟨#[]⟩ : ByteArray), .int .i64 x173003_1] 31 (0, 0)) (by (with_reducible repeat (first | refine qM ?_ _ | refine qW ?_ | refine qL ?_ _)); exact BK172.out) hb); have n2_ := Aside0.mk (qT (by repeat (first | (with_reducible first | exact HB.out | apply qA | apply qN | apply qD | refine qS ?_ GE171.out | refine qS ?_ GE172.out) | exact HB.out)) hb); clear BK171; clear BK172; clear HB; have BK171 := n0_; have BK172 := n1_; have HB := n2_; clear n0_ n1_ n2_; (try clear hb); (try clear hb2); (try clear hk); (try clear hi)) | ((with_reducible refine qd (N := 11) rfl ?_); refine qx ?hg (N := 11) ?hd (cs := #[.string (⟨#[]⟩ : ByteArray), .int .i64 0, .string (⟨#[]⟩ : ByteArray)]) (t := 26) ?hr ?_; (case hd => rfl); (case hg => rfl); (case hr => first | (go_simp; done) | (go_simp; rfl)); intro gb178 hg w15 hbox hb; have n0_ := Aside0.mk (qb (g := gb171) (o := .cells #[.string x172000_1, .int .i64 x172001_1, .string x172002_1, .int .i64 x172003_1] 31 (0, 0)) (by (with_reducible repeat (first | refine qM ?_ _ | refine qW ?_ | refine qL ?_ _)); exact BK171.out) hb); have n1_ := Aside0.mk (qb (g := gb172) (o := .cells #[.string a1, .int .i64 2, .string (⟨#[]⟩ : ByteArray), .int .i64 x173003_1] 31 (0, 0)) (by (with_reducible repeat (first | refine qM ?_ _ | refine qW ?_ | refine qL ?_ _)); exact BK172.out) hb); have n2_ := Aside0.mk (qT (by repeat (first | (with_reducible first | exact HB.out | apply qA | apply qN | apply qD | refine qS ?_ GE171.out | refine qS ?_ GE172.out) | exact HB.out)) hb); have n3_ := Aside0.mk (hbox); have n4_ := Aside0.mk ((by rw [hg]; exact (qZ (by repeat (first | (with_reducible first | exact HB.out | apply qA | apply qN | apply qD | refine qS ?_ GE171.out | refine qS ?_ GE172.out) | exact HB.out))) : w.heap.size ≤ gb178)); have n5_ := Aside0.mk ((by rw [hg]; exact (qZ (by repeat (first | (with_reducible first | exact HB.out | apply qA | apply qN | apply qD | refine qS ?_ GE171.out | refine qS ?_ GE172.out) | exact HB.out))) : w.heap.size ≤ gb178)); have n6_ := Aside0.mk ((by rw [hg]; exact Nat.ne_of_lt (blk_lt (g := gb171) (o := .cells #[.string x172000_1, .int .i64 x172001_1, .string x172002_1, .int .i64 x172003_1] 31 (0, 0)) (by (with_reducible repeat (first | refine qM ?_ _ | refine qW ?_ | refine qL ?_ _)); exact BK171.out)) : gb171 ≠ gb178)); have n7_ := Aside0.mk ((by rw [hg]; exact Nat.ne_of_gt (blk_lt (g := gb171) (o := .cells #[.string x172000_1, .int .i64 x172001_1, .string x172002_1, .int .i64 x172003_1] 31 (0, 0)) (by (with_reducible repeat (first | refine qM ?_ _ | refine qW ?_ | refine qL ?_ _)); exact BK171.out)) : gb178 ≠ gb171)); have n8_ := Aside0.mk ((by rw [hg]; exact Nat.ne_of_lt (blk_lt (g := gb172) (o := .cells #[.string a1, .int .i64 2, .string (⟨#[]⟩ : ByteArray), .int .i64 x173003_1] 31 (0, 0)) (by (with_reducible repeat (first | refine qM ?_ _ | refine qW ?_ | refine qL ?_ _)); exact BK172.out)) : gb172 ≠ gb178)); have n9_ := Aside0.mk ((by rw [hg]; exact Nat.ne_of_gt (blk_lt (g := gb172) (o := .cells #[.string a1, .int .i64 2, .string (⟨#[]⟩ : ByteArray), .int .i64 x173003_1] 31 (0, 0)) (by (with_reducible repeat (first | refine qM ?_ _ | refine qW ?_ | refine qL ?_ _)); exact BK172.out)) : gb178 ≠ gb172)); clear BK171; clear BK172; clear HB; have BK171 := n0_; have BK172 := n1_; have HB := n2_; have BK178 := n3_; have GW178 := n4_; have GE178 := n5_; have NB171_178 := n6_; have NB178_171 := n7_; have NB172_178 := n8_; have NB178_172 := n9_; clear n0_ n1_ n2_ n3_ n4_ n5_ n6_ n7_ n8_ n9_; clear hb hbox hg; have hnb16 := NB178_171.out; have hnc16 := NB171_178.out; have hnb17 := NB178_172.out; have hnc17 := NB172_178.out; have hcz18_0 : w15.cell? ⟨gb178, 0, none⟩ = some (.string (⟨#[]⟩ : ByteArray)) := (qC BK178.out 0).trans rfl; have hcz18_1 : w15.cell? ⟨gb178, 1, none⟩ = some (.int .i64 0) := (qC BK178.out 1).trans rfl; have hcz18_2 : w15.cell? ⟨gb178, 2, none⟩ = some (.string (⟨#[]⟩ : ByteArray)) := (qC BK178.out 2).trans rfl; have hfz18_0 := qF BK178.out 0; have hfz18_1 := qF BK178.out 1; have hfz18_2 := qF BK178.out 2))
       (try simp only [Act.put, List.setIfInBounds_toArray, List.set_cons_zero, List.set_cons_succ])
       go_cut [36] (fun v36 wc => ∃ (kq : Nat) (x36_12 : Bool), v36 = .bool x36_12 ∧ Aside0 (z44.j1 kq l0 a1 a2 x9_1 x10_1 x36_12 a1 2 (⟨#[]⟩ : ByteArray) x173003_1 t174 t175 t176 = some (r1, r2, r3, r4, r5)) ∧ Aside0 (kq ≤ k1) ∧ Aside0 (wc.heap[gb171]? = some (.cells #[.string x172000_1, .int .i64 x172001_1, .string x172002_1, .int .i64 x172003_1] 31 (0, 0))) ∧ Aside0 (wc.heap[gb172]? = some (.cells #[.string a1, .int .i64 2, .string (⟨#[]⟩ : ByteArray), .int .i64 x173003_1] 31 (0, 0))) ∧ Aside0 (wc.heap[gb178]? = some (.cells #[.string t174, .int .i64 t175, .string t176] 26 (0, 0))) ∧ Aside0 (Below w.heap.size w wc))
       case first =>
        have H := HC13.out
        clear HC13
        by_cases c19 : t175 = 3
        ·rw [if_pos c19] at H
         have c19b0 : (t175 == 3) = true := beq_iff_eq.mpr c19
         have c19b1 : (t175 != 3) = false := bne_eq_false_iff_eq.mpr c19
         clear c19
         (first | rw [c19b0] | (simp only [i64_w, i32_w]; rw [c19b0]) | skip)
         have H' := Aside0.mk H
         clear H
         have hnb20 := NB178_171.out
         have hnc20 := NB171_178.out
         have hnb21 := NB178_172.out
         have hnc21 := NB172_178.out
         have hcz22_0 : w15.cell? ⟨gb178, 0, none⟩ = some (.string (⟨#[]⟩ : ByteArray)) := (qC BK178.out 0).trans rfl
         have hcz22_1 : w15.cell? ⟨gb178, 1, none⟩ = some (.int .i64 0) := (qC BK178.out 1).trans rfl
         have hcz22_2 : w15.cell? ⟨gb178, 2, none⟩ = some (.string (⟨#[]⟩ : ByteArray)) := (qC BK178.out 2).trans rfl
         have hfz22_0 := qF BK178.out 0
         have hfz22_1 := qF BK178.out 1
         have hfz22_2 := qF BK178.out 2
         go_wp2_with (first | go_step3)
         go_meet
         case rel => exact ⟨_, (true), (by first | rfl | (simp; done) | (simp [*]; done)), H', ⟨by have := HK1.out; first | omega | exact Nat.le_refl _⟩, ⟨by (with_reducible repeat (first | refine qM ?_ _ | refine qW ?_ | refine qL ?_ _)); refine qv ?_ NB171_178.out _; (with_reducible repeat (first | refine qM ?_ _ | refine qW ?_ | refine qL ?_ _)); refine qv ?_ NB171_178.out _; (with_reducible repeat (first | refine qM ?_ _ | refine qW ?_ | refine qL ?_ _)); refine qv ?_ NB171_178.out _; (with_reducible repeat (first | refine qM ?_ _ | refine qW ?_ | refine qL ?_ _)); exact BK171.out⟩, ⟨by (with_reducible repeat (first | refine qM ?_ _ | refine qW ?_ | refine qL ?_ _)); refine qv ?_ NB172_178.out _; (with_reducible repeat (first | refine qM ?_ _ | refine qW ?_ | refine qL ?_ _)); refine qv ?_ NB172_178.out _; (with_reducible repeat (first | refine qM ?_ _ | refine qW ?_ | refine qL ?_ _)); refine qv ?_ NB172_178.out _; (with_reducible repeat (first | refine qM ?_ _ | refine qW ?_ | refine qL ?_ _)); exact BK172.out⟩, ⟨by (with_reducible repeat (first | refine qM ?_ _ | refine qW ?_ | refine qL ?_ _)); refine qu (cs := #[.string t174, .int .i64 t175, .string (⟨#[]⟩ : ByteArray)]) ?_ 2 _ rfl; (with_reducible repeat (first | refine qM ?_ _ | refine qW ?_ | refine qL ?_ _)); refine qu (cs := #[.string t174, .int .i64 0, .string (⟨#[]⟩ : ByteArray)]) ?_ 1 _ rfl; (with_reducible repeat (first | refine qM ?_ _ | refine qW ?_ | refine qL ?_ _)); refine qu (cs := #[.string (⟨#[]⟩ : ByteArray), .int .i64 0, .string (⟨#[]⟩ : ByteArray)]) ?_ 0 _ rfl; (with_reducible repeat (first | refine qM ?_ _ | refine qW ?_ | refine qL ?_ _)); exact BK178.out⟩, ⟨by repeat (first | (with_reducible first | exact HB.out | apply qA | apply qN | apply qD | refine qS ?_ GE171.out | refine qS ?_ GE172.out | refine qS ?_ GE178.out) | exact HB.out)⟩⟩
        ·rw [if_neg c19] at H
         have c19b0 : (t175 == 3) = false := beq_eq_false_iff_ne.mpr c19
         have c19b1 : (t175 != 3) = true := bne_iff_ne.mpr c19
         (first | rw [c19b0] | (simp only [i64_w, i32_w]; rw [c19b0]) | skip)
         by_cases c23 : t175 = 1
         ·rw [if_pos c23] at H
          have c23b0 : (t175 == 1) = true := beq_iff_eq.mpr c23
          have c23b1 : (t175 != 1) = false := bne_eq_false_iff_eq.mpr c23
          clear c23
          have H' := Aside0.mk H
          clear H
          have hnb24 := NB178_171.out
          have hnc24 := NB171_178.out
          have hnb25 := NB178_172.out
          have hnc25 := NB172_178.out
          have hcz26_0 : w15.cell? ⟨gb178, 0, none⟩ = some (.string (⟨#[]⟩ : ByteArray)) := (qC BK178.out 0).trans rfl
          have hcz26_1 : w15.cell? ⟨gb178, 1, none⟩ = some (.int .i64 0) := (qC BK178.out 1).trans rfl
          have hcz26_2 : w15.cell? ⟨gb178, 2, none⟩ = some (.string (⟨#[]⟩ : ByteArray)) := (qC BK178.out 2).trans rfl
          have hfz26_0 := qF BK178.out 0
          have hfz26_1 := qF BK178.out 1
          have hfz26_2 := qF BK178.out 2
          go_wp2_with (first | go_step3)
          go_meet
          case rel => exact ⟨_, (x9_1), (by first | rfl | (simp; done) | (simp [*]; done)), H', ⟨by have := HK1.out; first | omega | exact Nat.le_refl _⟩, ⟨by (with_reducible repeat (first | refine qM ?_ _ | refine qW ?_ | refine qL ?_ _)); refine qv ?_ NB171_178.out _; (with_reducible repeat (first | refine qM ?_ _ | refine qW ?_ | refine qL ?_ _)); refine qv ?_ NB171_178.out _; (with_reducible repeat (first | refine qM ?_ _ | refine qW ?_ | refine qL ?_ _)); refine qv ?_ NB171_178.out _; (with_reducible repeat (first | refine qM ?_ _ | refine qW ?_ | refine qL ?_ _)); exact BK171.out⟩, ⟨by (with_reducible repeat (first | refine qM ?_ _ | refine qW ?_ | refine qL ?_ _)); refine qv ?_ NB172_178.out _; (with_reducible repeat (first | refine qM ?_ _ | refine qW ?_ | refine qL ?_ _)); refine qv ?_ NB172_178.out _; (with_reducible repeat (first | refine qM ?_ _ | refine qW ?_ | refine qL ?_ _)); refine qv ?_ NB172_178.out _; (with_reducible repeat (first | refine qM ?_ _ | refine qW ?_ | refine qL ?_ _)); exact BK172.out⟩, ⟨by (with_reducible repeat (first | refine qM ?_ _ | refine qW ?_ | refine qL ?_ _)); refine qu (cs := #[.string t174, .int .i64 t175, .string (⟨#[]⟩ : ByteArray)]) ?_ 2 _ rfl; (with_reducible repeat (first | refine qM ?_ _ | refine qW ?_ | refine qL ?_ _)); refine qu (cs := #[.string t174, .int .i64 0, .string (⟨#[]⟩ : ByteArray)]) ?_ 1 _ rfl; (with_reducible repeat (first | refine qM ?_ _ | refine qW ?_ | refine qL ?_ _)); refine qu (cs := #[.string (⟨#[]⟩ : ByteArray), .int .i64 0, .string (⟨#[]⟩ : ByteArray)]) ?_ 0 _ rfl; (with_reducible repeat (first | refine qM ?_ _ | refine qW ?_ | refine qL ?_ _)); exact BK178.out⟩, ⟨by repeat (first | (with_reducible first | exact HB.out | apply qA | apply qN | apply qD | refine qS ?_ GE171.out | refine qS ?_ GE172.out | refine qS ?_ GE178.out) | exact HB.out)⟩⟩
         ·rw [if_neg c23] at H
          have c23b0 : (t175 == 1) = false := beq_eq_false_iff_ne.mpr c23
          have c23b1 : (t175 != 1) = true := bne_iff_ne.mpr c23
          have H' := Aside0.mk H
          clear H
          have hnb27 := NB178_171.out
          have hnc27 := NB171_178.out
          have hnb28 := NB178_172.out
          have hnc28 := NB172_178.out
          have hcz29_0 : w15.cell? ⟨gb178, 0, none⟩ = some (.string (⟨#[]⟩ : ByteArray)) := (qC BK178.out 0).trans rfl
          have hcz29_1 : w15.cell? ⟨gb178, 1, none⟩ = some (.int .i64 0) := (qC BK178.out 1).trans rfl
          have hcz29_2 : w15.cell? ⟨gb178, 2, none⟩ = some (.string (⟨#[]⟩ : ByteArray)) := (qC BK178.out 2).trans rfl
          have hfz29_0 := qF BK178.out 0
          have hfz29_1 := qF BK178.out 1
          have hfz29_2 := qF BK178.out 2
          go_wp2_with (first | go_step3)
          go_meet
          case rel => exact ⟨_, (false), (by first | rfl | (simp; done) | (simp [*]; done)), H', ⟨by have := HK1.out; first | omega | exact Nat.le_refl _⟩, ⟨by (with_reducible repeat (first | refine qM ?_ _ | refine qW ?_ | refine qL ?_ _)); refine qv ?_ NB171_178.out _; (with_reducible repeat (first | refine qM ?_ _ | refine qW ?_ | refine qL ?_ _)); refine qv ?_ NB171_178.out _; (with_reducible repeat (first | refine qM ?_ _ | refine qW ?_ | refine qL ?_ _)); refine qv ?_ NB171_178.out _; (with_reducible repeat (first | refine qM ?_ _ | refine qW ?_ | refine qL ?_ _)); exact BK171.out⟩, ⟨by (with_reducible repeat (first | refine qM ?_ _ | refine qW ?_ | refine qL ?_ _)); refine qv ?_ NB172_178.out _; (with_reducible repeat (first | refine qM ?_ _ | refine qW ?_ | refine qL ?_ _)); refine qv ?_ NB172_178.out _; (with_reducible repeat (first | refine qM ?_ _ | refine qW ?_ | refine qL ?_ _)); refine qv ?_ NB172_178.out _; (with_reducible repeat (first | refine qM ?_ _ | refine qW ?_ | refine qL ?_ _)); exact BK172.out⟩, ⟨by (with_reducible repeat (first | refine qM ?_ _ | refine qW ?_ | refine qL ?_ _)); refine qu (cs := #[.string t174, .int .i64 t175, .string (⟨#[]⟩ : ByteArray)]) ?_ 2 _ rfl; (with_reducible repeat (first | refine qM ?_ _ | refine qW ?_ | refine qL ?_ _)); refine qu (cs := #[.string t174, .int .i64 0, .string (⟨#[]⟩ : ByteArray)]) ?_ 1 _ rfl; (with_reducible repeat (first | refine qM ?_ _ | refine qW ?_ | refine qL ?_ _)); refine qu (cs := #[.string (⟨#[]⟩ : ByteArray), .int .i64 0, .string (⟨#[]⟩ : ByteArray)]) ?_ 0 _ rfl; (with_reducible repeat (first | refine qM ?_ _ | refine qW ?_ | refine qL ?_ _)); exact BK178.out⟩, ⟨by repeat (first | (with_reducible first | exact HB.out | apply qA | apply qN | apply qD | refine qS ?_ GE171.out | refine qS ?_ GE172.out | refine qS ?_ GE178.out) | exact HB.out)⟩⟩
       case rest =>
        clear HC13
        try clear c1
        try clear p1
        try clear q1
        try clear hx1
        try clear c2
        try clear p2
        try clear c3
        try clear c6
        try clear p6
        try clear c8
        try clear c8b0
        try clear c9
        try clear c9b0
        try clear c10
        try clear c10b0
        try clear c12
        try clear c16
        try clear c17
        try clear p17
        try clear q17
        try clear hx17
        try clear c19
        try clear c19b0
        try clear c19b1
        try clear c20
        try clear c21
        try clear c23
        try clear c23b0
        try clear c23b1
        try clear c24
        try clear c25
        try clear c26
        try clear c27
        try clear c28
        try clear hcz18_0
        try clear hcz18_1
        try clear hcz18_2
        try clear hcz22_0
        try clear hcz22_1
        try clear hcz22_2
        try clear hcz26_0
        try clear hcz26_1
        try clear hcz26_2
        try clear hcz29_0
        try clear hcz29_1
        try clear hcz29_2
        try clear hcz7_0
        try clear hcz7_1
        try clear hcz7_2
        try clear hcz7_3
        try clear hfz18_0
        try clear hfz18_1
        try clear hfz18_2
        try clear hfz22_0
        try clear hfz22_1
        try clear hfz22_2
        try clear hfz26_0
        try clear hfz26_1
        try clear hfz26_2
        try clear hfz29_0
        try clear hfz29_1
        try clear hfz29_2
        try clear hfz7_0
        try clear hfz7_1
        try clear hfz7_2
        try clear hfz7_3
        try clear hx173_0
        try clear p173
        try clear p2
        try clear p6
        try clear q173
        obtain ⟨kq, x36_12, rfl, HA, HJ12, BK171, BK172, BK178, HB⟩ := hcut
        cases kq with
        | zero => exact absurd HA.out (by simp [z44.j1])
        | succ kj12 =>
         have H := HA.out
         clear HA
         simp only [z44.j1] at H
         by_cases c30 : x36_12 = true
         ·subst c30
          have H1 : (some (a1, 2, (⟨#[]⟩ : ByteArray), x173003_1, x9_1)) = some (r1, r2, r3, r4, r5) := by rw [if_pos rfl] at H; exact H
          clear H
          have H := H1
          clear H1
          simp only [Option.some.injEq, Prod.mk.injEq] at H
          obtain ⟨rfl, rfl, rfl, rfl, rfl⟩ := H
          have hnb31 := NB172_171.out
          have hnc31 := NB171_172.out
          have hnb32 := NB172_178.out
          have hnc32 := NB178_172.out
          have hcz33_0 : wc.cell? ⟨gb172, 0, none⟩ = some (.string a1) := (qC BK172.out 0).trans rfl
          have hcz33_1 : wc.cell? ⟨gb172, 1, none⟩ = some (.int .i64 2) := (qC BK172.out 1).trans rfl
          have hcz33_2 : wc.cell? ⟨gb172, 2, none⟩ = some (.string (⟨#[]⟩ : ByteArray)) := (qC BK172.out 2).trans rfl
          have hcz33_3 : wc.cell? ⟨gb172, 3, none⟩ = some (.int .i64 x173003_1) := (qC BK172.out 3).trans rfl
          have hfz33_0 := qF BK172.out 0
          have hfz33_1 := qF BK172.out 1
          have hfz33_2 := qF BK172.out 2
          have hfz33_3 := qF BK172.out 3
          have hnb34 := NB171_178.out
          have hnc34 := NB178_171.out
          have hcz35_0 : wc.cell? ⟨gb171, 0, none⟩ = some (.string x172000_1) := (qC BK171.out 0).trans rfl
          have hcz35_1 : wc.cell? ⟨gb171, 1, none⟩ = some (.int .i64 x172001_1) := (qC BK171.out 1).trans rfl
          have hcz35_2 : wc.cell? ⟨gb171, 2, none⟩ = some (.string x172002_1) := (qC BK171.out 2).trans rfl
          have hcz35_3 : wc.cell? ⟨gb171, 3, none⟩ = some (.int .i64 x172003_1) := (qC BK171.out 3).trans rfl
          have hfz35_0 := qF BK171.out 0
          have hfz35_1 := qF BK171.out 1
          have hfz35_2 := qF BK171.out 2
          have hfz35_3 := qF BK171.out 3
          go_wp2_with (first | go_step3)
          (try simp only [Exit.noGoto_ret]); (try change bodyPost _ _ _ _ _ _); refine bodyPost_ret (results_ct rfl _ _ gb171 31 #[.string a1, .int .i64 2, .string (⟨#[]⟩ : ByteArray), .int .i64 x173003_1] (0, 0) _ rfl (by (with_reducible repeat (first | refine qM ?_ _ | refine qW ?_ | refine qL ?_ _)); refine qu (cs := #[.string a1, .int .i64 2, .string (⟨#[]⟩ : ByteArray), .int .i64 x172003_1]) ?_ 3 _ rfl; (with_reducible repeat (first | refine qM ?_ _ | refine qW ?_ | refine qL ?_ _)); refine qu (cs := #[.string a1, .int .i64 2, .string x172002_1, .int .i64 x172003_1]) ?_ 2 _ rfl; (with_reducible repeat (first | refine qM ?_ _ | refine qW ?_ | refine qL ?_ _)); refine qu (cs := #[.string a1, .int .i64 x172001_1, .string x172002_1, .int .i64 x172003_1]) ?_ 1 _ rfl; (with_reducible repeat (first | refine qM ?_ _ | refine qW ?_ | refine qL ?_ _)); refine qu (cs := #[.string x172000_1, .int .i64 x172001_1, .string x172002_1, .int .i64 x172003_1]) ?_ 0 _ rfl; (with_reducible repeat (first | refine qM ?_ _ | refine qW ?_ | refine qL ?_ _)); exact BK171.out) Tryz.underlying31 rfl (by kernel_rfl)) rfl ?_
          exact ⟨by first | rfl | (simp [qn, qe] <;> rfl) | (simp [*, qn, qe] <;> rfl), by repeat (first | (with_reducible first | exact HB.out | apply qA | apply qN | apply qD | refine qS ?_ GE171.out | refine qS ?_ GE172.out | refine qS ?_ GE178.out) | exact HB.out)⟩
         ·replace c30 := Bool.eq_false_iff.mpr c30
          subst c30
          have H1 : (if t175 = 1 then (some (t174, t175, t176, x10_1, true)) else (if t175 = 4 then (some (a1, 2, (⟨#[]⟩ : ByteArray), x10_1, true)) else (z44.l0 kj12 l0 a1 a2 true (wrap64 (x10_1 - 1)) a1 2 (⟨#[]⟩ : ByteArray) x10_1))) = some (r1, r2, r3, r4, r5) := by rw [if_neg (show ¬ (false = true) by decide)] at H; exact H
          clear H
          have H := H1
          clear H1
          by_cases c36 : t175 = 1
          ·rw [if_pos c36] at H
           have c36b0 : (t175 == 1) = true := beq_iff_eq.mpr c36
           have c36b1 : (t175 != 1) = false := bne_eq_false_iff_eq.mpr c36
           clear c36
           simp only [Option.some.injEq, Prod.mk.injEq] at H
           obtain ⟨rfl, rfl, rfl, rfl, rfl⟩ := H
           have hnb37 := NB178_171.out
           have hnc37 := NB171_178.out
           have hnb38 := NB178_172.out
           have hnc38 := NB172_178.out
           have hcz39_0 : wc.cell? ⟨gb178, 0, none⟩ = some (.string t174) := (qC BK178.out 0).trans rfl
           have hcz39_1 : wc.cell? ⟨gb178, 1, none⟩ = some (.int .i64 t175) := (qC BK178.out 1).trans rfl
           have hcz39_2 : wc.cell? ⟨gb178, 2, none⟩ = some (.string t176) := (qC BK178.out 2).trans rfl
           have hfz39_0 := qF BK178.out 0
           have hfz39_1 := qF BK178.out 1
           have hfz39_2 := qF BK178.out 2
           have hnb40 := NB171_172.out
           have hnc40 := NB172_171.out
           have hcz41_0 : wc.cell? ⟨gb171, 0, none⟩ = some (.string x172000_1) := (qC BK171.out 0).trans rfl
           have hcz41_1 : wc.cell? ⟨gb171, 1, none⟩ = some (.int .i64 x172001_1) := (qC BK171.out 1).trans rfl
           have hcz41_2 : wc.cell? ⟨gb171, 2, none⟩ = some (.string x172002_1) := (qC BK171.out 2).trans rfl
           have hcz41_3 : wc.cell? ⟨gb171, 3, none⟩ = some (.int .i64 x172003_1) := (qC BK171.out 3).trans rfl
           have hfz41_0 := qF BK171.out 0
           have hfz41_1 := qF BK171.out 1
           have hfz41_2 := qF BK171.out 2
           have hfz41_3 := qF BK171.out 3
           go_wp2_with (first | go_step3)
           (try simp only [Exit.noGoto_ret]); (try change bodyPost _ _ _ _ _ _); refine bodyPost_ret (results_ct rfl _ _ gb171 31 #[.string t174, .int .i64 t175, .string t176, .int .i64 x10_1] (0, 0) _ rfl (by (with_reducible repeat (first | refine qM ?_ _ | refine qW ?_ | refine qL ?_ _)); refine qu (cs := #[.string t174, .int .i64 t175, .string t176, .int .i64 x172003_1]) ?_ 3 _ rfl; (with_reducible repeat (first | refine qM ?_ _ | refine qW ?_ | refine qL ?_ _)); refine qu (cs := #[.string t174, .int .i64 t175, .string x172002_1, .int .i64 x172003_1]) ?_ 2 _ rfl; (with_reducible repeat (first | refine qM ?_ _ | refine qW ?_ | refine qL ?_ _)); refine qu (cs := #[.string t174, .int .i64 x172001_1, .string x172002_1, .int .i64 x172003_1]) ?_ 1 _ rfl; (with_reducible repeat (first | refine qM ?_ _ | refine qW ?_ | refine qL ?_ _)); refine qu (cs := #[.string x172000_1, .int .i64 x172001_1, .string x172002_1, .int .i64 x172003_1]) ?_ 0 _ rfl; (with_reducible repeat (first | refine qM ?_ _ | refine qW ?_ | refine qL ?_ _)); exact BK171.out) Tryz.underlying31 rfl (by kernel_rfl)) rfl ?_
           exact ⟨by first | rfl | (simp [qn, qe] <;> rfl) | (simp [*, qn, qe] <;> rfl), by repeat (first | (with_reducible first | exact HB.out | apply qA | apply qN | apply qD | refine qS ?_ GE171.out | refine qS ?_ GE172.out | refine qS ?_ GE178.out) | exact HB.out)⟩
          ·rw [if_neg c36] at H
           have c36b0 : (t175 == 1) = false := beq_eq_false_iff_ne.mpr c36
           have c36b1 : (t175 != 1) = true := bne_iff_ne.mpr c36
           by_cases c42 : t175 = 4
           ·rw [if_pos c42] at H
            have c42b0 : (t175 == 4) = true := beq_iff_eq.mpr c42
            have c42b1 : (t175 != 4) = false := bne_eq_false_iff_eq.mpr c42
            clear c42
            simp only [Option.some.injEq, Prod.mk.injEq] at H
            obtain ⟨rfl, rfl, rfl, rfl, rfl⟩ := H
            have hnb43 := NB178_171.out
            have hnc43 := NB171_178.out
            have hnb44 := NB178_172.out
            have hnc44 := NB172_178.out
            have hcz45_0 : wc.cell? ⟨gb178, 0, none⟩ = some (.string t174) := (qC BK178.out 0).trans rfl
            have hcz45_1 : wc.cell? ⟨gb178, 1, none⟩ = some (.int .i64 t175) := (qC BK178.out 1).trans rfl
            have hcz45_2 : wc.cell? ⟨gb178, 2, none⟩ = some (.string t176) := (qC BK178.out 2).trans rfl
            have hfz45_0 := qF BK178.out 0
            have hfz45_1 := qF BK178.out 1
            have hfz45_2 := qF BK178.out 2
            have hnb46 := NB172_171.out
            have hnc46 := NB171_172.out
            have hcz47_0 : wc.cell? ⟨gb172, 0, none⟩ = some (.string a1) := (qC BK172.out 0).trans rfl
            have hcz47_1 : wc.cell? ⟨gb172, 1, none⟩ = some (.int .i64 2) := (qC BK172.out 1).trans rfl
            have hcz47_2 : wc.cell? ⟨gb172, 2, none⟩ = some (.string (⟨#[]⟩ : ByteArray)) := (qC BK172.out 2).trans rfl
            have hcz47_3 : wc.cell? ⟨gb172, 3, none⟩ = some (.int .i64 x173003_1) := (qC BK172.out 3).trans rfl
            have hfz47_0 := qF BK172.out 0
            have hfz47_1 := qF BK172.out 1
            have hfz47_2 := qF BK172.out 2
            have hfz47_3 := qF BK172.out 3
            have hcz48_0 : wc.cell? ⟨gb171, 0, none⟩ = some (.string x172000_1) := (qC BK171.out 0).trans rfl
            have hcz48_1 : wc.cell? ⟨gb171, 1, none⟩ = some (.int .i64 x172001_1) := (qC BK171.out 1).trans rfl
            have hcz48_2 : wc.cell? ⟨gb171, 2, none⟩ = some (.string x172002_1) := (qC BK171.out 2).trans rfl
            have hcz48_3 : wc.cell? ⟨gb171, 3, none⟩ = some (.int .i64 x172003_1) := (qC BK171.out 3).trans rfl
            have hfz48_0 := qF BK171.out 0
            have hfz48_1 := qF BK171.out 1
            have hfz48_2 := qF BK171.out 2
            have hfz48_3 := qF BK171.out 3
            go_wp2_with (first | go_step3)
            (try simp only [Exit.noGoto_ret]); (try change bodyPost _ _ _ _ _ _); refine bodyPost_ret (results_ct rfl _ _ gb171 31 #[.string a1, .int .i64 2, .string (⟨#[]⟩ : ByteArray), .int .i64 x10_1] (0, 0) _ rfl (by (with_reducible repeat (first | refine qM ?_ _ | refine qW ?_ | refine qL ?_ _)); refine qu (cs := #[.string a1, .int .i64 2, .string (⟨#[]⟩ : ByteArray), .int .i64 x172003_1]) ?_ 3 _ rfl; (with_reducible repeat (first | refine qM ?_ _ | refine qW ?_ | refine qL ?_ _)); refine qu (cs := #[.string a1, .int .i64 2, .string x172002_1, .int .i64 x172003_1]) ?_ 2 _ rfl; (with_reducible repeat (first | refine qM ?_ _ | refine qW ?_ | refine qL ?_ _)); refine qu (cs := #[.string a1, .int .i64 x172001_1, .string x172002_1, .int .i64 x172003_1]) ?_ 1 _ rfl; (with_reducible repeat (first | refine qM ?_ _ | refine qW ?_ | refine qL ?_ _)); refine qu (cs := #[.string x172000_1, .int .i64 x172001_1, .string x172002_1, .int .i64 x172003_1]) ?_ 0 _ rfl; (with_reducible repeat (first | refine qM ?_ _ | refine qW ?_ | refine qL ?_ _)); refine qv ?_ NB171_172.out _; (with_reducible repeat (first | refine qM ?_ _ | refine qW ?_ | refine qL ?_ _)); exact BK171.out) Tryz.underlying31 rfl (by kernel_rfl)) rfl ?_
            exact ⟨by first | rfl | (simp [qn, qe] <;> rfl) | (simp [*, qn, qe] <;> rfl), by repeat (first | (with_reducible first | exact HB.out | apply qA | apply qN | apply qD | refine qS ?_ GE171.out | refine qS ?_ GE172.out | refine qS ?_ GE178.out) | exact HB.out)⟩
           ·rw [if_neg c42] at H
            have c42b0 : (t175 == 4) = false := beq_eq_false_iff_ne.mpr c42
            have c42b1 : (t175 != 4) = true := bne_iff_ne.mpr c42
            have H' := Aside0.mk H
            clear H
            have hnb49 := NB178_171.out
            have hnc49 := NB171_178.out
            have hnb50 := NB178_172.out
            have hnc50 := NB172_178.out
            have hcz51_0 : wc.cell? ⟨gb178, 0, none⟩ = some (.string t174) := (qC BK178.out 0).trans rfl
            have hcz51_1 : wc.cell? ⟨gb178, 1, none⟩ = some (.int .i64 t175) := (qC BK178.out 1).trans rfl
            have hcz51_2 : wc.cell? ⟨gb178, 2, none⟩ = some (.string t176) := (qC BK178.out 2).trans rfl
            have hfz51_0 := qF BK178.out 0
            have hfz51_1 := qF BK178.out 1
            have hfz51_2 := qF BK178.out 2
            have hnb52 := NB172_171.out
            have hnc52 := NB171_172.out
            have hcz53_0 : wc.cell? ⟨gb172, 0, none⟩ = some (.string a1) := (qC BK172.out 0).trans rfl
            have hcz53_1 : wc.cell? ⟨gb172, 1, none⟩ = some (.int .i64 2) := (qC BK172.out 1).trans rfl
            have hcz53_2 : wc.cell? ⟨gb172, 2, none⟩ = some (.string (⟨#[]⟩ : ByteArray)) := (qC BK172.out 2).trans rfl
            have hcz53_3 : wc.cell? ⟨gb172, 3, none⟩ = some (.int .i64 x173003_1) := (qC BK172.out 3).trans rfl
            have hfz53_0 := qF BK172.out 0
            have hfz53_1 := qF BK172.out 1
            have hfz53_2 := qF BK172.out 2
            have hfz53_3 := qF BK172.out 3
            go_wp2_with (first | go_step3)
            go_roundg kj12
            case measure => have := HK1.out; have := HJ12.out; omega
            case rel => exact ⟨(true), (wrap64 (x10_1 - 1)), (x172000_1), (x172001_1), (x172002_1), (x172003_1), (x10_1), (by first | rfl | (simp; done) | (simp [*]; done)), (by first | rfl | (simp; done) | (simp [*]; done)), H', ⟨by have := HK1.out; have := HJ12.out; omega⟩, ⟨by (with_reducible repeat (first | refine qM ?_ _ | refine qW ?_ | refine qL ?_ _)); refine qv ?_ NB171_172.out _; (with_reducible repeat (first | refine qM ?_ _ | refine qW ?_ | refine qL ?_ _)); exact BK171.out⟩, ⟨by (with_reducible repeat (first | refine qM ?_ _ | refine qW ?_ | refine qL ?_ _)); refine qu (cs := #[.string a1, .int .i64 2, .string (⟨#[]⟩ : ByteArray), .int .i64 x173003_1]) ?_ 3 _ rfl; (with_reducible repeat (first | refine qM ?_ _ | refine qW ?_ | refine qL ?_ _)); exact BK172.out⟩, ⟨by repeat (first | (with_reducible first | exact HB.out | apply qA | apply qN | apply qD | refine qS ?_ GE171.out | refine qS ?_ GE172.out | refine qS ?_ GE178.out) | exact HB.out)⟩⟩
      ·replace c12 := Bool.eq_false_iff.mpr c12
       subst c12
       have H1 : (z44.l0 k1 l0 a1 a2 x9_1 (wrap64 (x10_1 - 1)) a1 2 (⟨#[]⟩ : ByteArray) x173003_1) = some (r1, r2, r3, r4, r5) := by rw [if_neg (show ¬ (false = true) by decide)] at H; exact H
       clear H
       have H := H1
       clear H1
       have H' := Aside0.mk H
       clear H
       have p173 : 0 ≤ (x10_1 : Int) := of_decide_eq_true (by first | (with_reducible assumption) | assumption)
       have q173 : x10_1 < (l0.length : Int) := of_decide_eq_true (by first | (with_reducible assumption) | assumption)
       obtain ⟨ad173, A173_0, c173_0, e173, hx173_0, hl173_0, hi173_0⟩ := at_L4 HR0.out x10_1 p173 q173
       cases e173
       replace hx173_0 := (HB.out.cell (World.block_lt_of_cell? w _ hx173_0)).trans hx173_0
       have HR173_0 := Aside0.mk hi173_0
       have HC173_0 := Aside0.mk hl173_0
       clear hi173_0 hl173_0
       replace p173 := eq_true p173
       replace q173 := eq_true q173
       go_wp2_with (first | go_step3 | ((with_reducible refine qg (f := 26) rfl ?_); refine goesL_ (some 30) rfl rfl Tryz.func26 (by kernel_rfl) rfl #[.slice A173_0 (rd_L4 l0 x10_1).length c173_0, .string a1] rfl (by (try simp only [List.map_toArray, List.map_cons, List.map_nil]); first | done | rfl | (simp only [List.length_drop, List.length_take]; rfl)) ?_; (with_reducible refine (z36.calls k1 _ _ (rd_L4 l0 x10_1) a1 t174 t175 t176 false _ ?side1 ?side2 A11.out).mono ?_); (case side1 => repeat (first | exact (Kd.C_below HR173_0.out HB.out) | (with_reducible refine Kd.C_alloc ?_ _) | (with_reducible refine Kd.C_drewN ?_ _) | (with_reducible refine Kd.C_drew ?_))); (case side2 => exact HC173_0.out); rintro e w54 ⟨rfl, hb⟩; refine ⟨_, rfl, ?_⟩; have n0_ := Aside0.mk (qb (g := gb171) (o := .cells #[.string x172000_1, .int .i64 x172001_1, .string x172002_1, .int .i64 x172003_1] 31 (0, 0)) (by (with_reducible repeat (first | refine qM ?_ _ | refine qW ?_ | refine qL ?_ _)); exact BK171.out) hb); have n1_ := Aside0.mk (qb (g := gb172) (o := .cells #[.string a1, .int .i64 2, .string (⟨#[]⟩ : ByteArray), .int .i64 x173003_1] 31 (0, 0)) (by (with_reducible repeat (first | refine qM ?_ _ | refine qW ?_ | refine qL ?_ _)); exact BK172.out) hb); have n2_ := Aside0.mk (qT (by repeat (first | (with_reducible first | exact HB.out | apply qA | apply qN | apply qD | refine qS ?_ GE171.out | refine qS ?_ GE172.out) | exact HB.out)) hb); clear BK171; clear BK172; clear HB; have BK171 := n0_; have BK172 := n1_; have HB := n2_; clear n0_ n1_ n2_; (try clear hb); (try clear hb2); (try clear hk); (try clear hi)) | ((with_reducible refine qd (N := 11) rfl ?_); refine qx ?hg (N := 11) ?hd (cs := #[.string (⟨#[]⟩ : ByteArray), .int .i64 0, .string (⟨#[]⟩ : ByteArray)]) (t := 26) ?hr ?_; (case hd => rfl); (case hg => rfl); (case hr => first | (go_simp; done) | (go_simp; rfl)); intro gb178 hg w55 hbox hb; have n0_ := Aside0.mk (qb (g := gb171) (o := .cells #[.string x172000_1, .int .i64 x172001_1, .string x172002_1, .int .i64 x172003_1] 31 (0, 0)) (by (with_reducible repeat (first | refine qM ?_ _ | refine qW ?_ | refine qL ?_ _)); exact BK171.out) hb); have n1_ := Aside0.mk (qb (g := gb172) (o := .cells #[.string a1, .int .i64 2, .string (⟨#[]⟩ : ByteArray), .int .i64 x173003_1] 31 (0, 0)) (by (with_reducible repeat (first | refine qM ?_ _ | refine qW ?_ | refine qL ?_ _)); exact BK172.out) hb); have n2_ := Aside0.mk (qT (by repeat (first | (with_reducible first | exact HB.out | apply qA | apply qN | apply qD | refine qS ?_ GE171.out | refine qS ?_ GE172.out) | exact HB.out)) hb); have n3_ := Aside0.mk (hbox); have n4_ := Aside0.mk ((by rw [hg]; exact (qZ (by repeat (first | (with_reducible first | exact HB.out | apply qA | apply qN | apply qD | refine qS ?_ GE171.out | refine qS ?_ GE172.out) | exact HB.out))) : w.heap.size ≤ gb178)); have n5_ := Aside0.mk ((by rw [hg]; exact (qZ (by repeat (first | (with_reducible first | exact HB.out | apply qA | apply qN | apply qD | refine qS ?_ GE171.out | refine qS ?_ GE172.out) | exact HB.out))) : w.heap.size ≤ gb178)); have n6_ := Aside0.mk ((by rw [hg]; exact Nat.ne_of_lt (blk_lt (g := gb171) (o := .cells #[.string x172000_1, .int .i64 x172001_1, .string x172002_1, .int .i64 x172003_1] 31 (0, 0)) (by (with_reducible repeat (first | refine qM ?_ _ | refine qW ?_ | refine qL ?_ _)); exact BK171.out)) : gb171 ≠ gb178)); have n7_ := Aside0.mk ((by rw [hg]; exact Nat.ne_of_gt (blk_lt (g := gb171) (o := .cells #[.string x172000_1, .int .i64 x172001_1, .string x172002_1, .int .i64 x172003_1] 31 (0, 0)) (by (with_reducible repeat (first | refine qM ?_ _ | refine qW ?_ | refine qL ?_ _)); exact BK171.out)) : gb178 ≠ gb171)); have n8_ := Aside0.mk ((by rw [hg]; exact Nat.ne_of_lt (blk_lt (g := gb172) (o := .cells #[.string a1, .int .i64 2, .string (⟨#[]⟩ : ByteArray), .int .i64 x173003_1] 31 (0, 0)) (by (with_reducible repeat (first | refine qM ?_ _ | refine qW ?_ | refine qL ?_ _)); exact BK172.out)) : gb172 ≠ gb178)); have n9_ := Aside0.mk ((by rw [hg]; exact Nat.ne_of_gt (blk_lt (g := gb172) (o := .cells #[.string a1, .int .i64 2, .string (⟨#[]⟩ : ByteArray), .int .i64 x173003_1] 31 (0, 0)) (by (with_reducible repeat (first | refine qM ?_ _ | refine qW ?_ | refine qL ?_ _)); exact BK172.out)) : gb178 ≠ gb172)); clear BK171; clear BK172; clear HB; have BK171 := n0_; have BK172 := n1_; have HB := n2_; have BK178 := n3_; have GW178 := n4_; have GE178 := n5_; have NB171_178 := n6_; have NB178_171 := n7_; have NB172_178 := n8_; have NB178_172 := n9_; clear n0_ n1_ n2_ n3_ n4_ n5_ n6_ n7_ n8_ n9_; clear hb hbox hg; have hnb56 := NB178_171.out; have hnc56 := NB171_178.out; have hnb57 := NB178_172.out; have hnc57 := NB172_178.out; have hcz58_0 : w55.cell? ⟨gb178, 0, none⟩ = some (.string (⟨#[]⟩ : ByteArray)) := (qC BK178.out 0).trans rfl; have hcz58_1 : w55.cell? ⟨gb178, 1, none⟩ = some (.int .i64 0) := (qC BK178.out 1).trans rfl; have hcz58_2 : w55.cell? ⟨gb178, 2, none⟩ = some (.string (⟨#[]⟩ : ByteArray)) := (qC BK178.out 2).trans rfl; have hfz58_0 := qF BK178.out 0; have hfz58_1 := qF BK178.out 1; have hfz58_2 := qF BK178.out 2))
       go_roundg k1
       case measure => have := HK1.out; omega
       case rel => exact ⟨(x9_1), (wrap64 (x10_1 - 1)), (x172000_1), (x172001_1), (x172002_1), (x172003_1), (x173003_1), (by first | rfl | (simp; done) | (simp [*]; done)), (by first | rfl | (simp; done) | (simp [*]; done)), H', ⟨by have := HK1.out; omega⟩, ⟨by (with_reducible repeat (first | refine qM ?_ _ | refine qW ?_ | refine qL ?_ _)); refine qv ?_ NB171_178.out _; (with_reducible repeat (first | refine qM ?_ _ | refine qW ?_ | refine qL ?_ _)); refine qv ?_ NB171_178.out _; (with_reducible repeat (first | refine qM ?_ _ | refine qW ?_ | refine qL ?_ _)); refine qv ?_ NB171_178.out _; (with_reducible repeat (first | refine qM ?_ _ | refine qW ?_ | refine qL ?_ _)); exact BK171.out⟩, ⟨by (with_reducible repeat (first | refine qM ?_ _ | refine qW ?_ | refine qL ?_ _)); refine qv ?_ NB172_178.out _; (with_reducible repeat (first | refine qM ?_ _ | refine qW ?_ | refine qL ?_ _)); refine qv ?_ NB172_178.out _; (with_reducible repeat (first | refine qM ?_ _ | refine qW ?_ | refine qL ?_ _)); refine qv ?_ NB172_178.out _; (with_reducible repeat (first | refine qM ?_ _ | refine qW ?_ | refine qL ?_ _)); exact BK172.out⟩, ⟨by repeat (first | (with_reducible first | exact HB.out | apply qA | apply qN | apply qD | refine qS ?_ GE171.out | refine qS ?_ GE172.out | refine qS ?_ GE178.out) | exact HB.out)⟩⟩
     ·rw [if_neg c10] at H
      exact absurd H (by simp)
    ·rw [if_neg c9] at H
     exact absurd H (by simp)
   ·rw [if_neg c8] at H
    have c8b0 : decide (a2 ≤ x10_1) = false := decide_eq_false c8
    clear c8
    simp only [Option.some.injEq, Prod.mk.injEq] at H
    obtain ⟨rfl, rfl, rfl, rfl, rfl⟩ := H
    have hnb59 := NB172_171.out
    have hnc59 := NB171_172.out
    have hcz60_0 : wr.cell? ⟨gb172, 0, none⟩ = some (.string a1) := (qC BK172.out 0).trans rfl
    have hcz60_1 : wr.cell? ⟨gb172, 1, none⟩ = some (.int .i64 2) := (qC BK172.out 1).trans rfl
    have hcz60_2 : wr.cell? ⟨gb172, 2, none⟩ = some (.string (⟨#[]⟩ : ByteArray)) := (qC BK172.out 2).trans rfl
    have hcz60_3 : wr.cell? ⟨gb172, 3, none⟩ = some (.int .i64 x173003_1) := (qC BK172.out 3).trans rfl
    have hfz60_0 := qF BK172.out 0
    have hfz60_1 := qF BK172.out 1
    have hfz60_2 := qF BK172.out 2
    have hfz60_3 := qF BK172.out 3
    have hcz61_0 : wr.cell? ⟨gb171, 0, none⟩ = some (.string x172000_1) := (qC BK171.out 0).trans rfl
    have hcz61_1 : wr.cell? ⟨gb171, 1, none⟩ = some (.int .i64 x172001_1) := (qC BK171.out 1).trans rfl
    have hcz61_2 : wr.cell? ⟨gb171, 2, none⟩ = some (.string x172002_1) := (qC BK171.out 2).trans rfl
    have hcz61_3 : wr.cell? ⟨gb171, 3, none⟩ = some (.int .i64 x172003_1) := (qC BK171.out 3).trans rfl
    have hfz61_0 := qF BK171.out 0
    have hfz61_1 := qF BK171.out 1
    have hfz61_2 := qF BK171.out 2
    have hfz61_3 := qF BK171.out 3
    go_wp2_with (first | go_step3)
    (try simp only [Exit.noGoto_ret]); (try change bodyPost _ _ _ _ _ _); refine bodyPost_ret (results_ct rfl _ _ gb171 31 #[.string a1, .int .i64 2, .string (⟨#[]⟩ : ByteArray), .int .i64 x173003_1] (0, 0) _ rfl (by (with_reducible repeat (first | refine qM ?_ _ | refine qW ?_ | refine qL ?_ _)); refine qu (cs := #[.string a1, .int .i64 2, .string (⟨#[]⟩ : ByteArray), .int .i64 x172003_1]) ?_ 3 _ rfl; (with_reducible repeat (first | refine qM ?_ _ | refine qW ?_ | refine qL ?_ _)); refine qu (cs := #[.string a1, .int .i64 2, .string x172002_1, .int .i64 x172003_1]) ?_ 2 _ rfl; (with_reducible repeat (first | refine qM ?_ _ | refine qW ?_ | refine qL ?_ _)); refine qu (cs := #[.string a1, .int .i64 x172001_1, .string x172002_1, .int .i64 x172003_1]) ?_ 1 _ rfl; (with_reducible repeat (first | refine qM ?_ _ | refine qW ?_ | refine qL ?_ _)); refine qu (cs := #[.string x172000_1, .int .i64 x172001_1, .string x172002_1, .int .i64 x172003_1]) ?_ 0 _ rfl; (with_reducible repeat (first | refine qM ?_ _ | refine qW ?_ | refine qL ?_ _)); exact BK171.out) Tryz.underlying31 rfl (by kernel_rfl)) rfl ?_
    exact ⟨by first | rfl | (simp [qn, qe] <;> rfl) | (simp [*, qn, qe] <;> rfl), by repeat (first | (with_reducible first | exact HB.out | apply qA | apply qN | apply qD | refine qS ?_ GE171.out | refine qS ?_ GE172.out) | exact HB.out)⟩

end Go.Proofs.YthfbcclbappbcaaGreatDoor.Print
