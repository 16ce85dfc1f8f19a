import Derived.Test.YthfbcclbappbcaaGreatDoorPrint0
import Derived.Test.YthfbcclbappbcaaGreatDoorPrint1
import Derived.Test.YthfbcclbappbcaaGreatDoorPrint2
import Derived.Test.YthfbcclbappbcaaGreatDoorPrint4
namespace Go.Proofs.YthfbcclbappbcaaGreatDoor.Print
open Go.RowKit Go.Proofs.YthfbcclbappbcaaGreatDoorW.PrintWords Go.Proofs.YthfbcclbappbcaaGreatDoorW.PrintLast Go.Proofs.YthfbcclbappbcaaGreatDoorW.PrintMore
attribute [local go_sem] max2_int min2_int max_two min_two max_three min_three max_four min_four   -- for this text's walks alone
set_option linter.unusedVariables false
set_option linter.unusedSimpArgs false
def z36.f (k : Nat) (l0 : List (S26)) (a1 : ByteArray) : Option (ByteArray × Int × ByteArray × Bool) := (z30.f k l0).bind fun t167 => (if t167 = true then ((z43.f l0 a1).bind fun bt168 => (if bt168.2 = true then (if 0 ≤ bt168.1 then (if bt168.1 < (l0.length : Int) then (some ((rd_T26 l0 bt168.1).f0, (rd_T26 l0 bt168.1).f1, (rd_T26 l0 bt168.1).f2, true)) else (none)) else (none)) else (some ((⟨#[]⟩ : ByteArray), 0, (⟨#[]⟩ : ByteArray), false)))) else (some ((⟨#[]⟩ : ByteArray), 0, (⟨#[]⟩ : ByteArray), false)))
theorem z36.mono : ∀ a0 a1 k, LeO (z36.f k a0 a1) (z36.f (k + 1) a0 a1) := by
 intro a0 a1 k
 unfold z36.f
 repeat' first
   | (with_reducible exact z30.mono _ _)
   | (with_reducible exact LeO.refl _)
   | (with_reducible exact LeO.none _)
   | (with_reducible refine LeO.ite ?_ ?_)
   | (with_reducible refine LeO.bind ?_ (fun _ => ?_))
   | exact z30.mono _ _
   | exact LeO.none _
   | refine LeO.ite ?_ ?_
   | refine LeO.bind ?_ (fun _ => ?_)
set_option maxHeartbeats 8000000 in
set_option maxRecDepth 100000 in
theorem z36.calls (k : Nat) (A0 : Option Addr) (c0 : Nat) (l0 : List (S26)) (a1 : ByteArray) (r1 : ByteArray) (r2 : Int) (r3 : ByteArray) (r4 : Bool) (w : World) (hr0 : Kd.C k26 w A0 l0.length l0) (hc0 : l0.length ≤ c0) (h : z36.f k l0 a1 = some (r1, r2, r3, r4)) :
  Calls Tryz.prog 26 #[.slice A0 l0.length c0, .string a1] w fun e w' => e = .returned (.tuple #[.agg #[.string r1, .int .i64 r2, .string r3], .bool r4]) ∧ Below w.heap.size w w' := by
 have hu26 := Tryz.underlying26
 have HR0 := Aside0.mk hr0
 have HC0 := Aside0.mk hc0
 clear hr0 hc0
 have HB := Aside0.mk (Below.refl w.heap.size w)
 have H : ((z30.f k l0).bind fun t167 => (if t167 = true then ((z43.f l0 a1).bind fun bt168 => (if bt168.2 = true then (if 0 ≤ bt168.1 then (if bt168.1 < (l0.length : Int) then (some ((rd_T26 l0 bt168.1).f0, (rd_T26 l0 bt168.1).f1, (rd_T26 l0 bt168.1).f2, true)) else (none)) else (none)) else (some ((⟨#[]⟩ : ByteArray), 0, (⟨#[]⟩ : ByteArray), false)))) else (some ((⟨#[]⟩ : ByteArray), 0, (⟨#[]⟩ : ByteArray), false)))) = some (r1, r2, r3, r4) := h
 clear h
 replace H := Option.bind_eq_some_iff.mp H
 obtain ⟨t167, A30, H⟩ := H
 replace H : (if t167 = true then ((z43.f l0 a1).bind fun bt168 => (if bt168.2 = true then (if 0 ≤ bt168.1 then (if bt168.1 < (l0.length : Int) then (some ((rd_T26 l0 bt168.1).f0, (rd_T26 l0 bt168.1).f1, (rd_T26 l0 bt168.1).f2, true)) else (none)) else (none)) else (some ((⟨#[]⟩ : ByteArray), 0, (⟨#[]⟩ : ByteArray), false)))) else (some ((⟨#[]⟩ : ByteArray), 0, (⟨#[]⟩ : ByteArray), false))) = some (r1, r2, r3, r4) := H
 have A3 := Aside0.mk A30
 clear A30
 by_cases c4 : t167 = true
 ·subst c4
  have H1 : ((z43.f l0 a1).bind fun bt168 => (if bt168.2 = true then (if 0 ≤ bt168.1 then (if bt168.1 < (l0.length : Int) then (some ((rd_T26 l0 bt168.1).f0, (rd_T26 l0 bt168.1).f1, (rd_T26 l0 bt168.1).f2, true)) else (none)) else (none)) else (some ((⟨#[]⟩ : ByteArray), 0, (⟨#[]⟩ : ByteArray), false)))) = some (r1, r2, r3, r4) := by rw [if_pos rfl] at H; exact H
  clear H
  have H := H1
  clear H1
  replace H := Option.bind_eq_some_iff.mp H
  obtain ⟨⟨t168, t169⟩, A50, H⟩ := H
  replace H : (if t169 = true then (if 0 ≤ t168 then (if t168 < (l0.length : Int) then (some ((rd_T26 l0 t168).f0, (rd_T26 l0 t168).f1, (rd_T26 l0 t168).f2, true)) else (none)) else (none)) else (some ((⟨#[]⟩ : ByteArray), 0, (⟨#[]⟩ : ByteArray), false))) = some (r1, r2, r3, r4) := H
  have A5 := Aside0.mk A50
  clear A50
  by_cases c6 : t169 = true
  ·subst c6
   have H1 : (if 0 ≤ t168 then (if t168 < (l0.length : Int) then (some ((rd_T26 l0 t168).f0, (rd_T26 l0 t168).f1, (rd_T26 l0 t168).f2, true)) else (none)) else (none)) = some (r1, r2, r3, r4) := by rw [if_pos rfl] at H; exact H
   clear H
   have H := H1
   clear H1
   by_cases c7 : 0 ≤ t168
   ·rw [if_pos c7] at H
    have c7b0 : decide (0 ≤ t168) = true := decide_eq_true c7
    clear c7
    by_cases c8 : t168 < (l0.length : Int)
    ·rw [if_pos c8] at H
     have c8b0 : decide (t168 < (l0.length : Int)) = true := decide_eq_true c8
     clear c8
     simp only [Option.some.injEq, Prod.mk.injEq] at H
     obtain ⟨rfl, rfl, rfl, rfl⟩ := H
     go_enter Tryz.func26, Tryz.ntmps26
     go_wp2_with (first | ((with_reducible refine qd (N := 4) rfl ?_); refine qx ?hg (N := 4) ?hd (cs := #[.string (⟨#[]⟩ : ByteArray), .int .i64 0, .string (⟨#[]⟩ : ByteArray)]) (t := 26) ?hr ?_; (case hd => rfl); (case hg => rfl); (case hr => first | (go_simp; done) | (go_simp; rfl)); intro gb166 hg w9 hbox hb; have n0_ := Aside0.mk (qT (by repeat (first | (with_reducible first | exact HB.out | apply qA | apply qN | apply qD) | exact HB.out)) hb); have n1_ := Aside0.mk (hbox); have n2_ := Aside0.mk ((by rw [hg]; exact (qZ (by repeat (first | (with_reducible first | exact HB.out | apply qA | apply qN | apply qD) | exact HB.out))) : w.heap.size ≤ gb166)); have n3_ := Aside0.mk ((by rw [hg]; exact (qZ (by repeat (first | (with_reducible first | exact HB.out | apply qA | apply qN | apply qD) | exact HB.out))) : w.heap.size ≤ gb166)); clear HB; have HB := n0_; have BK166 := n1_; have GW166 := n2_; have GE166 := n3_; clear n0_ n1_ n2_ n3_; clear hb hbox hg) | ((with_reducible refine qg (f := 9) rfl ?_); refine goesL_ (some 9) rfl rfl Tryz.func9 (by kernel_rfl) rfl #[.slice A0 l0.length c0] rfl (by (try simp only [List.map_toArray, List.map_cons, List.map_nil]); first | done | rfl | (simp only [List.length_drop, List.length_take]; rfl)) ?_; (with_reducible refine (z30.calls k _ _ l0 true _ ?side1 ?side2 A3.out).mono ?_); (case side1 => repeat (first | exact (Kd.C_below HR0.out HB.out) | (with_reducible refine Kd.C_alloc ?_ _) | (with_reducible refine Kd.C_drewN ?_ _) | (with_reducible refine Kd.C_drew ?_))); (case side2 => exact HC0.out); rintro e w10 ⟨rfl, hb⟩; refine ⟨_, rfl, ?_⟩; have n0_ := Aside0.mk (qb (g := gb166) (o := .cells #[.string (⟨#[]⟩ : ByteArray), .int .i64 0, .string (⟨#[]⟩ : ByteArray)] 26 (0, 0)) (by (with_reducible repeat (first | refine qM ?_ _ | refine qW ?_ | refine qL ?_ _)); exact BK166.out) hb); have n1_ := Aside0.mk (qT (by repeat (first | (with_reducible first | exact HB.out | apply qA | apply qN | apply qD | refine qS ?_ GE166.out) | exact HB.out)) hb); clear BK166; clear HB; have BK166 := n0_; have HB := n1_; clear n0_ n1_; (try clear hb); (try clear hb2); (try clear hk); (try clear hi)) | ((with_reducible refine qg (f := 31) rfl ?_); refine goesL_ (some 15) rfl rfl Tryz.func31 (by kernel_rfl) rfl #[.slice A0 l0.length c0, .string a1] rfl (by (try simp only [List.map_toArray, List.map_cons, List.map_nil]); first | done | rfl | (simp only [List.length_drop, List.length_take]; rfl)) ?_; (with_reducible refine (z43.calls _ _ l0 a1 t168 true _ ?side1 ?side2 A5.out).mono ?_); (case side1 => repeat (first | exact (Kd.C_below HR0.out HB.out) | (with_reducible refine Kd.C_alloc ?_ _) | (with_reducible refine Kd.C_drewN ?_ _) | (with_reducible refine Kd.C_drew ?_))); (case side2 => exact HC0.out); rintro e w11 ⟨rfl, hb⟩; refine ⟨_, rfl, ?_⟩; have n0_ := Aside0.mk (qb (g := gb166) (o := .cells #[.string (⟨#[]⟩ : ByteArray), .int .i64 0, .string (⟨#[]⟩ : ByteArray)] 26 (0, 0)) (by (with_reducible repeat (first | refine qM ?_ _ | refine qW ?_ | refine qL ?_ _)); exact BK166.out) hb); have n1_ := Aside0.mk (qT (by repeat (first | (with_reducible first | exact HB.out | apply qA | apply qN | apply qD | refine qS ?_ GE166.out) | exact HB.out)) hb); clear BK166; clear HB; have BK166 := n0_; have HB := n1_; clear n0_ n1_; (try clear hb); (try clear hb2); (try clear hk); (try clear hi); have p170 : 0 ≤ (t168 : Int) := of_decide_eq_true (by first | (with_reducible assumption) | assumption); have q170 : t168 < (l0.length : Int) := of_decide_eq_true (by first | (with_reducible assumption) | assumption); obtain ⟨ad170, e170, hx170_0, hx170_1, hx170_2⟩ := at_T26 HR0.out t168 p170 q170; cases e170; replace hx170_0 := (HB.out.cell (World.block_lt_of_cell? w _ hx170_0)).trans hx170_0; replace hx170_1 := (HB.out.cell (World.block_lt_of_cell? w _ hx170_1)).trans hx170_1; replace hx170_2 := (HB.out.cell (World.block_lt_of_cell? w _ hx170_2)).trans hx170_2; replace p170 := eq_true p170; replace q170 := eq_true q170; have hcz12_0 : w11.cell? ⟨gb166, 0, none⟩ = some (.string (⟨#[]⟩ : ByteArray)) := (qC BK166.out 0).trans rfl; have hcz12_1 : w11.cell? ⟨gb166, 1, none⟩ = some (.int .i64 0) := (qC BK166.out 1).trans rfl; have hcz12_2 : w11.cell? ⟨gb166, 2, none⟩ = some (.string (⟨#[]⟩ : ByteArray)) := (qC BK166.out 2).trans rfl; have hfz12_0 := qF BK166.out 0; have hfz12_1 := qF BK166.out 1; have hfz12_2 := qF BK166.out 2))
     refine bodyPost_ret (results_ct rfl _ _ gb166 26 #[.string ((rd_T26 l0 t168).f0), .int .i64 ((rd_T26 l0 t168).f1), .string ((rd_T26 l0 t168).f2)] (0, 0) _ rfl (by (with_reducible repeat (first | refine qM ?_ _ | refine qW ?_ | refine qL ?_ _)); refine qu (cs := #[.string ((rd_T26 l0 t168).f0), .int .i64 ((rd_T26 l0 t168).f1), .string (⟨#[]⟩ : ByteArray)]) ?_ 2 _ rfl; (with_reducible repeat (first | refine qM ?_ _ | refine qW ?_ | refine qL ?_ _)); refine qu (cs := #[.string ((rd_T26 l0 t168).f0), .int .i64 0, .string (⟨#[]⟩ : ByteArray)]) ?_ 1 _ rfl; (with_reducible repeat (first | refine qM ?_ _ | refine qW ?_ | refine qL ?_ _)); refine qu (cs := #[.string (⟨#[]⟩ : ByteArray), .int .i64 0, .string (⟨#[]⟩ : ByteArray)]) ?_ 0 _ rfl; (with_reducible repeat (first | refine qM ?_ _ | refine qW ?_ | refine qL ?_ _)); exact BK166.out) Tryz.underlying26 rfl (by kernel_rfl)) rfl ?_
     exact ⟨by first | rfl | (simp [qn, qe] <;> rfl) | (simp [*, qn, qe] <;> rfl), by repeat (first | (with_reducible first | exact HB.out | apply qA | apply qN | apply qD | refine qS ?_ GE166.out) | exact HB.out)⟩
    ·rw [if_neg c8] at H
     exact absurd H (by simp)
   ·rw [if_neg c7] at H
    exact absurd H (by simp)
  ·replace c6 := Bool.eq_false_iff.mpr c6
   subst c6
   have H1 : (some ((⟨#[]⟩ : ByteArray), 0, (⟨#[]⟩ : ByteArray), false)) = some (r1, r2, r3, r4) := by rw [if_neg (show ¬ (false = true) by decide)] at H; exact H
   clear H
   have H := H1
   clear H1
   simp only [Option.some.injEq, Prod.mk.injEq] at H
   obtain ⟨rfl, rfl, rfl, rfl⟩ := H
   go_enter Tryz.func26, Tryz.ntmps26
   go_wp2_with (first | ((with_reducible refine qd (N := 4) rfl ?_); refine qx ?hg (N := 4) ?hd (cs := #[.string (⟨#[]⟩ : ByteArray), .int .i64 0, .string (⟨#[]⟩ : ByteArray)]) (t := 26) ?hr ?_; (case hd => rfl); (case hg => rfl); (case hr => first | (go_simp; done) | (go_simp; rfl)); intro gb166 hg w13 hbox hb; have n0_ := Aside0.mk (qT (by repeat (first | (with_reducible first | exact HB.out | apply qA | apply qN | apply qD) | exact HB.out)) hb); have n1_ := Aside0.mk (hbox); have n2_ := Aside0.mk ((by rw [hg]; exact (qZ (by repeat (first | (with_reducible first | exact HB.out | apply qA | apply qN | apply qD) | exact HB.out))) : w.heap.size ≤ gb166)); have n3_ := Aside0.mk ((by rw [hg]; exact (qZ (by repeat (first | (with_reducible first | exact HB.out | apply qA | apply qN | apply qD) | exact HB.out))) : w.heap.size ≤ gb166)); clear HB; have HB := n0_; have BK166 := n1_; have GW166 := n2_; have GE166 := n3_; clear n0_ n1_ n2_ n3_; clear hb hbox hg) | ((with_reducible refine qg (f := 9) rfl ?_); refine goesL_ (some 9) rfl rfl Tryz.func9 (by kernel_rfl) rfl #[.slice A0 l0.length c0] rfl (by (try simp only [List.map_toArray, List.map_cons, List.map_nil]); first | done | rfl | (simp only [List.length_drop, List.length_take]; rfl)) ?_; (with_reducible refine (z30.calls k _ _ l0 true _ ?side1 ?side2 A3.out).mono ?_); (case side1 => repeat (first | exact (Kd.C_below HR0.out HB.out) | (with_reducible refine Kd.C_alloc ?_ _) | (with_reducible refine Kd.C_drewN ?_ _) | (with_reducible refine Kd.C_drew ?_))); (case side2 => exact HC0.out); rintro e w14 ⟨rfl, hb⟩; refine ⟨_, rfl, ?_⟩; have n0_ := Aside0.mk (qb (g := gb166) (o := .cells #[.string (⟨#[]⟩ : ByteArray), .int .i64 0, .string (⟨#[]⟩ : ByteArray)] 26 (0, 0)) (by (with_reducible repeat (first | refine qM ?_ _ | refine qW ?_ | refine qL ?_ _)); exact BK166.out) hb); have n1_ := Aside0.mk (qT (by repeat (first | (with_reducible first | exact HB.out | apply qA | apply qN | apply qD | refine qS ?_ GE166.out) | exact HB.out)) hb); clear BK166; clear HB; have BK166 := n0_; have HB := n1_; clear n0_ n1_; (try clear hb); (try clear hb2); (try clear hk); (try clear hi)) | ((with_reducible refine qg (f := 31) rfl ?_); refine goesL_ (some 15) rfl rfl Tryz.func31 (by kernel_rfl) rfl #[.slice A0 l0.length c0, .string a1] rfl (by (try simp only [List.map_toArray, List.map_cons, List.map_nil]); first | done | rfl | (simp only [List.length_drop, List.length_take]; rfl)) ?_; (with_reducible refine (z43.calls _ _ l0 a1 t168 false _ ?side1 ?side2 A5.out).mono ?_); (case side1 => repeat (first | exact (Kd.C_below HR0.out HB.out) | (with_reducible refine Kd.C_alloc ?_ _) | (with_reducible refine Kd.C_drewN ?_ _) | (with_reducible refine Kd.C_drew ?_))); (case side2 => exact HC0.out); rintro e w15 ⟨rfl, hb⟩; refine ⟨_, rfl, ?_⟩; have n0_ := Aside0.mk (qb (g := gb166) (o := .cells #[.string (⟨#[]⟩ : ByteArray), .int .i64 0, .string (⟨#[]⟩ : ByteArray)] 26 (0, 0)) (by (with_reducible repeat (first | refine qM ?_ _ | refine qW ?_ | refine qL ?_ _)); exact BK166.out) hb); have n1_ := Aside0.mk (qT (by repeat (first | (with_reducible first | exact HB.out | apply qA | apply qN | apply qD | refine qS ?_ GE166.out) | exact HB.out)) hb); clear BK166; clear HB; have BK166 := n0_; have HB := n1_; clear n0_ n1_; (try clear hb); (try clear hb2); (try clear hk); (try clear hi); have hcz16_0 : w15.cell? ⟨gb166, 0, none⟩ = some (.string (⟨#[]⟩ : ByteArray)) := (qC BK166.out 0).trans rfl; have hcz16_1 : w15.cell? ⟨gb166, 1, none⟩ = some (.int .i64 0) := (qC BK166.out 1).trans rfl; have hcz16_2 : w15.cell? ⟨gb166, 2, none⟩ = some (.string (⟨#[]⟩ : ByteArray)) := (qC BK166.out 2).trans rfl; have hfz16_0 := qF BK166.out 0; have hfz16_1 := qF BK166.out 1; have hfz16_2 := qF BK166.out 2))
   refine bodyPost_ret (results_ct rfl _ _ gb166 26 #[.string (⟨#[]⟩ : ByteArray), .int .i64 0, .string (⟨#[]⟩ : ByteArray)] (0, 0) _ rfl (by (with_reducible repeat (first | refine qM ?_ _ | refine qW ?_ | refine qL ?_ _)); refine qu (cs := #[.string (⟨#[]⟩ : ByteArray), .int .i64 0, .string (⟨#[]⟩ : ByteArray)]) ?_ 2 _ rfl; (with_reducible repeat (first | refine qM ?_ _ | refine qW ?_ | refine qL ?_ _)); refine qu (cs := #[.string (⟨#[]⟩ : ByteArray), .int .i64 0, .string (⟨#[]⟩ : ByteArray)]) ?_ 1 _ rfl; (with_reducible repeat (first | refine qM ?_ _ | refine qW ?_ | refine qL ?_ _)); refine qu (cs := #[.string (⟨#[]⟩ : ByteArray), .int .i64 0, .string (⟨#[]⟩ : ByteArray)]) ?_ 0 _ rfl; (with_reducible repeat (first | refine qM ?_ _ | refine qW ?_ | refine qL ?_ _)); exact BK166.out) Tryz.underlying26 rfl (by kernel_rfl)) rfl ?_
   exact ⟨by first | rfl | (simp [qn, qe] <;> rfl) | (simp [*, qn, qe] <;> rfl), by repeat (first | (with_reducible first | exact HB.out | apply qA | apply qN | apply qD | refine qS ?_ GE166.out) | exact HB.out)⟩
 ·replace c4 := Bool.eq_false_iff.mpr c4
  subst c4
  have H1 : (some ((⟨#[]⟩ : ByteArray), 0, (⟨#[]⟩ : ByteArray), false)) = some (r1, r2, r3, r4) := by rw [if_neg (show ¬ (false = true) by decide)] at H; exact H
  clear H
  have H := H1
  clear H1
  simp only [Option.some.injEq, Prod.mk.injEq] at H
  obtain ⟨rfl, rfl, rfl, rfl⟩ := H
  go_enter Tryz.func26, Tryz.ntmps26
  go_wp2_with (first | ((with_reducible refine qd (N := 4) rfl ?_); refine qx ?hg (N := 4) ?hd (cs := #[.string (⟨#[]⟩ : ByteArray), .int .i64 0, .string (⟨#[]⟩ : ByteArray)]) (t := 26) ?hr ?_; (case hd => rfl); (case hg => rfl); (case hr => first | (go_simp; done) | (go_simp; rfl)); intro gb166 hg w17 hbox hb; have n0_ := Aside0.mk (qT (by repeat (first | (with_reducible first | exact HB.out | apply qA | apply qN | apply qD) | exact HB.out)) hb); have n1_ := Aside0.mk (hbox); have n2_ := Aside0.mk ((by rw [hg]; exact (qZ (by repeat (first | (with_reducible first | exact HB.out | apply qA | apply qN | apply qD) | exact HB.out))) : w.heap.size ≤ gb166)); have n3_ := Aside0.mk ((by rw [hg]; exact (qZ (by repeat (first | (with_reducible first | exact HB.out | apply qA | apply qN | apply qD) | exact HB.out))) : w.heap.size ≤ gb166)); clear HB; have HB := n0_; have BK166 := n1_; have GW166 := n2_; have GE166 := n3_; clear n0_ n1_ n2_ n3_; clear hb hbox hg) | ((with_reducible refine qg (f := 9) rfl ?_); refine goesL_ (some 9) rfl rfl Tryz.func9 (by kernel_rfl) rfl #[.slice A0 l0.length c0] rfl (by (try simp only [List.map_toArray, List.map_cons, List.map_nil]); first | done | rfl | (simp only [List.length_drop, List.length_take]; rfl)) ?_; (with_reducible refine (z30.calls k _ _ l0 false _ ?side1 ?side2 A3.out).mono ?_); (case side1 => repeat (first | exact (Kd.C_below HR0.out HB.out) | (with_reducible refine Kd.C_alloc ?_ _) | (with_reducible refine Kd.C_drewN ?_ _) | (with_reducible refine Kd.C_drew ?_))); (case side2 => exact HC0.out); rintro e w18 ⟨rfl, hb⟩; refine ⟨_, rfl, ?_⟩; have n0_ := Aside0.mk (qb (g := gb166) (o := .cells #[.string (⟨#[]⟩ : ByteArray), .int .i64 0, .string (⟨#[]⟩ : ByteArray)] 26 (0, 0)) (by (with_reducible repeat (first | refine qM ?_ _ | refine qW ?_ | refine qL ?_ _)); exact BK166.out) hb); have n1_ := Aside0.mk (qT (by repeat (first | (with_reducible first | exact HB.out | apply qA | apply qN | apply qD | refine qS ?_ GE166.out) | exact HB.out)) hb); clear BK166; clear HB; have BK166 := n0_; have HB := n1_; clear n0_ n1_; (try clear hb); (try clear hb2); (try clear hk); (try clear hi); have hcz19_0 : w18.cell? ⟨gb166, 0, none⟩ = some (.string (⟨#[]⟩ : ByteArray)) := (qC BK166.out 0).trans rfl; have hcz19_1 : w18.cell? ⟨gb166, 1, none⟩ = some (.int .i64 0) := (qC BK166.out 1).trans rfl; have hcz19_2 : w18.cell? ⟨gb166, 2, none⟩ = some (.string (⟨#[]⟩ : ByteArray)) := (qC BK166.out 2).trans rfl; have hfz19_0 := qF BK166.out 0; have hfz19_1 := qF BK166.out 1; have hfz19_2 := qF BK166.out 2))
  refine bodyPost_ret (results_ct rfl _ _ gb166 26 #[.string (⟨#[]⟩ : ByteArray), .int .i64 0, .string (⟨#[]⟩ : ByteArray)] (0, 0) _ rfl (by (with_reducible repeat (first | refine qM ?_ _ | refine qW ?_ | refine qL ?_ _)); refine qu (cs := #[.string (⟨#[]⟩ : ByteArray), .int .i64 0, .string (⟨#[]⟩ : ByteArray)]) ?_ 2 _ rfl; (with_reducible repeat (first | refine qM ?_ _ | refine qW ?_ | refine qL ?_ _)); refine qu (cs := #[.string (⟨#[]⟩ : ByteArray), .int .i64 0, .string (⟨#[]⟩ : ByteArray)]) ?_ 1 _ rfl; (with_reducible repeat (first | refine qM ?_ _ | refine qW ?_ | refine qL ?_ _)); refine qu (cs := #[.string (⟨#[]⟩ : ByteArray), .int .i64 0, .string (⟨#[]⟩ : ByteArray)]) ?_ 0 _ rfl; (with_reducible repeat (first | refine qM ?_ _ | refine qW ?_ | refine qL ?_ _)); exact BK166.out) Tryz.underlying26 rfl (by kernel_rfl)) rfl ?_
  exact ⟨by first | rfl | (simp [qn, qe] <;> rfl) | (simp [*, qn, qe] <;> rfl), by repeat (first | (with_reducible first | exact HB.out | apply qA | apply qN | apply qD | refine qS ?_ GE166.out) | exact HB.out)⟩

end Go.Proofs.YthfbcclbappbcaaGreatDoor.Print
