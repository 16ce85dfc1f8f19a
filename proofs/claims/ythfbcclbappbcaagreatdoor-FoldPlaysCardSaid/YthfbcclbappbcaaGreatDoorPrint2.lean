import Derived.Test.YthfbcclbappbcaaGreatDoorPrint0
import Derived.Test.YthfbcclbappbcaaGreatDoorPrint1
import Derived.Test.YthfbcclbappbcaaGreatDoorExt
namespace Go.Proofs.YthfbcclbappbcaaGreatDoor.Print
open Go.RowKit Go.Proofs.YthfbcclbappbcaaGreatDoorW.PrintWords Go.Proofs.YthfbcclbappbcaaGreatDoorW.PrintLast Go.Proofs.YthfbcclbappbcaaGreatDoorW.PrintMore
attribute [local go_sem] max2_int min2_int max_two min_two max_three min_three max_four min_four   -- for this text's walks alone
set_option linter.unusedVariables false
set_option linter.unusedSimpArgs false
def z39.f (a0 : ByteArray) : Option (List ByteArray × List Int) := if a0.size ≤ 9223372036854775807 then some (match splitF a0.data.toList with | some l => (l.map (fun x => ⟨x.toArray⟩), []) | none => ([], [2])) else none
theorem z39.encS (l : List ByteArray) : encL (fun x => [Value.string x]) l = l.map Value.string := by
 induction l with
 | nil => rfl
 | cons a l ih => unfold encL at ih ⊢; rw [List.flatMap_cons, ih]; rfl
set_option maxHeartbeats 8000000 in
theorem z39.calls (a0 : ByteArray) (r0 : List ByteArray) (r1 : List Int) (w : World) (h : z39.f a0 = some (r0, r1)) :
  Calls Tryz.prog 33 #[.string a0] w fun e w' => ∃ v0_ v1_ : Value, e = .returned (.tuple #[v0_, errV v1_]) ∧ Kd.R Kd.string 9 w' w.heap.size (fun _ => True) v0_ r0 ∧ Kd.R kdF 91 w' w.heap.size (fun _ => True) v1_ r1 ∧ Below w.heap.size w w' := by
 unfold z39.f at h
 by_cases hs : a0.size ≤ 9223372036854775807
 ·rw [if_pos hs] at h
  have h := Option.some.inj h
  refine (Split_calls a0 hs w).mono ?_
  cases hsp : splitF a0.data.toList with
  | some l =>
   rw [hsp] at h
   obtain ⟨rfl, rfl⟩ := Prod.mk.inj h
   rintro e w' ⟨hB, v, rfl, hrow⟩
   refine ⟨v, .slice none 0 0, rfl, ⟨fun _ _ => trivial, l.map fun x => .string ⟨x.toArray⟩, ?_, ?_⟩, Kd.R_nil _ _ _ _ _, hB⟩
   ·rw [List.length_map]; exact hrow
   ·refine (reps_iff (Flat.scalar Value.string (fun _ => rfl)) _ _ _ (fun x c => Iff.rfl)).2 ?_
    rw [z39.encS, List.map_map]; rfl
  | none =>
   rw [hsp] at h
   obtain ⟨rfl, rfl⟩ := Prod.mk.inj h
   rintro e w' ⟨hB, v, rfl, g, op, p, rfl, hg, hF⟩
   refine ⟨.slice none 0 0, .slice (some ⟨g, 0, none⟩) 1 1, rfl, Kd.R_nil _ _ _ _ _, ⟨fun _ _ => trivial, _, ⟨?_, .inr ⟨g, 1, _, rfl, hg, hF, by decide, by decide, rfl, rfl⟩⟩, ?_⟩, hB⟩
   ·rfl
   ·refine ⟨rfl, fun j q hj => ?_⟩
    cases j with
    | zero => simp at hj; subst hj; exact ⟨op, p, rfl⟩
    | succ j => simp at hj
 ·rw [if_neg hs] at h; cases h

def z42.f (a0 : ByteArray) : Option (Int) := (z39.f a0).bind fun bt101 => (if ((bt101.2.isEmpty) = true) then (some (bt101.1.length : Int)) else (some (-1)))
set_option maxHeartbeats 8000000 in
set_option maxRecDepth 100000 in
theorem z42.calls (a0 : ByteArray) (r : Int) (w : World) (h : z42.f a0 = some r) :
  Calls Tryz.prog 50 #[.string a0] w fun e w' => e = .returned (.int .i64 r) ∧ Below w.heap.size w w' := by
 have hE_eql := errV_eql
 have hE_neq := errV_neq
 have HB := Aside0.mk (Below.refl w.heap.size w)
 have H : ((z39.f a0).bind fun bt101 => (if ((bt101.2.isEmpty) = true) then (some (bt101.1.length : Int)) else (some (-1)))) = some r := h
 clear h
 replace H := Option.bind_eq_some_iff.mp H
 obtain ⟨⟨t101, t102⟩, A20, H⟩ := H
 replace H : (if ((t102.isEmpty) = true) then (some (t101.length : Int)) else (some (-1))) = some r := H
 have A2 := Aside0.mk A20
 clear A20
 by_cases c3 : ((t102.isEmpty) = true)
 ·rw [if_pos c3] at H
  have c3b0 : (t102.isEmpty) = true := c3
  clear c3
  obtain rfl := Option.some.inj H
  go_enter Tryz.func50, Tryz.ntmps50
  go_wp2_with (first | ((with_reducible refine qg (f := 33) rfl ?_); refine goesL_ (some 7) rfl rfl Tryz.func33 (by kernel_rfl) rfl #[.string a0] rfl (by (try simp only [List.map_toArray, List.map_cons, List.map_nil]); first | done | rfl | (simp only [List.length_drop, List.length_take]; rfl)) ?_; (with_reducible refine (z39.calls a0 t101 t102 _ A2.out).mono ?_); rintro e w4 ⟨v103, v105, rfl, ho0, ho1, hb⟩; refine ⟨_, rfl, ?_⟩; have n0_ := Aside0.mk (Kd.R_lower ho0 (qZ (by repeat (first | (with_reducible first | exact HB.out | apply qA | apply qN | apply qD) | exact HB.out)))); have n1_ := Aside0.mk (Kd.R_lower ho1 (qZ (by repeat (first | (with_reducible first | exact HB.out | apply qA | apply qN | apply qD) | exact HB.out)))); have n2_ := Aside0.mk (qT (by repeat (first | (with_reducible first | exact HB.out | apply qA | apply qN | apply qD) | exact HB.out)) hb); clear HB; have HO104 := n0_; have HO106 := n1_; have HB := n2_; clear n0_ n1_ n2_; (try clear hb); (try clear hb2); (try clear hk); (try clear hi); (try clear ho0); (try clear ho1); have hE_v105 := errNil_of HO106.out; obtain ⟨Ao5, co5, eo5⟩ := Kd.R_slice HO104.out; subst eo5))
  go_ret
  exact ⟨by first | rfl | (simp [qn, qe] <;> rfl) | (simp [*, qn, qe] <;> rfl), by repeat (first | (with_reducible first | exact HB.out | apply qA | apply qN | apply qD) | exact HB.out)⟩
 ·rw [if_neg c3] at H
  have c3b0 : (t102.isEmpty) = false := by simpa using c3
  clear c3
  obtain rfl := Option.some.inj H
  go_enter Tryz.func50, Tryz.ntmps50
  go_wp2_with (first | ((with_reducible refine qg (f := 33) rfl ?_); refine goesL_ (some 7) rfl rfl Tryz.func33 (by kernel_rfl) rfl #[.string a0] rfl (by (try simp only [List.map_toArray, List.map_cons, List.map_nil]); first | done | rfl | (simp only [List.length_drop, List.length_take]; rfl)) ?_; (with_reducible refine (z39.calls a0 t101 t102 _ A2.out).mono ?_); rintro e w6 ⟨v103, v105, rfl, ho0, ho1, hb⟩; refine ⟨_, rfl, ?_⟩; have n0_ := Aside0.mk (Kd.R_lower ho0 (qZ (by repeat (first | (with_reducible first | exact HB.out | apply qA | apply qN | apply qD) | exact HB.out)))); have n1_ := Aside0.mk (Kd.R_lower ho1 (qZ (by repeat (first | (with_reducible first | exact HB.out | apply qA | apply qN | apply qD) | exact HB.out)))); have n2_ := Aside0.mk (qT (by repeat (first | (with_reducible first | exact HB.out | apply qA | apply qN | apply qD) | exact HB.out)) hb); clear HB; have HO104 := n0_; have HO106 := n1_; have HB := n2_; clear n0_ n1_ n2_; (try clear hb); (try clear hb2); (try clear hk); (try clear hi); (try clear ho0); (try clear ho1); have hE_v105 := errNil_of HO106.out))
  go_ret
  exact ⟨by first | rfl | (simp [qn, qe] <;> rfl) | (simp [*, qn, qe] <;> rfl), by repeat (first | (with_reducible first | exact HB.out | apply qA | apply qN | apply qD) | exact HB.out)⟩

def z33.f (a0_0 : ByteArray) (a0_1 : Int) (a0_2 : ByteArray) : Option (Bool) := (z42.f a0_0).bind fun t108 => (if t108 < 1 then (some false) else (if a0_1 = 1 then (some (decide ((a0_2.size : Int) ≤ 256))) else (if a0_1 = 2 then (some (a0_2.toList == ([] : List UInt8))) else (if a0_1 = 3 then (some (a0_2.toList == ([] : List UInt8))) else (if a0_1 = 4 then (some (a0_2.toList == ([] : List UInt8))) else (some false))))))
set_option maxHeartbeats 8000000 in
set_option maxRecDepth 100000 in
theorem z33.calls (a0_0 : ByteArray) (a0_1 : Int) (a0_2 : ByteArray) (r : Bool) (w : World) (h : z33.f a0_0 a0_1 a0_2 = some r) :
  Calls Tryz.prog 28 #[.agg #[.string a0_0, .int .i64 a0_1, .string a0_2]] w fun e w' => e = .returned (.bool r) ∧ Below w.heap.size w w' := by
 have hu26 := Tryz.underlying26
 have HB := Aside0.mk (Below.refl w.heap.size w)
 have H : ((z42.f a0_0).bind fun t108 => (if t108 < 1 then (some false) else (if a0_1 = 1 then (some (decide ((a0_2.size : Int) ≤ 256))) else (if a0_1 = 2 then (some (a0_2.toList == ([] : List UInt8))) else (if a0_1 = 3 then (some (a0_2.toList == ([] : List UInt8))) else (if a0_1 = 4 then (some (a0_2.toList == ([] : List UInt8))) else (some false))))))) = some r := h
 clear h
 replace H := Option.bind_eq_some_iff.mp H
 obtain ⟨t108, A20, H⟩ := H
 replace H : (if t108 < 1 then (some false) else (if a0_1 = 1 then (some (decide ((a0_2.size : Int) ≤ 256))) else (if a0_1 = 2 then (some (a0_2.toList == ([] : List UInt8))) else (if a0_1 = 3 then (some (a0_2.toList == ([] : List UInt8))) else (if a0_1 = 4 then (some (a0_2.toList == ([] : List UInt8))) else (some false)))))) = some r := H
 have A2 := Aside0.mk A20
 clear A20
 by_cases c3 : t108 < 1
 ·rw [if_pos c3] at H
  have c3b0 : decide (t108 < 1) = true := decide_eq_true c3
  clear c3
  obtain rfl := Option.some.inj H
  go_enter Tryz.func28, Tryz.ntmps28
  go_wp2_with (first | ((with_reducible refine qd (N := 1) rfl ?_); refine qx ?hg (N := 1) ?hd (cs := #[.string a0_0, .int .i64 a0_1, .string a0_2]) (t := 26) ?hr ?_; (case hd => rfl); (case hg => rfl); (case hr => first | (go_simp; done) | (go_simp; rfl)); intro gb107 hg w4 hbox hb; have n0_ := Aside0.mk (qT (by repeat (first | (with_reducible first | exact HB.out | apply qA | apply qN | apply qD) | exact HB.out)) hb); have n1_ := Aside0.mk (hbox); have n2_ := Aside0.mk ((by rw [hg]; exact (qZ (by repeat (first | (with_reducible first | exact HB.out | apply qA | apply qN | apply qD) | exact HB.out))) : w.heap.size ≤ gb107)); have n3_ := Aside0.mk ((by rw [hg]; exact (qZ (by repeat (first | (with_reducible first | exact HB.out | apply qA | apply qN | apply qD) | exact HB.out))) : w.heap.size ≤ gb107)); clear HB; have HB := n0_; have BK107 := n1_; have GW107 := n2_; have GE107 := n3_; clear n0_ n1_ n2_ n3_; clear hb hbox hg; have hcz5_0 : w4.cell? ⟨gb107, 0, none⟩ = some (.string a0_0) := (qC BK107.out 0).trans rfl; have hcz5_1 : w4.cell? ⟨gb107, 1, none⟩ = some (.int .i64 a0_1) := (qC BK107.out 1).trans rfl; have hcz5_2 : w4.cell? ⟨gb107, 2, none⟩ = some (.string a0_2) := (qC BK107.out 2).trans rfl; have hfz5_0 := qF BK107.out 0; have hfz5_1 := qF BK107.out 1; have hfz5_2 := qF BK107.out 2) | ((with_reducible refine qg (f := 50) rfl ?_); refine goesL_ (some 5) rfl rfl Tryz.func50 (by kernel_rfl) rfl #[.string a0_0] rfl (by (try simp only [List.map_toArray, List.map_cons, List.map_nil]); first | done | rfl | (simp only [List.length_drop, List.length_take]; rfl)) ?_; (with_reducible refine (z42.calls a0_0 t108 _ A2.out).mono ?_); rintro e w6 ⟨rfl, hb⟩; refine ⟨_, rfl, ?_⟩; have n0_ := Aside0.mk (qb (g := gb107) (o := .cells #[.string a0_0, .int .i64 a0_1, .string a0_2] 26 (0, 0)) (by (with_reducible repeat (first | refine qM ?_ _ | refine qW ?_ | refine qL ?_ _)); exact BK107.out) hb); have n1_ := Aside0.mk (qT (by repeat (first | (with_reducible first | exact HB.out | apply qA | apply qN | apply qD | refine qS ?_ GE107.out) | exact HB.out)) hb); clear BK107; clear HB; have BK107 := n0_; have HB := n1_; clear n0_ n1_; (try clear hb); (try clear hb2); (try clear hk); (try clear hi)))
  go_ret
  exact ⟨by first | rfl | (simp [qn, qe] <;> rfl) | (simp [*, qn, qe] <;> rfl), by repeat (first | (with_reducible first | exact HB.out | apply qA | apply qN | apply qD | refine qS ?_ GE107.out) | exact HB.out)⟩
 ·rw [if_neg c3] at H
  have c3b0 : decide (t108 < 1) = false := decide_eq_false c3
  clear c3
  by_cases c7 : a0_1 = 1
  ·rw [if_pos c7] at H
   have c7b0 : (a0_1 == 1) = true := beq_iff_eq.mpr c7
   have c7b1 : (a0_1 != 1) = false := bne_eq_false_iff_eq.mpr c7
   clear c7
   obtain rfl := Option.some.inj H
   go_enter Tryz.func28, Tryz.ntmps28
   go_wp2_with (first | ((with_reducible refine qd (N := 1) rfl ?_); refine qx ?hg (N := 1) ?hd (cs := #[.string a0_0, .int .i64 a0_1, .string a0_2]) (t := 26) ?hr ?_; (case hd => rfl); (case hg => rfl); (case hr => first | (go_simp; done) | (go_simp; rfl)); intro gb107 hg w8 hbox hb; have n0_ := Aside0.mk (qT (by repeat (first | (with_reducible first | exact HB.out | apply qA | apply qN | apply qD) | exact HB.out)) hb); have n1_ := Aside0.mk (hbox); have n2_ := Aside0.mk ((by rw [hg]; exact (qZ (by repeat (first | (with_reducible first | exact HB.out | apply qA | apply qN | apply qD) | exact HB.out))) : w.heap.size ≤ gb107)); have n3_ := Aside0.mk ((by rw [hg]; exact (qZ (by repeat (first | (with_reducible first | exact HB.out | apply qA | apply qN | apply qD) | exact HB.out))) : w.heap.size ≤ gb107)); clear HB; have HB := n0_; have BK107 := n1_; have GW107 := n2_; have GE107 := n3_; clear n0_ n1_ n2_ n3_; clear hb hbox hg; have hcz9_0 : w8.cell? ⟨gb107, 0, none⟩ = some (.string a0_0) := (qC BK107.out 0).trans rfl; have hcz9_1 : w8.cell? ⟨gb107, 1, none⟩ = some (.int .i64 a0_1) := (qC BK107.out 1).trans rfl; have hcz9_2 : w8.cell? ⟨gb107, 2, none⟩ = some (.string a0_2) := (qC BK107.out 2).trans rfl; have hfz9_0 := qF BK107.out 0; have hfz9_1 := qF BK107.out 1; have hfz9_2 := qF BK107.out 2) | ((with_reducible refine qg (f := 50) rfl ?_); refine goesL_ (some 5) rfl rfl Tryz.func50 (by kernel_rfl) rfl #[.string a0_0] rfl (by (try simp only [List.map_toArray, List.map_cons, List.map_nil]); first | done | rfl | (simp only [List.length_drop, List.length_take]; rfl)) ?_; (with_reducible refine (z42.calls a0_0 t108 _ A2.out).mono ?_); rintro e w10 ⟨rfl, hb⟩; refine ⟨_, rfl, ?_⟩; have n0_ := Aside0.mk (qb (g := gb107) (o := .cells #[.string a0_0, .int .i64 a0_1, .string a0_2] 26 (0, 0)) (by (with_reducible repeat (first | refine qM ?_ _ | refine qW ?_ | refine qL ?_ _)); exact BK107.out) hb); have n1_ := Aside0.mk (qT (by repeat (first | (with_reducible first | exact HB.out | apply qA | apply qN | apply qD | refine qS ?_ GE107.out) | exact HB.out)) hb); clear BK107; clear HB; have BK107 := n0_; have HB := n1_; clear n0_ n1_; (try clear hb); (try clear hb2); (try clear hk); (try clear hi); have hcz11_0 : w10.cell? ⟨gb107, 0, none⟩ = some (.string a0_0) := (qC BK107.out 0).trans rfl; have hcz11_1 : w10.cell? ⟨gb107, 1, none⟩ = some (.int .i64 a0_1) := (qC BK107.out 1).trans rfl; have hcz11_2 : w10.cell? ⟨gb107, 2, none⟩ = some (.string a0_2) := (qC BK107.out 2).trans rfl; have hfz11_0 := qF BK107.out 0; have hfz11_1 := qF BK107.out 1; have hfz11_2 := qF BK107.out 2))
   go_ret
   exact ⟨by first | rfl | (simp [qn, qe] <;> rfl) | (simp [*, qn, qe] <;> rfl), by repeat (first | (with_reducible first | exact HB.out | apply qA | apply qN | apply qD | refine qS ?_ GE107.out) | exact HB.out)⟩
  ·rw [if_neg c7] at H
   have c7b0 : (a0_1 == 1) = false := beq_eq_false_iff_ne.mpr c7
   have c7b1 : (a0_1 != 1) = true := bne_iff_ne.mpr c7
   by_cases c12 : a0_1 = 2
   ·rw [if_pos c12] at H
    have c12b0 : (a0_1 == 2) = true := beq_iff_eq.mpr c12
    have c12b1 : (a0_1 != 2) = false := bne_eq_false_iff_eq.mpr c12
    clear c12
    obtain rfl := Option.some.inj H
    go_enter Tryz.func28, Tryz.ntmps28
    go_wp2_with (first | ((with_reducible refine qd (N := 1) rfl ?_); refine qx ?hg (N := 1) ?hd (cs := #[.string a0_0, .int .i64 a0_1, .string a0_2]) (t := 26) ?hr ?_; (case hd => rfl); (case hg => rfl); (case hr => first | (go_simp; done) | (go_simp; rfl)); intro gb107 hg w13 hbox hb; have n0_ := Aside0.mk (qT (by repeat (first | (with_reducible first | exact HB.out | apply qA | apply qN | apply qD) | exact HB.out)) hb); have n1_ := Aside0.mk (hbox); have n2_ := Aside0.mk ((by rw [hg]; exact (qZ (by repeat (first | (with_reducible first | exact HB.out | apply qA | apply qN | apply qD) | exact HB.out))) : w.heap.size ≤ gb107)); have n3_ := Aside0.mk ((by rw [hg]; exact (qZ (by repeat (first | (with_reducible first | exact HB.out | apply qA | apply qN | apply qD) | exact HB.out))) : w.heap.size ≤ gb107)); clear HB; have HB := n0_; have BK107 := n1_; have GW107 := n2_; have GE107 := n3_; clear n0_ n1_ n2_ n3_; clear hb hbox hg; have hcz14_0 : w13.cell? ⟨gb107, 0, none⟩ = some (.string a0_0) := (qC BK107.out 0).trans rfl; have hcz14_1 : w13.cell? ⟨gb107, 1, none⟩ = some (.int .i64 a0_1) := (qC BK107.out 1).trans rfl; have hcz14_2 : w13.cell? ⟨gb107, 2, none⟩ = some (.string a0_2) := (qC BK107.out 2).trans rfl; have hfz14_0 := qF BK107.out 0; have hfz14_1 := qF BK107.out 1; have hfz14_2 := qF BK107.out 2) | ((with_reducible refine qg (f := 50) rfl ?_); refine goesL_ (some 5) rfl rfl Tryz.func50 (by kernel_rfl) rfl #[.string a0_0] rfl (by (try simp only [List.map_toArray, List.map_cons, List.map_nil]); first | done | rfl | (simp only [List.length_drop, List.length_take]; rfl)) ?_; (with_reducible refine (z42.calls a0_0 t108 _ A2.out).mono ?_); rintro e w15 ⟨rfl, hb⟩; refine ⟨_, rfl, ?_⟩; have n0_ := Aside0.mk (qb (g := gb107) (o := .cells #[.string a0_0, .int .i64 a0_1, .string a0_2] 26 (0, 0)) (by (with_reducible repeat (first | refine qM ?_ _ | refine qW ?_ | refine qL ?_ _)); exact BK107.out) hb); have n1_ := Aside0.mk (qT (by repeat (first | (with_reducible first | exact HB.out | apply qA | apply qN | apply qD | refine qS ?_ GE107.out) | exact HB.out)) hb); clear BK107; clear HB; have BK107 := n0_; have HB := n1_; clear n0_ n1_; (try clear hb); (try clear hb2); (try clear hk); (try clear hi); have hcz16_0 : w15.cell? ⟨gb107, 0, none⟩ = some (.string a0_0) := (qC BK107.out 0).trans rfl; have hcz16_1 : w15.cell? ⟨gb107, 1, none⟩ = some (.int .i64 a0_1) := (qC BK107.out 1).trans rfl; have hcz16_2 : w15.cell? ⟨gb107, 2, none⟩ = some (.string a0_2) := (qC BK107.out 2).trans rfl; have hfz16_0 := qF BK107.out 0; have hfz16_1 := qF BK107.out 1; have hfz16_2 := qF BK107.out 2))
    go_ret
    exact ⟨by first | rfl | (simp [qn, qe] <;> rfl) | (simp [*, qn, qe] <;> rfl), by repeat (first | (with_reducible first | exact HB.out | apply qA | apply qN | apply qD | refine qS ?_ GE107.out) | exact HB.out)⟩
   ·rw [if_neg c12] at H
    have c12b0 : (a0_1 == 2) = false := beq_eq_false_iff_ne.mpr c12
    have c12b1 : (a0_1 != 2) = true := bne_iff_ne.mpr c12
    by_cases c17 : a0_1 = 3
    ·rw [if_pos c17] at H
     have c17b0 : (a0_1 == 3) = true := beq_iff_eq.mpr c17
     have c17b1 : (a0_1 != 3) = false := bne_eq_false_iff_eq.mpr c17
     clear c17
     obtain rfl := Option.some.inj H
     go_enter Tryz.func28, Tryz.ntmps28
     go_wp2_with (first | ((with_reducible refine qd (N := 1) rfl ?_); refine qx ?hg (N := 1) ?hd (cs := #[.string a0_0, .int .i64 a0_1, .string a0_2]) (t := 26) ?hr ?_; (case hd => rfl); (case hg => rfl); (case hr => first | (go_simp; done) | (go_simp; rfl)); intro gb107 hg w18 hbox hb; have n0_ := Aside0.mk (qT (by repeat (first | (with_reducible first | exact HB.out | apply qA | apply qN | apply qD) | exact HB.out)) hb); have n1_ := Aside0.mk (hbox); have n2_ := Aside0.mk ((by rw [hg]; exact (qZ (by repeat (first | (with_reducible first | exact HB.out | apply qA | apply qN | apply qD) | exact HB.out))) : w.heap.size ≤ gb107)); have n3_ := Aside0.mk ((by rw [hg]; exact (qZ (by repeat (first | (with_reducible first | exact HB.out | apply qA | apply qN | apply qD) | exact HB.out))) : w.heap.size ≤ gb107)); clear HB; have HB := n0_; have BK107 := n1_; have GW107 := n2_; have GE107 := n3_; clear n0_ n1_ n2_ n3_; clear hb hbox hg; have hcz19_0 : w18.cell? ⟨gb107, 0, none⟩ = some (.string a0_0) := (qC BK107.out 0).trans rfl; have hcz19_1 : w18.cell? ⟨gb107, 1, none⟩ = some (.int .i64 a0_1) := (qC BK107.out 1).trans rfl; have hcz19_2 : w18.cell? ⟨gb107, 2, none⟩ = some (.string a0_2) := (qC BK107.out 2).trans rfl; have hfz19_0 := qF BK107.out 0; have hfz19_1 := qF BK107.out 1; have hfz19_2 := qF BK107.out 2) | ((with_reducible refine qg (f := 50) rfl ?_); refine goesL_ (some 5) rfl rfl Tryz.func50 (by kernel_rfl) rfl #[.string a0_0] rfl (by (try simp only [List.map_toArray, List.map_cons, List.map_nil]); first | done | rfl | (simp only [List.length_drop, List.length_take]; rfl)) ?_; (with_reducible refine (z42.calls a0_0 t108 _ A2.out).mono ?_); rintro e w20 ⟨rfl, hb⟩; refine ⟨_, rfl, ?_⟩; have n0_ := Aside0.mk (qb (g := gb107) (o := .cells #[.string a0_0, .int .i64 a0_1, .string a0_2] 26 (0, 0)) (by (with_reducible repeat (first | refine qM ?_ _ | refine qW ?_ | refine qL ?_ _)); exact BK107.out) hb); have n1_ := Aside0.mk (qT (by repeat (first | (with_reducible first | exact HB.out | apply qA | apply qN | apply qD | refine qS ?_ GE107.out) | exact HB.out)) hb); clear BK107; clear HB; have BK107 := n0_; have HB := n1_; clear n0_ n1_; (try clear hb); (try clear hb2); (try clear hk); (try clear hi); have hcz21_0 : w20.cell? ⟨gb107, 0, none⟩ = some (.string a0_0) := (qC BK107.out 0).trans rfl; have hcz21_1 : w20.cell? ⟨gb107, 1, none⟩ = some (.int .i64 a0_1) := (qC BK107.out 1).trans rfl; have hcz21_2 : w20.cell? ⟨gb107, 2, none⟩ = some (.string a0_2) := (qC BK107.out 2).trans rfl; have hfz21_0 := qF BK107.out 0; have hfz21_1 := qF BK107.out 1; have hfz21_2 := qF BK107.out 2))
     go_ret
     exact ⟨by first | rfl | (simp [qn, qe] <;> rfl) | (simp [*, qn, qe] <;> rfl), by repeat (first | (with_reducible first | exact HB.out | apply qA | apply qN | apply qD | refine qS ?_ GE107.out) | exact HB.out)⟩
    ·rw [if_neg c17] at H
     have c17b0 : (a0_1 == 3) = false := beq_eq_false_iff_ne.mpr c17
     have c17b1 : (a0_1 != 3) = true := bne_iff_ne.mpr c17
     by_cases c22 : a0_1 = 4
     ·rw [if_pos c22] at H
      have c22b0 : (a0_1 == 4) = true := beq_iff_eq.mpr c22
      have c22b1 : (a0_1 != 4) = false := bne_eq_false_iff_eq.mpr c22
      clear c22
      obtain rfl := Option.some.inj H
      go_enter Tryz.func28, Tryz.ntmps28
      go_wp2_with (first | ((with_reducible refine qd (N := 1) rfl ?_); refine qx ?hg (N := 1) ?hd (cs := #[.string a0_0, .int .i64 a0_1, .string a0_2]) (t := 26) ?hr ?_; (case hd => rfl); (case hg => rfl); (case hr => first | (go_simp; done) | (go_simp; rfl)); intro gb107 hg w23 hbox hb; have n0_ := Aside0.mk (qT (by repeat (first | (with_reducible first | exact HB.out | apply qA | apply qN | apply qD) | exact HB.out)) hb); have n1_ := Aside0.mk (hbox); have n2_ := Aside0.mk ((by rw [hg]; exact (qZ (by repeat (first | (with_reducible first | exact HB.out | apply qA | apply qN | apply qD) | exact HB.out))) : w.heap.size ≤ gb107)); have n3_ := Aside0.mk ((by rw [hg]; exact (qZ (by repeat (first | (with_reducible first | exact HB.out | apply qA | apply qN | apply qD) | exact HB.out))) : w.heap.size ≤ gb107)); clear HB; have HB := n0_; have BK107 := n1_; have GW107 := n2_; have GE107 := n3_; clear n0_ n1_ n2_ n3_; clear hb hbox hg; have hcz24_0 : w23.cell? ⟨gb107, 0, none⟩ = some (.string a0_0) := (qC BK107.out 0).trans rfl; have hcz24_1 : w23.cell? ⟨gb107, 1, none⟩ = some (.int .i64 a0_1) := (qC BK107.out 1).trans rfl; have hcz24_2 : w23.cell? ⟨gb107, 2, none⟩ = some (.string a0_2) := (qC BK107.out 2).trans rfl; have hfz24_0 := qF BK107.out 0; have hfz24_1 := qF BK107.out 1; have hfz24_2 := qF BK107.out 2) | ((with_reducible refine qg (f := 50) rfl ?_); refine goesL_ (some 5) rfl rfl Tryz.func50 (by kernel_rfl) rfl #[.string a0_0] rfl (by (try simp only [List.map_toArray, List.map_cons, List.map_nil]); first | done | rfl | (simp only [List.length_drop, List.length_take]; rfl)) ?_; (with_reducible refine (z42.calls a0_0 t108 _ A2.out).mono ?_); rintro e w25 ⟨rfl, hb⟩; refine ⟨_, rfl, ?_⟩; have n0_ := Aside0.mk (qb (g := gb107) (o := .cells #[.string a0_0, .int .i64 a0_1, .string a0_2] 26 (0, 0)) (by (with_reducible repeat (first | refine qM ?_ _ | refine qW ?_ | refine qL ?_ _)); exact BK107.out) hb); have n1_ := Aside0.mk (qT (by repeat (first | (with_reducible first | exact HB.out | apply qA | apply qN | apply qD | refine qS ?_ GE107.out) | exact HB.out)) hb); clear BK107; clear HB; have BK107 := n0_; have HB := n1_; clear n0_ n1_; (try clear hb); (try clear hb2); (try clear hk); (try clear hi); have hcz26_0 : w25.cell? ⟨gb107, 0, none⟩ = some (.string a0_0) := (qC BK107.out 0).trans rfl; have hcz26_1 : w25.cell? ⟨gb107, 1, none⟩ = some (.int .i64 a0_1) := (qC BK107.out 1).trans rfl; have hcz26_2 : w25.cell? ⟨gb107, 2, none⟩ = some (.string a0_2) := (qC BK107.out 2).trans rfl; have hfz26_0 := qF BK107.out 0; have hfz26_1 := qF BK107.out 1; have hfz26_2 := qF BK107.out 2))
      go_ret
      exact ⟨by first | rfl | (simp [qn, qe] <;> rfl) | (simp [*, qn, qe] <;> rfl), by repeat (first | (with_reducible first | exact HB.out | apply qA | apply qN | apply qD | refine qS ?_ GE107.out) | exact HB.out)⟩
     ·rw [if_neg c22] at H
      have c22b0 : (a0_1 == 4) = false := beq_eq_false_iff_ne.mpr c22
      have c22b1 : (a0_1 != 4) = true := bne_iff_ne.mpr c22
      obtain rfl := Option.some.inj H
      go_enter Tryz.func28, Tryz.ntmps28
      go_wp2_with (first | ((with_reducible refine qd (N := 1) rfl ?_); refine qx ?hg (N := 1) ?hd (cs := #[.string a0_0, .int .i64 a0_1, .string a0_2]) (t := 26) ?hr ?_; (case hd => rfl); (case hg => rfl); (case hr => first | (go_simp; done) | (go_simp; rfl)); intro gb107 hg w27 hbox hb; have n0_ := Aside0.mk (qT (by repeat (first | (with_reducible first | exact HB.out | apply qA | apply qN | apply qD) | exact HB.out)) hb); have n1_ := Aside0.mk (hbox); have n2_ := Aside0.mk ((by rw [hg]; exact (qZ (by repeat (first | (with_reducible first | exact HB.out | apply qA | apply qN | apply qD) | exact HB.out))) : w.heap.size ≤ gb107)); have n3_ := Aside0.mk ((by rw [hg]; exact (qZ (by repeat (first | (with_reducible first | exact HB.out | apply qA | apply qN | apply qD) | exact HB.out))) : w.heap.size ≤ gb107)); clear HB; have HB := n0_; have BK107 := n1_; have GW107 := n2_; have GE107 := n3_; clear n0_ n1_ n2_ n3_; clear hb hbox hg; have hcz28_0 : w27.cell? ⟨gb107, 0, none⟩ = some (.string a0_0) := (qC BK107.out 0).trans rfl; have hcz28_1 : w27.cell? ⟨gb107, 1, none⟩ = some (.int .i64 a0_1) := (qC BK107.out 1).trans rfl; have hcz28_2 : w27.cell? ⟨gb107, 2, none⟩ = some (.string a0_2) := (qC BK107.out 2).trans rfl; have hfz28_0 := qF BK107.out 0; have hfz28_1 := qF BK107.out 1; have hfz28_2 := qF BK107.out 2) | ((with_reducible refine qg (f := 50) rfl ?_); refine goesL_ (some 5) rfl rfl Tryz.func50 (by kernel_rfl) rfl #[.string a0_0] rfl (by (try simp only [List.map_toArray, List.map_cons, List.map_nil]); first | done | rfl | (simp only [List.length_drop, List.length_take]; rfl)) ?_; (with_reducible refine (z42.calls a0_0 t108 _ A2.out).mono ?_); rintro e w29 ⟨rfl, hb⟩; refine ⟨_, rfl, ?_⟩; have n0_ := Aside0.mk (qb (g := gb107) (o := .cells #[.string a0_0, .int .i64 a0_1, .string a0_2] 26 (0, 0)) (by (with_reducible repeat (first | refine qM ?_ _ | refine qW ?_ | refine qL ?_ _)); exact BK107.out) hb); have n1_ := Aside0.mk (qT (by repeat (first | (with_reducible first | exact HB.out | apply qA | apply qN | apply qD | refine qS ?_ GE107.out) | exact HB.out)) hb); clear BK107; clear HB; have BK107 := n0_; have HB := n1_; clear n0_ n1_; (try clear hb); (try clear hb2); (try clear hk); (try clear hi); have hcz30_0 : w29.cell? ⟨gb107, 0, none⟩ = some (.string a0_0) := (qC BK107.out 0).trans rfl; have hcz30_1 : w29.cell? ⟨gb107, 1, none⟩ = some (.int .i64 a0_1) := (qC BK107.out 1).trans rfl; have hcz30_2 : w29.cell? ⟨gb107, 2, none⟩ = some (.string a0_2) := (qC BK107.out 2).trans rfl; have hfz30_0 := qF BK107.out 0; have hfz30_1 := qF BK107.out 1; have hfz30_2 := qF BK107.out 2))
      go_ret
      exact ⟨by first | rfl | (simp [qn, qe] <;> rfl) | (simp [*, qn, qe] <;> rfl), by repeat (first | (with_reducible first | exact HB.out | apply qA | apply qN | apply qD | refine qS ?_ GE107.out) | exact HB.out)⟩

def z36.f (a0_0 : ByteArray) (a0_1 : Int) (a0_2 : ByteArray) (a1_0 : ByteArray) (a1_1 : Int) (a1_2 : ByteArray) : Option (Bool) := some (Op.bytesLess a0_0.toList a1_0.toList)
set_option maxHeartbeats 8000000 in
set_option maxRecDepth 100000 in
theorem z36.calls (a0_0 : ByteArray) (a0_1 : Int) (a0_2 : ByteArray) (a1_0 : ByteArray) (a1_1 : Int) (a1_2 : ByteArray) (r : Bool) (w : World) (h : z36.f a0_0 a0_1 a0_2 a1_0 a1_1 a1_2 = some r) :
  Calls Tryz.prog 29 #[.agg #[.string a0_0, .int .i64 a0_1, .string a0_2], .agg #[.string a1_0, .int .i64 a1_1, .string a1_2]] w fun e w' => e = .returned (.bool r) ∧ Below w.heap.size w w' := by
 have hu26 := Tryz.underlying26
 have HB := Aside0.mk (Below.refl w.heap.size w)
 have H : (some (Op.bytesLess a0_0.toList a1_0.toList)) = some r := h
 clear h
 obtain rfl := Option.some.inj H
 go_enter Tryz.func29, Tryz.ntmps29
 go_wp2_with (first | ((with_reducible refine qd (N := 2) rfl ?_); refine qx ?hg (N := 2) ?hd (cs := #[.string a0_0, .int .i64 a0_1, .string a0_2]) (t := 26) ?hr ?_; (case hd => rfl); (case hg => rfl); (case hr => first | (go_simp; done) | (go_simp; rfl)); intro gb109 hg w3 hbox hb; have n0_ := Aside0.mk (qT (by repeat (first | (with_reducible first | exact HB.out | apply qA | apply qN | apply qD) | exact HB.out)) hb); have n1_ := Aside0.mk (hbox); have n2_ := Aside0.mk ((by rw [hg]; exact (qZ (by repeat (first | (with_reducible first | exact HB.out | apply qA | apply qN | apply qD) | exact HB.out))) : w.heap.size ≤ gb109)); have n3_ := Aside0.mk ((by rw [hg]; exact (qZ (by repeat (first | (with_reducible first | exact HB.out | apply qA | apply qN | apply qD) | exact HB.out))) : w.heap.size ≤ gb109)); clear HB; have HB := n0_; have BK109 := n1_; have GW109 := n2_; have GE109 := n3_; clear n0_ n1_ n2_ n3_; clear hb hbox hg) | ((with_reducible refine qd (N := 3) rfl ?_); refine qx ?hg (N := 3) ?hd (cs := #[.string a1_0, .int .i64 a1_1, .string a1_2]) (t := 26) ?hr ?_; (case hd => rfl); (case hg => rfl); (case hr => first | (go_simp; done) | (go_simp; rfl)); intro gb110 hg w4 hbox hb; have n0_ := Aside0.mk (qb (g := gb109) (o := .cells #[.string a0_0, .int .i64 a0_1, .string a0_2] 26 (0, 0)) (by (with_reducible repeat (first | refine qM ?_ _ | refine qW ?_ | refine qL ?_ _)); exact BK109.out) hb); have n1_ := Aside0.mk (qT (by repeat (first | (with_reducible first | exact HB.out | apply qA | apply qN | apply qD | refine qS ?_ GE109.out) | exact HB.out)) hb); have n2_ := Aside0.mk (hbox); have n3_ := Aside0.mk ((by rw [hg]; exact (qZ (by repeat (first | (with_reducible first | exact HB.out | apply qA | apply qN | apply qD | refine qS ?_ GE109.out) | exact HB.out))) : w.heap.size ≤ gb110)); have n4_ := Aside0.mk ((by rw [hg]; exact (qZ (by repeat (first | (with_reducible first | exact HB.out | apply qA | apply qN | apply qD | refine qS ?_ GE109.out) | exact HB.out))) : w.heap.size ≤ gb110)); have n5_ := Aside0.mk ((by rw [hg]; exact Nat.ne_of_lt (blk_lt (g := gb109) (o := .cells #[.string a0_0, .int .i64 a0_1, .string a0_2] 26 (0, 0)) (by (with_reducible repeat (first | refine qM ?_ _ | refine qW ?_ | refine qL ?_ _)); exact BK109.out)) : gb109 ≠ gb110)); have n6_ := Aside0.mk ((by rw [hg]; exact Nat.ne_of_gt (blk_lt (g := gb109) (o := .cells #[.string a0_0, .int .i64 a0_1, .string a0_2] 26 (0, 0)) (by (with_reducible repeat (first | refine qM ?_ _ | refine qW ?_ | refine qL ?_ _)); exact BK109.out)) : gb110 ≠ gb109)); clear BK109; clear HB; have BK109 := n0_; have HB := n1_; have BK110 := n2_; have GW110 := n3_; have GE110 := n4_; have NB109_110 := n5_; have NB110_109 := n6_; clear n0_ n1_ n2_ n3_ n4_ n5_ n6_; clear hb hbox hg; have hnb5 := NB109_110.out; have hnc5 := NB110_109.out; have hcz6_0 : w4.cell? ⟨gb109, 0, none⟩ = some (.string a0_0) := (qC BK109.out 0).trans rfl; have hcz6_1 : w4.cell? ⟨gb109, 1, none⟩ = some (.int .i64 a0_1) := (qC BK109.out 1).trans rfl; have hcz6_2 : w4.cell? ⟨gb109, 2, none⟩ = some (.string a0_2) := (qC BK109.out 2).trans rfl; have hfz6_0 := qF BK109.out 0; have hfz6_1 := qF BK109.out 1; have hfz6_2 := qF BK109.out 2; have hcz7_0 : w4.cell? ⟨gb110, 0, none⟩ = some (.string a1_0) := (qC BK110.out 0).trans rfl; have hcz7_1 : w4.cell? ⟨gb110, 1, none⟩ = some (.int .i64 a1_1) := (qC BK110.out 1).trans rfl; have hcz7_2 : w4.cell? ⟨gb110, 2, none⟩ = some (.string a1_2) := (qC BK110.out 2).trans rfl; have hfz7_0 := qF BK110.out 0; have hfz7_1 := qF BK110.out 1; have hfz7_2 := qF BK110.out 2))
 go_ret
 exact ⟨by first | rfl | (simp [qn, qe] <;> rfl) | (simp [*, qn, qe] <;> rfl), by repeat (first | (with_reducible first | exact HB.out | apply qA | apply qN | apply qD | refine qS ?_ GE109.out | refine qS ?_ GE110.out) | exact HB.out)⟩

def z49.f (a0 a1 : ByteArray) (a2 : Int) : Option (List Int) := some [a2]
set_option maxHeartbeats 8000000 in
theorem z49.calls (a0 a1 : ByteArray) (a2 : Int) (r : List Int) (w : World) (h : z49.f a0 a1 a2 = some r) :
  Calls Tryz.prog 35 #[.string a0, .string a1, .iface 61 (.int .i64 a2)] w fun e w' => ∃ v0_ : Value, e = .returned (errV v0_) ∧ Kd.R kdF 91 w' w.heap.size (fun _ => True) v0_ r ∧ Below w.heap.size w w' := by
 obtain rfl := Option.some.inj h
 clear h
 go_enter Tryz.func35, Tryz.ntmps35
 go_wp2
 go_ret
 refine ⟨.slice (some ⟨w.heap.size, 0, none⟩) 1 1, rfl, ?_, qA (Below.refl _ _) _⟩
 refine ⟨fun _ _ => trivial, [.string a0, .string a1, .iface 61 (.int .i64 a2)], ?_, ?_⟩
 ·have hk : kdF.sz = 3 := rfl
  have h2 := World.ownsRow_lit (base := w.heap.size) (e := 91) (size := 3) w #[.string a0, .string a1, .iface 61 (.int .i64 a2)] 1 (Nat.le_refl _) (by decide) rfl
  simpa [hk] using h2
 ·refine ⟨rfl, fun j p hj => ?_⟩
  cases j with
  | zero => simp at hj; subst hj; exact ⟨a0, a1, rfl⟩
  | succ j => simp at hj

def z29.f (l0 : List ByteArray) (a1 : ByteArray) : Option (ByteArray) := if l0.length ≤ 140737488355328 ∧ (Lib.join (l0.map (·.data.toList)) a1.data.toList).length ≤ 140737488355328 then some ⟨(Lib.join (l0.map (·.data.toList)) a1.data.toList).toArray⟩ else none
theorem z29.calls (A0 : Option Addr) (c0 : Nat) (l0 : List ByteArray) (a1 : ByteArray) (r : ByteArray) (w : World) (hr0 : Kd.string.C w A0 l0.length l0) (hc0 : l0.length ≤ c0) (h : z29.f l0 a1 = some r) :
  Calls Tryz.prog 57 #[.slice A0 l0.length c0, .string a1] w fun e w' => e = .returned (.string r) ∧ Below w.heap.size w w' := by
 unfold z29.f at h
 split at h
 ·rename_i hc
  obtain rfl := Option.some.inj h
  exact Join_any A0 c0 l0 a1 w hr0 hc0 hc.1 hc.2
 ·cases h

def z44.f (l0 : List ByteArray) : Option (ByteArray × (List Int)) := if (l0.length : Int) = 0 then (some ((⟨#[47]⟩ : ByteArray), ([] : List Int))) else (if (l0.length : Int) > 6 then ((z49.f (⟨#[106, 111, 105, 110]⟩ : ByteArray) (⟨#[]⟩ : ByteArray) 2).bind fun t111 => (some ((⟨#[]⟩ : ByteArray), t111))) else ((z29.f l0 (⟨#[47]⟩ : ByteArray)).bind fun t114 => (if 1 + t114.size ≤ 9223372036854775807 then ((z39.f ((⟨#[47]⟩ : ByteArray) ++ t114)).bind fun bt115 => (if ((bt115.2.isEmpty) = true) then (if (bt115.1.length : Int) = (l0.length : Int) then (some ((⟨#[47]⟩ : ByteArray) ++ t114, ([] : List Int))) else ((z49.f (⟨#[106, 111, 105, 110]⟩ : ByteArray) ((⟨#[47]⟩ : ByteArray) ++ t114) 2).bind fun t121 => (some ((⟨#[]⟩ : ByteArray), t121)))) else ((z49.f (⟨#[106, 111, 105, 110]⟩ : ByteArray) ((⟨#[47]⟩ : ByteArray) ++ t114) 2).bind fun t124 => (some ((⟨#[]⟩ : ByteArray), t124))))) else (none))))
set_option maxHeartbeats 8000000 in
set_option maxRecDepth 100000 in
theorem z44.calls (A0 : Option Addr) (c0 : Nat) (l0 : List ByteArray) (r1 : ByteArray) (r2 : List Int) (w : World) (hr0 : Kd.C Kd.string w A0 l0.length l0) (hc0 : l0.length ≤ c0) (h : z44.f l0 = some (r1, r2)) :
  Calls Tryz.prog 36 #[.slice A0 l0.length c0] w fun e w' => ∃ v1_ : Value, e = .returned (.tuple #[.string r1, errV v1_]) ∧ Kd.R kdF 91 w' w.heap.size (fun _ => True) v1_ r2 ∧ Below w.heap.size w w' := by
 have hE_eql := errV_eql
 have hE_neq := errV_neq
 have HR0 := Aside0.mk hr0
 have HC0 := Aside0.mk hc0
 clear hr0 hc0
 have HB := Aside0.mk (Below.refl w.heap.size w)
 have H : (if (l0.length : Int) = 0 then (some ((⟨#[47]⟩ : ByteArray), ([] : List Int))) else (if (l0.length : Int) > 6 then ((z49.f (⟨#[106, 111, 105, 110]⟩ : ByteArray) (⟨#[]⟩ : ByteArray) 2).bind fun t111 => (some ((⟨#[]⟩ : ByteArray), t111))) else ((z29.f l0 (⟨#[47]⟩ : ByteArray)).bind fun t114 => (if 1 + t114.size ≤ 9223372036854775807 then ((z39.f ((⟨#[47]⟩ : ByteArray) ++ t114)).bind fun bt115 => (if ((bt115.2.isEmpty) = true) then (if (bt115.1.length : Int) = (l0.length : Int) then (some ((⟨#[47]⟩ : ByteArray) ++ t114, ([] : List Int))) else ((z49.f (⟨#[106, 111, 105, 110]⟩ : ByteArray) ((⟨#[47]⟩ : ByteArray) ++ t114) 2).bind fun t121 => (some ((⟨#[]⟩ : ByteArray), t121)))) else ((z49.f (⟨#[106, 111, 105, 110]⟩ : ByteArray) ((⟨#[47]⟩ : ByteArray) ++ t114) 2).bind fun t124 => (some ((⟨#[]⟩ : ByteArray), t124))))) else (none))))) = some (r1, r2) := h
 clear h
 by_cases c2 : (l0.length : Int) = 0
 ·rw [if_pos c2] at H
  have c2b0 : ((l0.length : Int) == 0) = true := beq_iff_eq.mpr c2
  have c2b1 : ((l0.length : Int) != 0) = false := bne_eq_false_iff_eq.mpr c2
  clear c2
  simp only [Option.some.injEq, Prod.mk.injEq] at H
  obtain ⟨rfl, rfl⟩ := H
  go_enter Tryz.func36, Tryz.ntmps36
  go_wp2
  go_ret2
  exact ⟨(.slice none 0 0), by first | rfl | (simp [qn, qe] <;> rfl) | (simp [*, qn, qe] <;> rfl), by first | exact Kd.R_nil _ _ _ _ _ | exact Kd.N_nil _ _ _ _ _ | exact Kd.V_nil _ _ _ _ _ | exact Kd.Q_nil _ _ _ _ _ | exact Kd.S_nil _ _ _ _ _, by repeat (first | (with_reducible first | exact HB.out | apply qA | apply qN | apply qD) | exact HB.out)⟩
 ·rw [if_neg c2] at H
  have c2b0 : ((l0.length : Int) == 0) = false := beq_eq_false_iff_ne.mpr c2
  have c2b1 : ((l0.length : Int) != 0) = true := bne_iff_ne.mpr c2
  have c2b2 : ¬ (l0 = []) := fun h_ => c2 (by rw [h_]; rfl)
  by_cases c3 : (l0.length : Int) > 6
  ·rw [if_pos c3] at H
   have c3b0 : decide (6 < (l0.length : Int)) = true := decide_eq_true c3
   have c3b1 : decide (6 < l0.length) = true := decide_eq_true (by omega)
   clear c3
   replace H := Option.bind_eq_some_iff.mp H
   obtain ⟨t111, A40, H⟩ := H
   replace H : (some ((⟨#[]⟩ : ByteArray), t111)) = some (r1, r2) := H
   have A4 := Aside0.mk A40
   clear A40
   simp only [Option.some.injEq, Prod.mk.injEq] at H
   obtain ⟨rfl, rfl⟩ := H
   go_enter Tryz.func36, Tryz.ntmps36
   go_wp2_with (first | ((with_reducible refine qg (f := 35) rfl ?_); refine goesL_ (some 14) rfl rfl Tryz.func35 (by kernel_rfl) rfl #[.string (⟨#[106, 111, 105, 110]⟩ : ByteArray), .string (⟨#[]⟩ : ByteArray), .iface 61 (.int .i64 2)] rfl (by (try simp only [List.map_toArray, List.map_cons, List.map_nil]); first | done | rfl | (simp only [List.length_drop, List.length_take]; rfl)) ?_; (with_reducible refine (z49.calls (⟨#[106, 111, 105, 110]⟩ : ByteArray) (⟨#[]⟩ : ByteArray) 2 t111 _ A4.out).mono ?_); rintro e w5 ⟨v112, rfl, ho0, hb⟩; refine ⟨_, rfl, ?_⟩; have n0_ := Aside0.mk (Kd.R_lower ho0 (qZ (by repeat (first | (with_reducible first | exact HB.out | apply qA | apply qN | apply qD) | exact HB.out)))); have n1_ := Aside0.mk (qT (by repeat (first | (with_reducible first | exact HB.out | apply qA | apply qN | apply qD) | exact HB.out)) hb); clear HB; have HO113 := n0_; have HB := n1_; clear n0_ n1_; (try clear hb); (try clear hb2); (try clear hk); (try clear hi); (try clear ho0); have hE_v112 := errNil_of HO113.out))
   go_ret2
   exact ⟨_, by first | rfl | (simp [qn, qe] <;> rfl) | (simp [*, qn, qe] <;> rfl), by (with_reducible repeat (first | apply Kd.R_alloc | apply Kd.R_drewN | apply Kd.R_drew)); exact HO113.out, by repeat (first | (with_reducible first | exact HB.out | apply qA | apply qN | apply qD) | exact HB.out)⟩
  ·rw [if_neg c3] at H
   have c3b0 : decide (6 < (l0.length : Int)) = false := decide_eq_false c3
   have c3b1 : decide (6 < l0.length) = false := decide_eq_false (by omega)
   clear c3
   replace H := Option.bind_eq_some_iff.mp H
   obtain ⟨t114, A60, H⟩ := H
   replace H : (if 1 + t114.size ≤ 9223372036854775807 then ((z39.f ((⟨#[47]⟩ : ByteArray) ++ t114)).bind fun bt115 => (if ((bt115.2.isEmpty) = true) then (if (bt115.1.length : Int) = (l0.length : Int) then (some ((⟨#[47]⟩ : ByteArray) ++ t114, ([] : List Int))) else ((z49.f (⟨#[106, 111, 105, 110]⟩ : ByteArray) ((⟨#[47]⟩ : ByteArray) ++ t114) 2).bind fun t121 => (some ((⟨#[]⟩ : ByteArray), t121)))) else ((z49.f (⟨#[106, 111, 105, 110]⟩ : ByteArray) ((⟨#[47]⟩ : ByteArray) ++ t114) 2).bind fun t124 => (some ((⟨#[]⟩ : ByteArray), t124))))) else (none)) = some (r1, r2) := H
   have A6 := Aside0.mk A60
   clear A60
   by_cases c7 : 1 + t114.size ≤ 9223372036854775807
   ·rw [if_pos c7] at H
    have c7b0 := eq_true c7
    have c7b1 : decide (1 + t114.size ≤ 9223372036854775807) = true := decide_eq_true c7
    try have c7b2 : (9223372036854775807 < 1 + t114.size) = False := eq_false (Nat.not_lt.2 c7)
    replace H := Option.bind_eq_some_iff.mp H
    obtain ⟨⟨t115, t116⟩, A80, H⟩ := H
    replace H : (if ((t116.isEmpty) = true) then (if (t115.length : Int) = (l0.length : Int) then (some ((⟨#[47]⟩ : ByteArray) ++ t114, ([] : List Int))) else ((z49.f (⟨#[106, 111, 105, 110]⟩ : ByteArray) ((⟨#[47]⟩ : ByteArray) ++ t114) 2).bind fun t121 => (some ((⟨#[]⟩ : ByteArray), t121)))) else ((z49.f (⟨#[106, 111, 105, 110]⟩ : ByteArray) ((⟨#[47]⟩ : ByteArray) ++ t114) 2).bind fun t124 => (some ((⟨#[]⟩ : ByteArray), t124)))) = some (r1, r2) := H
    have A8 := Aside0.mk A80
    clear A80
    by_cases c9 : ((t116.isEmpty) = true)
    ·rw [if_pos c9] at H
     have c9b0 : (t116.isEmpty) = true := c9
     clear c9
     by_cases c10 : (t115.length : Int) = (l0.length : Int)
     ·rw [if_pos c10] at H
      have c10b0 : ((t115.length : Int) == (l0.length : Int)) = true := beq_iff_eq.mpr c10
      have c10b1 : ((t115.length : Int) != (l0.length : Int)) = false := bne_eq_false_iff_eq.mpr c10
      have c10b2 : (t115.length == l0.length) = true := by first | simpa using c10 | (simp at c10 ⊢; omega)
      clear c10
      simp only [Option.some.injEq, Prod.mk.injEq] at H
      obtain ⟨rfl, rfl⟩ := H
      go_enter Tryz.func36, Tryz.ntmps36
      go_wp2_with (first | ((with_reducible refine qg (f := 57) rfl ?_); refine goesL_ (some 16) rfl rfl Tryz.func57 (by kernel_rfl) rfl #[.slice A0 l0.length c0, .string (⟨#[47]⟩ : ByteArray)] rfl (by (try simp only [List.map_toArray, List.map_cons, List.map_nil]); first | done | rfl | (simp only [List.length_drop, List.length_take]; rfl)) ?_; (with_reducible refine (z29.calls _ _ l0 (⟨#[47]⟩ : ByteArray) t114 _ ?side1 ?side2 A6.out).mono ?_); (case side1 => repeat (first | exact HR0.out | (with_reducible refine Kd.C_alloc ?_ _) | (with_reducible refine Kd.C_drewN ?_ _) | (with_reducible refine Kd.C_drew ?_))); (case side2 => exact HC0.out); rintro e w11 ⟨rfl, hb⟩; refine ⟨_, rfl, ?_⟩; have n0_ := Aside0.mk (qT (by repeat (first | (with_reducible first | exact HB.out | apply qA | apply qN | apply qD) | exact HB.out)) hb); clear HB; have HB := n0_; clear n0_; (try clear hb); (try clear hb2); (try clear hk); (try clear hi)) | ((with_reducible refine qg (f := 33) rfl ?_); refine goesL_ (some 20) rfl rfl Tryz.func33 (by kernel_rfl) rfl #[.string ((⟨#[47]⟩ : ByteArray) ++ t114)] rfl (by (try simp only [List.map_toArray, List.map_cons, List.map_nil]); first | done | rfl | (simp only [List.length_drop, List.length_take]; rfl)) ?_; (with_reducible refine (z39.calls ((⟨#[47]⟩ : ByteArray) ++ t114) t115 t116 _ A8.out).mono ?_); rintro e w12 ⟨v117, v119, rfl, ho0, ho1, hb⟩; refine ⟨_, rfl, ?_⟩; have n0_ := Aside0.mk (Kd.R_lower ho0 (qZ (by repeat (first | (with_reducible first | exact HB.out | apply qA | apply qN | apply qD) | exact HB.out)))); have n1_ := Aside0.mk (Kd.R_lower ho1 (qZ (by repeat (first | (with_reducible first | exact HB.out | apply qA | apply qN | apply qD) | exact HB.out)))); have n2_ := Aside0.mk (qT (by repeat (first | (with_reducible first | exact HB.out | apply qA | apply qN | apply qD) | exact HB.out)) hb); clear HB; have HO118 := n0_; have HO120 := n1_; have HB := n2_; clear n0_ n1_ n2_; (try clear hb); (try clear hb2); (try clear hk); (try clear hi); (try clear ho0); (try clear ho1); have hE_v119 := errNil_of HO120.out; obtain ⟨Ao13, co13, eo13⟩ := Kd.R_slice HO118.out; subst eo13))
      go_ret2
      exact ⟨(.slice none 0 0), by first | rfl | (simp [qn, qe] <;> rfl) | (simp [*, qn, qe] <;> rfl), by first | exact Kd.R_nil _ _ _ _ _ | exact Kd.N_nil _ _ _ _ _ | exact Kd.V_nil _ _ _ _ _ | exact Kd.Q_nil _ _ _ _ _ | exact Kd.S_nil _ _ _ _ _, by repeat (first | (with_reducible first | exact HB.out | apply qA | apply qN | apply qD) | exact HB.out)⟩
     ·rw [if_neg c10] at H
      have c10b0 : ((t115.length : Int) == (l0.length : Int)) = false := beq_eq_false_iff_ne.mpr c10
      have c10b1 : ((t115.length : Int) != (l0.length : Int)) = true := bne_iff_ne.mpr c10
      have c10b2 : (t115.length == l0.length) = false := by first | simpa using c10 | (simp at c10 ⊢; omega)
      replace H := Option.bind_eq_some_iff.mp H
      obtain ⟨t121, A140, H⟩ := H
      replace H : (some ((⟨#[]⟩ : ByteArray), t121)) = some (r1, r2) := H
      have A14 := Aside0.mk A140
      clear A140
      simp only [Option.some.injEq, Prod.mk.injEq] at H
      obtain ⟨rfl, rfl⟩ := H
      go_enter Tryz.func36, Tryz.ntmps36
      go_wp2_with (first | ((with_reducible refine qg (f := 57) rfl ?_); refine goesL_ (some 16) rfl rfl Tryz.func57 (by kernel_rfl) rfl #[.slice A0 l0.length c0, .string (⟨#[47]⟩ : ByteArray)] rfl (by (try simp only [List.map_toArray, List.map_cons, List.map_nil]); first | done | rfl | (simp only [List.length_drop, List.length_take]; rfl)) ?_; (with_reducible refine (z29.calls _ _ l0 (⟨#[47]⟩ : ByteArray) t114 _ ?side1 ?side2 A6.out).mono ?_); (case side1 => repeat (first | exact HR0.out | (with_reducible refine Kd.C_alloc ?_ _) | (with_reducible refine Kd.C_drewN ?_ _) | (with_reducible refine Kd.C_drew ?_))); (case side2 => exact HC0.out); rintro e w15 ⟨rfl, hb⟩; refine ⟨_, rfl, ?_⟩; have n0_ := Aside0.mk (qT (by repeat (first | (with_reducible first | exact HB.out | apply qA | apply qN | apply qD) | exact HB.out)) hb); clear HB; have HB := n0_; clear n0_; (try clear hb); (try clear hb2); (try clear hk); (try clear hi)) | ((with_reducible refine qg (f := 33) rfl ?_); refine goesL_ (some 20) rfl rfl Tryz.func33 (by kernel_rfl) rfl #[.string ((⟨#[47]⟩ : ByteArray) ++ t114)] rfl (by (try simp only [List.map_toArray, List.map_cons, List.map_nil]); first | done | rfl | (simp only [List.length_drop, List.length_take]; rfl)) ?_; (with_reducible refine (z39.calls ((⟨#[47]⟩ : ByteArray) ++ t114) t115 t116 _ A8.out).mono ?_); rintro e w16 ⟨v117, v119, rfl, ho0, ho1, hb⟩; refine ⟨_, rfl, ?_⟩; have n0_ := Aside0.mk (Kd.R_lower ho0 (qZ (by repeat (first | (with_reducible first | exact HB.out | apply qA | apply qN | apply qD) | exact HB.out)))); have n1_ := Aside0.mk (Kd.R_lower ho1 (qZ (by repeat (first | (with_reducible first | exact HB.out | apply qA | apply qN | apply qD) | exact HB.out)))); have n2_ := Aside0.mk (qT (by repeat (first | (with_reducible first | exact HB.out | apply qA | apply qN | apply qD) | exact HB.out)) hb); clear HB; have HO118 := n0_; have HO120 := n1_; have HB := n2_; clear n0_ n1_ n2_; (try clear hb); (try clear hb2); (try clear hk); (try clear hi); (try clear ho0); (try clear ho1); have hE_v119 := errNil_of HO120.out; obtain ⟨Ao17, co17, eo17⟩ := Kd.R_slice HO118.out; subst eo17) | ((with_reducible refine qg (f := 35) rfl ?_); refine goesL_ (some 34) rfl rfl Tryz.func35 (by kernel_rfl) rfl #[.string (⟨#[106, 111, 105, 110]⟩ : ByteArray), .string ((⟨#[47]⟩ : ByteArray) ++ t114), .iface 61 (.int .i64 2)] rfl (by (try simp only [List.map_toArray, List.map_cons, List.map_nil]); first | done | rfl | (simp only [List.length_drop, List.length_take]; rfl)) ?_; (with_reducible refine (z49.calls (⟨#[106, 111, 105, 110]⟩ : ByteArray) ((⟨#[47]⟩ : ByteArray) ++ t114) 2 t121 _ A14.out).mono ?_); rintro e w18 ⟨v122, rfl, ho0, hb⟩; refine ⟨_, rfl, ?_⟩; have n0_ := Aside0.mk (Kd.R_below (by (with_reducible repeat (first | apply Kd.R_alloc | apply Kd.R_drewN | apply Kd.R_drew)); exact HO118.out) hb); have n1_ := Aside0.mk (Kd.R_elder' (by (with_reducible repeat (first | apply Kd.R_alloc | apply Kd.R_drewN | apply Kd.R_drew)); exact HO120.out) (Kd.R_base ho0) hb); have n2_ := Aside0.mk (Kd.R_lower (Kd.R_new' ho0 (Kd.R_lt (by (with_reducible repeat (first | apply Kd.R_alloc | apply Kd.R_drewN | apply Kd.R_drew)); exact HO120.out))) (qZ (by repeat (first | (with_reducible first | exact HB.out | apply qA | apply qN | apply qD) | exact HB.out)))); have n3_ := Aside0.mk (qT (by repeat (first | (with_reducible first | exact HB.out | apply qA | apply qN | apply qD) | exact HB.out)) hb); clear HO118; clear HO120; clear HB; have HO118 := n0_; have HO120 := n1_; have HO123 := n2_; have HB := n3_; clear n0_ n1_ n2_ n3_; (try clear hb); (try clear hb2); (try clear hk); (try clear hi); (try clear ho0); have hE_v122 := errNil_of HO123.out))
      go_ret2
      exact ⟨_, by first | rfl | (simp [qn, qe] <;> rfl) | (simp [*, qn, qe] <;> rfl), by (with_reducible repeat (first | apply Kd.R_alloc | apply Kd.R_drewN | apply Kd.R_drew)); exact Kd.R_mono HO123.out (fun _ hk => trivial), by repeat (first | (with_reducible first | exact HB.out | apply qA | apply qN | apply qD) | exact HB.out)⟩
    ·rw [if_neg c9] at H
     have c9b0 : (t116.isEmpty) = false := by simpa using c9
     clear c9
     replace H := Option.bind_eq_some_iff.mp H
     obtain ⟨t124, A190, H⟩ := H
     replace H : (some ((⟨#[]⟩ : ByteArray), t124)) = some (r1, r2) := H
     have A19 := Aside0.mk A190
     clear A190
     simp only [Option.some.injEq, Prod.mk.injEq] at H
     obtain ⟨rfl, rfl⟩ := H
     go_enter Tryz.func36, Tryz.ntmps36
     go_wp2_with (first | ((with_reducible refine qg (f := 57) rfl ?_); refine goesL_ (some 16) rfl rfl Tryz.func57 (by kernel_rfl) rfl #[.slice A0 l0.length c0, .string (⟨#[47]⟩ : ByteArray)] rfl (by (try simp only [List.map_toArray, List.map_cons, List.map_nil]); first | done | rfl | (simp only [List.length_drop, List.length_take]; rfl)) ?_; (with_reducible refine (z29.calls _ _ l0 (⟨#[47]⟩ : ByteArray) t114 _ ?side1 ?side2 A6.out).mono ?_); (case side1 => repeat (first | exact HR0.out | (with_reducible refine Kd.C_alloc ?_ _) | (with_reducible refine Kd.C_drewN ?_ _) | (with_reducible refine Kd.C_drew ?_))); (case side2 => exact HC0.out); rintro e w20 ⟨rfl, hb⟩; refine ⟨_, rfl, ?_⟩; have n0_ := Aside0.mk (qT (by repeat (first | (with_reducible first | exact HB.out | apply qA | apply qN | apply qD) | exact HB.out)) hb); clear HB; have HB := n0_; clear n0_; (try clear hb); (try clear hb2); (try clear hk); (try clear hi)) | ((with_reducible refine qg (f := 33) rfl ?_); refine goesL_ (some 20) rfl rfl Tryz.func33 (by kernel_rfl) rfl #[.string ((⟨#[47]⟩ : ByteArray) ++ t114)] rfl (by (try simp only [List.map_toArray, List.map_cons, List.map_nil]); first | done | rfl | (simp only [List.length_drop, List.length_take]; rfl)) ?_; (with_reducible refine (z39.calls ((⟨#[47]⟩ : ByteArray) ++ t114) t115 t116 _ A8.out).mono ?_); rintro e w21 ⟨v117, v119, rfl, ho0, ho1, hb⟩; refine ⟨_, rfl, ?_⟩; have n0_ := Aside0.mk (Kd.R_lower ho0 (qZ (by repeat (first | (with_reducible first | exact HB.out | apply qA | apply qN | apply qD) | exact HB.out)))); have n1_ := Aside0.mk (Kd.R_lower ho1 (qZ (by repeat (first | (with_reducible first | exact HB.out | apply qA | apply qN | apply qD) | exact HB.out)))); have n2_ := Aside0.mk (qT (by repeat (first | (with_reducible first | exact HB.out | apply qA | apply qN | apply qD) | exact HB.out)) hb); clear HB; have HO118 := n0_; have HO120 := n1_; have HB := n2_; clear n0_ n1_ n2_; (try clear hb); (try clear hb2); (try clear hk); (try clear hi); (try clear ho0); (try clear ho1); have hE_v119 := errNil_of HO120.out) | ((with_reducible refine qg (f := 35) rfl ?_); refine goesL_ (some 34) rfl rfl Tryz.func35 (by kernel_rfl) rfl #[.string (⟨#[106, 111, 105, 110]⟩ : ByteArray), .string ((⟨#[47]⟩ : ByteArray) ++ t114), .iface 61 (.int .i64 2)] rfl (by (try simp only [List.map_toArray, List.map_cons, List.map_nil]); first | done | rfl | (simp only [List.length_drop, List.length_take]; rfl)) ?_; (with_reducible refine (z49.calls (⟨#[106, 111, 105, 110]⟩ : ByteArray) ((⟨#[47]⟩ : ByteArray) ++ t114) 2 t124 _ A19.out).mono ?_); rintro e w22 ⟨v125, rfl, ho0, hb⟩; refine ⟨_, rfl, ?_⟩; have n0_ := Aside0.mk (Kd.R_below (by (with_reducible repeat (first | apply Kd.R_alloc | apply Kd.R_drewN | apply Kd.R_drew)); exact HO118.out) hb); have n1_ := Aside0.mk (Kd.R_elder' (by (with_reducible repeat (first | apply Kd.R_alloc | apply Kd.R_drewN | apply Kd.R_drew)); exact HO120.out) (Kd.R_base ho0) hb); have n2_ := Aside0.mk (Kd.R_lower (Kd.R_new' ho0 (Kd.R_lt (by (with_reducible repeat (first | apply Kd.R_alloc | apply Kd.R_drewN | apply Kd.R_drew)); exact HO120.out))) (qZ (by repeat (first | (with_reducible first | exact HB.out | apply qA | apply qN | apply qD) | exact HB.out)))); have n3_ := Aside0.mk (qT (by repeat (first | (with_reducible first | exact HB.out | apply qA | apply qN | apply qD) | exact HB.out)) hb); clear HO118; clear HO120; clear HB; have HO118 := n0_; have HO120 := n1_; have HO126 := n2_; have HB := n3_; clear n0_ n1_ n2_ n3_; (try clear hb); (try clear hb2); (try clear hk); (try clear hi); (try clear ho0); have hE_v125 := errNil_of HO126.out))
     go_ret2
     exact ⟨_, by first | rfl | (simp [qn, qe] <;> rfl) | (simp [*, qn, qe] <;> rfl), by (with_reducible repeat (first | apply Kd.R_alloc | apply Kd.R_drewN | apply Kd.R_drew)); exact Kd.R_mono HO126.out (fun _ hk => trivial), by repeat (first | (with_reducible first | exact HB.out | apply qA | apply qN | apply qD) | exact HB.out)⟩
   ·rw [if_neg c7] at H
    exact absurd H (by simp)

def z32.f (a0 : ByteArray) : Option (ByteArray × ByteArray × (List Int)) := (z39.f a0).bind fun bt127 => (if ((bt127.2.isEmpty) = true) then (if (bt127.1.length : Int) = 0 then ((z49.f (⟨#[112, 97, 114, 101, 110, 116]⟩ : ByteArray) a0 1).bind fun t133 => (some ((⟨#[]⟩ : ByteArray), (⟨#[]⟩ : ByteArray), t133))) else (if 0 ≤ (wrap64 ((bt127.1.length : Int) - 1)) then (if (wrap64 ((bt127.1.length : Int) - 1)) ≤ (bt127.1.length : Int) then ((z44.f (bt127.1.take ((wrap64 ((bt127.1.length : Int) - 1)) : Int).toNat)).bind fun bt140 => (if (wrap64 ((bt127.1.length : Int) - 1)) < (bt127.1.length : Int) then (some (bt140.1, rdOf ByteArray.empty bt127.1 (wrap64 ((bt127.1.length : Int) - 1)), bt140.2)) else (none))) else (none)) else (none))) else (some ((⟨#[]⟩ : ByteArray), (⟨#[]⟩ : ByteArray), bt127.2)))
set_option maxHeartbeats 8000000 in
set_option maxRecDepth 100000 in
theorem z32.calls (a0 : ByteArray) (r1 : ByteArray) (r2 : ByteArray) (r3 : List Int) (w : World) (h : z32.f a0 = some (r1, r2, r3)) :
  Calls Tryz.prog 30 #[.string a0] w fun e w' => ∃ v2_ : Value, e = .returned (.tuple #[.string r1, .string r2, errV v2_]) ∧ Kd.R kdF 91 w' w.heap.size (fun _ => True) v2_ r3 ∧ Below w.heap.size w w' := by
 have hE_eql := errV_eql
 have hE_neq := errV_neq
 have HB := Aside0.mk (Below.refl w.heap.size w)
 have H : ((z39.f a0).bind fun bt127 => (if ((bt127.2.isEmpty) = true) then (if (bt127.1.length : Int) = 0 then ((z49.f (⟨#[112, 97, 114, 101, 110, 116]⟩ : ByteArray) a0 1).bind fun t133 => (some ((⟨#[]⟩ : ByteArray), (⟨#[]⟩ : ByteArray), t133))) else (if 0 ≤ (wrap64 ((bt127.1.length : Int) - 1)) then (if (wrap64 ((bt127.1.length : Int) - 1)) ≤ (bt127.1.length : Int) then ((z44.f (bt127.1.take ((wrap64 ((bt127.1.length : Int) - 1)) : Int).toNat)).bind fun bt140 => (if (wrap64 ((bt127.1.length : Int) - 1)) < (bt127.1.length : Int) then (some (bt140.1, rdOf ByteArray.empty bt127.1 (wrap64 ((bt127.1.length : Int) - 1)), bt140.2)) else (none))) else (none)) else (none))) else (some ((⟨#[]⟩ : ByteArray), (⟨#[]⟩ : ByteArray), bt127.2)))) = some (r1, r2, r3) := h
 clear h
 replace H := Option.bind_eq_some_iff.mp H
 obtain ⟨⟨t127, t128⟩, A20, H⟩ := H
 replace H : (if ((t128.isEmpty) = true) then (if (t127.length : Int) = 0 then ((z49.f (⟨#[112, 97, 114, 101, 110, 116]⟩ : ByteArray) a0 1).bind fun t133 => (some ((⟨#[]⟩ : ByteArray), (⟨#[]⟩ : ByteArray), t133))) else (if 0 ≤ (wrap64 ((t127.length : Int) - 1)) then (if (wrap64 ((t127.length : Int) - 1)) ≤ (t127.length : Int) then ((z44.f (t127.take ((wrap64 ((t127.length : Int) - 1)) : Int).toNat)).bind fun bt140 => (if (wrap64 ((t127.length : Int) - 1)) < (t127.length : Int) then (some (bt140.1, rdOf ByteArray.empty t127 (wrap64 ((t127.length : Int) - 1)), bt140.2)) else (none))) else (none)) else (none))) else (some ((⟨#[]⟩ : ByteArray), (⟨#[]⟩ : ByteArray), t128))) = some (r1, r2, r3) := H
 have A2 := Aside0.mk A20
 clear A20
 by_cases c3 : ((t128.isEmpty) = true)
 ·rw [if_pos c3] at H
  have c3b0 : (t128.isEmpty) = true := c3
  clear c3
  by_cases c4 : (t127.length : Int) = 0
  ·rw [if_pos c4] at H
   have c4b0 : ((t127.length : Int) == 0) = true := beq_iff_eq.mpr c4
   have c4b1 : ((t127.length : Int) != 0) = false := bne_eq_false_iff_eq.mpr c4
   clear c4
   replace H := Option.bind_eq_some_iff.mp H
   obtain ⟨t133, A50, H⟩ := H
   replace H : (some ((⟨#[]⟩ : ByteArray), (⟨#[]⟩ : ByteArray), t133)) = some (r1, r2, r3) := H
   have A5 := Aside0.mk A50
   clear A50
   simp only [Option.some.injEq, Prod.mk.injEq] at H
   obtain ⟨rfl, rfl, rfl⟩ := H
   go_enter Tryz.func30, Tryz.ntmps30
   go_wp2_with (first | (go_at_call 33; (with_reducible refine (z39.calls a0 t127 t128 _ A2.out).mono ?_); rintro e w6 ⟨v129, v131, rfl, ho0, ho1, hb⟩; have n0_ := Aside0.mk (Kd.R_lower ho0 (qZ (by repeat (first | (with_reducible first | exact HB.out | apply qA | apply qN | apply qD) | exact HB.out)))); have n1_ := Aside0.mk (Kd.R_lower ho1 (qZ (by repeat (first | (with_reducible first | exact HB.out | apply qA | apply qN | apply qD) | exact HB.out)))); have n2_ := Aside0.mk (qT (by repeat (first | (with_reducible first | exact HB.out | apply qA | apply qN | apply qD) | exact HB.out)) hb); clear HB; have HO130 := n0_; have HO132 := n1_; have HB := n2_; clear n0_ n1_ n2_; (try clear hb); (try clear hb2); (try clear hk); (try clear hi); (try clear ho0); (try clear ho1); have hE_v131 := errNil_of HO132.out; obtain ⟨Ao7, co7, eo7⟩ := Kd.R_slice HO130.out; subst eo7) | (go_at_call 35; (with_reducible refine (z49.calls (⟨#[112, 97, 114, 101, 110, 116]⟩ : ByteArray) a0 1 t133 _ A5.out).mono ?_); rintro e w8 ⟨v134, rfl, ho0, hb⟩; have n0_ := Aside0.mk (Kd.R_below (by (with_reducible repeat (first | apply Kd.R_alloc | apply Kd.R_drewN | apply Kd.R_drew)); exact HO130.out) hb); have n1_ := Aside0.mk (Kd.R_elder' (by (with_reducible repeat (first | apply Kd.R_alloc | apply Kd.R_drewN | apply Kd.R_drew)); exact HO132.out) (Kd.R_base ho0) hb); have n2_ := Aside0.mk (Kd.R_lower (Kd.R_new' ho0 (Kd.R_lt (by (with_reducible repeat (first | apply Kd.R_alloc | apply Kd.R_drewN | apply Kd.R_drew)); exact HO132.out))) (qZ (by repeat (first | (with_reducible first | exact HB.out | apply qA | apply qN | apply qD) | exact HB.out)))); have n3_ := Aside0.mk (qT (by repeat (first | (with_reducible first | exact HB.out | apply qA | apply qN | apply qD) | exact HB.out)) hb); clear HO130; clear HO132; clear HB; have HO130 := n0_; have HO132 := n1_; have HO135 := n2_; have HB := n3_; clear n0_ n1_ n2_ n3_; (try clear hb); (try clear hb2); (try clear hk); (try clear hi); (try clear ho0); have hE_v134 := errNil_of HO135.out))
   repeat (go_quiet (first | (go_at_call 33; (with_reducible refine (z39.calls a0 t127 t128 _ A2.out).mono ?_); rintro e w6 ⟨v129, v131, rfl, ho0, ho1, hb⟩; have n0_ := Aside0.mk (Kd.R_lower ho0 (qZ (by repeat (first | (with_reducible first | exact HB.out | apply qA | apply qN | apply qD) | exact HB.out)))); have n1_ := Aside0.mk (Kd.R_lower ho1 (qZ (by repeat (first | (with_reducible first | exact HB.out | apply qA | apply qN | apply qD) | exact HB.out)))); have n2_ := Aside0.mk (qT (by repeat (first | (with_reducible first | exact HB.out | apply qA | apply qN | apply qD) | exact HB.out)) hb); clear HB; have HO130 := n0_; have HO132 := n1_; have HB := n2_; clear n0_ n1_ n2_; (try clear hb); (try clear hb2); (try clear hk); (try clear hi); (try clear ho0); (try clear ho1); have hE_v131 := errNil_of HO132.out; obtain ⟨Ao7, co7, eo7⟩ := Kd.R_slice HO130.out; subst eo7) | (go_at_call 35; (with_reducible refine (z49.calls (⟨#[112, 97, 114, 101, 110, 116]⟩ : ByteArray) a0 1 t133 _ A5.out).mono ?_); rintro e w8 ⟨v134, rfl, ho0, hb⟩; have n0_ := Aside0.mk (Kd.R_below (by (with_reducible repeat (first | apply Kd.R_alloc | apply Kd.R_drewN | apply Kd.R_drew)); exact HO130.out) hb); have n1_ := Aside0.mk (Kd.R_elder' (by (with_reducible repeat (first | apply Kd.R_alloc | apply Kd.R_drewN | apply Kd.R_drew)); exact HO132.out) (Kd.R_base ho0) hb); have n2_ := Aside0.mk (Kd.R_lower (Kd.R_new' ho0 (Kd.R_lt (by (with_reducible repeat (first | apply Kd.R_alloc | apply Kd.R_drewN | apply Kd.R_drew)); exact HO132.out))) (qZ (by repeat (first | (with_reducible first | exact HB.out | apply qA | apply qN | apply qD) | exact HB.out)))); have n3_ := Aside0.mk (qT (by repeat (first | (with_reducible first | exact HB.out | apply qA | apply qN | apply qD) | exact HB.out)) hb); clear HO130; clear HO132; clear HB; have HO130 := n0_; have HO132 := n1_; have HO135 := n2_; have HB := n3_; clear n0_ n1_ n2_ n3_; (try clear hb); (try clear hb2); (try clear hk); (try clear hi); (try clear ho0); have hE_v134 := errNil_of HO135.out)); try go_wp2_with (first | (go_at_call 33; (with_reducible refine (z39.calls a0 t127 t128 _ A2.out).mono ?_); rintro e w6 ⟨v129, v131, rfl, ho0, ho1, hb⟩; have n0_ := Aside0.mk (Kd.R_lower ho0 (qZ (by repeat (first | (with_reducible first | exact HB.out | apply qA | apply qN | apply qD) | exact HB.out)))); have n1_ := Aside0.mk (Kd.R_lower ho1 (qZ (by repeat (first | (with_reducible first | exact HB.out | apply qA | apply qN | apply qD) | exact HB.out)))); have n2_ := Aside0.mk (qT (by repeat (first | (with_reducible first | exact HB.out | apply qA | apply qN | apply qD) | exact HB.out)) hb); clear HB; have HO130 := n0_; have HO132 := n1_; have HB := n2_; clear n0_ n1_ n2_; (try clear hb); (try clear hb2); (try clear hk); (try clear hi); (try clear ho0); (try clear ho1); have hE_v131 := errNil_of HO132.out; obtain ⟨Ao7, co7, eo7⟩ := Kd.R_slice HO130.out; subst eo7) | (go_at_call 35; (with_reducible refine (z49.calls (⟨#[112, 97, 114, 101, 110, 116]⟩ : ByteArray) a0 1 t133 _ A5.out).mono ?_); rintro e w8 ⟨v134, rfl, ho0, hb⟩; have n0_ := Aside0.mk (Kd.R_below (by (with_reducible repeat (first | apply Kd.R_alloc | apply Kd.R_drewN | apply Kd.R_drew)); exact HO130.out) hb); have n1_ := Aside0.mk (Kd.R_elder' (by (with_reducible repeat (first | apply Kd.R_alloc | apply Kd.R_drewN | apply Kd.R_drew)); exact HO132.out) (Kd.R_base ho0) hb); have n2_ := Aside0.mk (Kd.R_lower (Kd.R_new' ho0 (Kd.R_lt (by (with_reducible repeat (first | apply Kd.R_alloc | apply Kd.R_drewN | apply Kd.R_drew)); exact HO132.out))) (qZ (by repeat (first | (with_reducible first | exact HB.out | apply qA | apply qN | apply qD) | exact HB.out)))); have n3_ := Aside0.mk (qT (by repeat (first | (with_reducible first | exact HB.out | apply qA | apply qN | apply qD) | exact HB.out)) hb); clear HO130; clear HO132; clear HB; have HO130 := n0_; have HO132 := n1_; have HO135 := n2_; have HB := n3_; clear n0_ n1_ n2_ n3_; (try clear hb); (try clear hb2); (try clear hk); (try clear hi); (try clear ho0); have hE_v134 := errNil_of HO135.out)))
   go_ret3
   exact ⟨_, by first | rfl | (simp [qn, qe] <;> rfl) | (simp [*, qn, qe] <;> rfl), by (with_reducible repeat (first | apply Kd.R_alloc | apply Kd.R_drewN | apply Kd.R_drew)); exact Kd.R_mono HO135.out (fun _ hk => trivial), by repeat (first | (with_reducible first | exact HB.out | apply qA | apply qN | apply qD) | exact HB.out)⟩
  ·rw [if_neg c4] at H
   have c4b0 : ((t127.length : Int) == 0) = false := beq_eq_false_iff_ne.mpr c4
   have c4b1 : ((t127.length : Int) != 0) = true := bne_iff_ne.mpr c4
   have c4b2 : ¬ (t127 = []) := fun h_ => c4 (by rw [h_]; rfl)
   obtain ⟨ji9, hji9⟩ : ∃ j_ : Int, (wrap64 ((t127.length : Int) - 1)) = j_ := ⟨_, rfl⟩
   replace H : (if 0 ≤ (ji9) then (if (ji9) ≤ (t127.length : Int) then ((z44.f (t127.take ((ji9) : Int).toNat)).bind fun bt140 => (if (ji9) < (t127.length : Int) then (some (bt140.1, rdOf ByteArray.empty t127 (ji9), bt140.2)) else (none))) else (none)) else (none)) = some (r1, r2, r3) := by first | (rw [hji9] at H; exact H) | (simp only [hji9] at H ⊢; exact H)
   (try rw [hji9] at A2)
   have hji9w : (IntKind.i64.wrap ((t127.length : Int) - 1)) = ji9 := (i64_w _).trans hji9
   by_cases c10 : 0 ≤ (ji9)
   ·rw [if_pos c10] at H
    have c10b0 := eq_true c10
    have c10b1 : decide (0 ≤ (ji9)) = true := decide_eq_true c10
    clear c10
    by_cases c11 : (ji9) ≤ (t127.length : Int)
    ·rw [if_pos c11] at H
     have c11b0 := eq_true c11
     have c11b1 : decide ((ji9) ≤ (t127.length : Int)) = true := decide_eq_true c11
     clear c11
     obtain ⟨y136, hy136⟩ : ∃ y_ : List ByteArray, y_ = (t127.take ((ji9) : Int).toNat) := ⟨_, rfl⟩
     replace H : ((z44.f y136).bind fun bt140 => (if (ji9) < (t127.length : Int) then (some (bt140.1, rdOf ByteArray.empty t127 (ji9), bt140.2)) else (none))) = some (r1, r2, r3) := by first | (rw [hy136]; with_reducible exact H) | (have H2_ := (Option.bind_some _ _).symm.trans H; rw [hy136]; with_reducible exact H2_) | (have H2_ := (Option.bind_some _ _).symm.trans H; with_reducible exact H2_) | with_reducible exact H | (rw [hy136]; exact H) | exact H
     have Ny136 := Aside0.mk hy136
     clear hy136
     replace H := Option.bind_eq_some_iff.mp H
     obtain ⟨⟨t140, t141⟩, A120, H⟩ := H
     replace H : (if (ji9) < (t127.length : Int) then (some (t140, rdOf ByteArray.empty t127 (ji9), t141)) else (none)) = some (r1, r2, r3) := H
     have A12 := Aside0.mk A120
     clear A120
     by_cases c13 : (ji9) < (t127.length : Int)
     ·rw [if_pos c13] at H
      have c13b0 : decide ((ji9) < (t127.length : Int)) = true := decide_eq_true c13
      clear c13
      simp only [Option.some.injEq, Prod.mk.injEq] at H
      obtain ⟨rfl, rfl, rfl⟩ := H
      go_enter Tryz.func30, Tryz.ntmps30
      go_wp2_with (first | (go_at_call 33; (with_reducible refine (z39.calls a0 t127 t128 _ A2.out).mono ?_); rintro e w14 ⟨v129, v131, rfl, ho0, ho1, hb⟩; have n0_ := Aside0.mk (Kd.R_lower ho0 (qZ (by repeat (first | (with_reducible first | exact HB.out | apply qA | apply qN | apply qD) | exact HB.out)))); have n1_ := Aside0.mk (Kd.R_lower ho1 (qZ (by repeat (first | (with_reducible first | exact HB.out | apply qA | apply qN | apply qD) | exact HB.out)))); have n2_ := Aside0.mk (qT (by repeat (first | (with_reducible first | exact HB.out | apply qA | apply qN | apply qD) | exact HB.out)) hb); clear HB; have HO130 := n0_; have HO132 := n1_; have HB := n2_; clear n0_ n1_ n2_; (try clear hb); (try clear hb2); (try clear hk); (try clear hi); (try clear ho0); (try clear ho1); have hE_v131 := errNil_of HO132.out; obtain ⟨Ao15, co15, eo15⟩ := Kd.R_slice HO130.out; subst eo15; have q16 : ((ji9) : Int) ≤ ((t127.length : Int) : Int) := of_decide_eq_true (by first | (with_reducible assumption) | assumption); obtain ⟨i016, hi016, _, hsz16, _⟩ := info_parts info9; have hroom16 : t127.length ≤ co15 := (Kd.R_reads' HO130.out).2.1; have hC16 : Kd.C Kd.string _ Ao15 t127.length t127 := (Kd.R_reads' HO130.out).2.2; have hcut16 := cut_to (P := Tryz.prog) 57 9 .i64 Tryz.underlying57 hi016 Ao15 t127.length co15 (ji9) (of_decide_eq_true (by first | (with_reducible assumption) | assumption)) q16 hroom16; have hr16 := Kd.C_take (m := ((ji9) : Int).toNat) hC16 (by omega); have hy16 : y136.length = ((ji9) : Int).toNat := (by rw [Ny136.out, List.length_take]; omega); rw [← Ny136.out] at hr16; rw [← hy16] at hcut16; have HR139 := Aside0.mk hr16; have HC139 := Aside0.mk (show y136.length ≤ co15 from by omega); clear hr16 hC16 hroom16 hi016 hsz16; have KY16 := Aside0.mk hy16; clear hy16; have KL16 := Aside0.mk (show ((ji9) : Int).toNat ≤ t127.length from by omega); replace q16 := eq_true q16) | (go_at_call 36; (with_reducible refine (z44.calls _ _ y136 t140 t141 _ ?side1 ?side2 A12.out).mono ?_); (case side1 => repeat (first | exact (by repeat (first | (with_reducible exact HR139.out) | (with_reducible refine Kd.C_alloc ?_ _) | (with_reducible refine Kd.C_drewN ?_ _) | (with_reducible refine Kd.C_drew ?_) | exact HR139.out)) | (with_reducible refine Kd.C_alloc ?_ _) | (with_reducible refine Kd.C_drewN ?_ _) | (with_reducible refine Kd.C_drew ?_))); (case side2 => exact HC139.out); rintro e w17 ⟨v142, rfl, ho0, hb⟩; have n0_ := Aside0.mk (Kd.R_below (by (with_reducible repeat (first | apply Kd.R_alloc | apply Kd.R_drewN | apply Kd.R_drew)); exact HO130.out) hb); have n1_ := Aside0.mk (Kd.R_elder' (by (with_reducible repeat (first | apply Kd.R_alloc | apply Kd.R_drewN | apply Kd.R_drew)); exact HO132.out) (Kd.R_base ho0) hb); have n2_ := Aside0.mk (Kd.R_lower (Kd.R_new' ho0 (Kd.R_lt (by (with_reducible repeat (first | apply Kd.R_alloc | apply Kd.R_drewN | apply Kd.R_drew)); exact HO132.out))) (qZ (by repeat (first | (with_reducible first | exact HB.out | apply qA | apply qN | apply qD) | exact HB.out)))); have n3_ := Aside0.mk (Kd.C_below (by repeat (first | (with_reducible exact HR139.out) | (with_reducible refine Kd.C_alloc ?_ _) | (with_reducible refine Kd.C_drewN ?_ _) | (with_reducible refine Kd.C_drew ?_) | exact HR139.out)) hb); have n4_ := Aside0.mk (qT (by repeat (first | (with_reducible first | exact HB.out | apply qA | apply qN | apply qD) | exact HB.out)) hb); clear HO130; clear HO132; clear HR139; clear HB; have HO130 := n0_; have HO132 := n1_; have HO143 := n2_; have HR139 := n3_; have HB := n4_; clear n0_ n1_ n2_ n3_ n4_; (try clear hb); (try clear hb2); (try clear hk); (try clear hi); (try clear ho0); have hE_v142 := errNil_of HO143.out; have p144 : 0 ≤ ((ji9) : Int) := of_decide_eq_true (by first | (with_reducible assumption) | assumption); have q144 : (ji9) < (t127.length : Int) := of_decide_eq_true (by first | (with_reducible assumption) | assumption); obtain ⟨ad144, e144, hx144_0⟩ := Kd.at_string (Kd.R_reads' HO130.out).2.2 (ji9) p144 q144; cases e144; replace p144 := eq_true p144; replace q144 := eq_true q144))
      repeat (go_quiet (first | (go_at_call 33; (with_reducible refine (z39.calls a0 t127 t128 _ A2.out).mono ?_); rintro e w14 ⟨v129, v131, rfl, ho0, ho1, hb⟩; have n0_ := Aside0.mk (Kd.R_lower ho0 (qZ (by repeat (first | (with_reducible first | exact HB.out | apply qA | apply qN | apply qD) | exact HB.out)))); have n1_ := Aside0.mk (Kd.R_lower ho1 (qZ (by repeat (first | (with_reducible first | exact HB.out | apply qA | apply qN | apply qD) | exact HB.out)))); have n2_ := Aside0.mk (qT (by repeat (first | (with_reducible first | exact HB.out | apply qA | apply qN | apply qD) | exact HB.out)) hb); clear HB; have HO130 := n0_; have HO132 := n1_; have HB := n2_; clear n0_ n1_ n2_; (try clear hb); (try clear hb2); (try clear hk); (try clear hi); (try clear ho0); (try clear ho1); have hE_v131 := errNil_of HO132.out; obtain ⟨Ao15, co15, eo15⟩ := Kd.R_slice HO130.out; subst eo15; have q16 : ((ji9) : Int) ≤ ((t127.length : Int) : Int) := of_decide_eq_true (by first | (with_reducible assumption) | assumption); obtain ⟨i016, hi016, _, hsz16, _⟩ := info_parts info9; have hroom16 : t127.length ≤ co15 := (Kd.R_reads' HO130.out).2.1; have hC16 : Kd.C Kd.string _ Ao15 t127.length t127 := (Kd.R_reads' HO130.out).2.2; have hcut16 := cut_to (P := Tryz.prog) 57 9 .i64 Tryz.underlying57 hi016 Ao15 t127.length co15 (ji9) (of_decide_eq_true (by first | (with_reducible assumption) | assumption)) q16 hroom16; have hr16 := Kd.C_take (m := ((ji9) : Int).toNat) hC16 (by omega); have hy16 : y136.length = ((ji9) : Int).toNat := (by rw [Ny136.out, List.length_take]; omega); rw [← Ny136.out] at hr16; rw [← hy16] at hcut16; have HR139 := Aside0.mk hr16; have HC139 := Aside0.mk (show y136.length ≤ co15 from by omega); clear hr16 hC16 hroom16 hi016 hsz16; have KY16 := Aside0.mk hy16; clear hy16; have KL16 := Aside0.mk (show ((ji9) : Int).toNat ≤ t127.length from by omega); replace q16 := eq_true q16) | (go_at_call 36; (with_reducible refine (z44.calls _ _ y136 t140 t141 _ ?side1 ?side2 A12.out).mono ?_); (case side1 => repeat (first | exact (by repeat (first | (with_reducible exact HR139.out) | (with_reducible refine Kd.C_alloc ?_ _) | (with_reducible refine Kd.C_drewN ?_ _) | (with_reducible refine Kd.C_drew ?_) | exact HR139.out)) | (with_reducible refine Kd.C_alloc ?_ _) | (with_reducible refine Kd.C_drewN ?_ _) | (with_reducible refine Kd.C_drew ?_))); (case side2 => exact HC139.out); rintro e w17 ⟨v142, rfl, ho0, hb⟩; have n0_ := Aside0.mk (Kd.R_below (by (with_reducible repeat (first | apply Kd.R_alloc | apply Kd.R_drewN | apply Kd.R_drew)); exact HO130.out) hb); have n1_ := Aside0.mk (Kd.R_elder' (by (with_reducible repeat (first | apply Kd.R_alloc | apply Kd.R_drewN | apply Kd.R_drew)); exact HO132.out) (Kd.R_base ho0) hb); have n2_ := Aside0.mk (Kd.R_lower (Kd.R_new' ho0 (Kd.R_lt (by (with_reducible repeat (first | apply Kd.R_alloc | apply Kd.R_drewN | apply Kd.R_drew)); exact HO132.out))) (qZ (by repeat (first | (with_reducible first | exact HB.out | apply qA | apply qN | apply qD) | exact HB.out)))); have n3_ := Aside0.mk (Kd.C_below (by repeat (first | (with_reducible exact HR139.out) | (with_reducible refine Kd.C_alloc ?_ _) | (with_reducible refine Kd.C_drewN ?_ _) | (with_reducible refine Kd.C_drew ?_) | exact HR139.out)) hb); have n4_ := Aside0.mk (qT (by repeat (first | (with_reducible first | exact HB.out | apply qA | apply qN | apply qD) | exact HB.out)) hb); clear HO130; clear HO132; clear HR139; clear HB; have HO130 := n0_; have HO132 := n1_; have HO143 := n2_; have HR139 := n3_; have HB := n4_; clear n0_ n1_ n2_ n3_ n4_; (try clear hb); (try clear hb2); (try clear hk); (try clear hi); (try clear ho0); have hE_v142 := errNil_of HO143.out; have p144 : 0 ≤ ((ji9) : Int) := of_decide_eq_true (by first | (with_reducible assumption) | assumption); have q144 : (ji9) < (t127.length : Int) := of_decide_eq_true (by first | (with_reducible assumption) | assumption); obtain ⟨ad144, e144, hx144_0⟩ := Kd.at_string (Kd.R_reads' HO130.out).2.2 (ji9) p144 q144; cases e144; replace p144 := eq_true p144; replace q144 := eq_true q144)); try go_wp2_with (first | (go_at_call 33; (with_reducible refine (z39.calls a0 t127 t128 _ A2.out).mono ?_); rintro e w14 ⟨v129, v131, rfl, ho0, ho1, hb⟩; have n0_ := Aside0.mk (Kd.R_lower ho0 (qZ (by repeat (first | (with_reducible first | exact HB.out | apply qA | apply qN | apply qD) | exact HB.out)))); have n1_ := Aside0.mk (Kd.R_lower ho1 (qZ (by repeat (first | (with_reducible first | exact HB.out | apply qA | apply qN | apply qD) | exact HB.out)))); have n2_ := Aside0.mk (qT (by repeat (first | (with_reducible first | exact HB.out | apply qA | apply qN | apply qD) | exact HB.out)) hb); clear HB; have HO130 := n0_; have HO132 := n1_; have HB := n2_; clear n0_ n1_ n2_; (try clear hb); (try clear hb2); (try clear hk); (try clear hi); (try clear ho0); (try clear ho1); have hE_v131 := errNil_of HO132.out; obtain ⟨Ao15, co15, eo15⟩ := Kd.R_slice HO130.out; subst eo15; have q16 : ((ji9) : Int) ≤ ((t127.length : Int) : Int) := of_decide_eq_true (by first | (with_reducible assumption) | assumption); obtain ⟨i016, hi016, _, hsz16, _⟩ := info_parts info9; have hroom16 : t127.length ≤ co15 := (Kd.R_reads' HO130.out).2.1; have hC16 : Kd.C Kd.string _ Ao15 t127.length t127 := (Kd.R_reads' HO130.out).2.2; have hcut16 := cut_to (P := Tryz.prog) 57 9 .i64 Tryz.underlying57 hi016 Ao15 t127.length co15 (ji9) (of_decide_eq_true (by first | (with_reducible assumption) | assumption)) q16 hroom16; have hr16 := Kd.C_take (m := ((ji9) : Int).toNat) hC16 (by omega); have hy16 : y136.length = ((ji9) : Int).toNat := (by rw [Ny136.out, List.length_take]; omega); rw [← Ny136.out] at hr16; rw [← hy16] at hcut16; have HR139 := Aside0.mk hr16; have HC139 := Aside0.mk (show y136.length ≤ co15 from by omega); clear hr16 hC16 hroom16 hi016 hsz16; have KY16 := Aside0.mk hy16; clear hy16; have KL16 := Aside0.mk (show ((ji9) : Int).toNat ≤ t127.length from by omega); replace q16 := eq_true q16) | (go_at_call 36; (with_reducible refine (z44.calls _ _ y136 t140 t141 _ ?side1 ?side2 A12.out).mono ?_); (case side1 => repeat (first | exact (by repeat (first | (with_reducible exact HR139.out) | (with_reducible refine Kd.C_alloc ?_ _) | (with_reducible refine Kd.C_drewN ?_ _) | (with_reducible refine Kd.C_drew ?_) | exact HR139.out)) | (with_reducible refine Kd.C_alloc ?_ _) | (with_reducible refine Kd.C_drewN ?_ _) | (with_reducible refine Kd.C_drew ?_))); (case side2 => exact HC139.out); rintro e w17 ⟨v142, rfl, ho0, hb⟩; have n0_ := Aside0.mk (Kd.R_below (by (with_reducible repeat (first | apply Kd.R_alloc | apply Kd.R_drewN | apply Kd.R_drew)); exact HO130.out) hb); have n1_ := Aside0.mk (Kd.R_elder' (by (with_reducible repeat (first | apply Kd.R_alloc | apply Kd.R_drewN | apply Kd.R_drew)); exact HO132.out) (Kd.R_base ho0) hb); have n2_ := Aside0.mk (Kd.R_lower (Kd.R_new' ho0 (Kd.R_lt (by (with_reducible repeat (first | apply Kd.R_alloc | apply Kd.R_drewN | apply Kd.R_drew)); exact HO132.out))) (qZ (by repeat (first | (with_reducible first | exact HB.out | apply qA | apply qN | apply qD) | exact HB.out)))); have n3_ := Aside0.mk (Kd.C_below (by repeat (first | (with_reducible exact HR139.out) | (with_reducible refine Kd.C_alloc ?_ _) | (with_reducible refine Kd.C_drewN ?_ _) | (with_reducible refine Kd.C_drew ?_) | exact HR139.out)) hb); have n4_ := Aside0.mk (qT (by repeat (first | (with_reducible first | exact HB.out | apply qA | apply qN | apply qD) | exact HB.out)) hb); clear HO130; clear HO132; clear HR139; clear HB; have HO130 := n0_; have HO132 := n1_; have HO143 := n2_; have HR139 := n3_; have HB := n4_; clear n0_ n1_ n2_ n3_ n4_; (try clear hb); (try clear hb2); (try clear hk); (try clear hi); (try clear ho0); have hE_v142 := errNil_of HO143.out; have p144 : 0 ≤ ((ji9) : Int) := of_decide_eq_true (by first | (with_reducible assumption) | assumption); have q144 : (ji9) < (t127.length : Int) := of_decide_eq_true (by first | (with_reducible assumption) | assumption); obtain ⟨ad144, e144, hx144_0⟩ := Kd.at_string (Kd.R_reads' HO130.out).2.2 (ji9) p144 q144; cases e144; replace p144 := eq_true p144; replace q144 := eq_true q144)))
      go_ret3
      exact ⟨_, by first | rfl | (simp [qn, qe] <;> rfl) | (simp only [← hji9]; first | rfl | (simp [qn, qe] <;> rfl)) | (simp [*, qn, qe] <;> rfl), by (with_reducible repeat (first | apply Kd.R_alloc | apply Kd.R_drewN | apply Kd.R_drew)); exact Kd.R_mono HO143.out (fun _ hk => trivial), by repeat (first | (with_reducible first | exact HB.out | apply qA | apply qN | apply qD) | exact HB.out)⟩
     ·rw [if_neg c13] at H
      exact absurd H (by simp)
    ·rw [if_neg c11] at H
     exact absurd H (by simp)
   ·rw [if_neg c10] at H
    exact absurd H (by simp)
 ·rw [if_neg c3] at H
  have c3b0 : (t128.isEmpty) = false := by simpa using c3
  clear c3
  simp only [Option.some.injEq, Prod.mk.injEq] at H
  obtain ⟨rfl, rfl, rfl⟩ := H
  go_enter Tryz.func30, Tryz.ntmps30
  go_wp2_with (first | (go_at_call 33; (with_reducible refine (z39.calls a0 t127 t128 _ A2.out).mono ?_); rintro e w18 ⟨v129, v131, rfl, ho0, ho1, hb⟩; have n0_ := Aside0.mk (Kd.R_lower ho0 (qZ (by repeat (first | (with_reducible first | exact HB.out | apply qA | apply qN | apply qD) | exact HB.out)))); have n1_ := Aside0.mk (Kd.R_lower ho1 (qZ (by repeat (first | (with_reducible first | exact HB.out | apply qA | apply qN | apply qD) | exact HB.out)))); have n2_ := Aside0.mk (qT (by repeat (first | (with_reducible first | exact HB.out | apply qA | apply qN | apply qD) | exact HB.out)) hb); clear HB; have HO130 := n0_; have HO132 := n1_; have HB := n2_; clear n0_ n1_ n2_; (try clear hb); (try clear hb2); (try clear hk); (try clear hi); (try clear ho0); (try clear ho1); have hE_v131 := errNil_of HO132.out))
  repeat (go_quiet (first | (go_at_call 33; (with_reducible refine (z39.calls a0 t127 t128 _ A2.out).mono ?_); rintro e w18 ⟨v129, v131, rfl, ho0, ho1, hb⟩; have n0_ := Aside0.mk (Kd.R_lower ho0 (qZ (by repeat (first | (with_reducible first | exact HB.out | apply qA | apply qN | apply qD) | exact HB.out)))); have n1_ := Aside0.mk (Kd.R_lower ho1 (qZ (by repeat (first | (with_reducible first | exact HB.out | apply qA | apply qN | apply qD) | exact HB.out)))); have n2_ := Aside0.mk (qT (by repeat (first | (with_reducible first | exact HB.out | apply qA | apply qN | apply qD) | exact HB.out)) hb); clear HB; have HO130 := n0_; have HO132 := n1_; have HB := n2_; clear n0_ n1_ n2_; (try clear hb); (try clear hb2); (try clear hk); (try clear hi); (try clear ho0); (try clear ho1); have hE_v131 := errNil_of HO132.out)); try go_wp2_with (first | (go_at_call 33; (with_reducible refine (z39.calls a0 t127 t128 _ A2.out).mono ?_); rintro e w18 ⟨v129, v131, rfl, ho0, ho1, hb⟩; have n0_ := Aside0.mk (Kd.R_lower ho0 (qZ (by repeat (first | (with_reducible first | exact HB.out | apply qA | apply qN | apply qD) | exact HB.out)))); have n1_ := Aside0.mk (Kd.R_lower ho1 (qZ (by repeat (first | (with_reducible first | exact HB.out | apply qA | apply qN | apply qD) | exact HB.out)))); have n2_ := Aside0.mk (qT (by repeat (first | (with_reducible first | exact HB.out | apply qA | apply qN | apply qD) | exact HB.out)) hb); clear HB; have HO130 := n0_; have HO132 := n1_; have HB := n2_; clear n0_ n1_ n2_; (try clear hb); (try clear hb2); (try clear hk); (try clear hi); (try clear ho0); (try clear ho1); have hE_v131 := errNil_of HO132.out)))
  go_ret3
  exact ⟨_, by first | rfl | (simp [qn, qe] <;> rfl) | (simp [*, qn, qe] <;> rfl), by (with_reducible repeat (first | apply Kd.R_alloc | apply Kd.R_drewN | apply Kd.R_drew)); exact HO132.out, by repeat (first | (with_reducible first | exact HB.out | apply qA | apply qN | apply qD) | exact HB.out)⟩

def z47.f (l0 : List S26) (a1 : ByteArray) : Option (Int × Bool) := if l0.length < 4611686018427387904 then some (((bsF (fun i => (rd_T26 l0 (i : Int)).f0) a1 l0.length 0 l0.length : Nat) : Int), decide (bsF (fun i => (rd_T26 l0 (i : Int)).f0) a1 l0.length 0 l0.length < l0.length) && decide (Lib.compareBytes ((rd_T26 l0 ((bsF (fun i => (rd_T26 l0 (i : Int)).f0) a1 l0.length 0 l0.length : Nat) : Int)).f0).data.toList a1.data.toList = 0)) else none
theorem z47.calls (A0 : Option Addr) (c0 : Nat) (l0 : List S26) (a1 : ByteArray) (r1 : Int) (r2 : Bool) (w : World) (hr0 : Kd.C k26 w A0 l0.length l0) (hc0 : l0.length ≤ c0) (h : z47.f l0 a1 = some (r1, r2)) :
  Calls Tryz.prog 31 #[.slice A0 l0.length c0, .string a1] w fun e w' => e = .returned (.tuple #[.int .i64 r1, .bool r2]) ∧ Below w.heap.size w w' := by
 unfold z47.f at h
 split at h
 ·rename_i hc
  obtain ⟨rfl, rfl⟩ := Prod.mk.inj (Option.some.inj h)
  refine at_row A0 l0.length c0 (fun i => (rd_T26 l0 (i : Int)).f0) (fun i => (rd_T26 l0 (i : Int)).f1) (fun i => (rd_T26 l0 (i : Int)).f2) a1 w hc ?_
  by_cases hz : l0.length = 0
  ·exact Or.inl hz
  ·right
   have hat := fun (i : Nat) (hi : i < l0.length) => at_T26 hr0 (i : Int) (by omega) (by omega)
   obtain ⟨ad, rfl, h0, _, _⟩ := hat 0 (by omega)
   refine ⟨ad, rfl, ⟨?_, ?_, ?_, ?_⟩⟩
   ·have := World.block_lt_of_cell? _ _ h0
    rwa [add_block] at this
   all_goals
    intro i hi
    obtain ⟨ad', e, q0, q1, q2⟩ := hat i hi
    obtain rfl := Option.some.inj e
    rw [Int.toNat_natCast] at q0 q1 q2
    assumption
 ·cases h

def z30.f (a0_0 : ByteArray) (a0_1 : Int) (a0_2 : ByteArray) : Option (Bool) := if a0_1 = 2 then (some true) else (some (a0_1 == 4))
set_option maxHeartbeats 8000000 in
set_option maxRecDepth 100000 in
theorem z30.calls (a0_0 : ByteArray) (a0_1 : Int) (a0_2 : ByteArray) (r : Bool) (w : World) (h : z30.f a0_0 a0_1 a0_2 = some r) :
  Calls Tryz.prog 32 #[.agg #[.string a0_0, .int .i64 a0_1, .string a0_2]] w fun e w' => e = .returned (.bool r) ∧ Below w.heap.size w w' := by
 have hu26 := Tryz.underlying26
 have HB := Aside0.mk (Below.refl w.heap.size w)
 have H : (if a0_1 = 2 then (some true) else (some (a0_1 == 4))) = some r := h
 clear h
 by_cases c2 : a0_1 = 2
 ·rw [if_pos c2] at H
  have c2b0 : (a0_1 == 2) = true := beq_iff_eq.mpr c2
  have c2b1 : (a0_1 != 2) = false := bne_eq_false_iff_eq.mpr c2
  clear c2
  obtain rfl := Option.some.inj H
  go_enter Tryz.func32, Tryz.ntmps32
  go_wp2_with (first | ((with_reducible refine qd (N := 1) rfl ?_); refine qx ?hg (N := 1) ?hd (cs := #[.string a0_0, .int .i64 a0_1, .string a0_2]) (t := 26) ?hr ?_; (case hd => rfl); (case hg => rfl); (case hr => first | (go_simp; done) | (go_simp; rfl)); intro gb145 hg w3 hbox hb; have n0_ := Aside0.mk (qT (by repeat (first | (with_reducible first | exact HB.out | apply qA | apply qN | apply qD) | exact HB.out)) hb); have n1_ := Aside0.mk (hbox); have n2_ := Aside0.mk ((by rw [hg]; exact (qZ (by repeat (first | (with_reducible first | exact HB.out | apply qA | apply qN | apply qD) | exact HB.out))) : w.heap.size ≤ gb145)); have n3_ := Aside0.mk ((by rw [hg]; exact (qZ (by repeat (first | (with_reducible first | exact HB.out | apply qA | apply qN | apply qD) | exact HB.out))) : w.heap.size ≤ gb145)); clear HB; have HB := n0_; have BK145 := n1_; have GW145 := n2_; have GE145 := n3_; clear n0_ n1_ n2_ n3_; clear hb hbox hg; have hcz4_0 : w3.cell? ⟨gb145, 0, none⟩ = some (.string a0_0) := (qC BK145.out 0).trans rfl; have hcz4_1 : w3.cell? ⟨gb145, 1, none⟩ = some (.int .i64 a0_1) := (qC BK145.out 1).trans rfl; have hcz4_2 : w3.cell? ⟨gb145, 2, none⟩ = some (.string a0_2) := (qC BK145.out 2).trans rfl; have hfz4_0 := qF BK145.out 0; have hfz4_1 := qF BK145.out 1; have hfz4_2 := qF BK145.out 2))
  go_ret
  exact ⟨by first | rfl | (simp [qn, qe] <;> rfl) | (simp [*, qn, qe] <;> rfl), by repeat (first | (with_reducible first | exact HB.out | apply qA | apply qN | apply qD | refine qS ?_ GE145.out) | exact HB.out)⟩
 ·rw [if_neg c2] at H
  have c2b0 : (a0_1 == 2) = false := beq_eq_false_iff_ne.mpr c2
  have c2b1 : (a0_1 != 2) = true := bne_iff_ne.mpr c2
  obtain rfl := Option.some.inj H
  go_enter Tryz.func32, Tryz.ntmps32
  go_wp2_with (first | ((with_reducible refine qd (N := 1) rfl ?_); refine qx ?hg (N := 1) ?hd (cs := #[.string a0_0, .int .i64 a0_1, .string a0_2]) (t := 26) ?hr ?_; (case hd => rfl); (case hg => rfl); (case hr => first | (go_simp; done) | (go_simp; rfl)); intro gb145 hg w5 hbox hb; have n0_ := Aside0.mk (qT (by repeat (first | (with_reducible first | exact HB.out | apply qA | apply qN | apply qD) | exact HB.out)) hb); have n1_ := Aside0.mk (hbox); have n2_ := Aside0.mk ((by rw [hg]; exact (qZ (by repeat (first | (with_reducible first | exact HB.out | apply qA | apply qN | apply qD) | exact HB.out))) : w.heap.size ≤ gb145)); have n3_ := Aside0.mk ((by rw [hg]; exact (qZ (by repeat (first | (with_reducible first | exact HB.out | apply qA | apply qN | apply qD) | exact HB.out))) : w.heap.size ≤ gb145)); clear HB; have HB := n0_; have BK145 := n1_; have GW145 := n2_; have GE145 := n3_; clear n0_ n1_ n2_ n3_; clear hb hbox hg; have hcz6_0 : w5.cell? ⟨gb145, 0, none⟩ = some (.string a0_0) := (qC BK145.out 0).trans rfl; have hcz6_1 : w5.cell? ⟨gb145, 1, none⟩ = some (.int .i64 a0_1) := (qC BK145.out 1).trans rfl; have hcz6_2 : w5.cell? ⟨gb145, 2, none⟩ = some (.string a0_2) := (qC BK145.out 2).trans rfl; have hfz6_0 := qF BK145.out 0; have hfz6_1 := qF BK145.out 1; have hfz6_2 := qF BK145.out 2))
  go_ret
  exact ⟨by first | rfl | (simp [qn, qe] <;> rfl) | (simp [*, qn, qe] <;> rfl), by repeat (first | (with_reducible first | exact HB.out | apply qA | apply qN | apply qD | refine qS ?_ GE145.out) | exact HB.out)⟩

end Go.Proofs.YthfbcclbappbcaaGreatDoor.Print
