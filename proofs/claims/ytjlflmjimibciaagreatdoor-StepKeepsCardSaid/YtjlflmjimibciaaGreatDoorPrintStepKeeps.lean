import Derived.Test.YtjlflmjimibciaaGreatDoorStepB
namespace Go.Proofs.YtjlflmjimibciaaGreatDoor.Print
open Go Go.RowKit Go.Proofs.YtjlflmjimibciaaGreatDoorW.PrintWords Go.Proofs.YtjlflmjimibciaaGreatDoorW.PrintLast Go.Proofs.YtjlflmjimibciaaGreatDoorW.PrintMore Go.Proofs.YtjlflmjimibciaaGreatDoor.Th
attribute [local go_sem] max2_int min2_int max_two min_two max_three min_three max_four min_four
set_option linter.unusedVariables false
set_option linter.unusedSimpArgs false
open Classical
def shalelaw16_StepKeeps.f (k : Nat) (l0 : List S41) (l1 : List S41) (a2 : Bool) : Option Bool := some true
set_option maxHeartbeats 16000000 in
set_option maxRecDepth 100000 in
theorem shalelaw16_StepKeeps.calls (k : Nat) (A0 : Option Addr) (c0 : Nat) (l0 : List S41) (A1 : Option Addr) (c1 : Nat) (l1 : List S41) (a2 : Bool) (r : Bool) (w0 : World) (hr0 : Kd.C k41 w0 A0 l0.length l0) (hc0 : l0.length ≤ c0) (hr1 : Kd.C k41 w0 A1 l1.length l1) (hc1 : l1.length ≤ c1) (hG : Gl w0) (h : shalelaw16_StepKeeps.f k l0 l1 a2 = some r) (hr : r = true) :
  Calls Tryz.prog 5 #[.slice A0 l0.length c0, .slice A1 l1.length c1, .bool a2] w0 fun e w' => e = .returned (.bool r) ∧ Below w0.heap.size w0 w' := by
 subst hr
 clear h
 have HG := Aside0.mk (fun (V : World) (h : Below w0.heap.size w0 V) => hG.below h)
 have Z0 := Aside0.mk (Below.refl w0.heap.size w0)
 have HR0 := Aside0.mk hr0
 have HC0 := Aside0.mk hc0
 have HR1 := Aside0.mk hr1
 have HC1 := Aside0.mk hc1
 clear hr0 hc0 hr1 hc1 hG
 by_cases hq0 : Fit l0
 case neg =>
  have HN := Aside0.mk hq0
  clear hq0
  go_enter Tryz.func5, Tryz.ntmps5
  go_wp2_with (first | (go_at_call 8; refine hold ?_))
  unfold Hold
  refine (awake16 w0 (HG.out _ Z0.out)).mono ?_
  rintro e w1 ⟨rfl, b1⟩
  have B1 := Aside0.mk b1
  have Z1 := Aside0.mk (bt Z0.out b1)
  clear b1
  go_wp2_with (first | (go_at_call 9; refine hold ?_))
  unfold Hold
  refine (size_no HN.out HR0.out HC0.out Z1.out).mono ?_
  rintro e w2 ⟨rfl, b2⟩
  have B2 := Aside0.mk b2
  have Z2 := Aside0.mk (bt Z1.out b2)
  clear b2
  go_wp2_with (first | (go_at_call 8; refine hold ?_))
  unfold Hold
  refine (awake16 w2 (HG.out _ Z2.out)).mono ?_
  rintro e w3 ⟨rfl, b3⟩
  have B3 := Aside0.mk b3
  have Z3 := Aside0.mk (bt Z2.out b3)
  clear b3
  go_wp2
  go_ret
  exact ⟨rfl, Z3.out⟩
 have HF0 := Aside0.mk hq0
 clear hq0
 by_cases hq1 : Fit l1
 case neg =>
  have HN := Aside0.mk hq1
  clear hq1
  go_enter Tryz.func5, Tryz.ntmps5
  go_wp2_with (first | (go_at_call 8; refine hold ?_))
  unfold Hold
  refine (awake16 w0 (HG.out _ Z0.out)).mono ?_
  rintro e w1 ⟨rfl, b1⟩
  have B1 := Aside0.mk b1
  have Z1 := Aside0.mk (bt Z0.out b1)
  clear b1
  go_wp2_with (first | (go_at_call 9; refine hold ?_))
  unfold Hold
  refine (size_yes HF0.out HR0.out HC0.out Z1.out).mono ?_
  rintro e w2 ⟨rfl, b2⟩
  have B2 := Aside0.mk b2
  have Z2 := Aside0.mk (bt Z1.out b2)
  clear b2
  go_wp2_with (first | (go_at_call 9; refine hold ?_))
  unfold Hold
  refine (size_no HN.out HR1.out HC1.out Z2.out).mono ?_
  rintro e w3 ⟨rfl, b3⟩
  have B3 := Aside0.mk b3
  have Z3 := Aside0.mk (bt Z2.out b3)
  clear b3
  go_wp2_with (first | (go_at_call 8; refine hold ?_))
  unfold Hold
  refine (awake16 w3 (HG.out _ Z3.out)).mono ?_
  rintro e w4 ⟨rfl, b4⟩
  have B4 := Aside0.mk b4
  have Z4 := Aside0.mk (bt Z3.out b4)
  clear b4
  go_wp2
  go_ret
  exact ⟨rfl, Z4.out⟩
 have HF1 := Aside0.mk hq1
 clear hq1
 by_cases hq2 : LR l0
 case neg =>
  have HN := Aside0.mk hq2
  clear hq2
  go_enter Tryz.func5, Tryz.ntmps5
  go_wp2_with (first | (go_at_call 8; refine hold ?_))
  unfold Hold
  refine (awake16 w0 (HG.out _ Z0.out)).mono ?_
  rintro e w1 ⟨rfl, b1⟩
  have B1 := Aside0.mk b1
  have Z1 := Aside0.mk (bt Z0.out b1)
  clear b1
  go_wp2_with (first | (go_at_call 9; refine hold ?_))
  unfold Hold
  refine (size_yes HF0.out HR0.out HC0.out Z1.out).mono ?_
  rintro e w2 ⟨rfl, b2⟩
  have B2 := Aside0.mk b2
  have Z2 := Aside0.mk (bt Z1.out b2)
  clear b2
  go_wp2_with (first | (go_at_call 9; refine hold ?_))
  unfold Hold
  refine (size_yes HF1.out HR1.out HC1.out Z2.out).mono ?_
  rintro e w3 ⟨rfl, b3⟩
  have B3 := Aside0.mk b3
  have Z3 := Aside0.mk (bt Z2.out b3)
  clear b3
  go_wp2_with (first | (go_at_call 10; refine hold ?_))
  unfold Hold
  refine (right_no HN.out HF0.out HR0.out HC0.out Z3.out).mono ?_
  rintro e w4 ⟨rfl, b4⟩
  have B4 := Aside0.mk b4
  have Z4 := Aside0.mk (bt Z3.out b4)
  clear b4
  go_wp2_with (first | (go_at_call 8; refine hold ?_))
  unfold Hold
  refine (awake16 w4 (HG.out _ Z4.out)).mono ?_
  rintro e w5 ⟨rfl, b5⟩
  have B5 := Aside0.mk b5
  have Z5 := Aside0.mk (bt Z4.out b5)
  clear b5
  go_wp2
  go_ret
  exact ⟨rfl, Z5.out⟩
 have HL0 := Aside0.mk hq2
 clear hq2
 by_cases hq3 : LR l1
 case neg =>
  have HN := Aside0.mk hq3
  clear hq3
  go_enter Tryz.func5, Tryz.ntmps5
  go_wp2_with (first | (go_at_call 8; refine hold ?_))
  unfold Hold
  refine (awake16 w0 (HG.out _ Z0.out)).mono ?_
  rintro e w1 ⟨rfl, b1⟩
  have B1 := Aside0.mk b1
  have Z1 := Aside0.mk (bt Z0.out b1)
  clear b1
  go_wp2_with (first | (go_at_call 9; refine hold ?_))
  unfold Hold
  refine (size_yes HF0.out HR0.out HC0.out Z1.out).mono ?_
  rintro e w2 ⟨rfl, b2⟩
  have B2 := Aside0.mk b2
  have Z2 := Aside0.mk (bt Z1.out b2)
  clear b2
  go_wp2_with (first | (go_at_call 9; refine hold ?_))
  unfold Hold
  refine (size_yes HF1.out HR1.out HC1.out Z2.out).mono ?_
  rintro e w3 ⟨rfl, b3⟩
  have B3 := Aside0.mk b3
  have Z3 := Aside0.mk (bt Z2.out b3)
  clear b3
  go_wp2_with (first | (go_at_call 10; refine hold ?_))
  unfold Hold
  refine (right_yes HL0.out HR0.out HC0.out Z3.out).mono ?_
  rintro e w4 ⟨rfl, b4⟩
  have B4 := Aside0.mk b4
  have Z4 := Aside0.mk (bt Z3.out b4)
  clear b4
  go_wp2_with (first | (go_at_call 10; refine hold ?_))
  unfold Hold
  refine (right_no HN.out HF1.out HR1.out HC1.out Z4.out).mono ?_
  rintro e w5 ⟨rfl, b5⟩
  have B5 := Aside0.mk b5
  have Z5 := Aside0.mk (bt Z4.out b5)
  clear b5
  go_wp2_with (first | (go_at_call 8; refine hold ?_))
  unfold Hold
  refine (awake16 w5 (HG.out _ Z5.out)).mono ?_
  rintro e w6 ⟨rfl, b6⟩
  have B6 := Aside0.mk b6
  have Z6 := Aside0.mk (bt Z5.out b6)
  clear b6
  go_wp2
  go_ret
  exact ⟨rfl, Z6.out⟩
 have HL1 := Aside0.mk hq3
 clear hq3
 go_enter Tryz.func5, Tryz.ntmps5
 go_wp2_with (first | (go_at_call 8; refine hold ?_))
 unfold Hold
 refine (awake16 w0 (HG.out _ Z0.out)).mono ?_
 rintro e w1 ⟨rfl, b1⟩
 have B1 := Aside0.mk b1
 have Z1 := Aside0.mk (bt Z0.out b1)
 clear b1
 go_wp2_with (first | (go_at_call 9; refine hold ?_))
 unfold Hold
 refine (size_yes HF0.out HR0.out HC0.out Z1.out).mono ?_
 rintro e w2 ⟨rfl, b2⟩
 have B2 := Aside0.mk b2
 have Z2 := Aside0.mk (bt Z1.out b2)
 clear b2
 go_wp2_with (first | (go_at_call 9; refine hold ?_))
 unfold Hold
 refine (size_yes HF1.out HR1.out HC1.out Z2.out).mono ?_
 rintro e w3 ⟨rfl, b3⟩
 have B3 := Aside0.mk b3
 have Z3 := Aside0.mk (bt Z2.out b3)
 clear b3
 go_wp2_with (first | (go_at_call 10; refine hold ?_))
 unfold Hold
 refine (right_yes HL0.out HR0.out HC0.out Z3.out).mono ?_
 rintro e w4 ⟨rfl, b4⟩
 have B4 := Aside0.mk b4
 have Z4 := Aside0.mk (bt Z3.out b4)
 clear b4
 go_wp2_with (first | (go_at_call 10; refine hold ?_))
 unfold Hold
 refine (right_yes HL1.out HR1.out HC1.out Z4.out).mono ?_
 rintro e w5 ⟨rfl, b5⟩
 have B5 := Aside0.mk b5
 have Z5 := Aside0.mk (bt Z4.out b5)
 clear b5
 go_wp2_with (first | ((with_reducible refine gate_builtin (b := .append) (xs := #[.tmp 40, .tmp 41]) rfl ?_); refine hold ?_))
 unfold Hold
 refine Kd.R_append_rows k41 (w0 := w5) w5.heap.size rfl (.tmp 40) (.tmp 41) 22 41 _ 40 rfl Tryz.underlying22 info41 rfl (by decide) (by omega) _ [] l0 _ _ _ (fun _ => True) (fun _ => False) rfl rfl ?aF ?aR (fun _ _ h => h) (fun _ h => h.elim) (fun _ _ => trivial) ?aB ?aS ?aL ?_
 case aF => exact R_empty_lit _ _ _ _ (Nat.le_refl _)
 case aR => exact Kd.C_below HR0.out (Z5.out.trans ((below_alloc (Below.refl _ _) _).mono Z5.out.size))
 case aB => exact below_alloc (Below.refl _ _) _
 case aS => simp
 case aL => have := HL0.out.2; simp; omega
 intro v6 w6 ho hb hg hat
 rw [List.nil_append] at ho
 obtain ⟨Aa, ca, rfl⟩ := Kd.R_slice ho
 have Oa := Aside0.mk ho
 have B6 := Aside0.mk hb
 have Z6 := Aside0.mk (bt Z5.out hb)
 have RBa := Aside0.mk (row_blk ho)
 clear ho hb hg hat
 go_wp2_with (first | ((with_reducible refine gate_builtin (b := .append) (xs := #[.tmp 43, .tmp 44]) rfl ?_); refine hold ?_))
 unfold Hold
 refine Kd.R_append_rows k41 (w0 := w6) w6.heap.size rfl (.tmp 43) (.tmp 44) 22 41 _ 40 rfl Tryz.underlying22 info41 rfl (by decide) (by omega) _ [] l1 _ _ _ (fun _ => True) (fun _ => False) rfl rfl ?aF ?aR (fun _ _ h => h) (fun _ h => h.elim) (fun _ _ => trivial) ?aB ?aS ?aL ?_
 case aF => exact R_empty_lit _ _ _ _ (Nat.le_refl _)
 case aR => exact Kd.C_below HR1.out (Z6.out.trans ((below_alloc (Below.refl _ _) _).mono Z6.out.size))
 case aB => exact below_alloc (Below.refl _ _) _
 case aS => simp
 case aL => have := HL1.out.2; simp; omega
 intro v7 w7 ho hb hg hat
 rw [List.nil_append] at ho
 obtain ⟨Ab, cb, rfl⟩ := Kd.R_slice ho
 have Ob := Aside0.mk ho
 have B7 := Aside0.mk hb
 have Z7 := Aside0.mk (bt Z6.out hb)
 have RBb := Aside0.mk (row_blk ho)
 clear ho hb hg hat
 have Oa' := Aside0.mk (Kd.R_below Oa.out B7.out)
 have RBa' := Aside0.mk (RBa.out.below B7.out)
 clear Oa RBa
 go_wp2_with (first | (go_at_call 11; refine hold ?_))
 unfold Hold
 refine (begin_yes (W := w7) a2 HL0.out HL1.out (Kd.R_reads' Oa'.out).2.2 (Kd.R_reads' Oa'.out).2.1 (Kd.R_reads' Ob.out).2.2 (Kd.R_reads' Ob.out).2.1 (Below.refl _ _)).mono ?_
 rintro e w8 ⟨g, rfl, hg, ms, b8⟩
 have B8 := Aside0.mk b8
 have Z8 := Aside0.mk (bt Z7.out b8)
 have M8 := Aside0.mk ms
 have GE := Aside0.mk hg
 clear b8 ms hg
 obtain ⟨m1, hm1⟩ : ∃ m1 : Nat, min 1 (l1.length : Int) = (m1 : Int) := ⟨(min 1 (l1.length : Int)).toNat, by omega⟩
 have HM1 := Aside0.mk hm1
 clear hm1
 go_wp2_with (first | (go_at_call 14; refine hold ?_))
 unfold Hold
 refine (step_ms (S := fun k => k < w7.heap.size ∨ k = g) 1 m1 (twoL l0 (l1.take m1)) (by decide) HM1.out (by have := HL1.out.2; omega) (fun k hk => by rcases hk with h | h; exact Nat.lt_of_lt_of_le h B8.out.size; exact h ▸ M8.out.lt) (.inr rfl) M8.out (run_take HL0.out HL1.out m1)).mono ?_
 rintro e w9 ⟨rfl, ms, k9, q9⟩
 have M9 := Aside0.mk ms
 have GW := Aside0.mk (Nat.le_trans Z7.out.size GE.out)
 have Z9 := Aside0.mk (Z8.out.trans (q9.mono GW.out))
 have QA := Aside0.mk (B8.out.trans (q9.mono GE.out))
 clear ms k9 q9
 have Oa9 := Aside0.mk (Kd.R_below Oa'.out QA.out)
 have Ob9 := Aside0.mk (Kd.R_below Ob.out QA.out)
 have RBa9 := Aside0.mk (RBa'.out.below QA.out)
 have RBb9 := Aside0.mk (RBb.out.below QA.out)
 clear Oa' Ob RBa' RBb
 go_wp2_with (first | (go_at_call 17; refine hold ?_))
 unfold Hold
 refine (same_c (by have := HL0.out.2; omega) rfl (Kd.C_below (Kd.R_reads' Oa9.out).2.2 (Below.refl _ _)) (Kd.R_reads' Oa9.out).2.1 (Kd.C_below HR0.out Z9.out) HC0.out).mono ?_
 rintro e w10 ⟨rfl, b10⟩
 have B10 := Aside0.mk b10
 have Z10 := Aside0.mk (bt Z9.out b10)
 clear b10
 go_wp2_with (first | (go_at_call 17; refine hold ?_))
 unfold Hold
 refine (same_c (by have := HL1.out.2; omega) rfl (Kd.C_below (Kd.R_reads' Ob9.out).2.2 B10.out) (Kd.R_reads' Ob9.out).2.1 (Kd.C_below HR1.out Z10.out) HC1.out).mono ?_
 rintro e w11 ⟨rfl, b11⟩
 have B11 := Aside0.mk b11
 have Z11 := Aside0.mk (bt Z10.out b11)
 clear b11
 have M11 := Aside0.mk (M9.out.below (bt B10.out B11.out))
 have RBa11 := Aside0.mk (RBa9.out.below (bt B10.out B11.out))
 have RBb11 := Aside0.mk (RBb9.out.below (bt B10.out B11.out))
 have H56 := Aside0.mk B6.out.size
 have H67 := Aside0.mk B7.out.size
 have H05 := Aside0.mk Z5.out.size
 clear RBa9 RBb9 Oa9 Ob9
 obtain ⟨na, hna⟩ : ∃ n, l0.length = n := ⟨_, rfl⟩
 obtain ⟨nb, hnb⟩ : ∃ n, l1.length = n := ⟨_, rfl⟩
 have HNA := Aside0.mk (show na ≤ 64 by have := HL0.out.2; omega)
 have HNB := Aside0.mk (show nb ≤ 64 by have := HL1.out.2; omega)
 have HN0 := Aside0.mk hna
 have HN1 := Aside0.mk hnb
 rw [hna] at RBa11
 rw [hnb] at RBb11
 clear hna hnb
 have hna := HN0.out
 have hnb := HN1.out
 go_wp2
 (try rw [hna])
 clear hna
 go_loopg [11] na (fun gg s11 wr => ∃ i : Nat, s11 = .int .i64 i ∧ i ≤ na ∧ na - i ≤ gg ∧ Aside0 (MS wr (fun k => k < w7.heap.size ∨ k = g) g (twoL l0 (l1.take m1)) (l1.drop m1) a2) ∧ Aside0 (RowBlk wr w5.heap.size w6.heap.size Aa ca na) ∧ Aside0 (RowBlk wr w6.heap.size w7.heap.size Ab cb nb) ∧ Aside0 (Below w0.heap.size w0 wr))
 case atStart => exact ⟨0, rfl, Nat.zero_le _, by omega, M11, RBa11, RBb11, Z11⟩
 case round =>
  obtain ⟨i, rfl, hin, hgg, ML, RA, RB, ZL⟩ := hrel
  clear M11 RBa11 RBb11
  by_cases hlt : i < na
  ·have hltz : (i : Int) < (na : Int) := by omega
   have hi0 : (0 : Int) ≤ (i : Int) := by omega
   have hw2 : IntKind.i64.wrap ((i : Int) + 1) = (i : Int) + 1 := IntWalk.i64_in _ (by have := HNA.out; omega)
   obtain ⟨hnc, g', cur, hA, hlo, hhi, hb, hcl⟩ := RA.out (by omega)
   subst hA
   have HG' := Aside0.mk (And.intro hlo hhi)
   have HCL := Aside0.mk hcl
   have HNC := Aside0.mk hnc
   have HBK := Aside0.mk hb
   clear hlo hhi hb hcl hnc RA
   go_wp2_with (first | ((with_reducible refine gate_st3 (x := .tmp 74) (y := .tmp 73) rfl ?_); refine hold ?_))
   unfold Hold
   refine wp_store_blk rfl 41 (.tmp 74) (.tmp 73) rfl 3 Tryz.size3 g' (i * 3) rfl _ rfl [.string ⟨#[]⟩, .int .i64 0, .string ⟨#[]⟩] rfl rfl cur 41 HBK.out ?hf (by intro u hu; simp at hu; rcases hu with rfl | rfl | rfl <;> rfl) (B := w0.heap.size) (w0 := w0) ZL.out (by have := HG'.out; have := H05.out; have := H56.out; omega) ?_
   case hf => rw [HCL.out]; have := HNC.out; simp; omega
   intro wS hg6 hk6 hb6
   have hkk := hk6.out.kept (S := fun k => k = g') rfl
   have MN := Aside0.mk (ML.out.kept hkk (fun k h => by left; have := HG'.out; have := H67.out; omega) (fun h => by have := HG'.out; have := GE.out; have := H67.out; omega))
   have RN := Aside0.mk (show RowBlk wS w5.heap.size w6.heap.size (some ⟨g', 0, none⟩) ca na from fun _ => ⟨HNC.out, g', _, rfl, HG'.out.1, HG'.out.2, hg6.out, by have h5 := HNC.out; have h6 := HCL.out; rw [length_splice _ _ _ (by simp; omega)]; exact h6⟩)
   have TN := Aside0.mk (RB.out.kept hkk (fun k h1 h2 h3 => by have := HG'.out; omega))
   have ZN := Aside0.mk hb6.out
   clear hkk hg6 hk6 hb6
   go_wp2
   go_roundg (na - (i + 1))
   case measure => omega
   case rel => exact ⟨i + 1, by push_cast; rfl, by omega, by omega, MN, RN, TN, ZN⟩
  ·have hltz : ¬ (i : Int) < (na : Int) := by omega
   have M200 := ML
   have R200 := RA
   have T200 := RB
   have Z200 := ZL
   clear ML RA RB ZL hin hgg
   obtain ⟨w200, hw200⟩ : ∃ w200, w200 = wr := ⟨_, rfl⟩
   subst hw200
   go_wp2
   clear hlt hltz
   (try rw [hnb])
   clear hnb
   go_loopg [12] nb (fun gg s12 wr => ∃ i : Nat, s12 = .int .i64 i ∧ i ≤ nb ∧ nb - i ≤ gg ∧ Aside0 (MS wr (fun k => k < w7.heap.size ∨ k = g) g (twoL l0 (l1.take m1)) (l1.drop m1) a2) ∧ Aside0 (RowBlk wr w5.heap.size w6.heap.size Aa ca na) ∧ Aside0 (RowBlk wr w6.heap.size w7.heap.size Ab cb nb) ∧ Aside0 (Below w0.heap.size w0 wr))
   case atStart => exact ⟨0, rfl, Nat.zero_le _, by omega, M200, R200, T200, Z200⟩
   case round =>
    obtain ⟨i, rfl, hin, hgg, ML, RA, RB, ZL⟩ := hrel
    clear M200 R200 T200
    by_cases hlt : i < nb
    ·have hltz : (i : Int) < (nb : Int) := by omega
     have hi0 : (0 : Int) ≤ (i : Int) := by omega
     have hw2 : IntKind.i64.wrap ((i : Int) + 1) = (i : Int) + 1 := IntWalk.i64_in _ (by have := HNB.out; omega)
     obtain ⟨hnc, g', cur, hA, hlo, hhi, hb, hcl⟩ := RB.out (by omega)
     subst hA
     have HG' := Aside0.mk (And.intro hlo hhi)
     have HCL := Aside0.mk hcl
     have HNC := Aside0.mk hnc
     have HBK := Aside0.mk hb
     clear hlo hhi hb hcl hnc RB
     go_wp2_with (first | ((with_reducible refine gate_st3 (x := .tmp 84) (y := .tmp 83) rfl ?_); refine hold ?_))
     unfold Hold
     refine wp_store_blk rfl 41 (.tmp 84) (.tmp 83) rfl 3 Tryz.size3 g' (i * 3) rfl _ rfl [.string ⟨#[]⟩, .int .i64 0, .string ⟨#[]⟩] rfl rfl cur 41 HBK.out ?hf (by intro u hu; simp at hu; rcases hu with rfl | rfl | rfl <;> rfl) (B := w0.heap.size) (w0 := w0) ZL.out (by have := HG'.out; have := H05.out; have := H56.out; omega) ?_
     case hf => rw [HCL.out]; have := HNC.out; simp; omega
     intro wS hg6 hk6 hb6
     have hkk := hk6.out.kept (S := fun k => k = g') rfl
     have MN := Aside0.mk (ML.out.kept hkk (fun k h => by left; have := HG'.out; have := H67.out; omega) (fun h => by have := HG'.out; have := GE.out; have := H67.out; omega))
     have RN := Aside0.mk (show RowBlk wS w6.heap.size w7.heap.size (some ⟨g', 0, none⟩) cb nb from fun _ => ⟨HNC.out, g', _, rfl, HG'.out.1, HG'.out.2, hg6.out, by have h5 := HNC.out; have h6 := HCL.out; rw [length_splice _ _ _ (by simp; omega)]; exact h6⟩)
     have TN := Aside0.mk (RA.out.kept hkk (fun k h1 h2 h3 => by have := HG'.out; omega))
     have ZN := Aside0.mk hb6.out
     clear hkk hg6 hk6 hb6
     go_wp2
     go_roundg (nb - (i + 1))
     case measure => omega
     case rel => exact ⟨i + 1, by push_cast; rfl, by omega, by omega, MN, TN, RN, ZN⟩
    ·have hltz : ¬ (i : Int) < (nb : Int) := by omega
     obtain ⟨rr, er, hrr, hfin, hlay⟩ := layer_any (twoL l0 l1) a2 (by have := two_len HL0.out HL1.out l1.length; rw [List.take_length] at this; omega)
     have HRR := Aside0.mk hrr
     have HFI := Aside0.mk hfin
     have HLY := Aside0.mk hlay
     have hln : (l1.drop m1).length = nb - m1 := by rw [List.length_drop, HN1.out]
     have HRUN := Aside0.mk (run_from HL0.out HL1.out m1 (by have := HM1.out; omega))
     have HLN := Aside0.mk hln
     clear hrr hfin hlay hln
     have M300 := ML
     have Z300 := ZL
     clear ML ZL RA RB
     obtain ⟨w300, hw300⟩ : ∃ w300, w300 = wr := ⟨_, rfl⟩
     subst hw300
     go_wp2_with (first | (go_at_call 14; refine hold ?_))
     unfold Hold
     refine (step_ms (S := fun k => k < w7.heap.size ∨ k = g) 100 (l1.drop m1).length (twoL l0 l1) (by decide) (by have := HLN.out; have := HNB.out; omega) (by have := HLN.out; have := HNB.out; omega) (fun k hk => by have h9 := M300.out.lt; have := GE.out; rcases hk with h | h <;> omega) (.inr rfl) M300.out (by rw [List.take_length]; exact HRUN.out)).mono ?_
     rintro e w301 ⟨rfl, ms, k301, q301⟩
     have NA := Aside0.mk (show MS w301 (fun k => k < w7.heap.size ∨ k = g) g (twoL l0 l1) [] a2 from by rwa [List.drop_length] at ms)
     have Z301 := Aside0.mk (Z300.out.trans (q301.mono GW.out))
     clear ms k301 q301
     go_wp2_with (first | (go_at_call 16; refine hold ?_))
     unfold Hold
     refine (HLY.out _ _ _ NA.out).mono ?_
     rintro e w302 ⟨va, ua, rfl, oa, pa, b302⟩
     have B302 := Aside0.mk b302
     have Z302 := Aside0.mk (bt Z301.out b302)
     clear b302
     have XA := Aside0.mk oa
     have EA := Aside0.mk pa
     clear oa pa
     have HTWO := Aside0.mk (fun (V : World) (hV : Below w0.heap.size w0 V) => two_c a2 HL0.out HL1.out HFI.out HR0.out HC0.out HR1.out HC1.out hV)
     rw [HN0.out, HN1.out] at HTWO
     go_wp2_with (first | (go_at_call 18; refine hold ?_))
     unfold Hold
     refine (HTWO.out _ Z302.out).mono ?_
     rintro e w303 ⟨vb, ub, rfl, ob, pb, b303⟩
     have B303 := Aside0.mk b303
     have Z303 := Aside0.mk (bt Z302.out b303)
     clear b303
     have XB := Aside0.mk ob
     have EB := Aside0.mk pb
     clear ob pb
     go_wp2_with (first | (go_at_call 15; refine hold ?_))
     unfold Hold
     refine (code_nil w303 (HG.out _ Z303.out)).mono ?_
     rintro e w304 ⟨rfl, b304⟩
     have B304 := Aside0.mk b304
     have Z304 := Aside0.mk (bt Z303.out b304)
     clear b304
     go_wp2_with (first | (go_at_call 15; refine hold ?_))
     unfold Hold
     refine (code_R (Kd.R_below EA.out (bt B303.out B304.out)) (HG.out _ Z304.out)).mono ?_
     rintro e w305 ⟨rfl, b305⟩
     have B305 := Aside0.mk b305
     have Z305 := Aside0.mk (bt Z304.out b305)
     clear b305
     go_wp2_with (first | (go_at_call 15; refine hold ?_))
     unfold Hold
     refine (code_R (Kd.R_below EB.out (bt B304.out B305.out)) (HG.out _ Z305.out)).mono ?_
     rintro e w306 ⟨rfl, b306⟩
     have B306 := Aside0.mk b306
     have Z306 := Aside0.mk (bt Z305.out b306)
     clear b306
     go_wp2_with (first | (go_at_call 17; refine hold ?_))
     unfold Hold
     refine (same_R (by have := HRR.out; omega) rfl (Kd.R_below XA.out (bt B303.out (bt B304.out (bt B305.out B306.out)))) (Kd.R_below XB.out (bt B304.out (bt B305.out B306.out)))).mono ?_
     rintro e w307 ⟨rfl, b307⟩
     have B307 := Aside0.mk b307
     have Z307 := Aside0.mk (bt Z306.out b307)
     clear b307
     go_wp2
     go_ret
     exact ⟨by first | rfl | simp, Z307.out⟩
end Go.Proofs.YtjlflmjimibciaaGreatDoor.Print
