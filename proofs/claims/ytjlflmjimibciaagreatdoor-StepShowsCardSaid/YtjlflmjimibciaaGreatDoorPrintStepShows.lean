import Derived.Test.YtjlflmjimibciaaGreatDoorStepB
namespace Go.Proofs.YtjlflmjimibciaaGreatDoor.Print
open Go Go.RowKit Go.Proofs.YtjlflmjimibciaaGreatDoorW.PrintWords Go.Proofs.YtjlflmjimibciaaGreatDoorW.PrintLast Go.Proofs.YtjlflmjimibciaaGreatDoorW.PrintMore Go.Proofs.YtjlflmjimibciaaGreatDoor.Th
attribute [local go_sem] max2_int min2_int max_two min_two max_three min_three max_four min_four
set_option linter.unusedVariables false
set_option linter.unusedSimpArgs false
open Classical
def shalelaw16_StepShows.f (k : Nat) (l0 : List (List S41)) (l1 : List S41) (l2 : List S41) : Option Bool := some true
set_option maxHeartbeats 80000000 in
set_option maxRecDepth 100000 in
theorem shalelaw16_StepShows.calls (k : Nat) (A0 : Option Addr) (c0 : Nat) (l0 : List (List S41)) (A1 : Option Addr) (c1 : Nat) (l1 : List S41) (A2 : Option Addr) (c2 : Nat) (l2 : List S41) (r : Bool) (w0 : World) (hr0 : Kd.C (Kd.slice 41 k41) w0 A0 l0.length l0) (hc0 : l0.length ≤ c0) (hr1 : Kd.C k41 w0 A1 l1.length l1) (hc1 : l1.length ≤ c1) (hr2 : Kd.C k41 w0 A2 l2.length l2) (hc2 : l2.length ≤ c2) (hG : Gl w0) (h : shalelaw16_StepShows.f k l0 l1 l2 = some r) (hr : r = true) :
  Calls Tryz.prog 7 #[.slice A0 l0.length c0, .slice A1 l1.length c1, .slice A2 l2.length c2] w0 fun e w' => e = .returned (.bool r) ∧ Below w0.heap.size w0 w' := by
 subst hr
 clear h
 have HG := Aside0.mk (fun (V : World) (h : Below w0.heap.size w0 V) => hG.below h)
 have Z0 := Aside0.mk (Below.refl w0.heap.size w0)
 have HR0 := Aside0.mk hr0
 have HC0 := Aside0.mk hc0
 have HR1 := Aside0.mk hr1
 have HC1 := Aside0.mk hc1
 have HR2 := Aside0.mk hr2
 have HC2 := Aside0.mk hc2
 clear hr0 hc0 hr1 hc1 hr2 hc2 hG
 by_cases hq0 : FitS l0
 case neg =>
  have HN := Aside0.mk hq0
  clear hq0
  go_enter Tryz.func7, Tryz.ntmps7
  go_wp2_with (first | (go_at_call 8; refine hold ?_))
  unfold Hold
  refine (awake16 w0 (HG.out _ Z0.out)).mono ?_
  rintro e w1 ⟨rfl, b1⟩
  have B1 := Aside0.mk b1
  have Z1 := Aside0.mk (bt Z0.out b1)
  clear b1
  go_wp2_with (first | (go_at_call 20; refine hold ?_))
  unfold Hold
  refine (few_no HN.out HR0.out HC0.out Z1.out).mono ?_
  rintro e w2 ⟨rfl, b2⟩
  have B2 := Aside0.mk b2
  have Z2 := Aside0.mk (bt Z1.out b2)
  clear b2
  go_wp2_with (first | (go_at_call 8; refine hold ?_))
  unfold Hold
  refine (awake16 w2 (HG.out _ Z2.out)).mono ?_
  rintro e w3 ⟨rfl, b3⟩
  have B3 := Aside0.mk b3
  have Z3 := Aside0.mk (bt Z2.out b3)
  clear b3
  go_wp2
  go_ret
  exact ⟨rfl, Z3.out⟩
 have HF0 := Aside0.mk hq0
 clear hq0
 by_cases hq1 : Fit l1
 case neg =>
  have HN := Aside0.mk hq1
  clear hq1
  go_enter Tryz.func7, Tryz.ntmps7
  go_wp2_with (first | (go_at_call 8; refine hold ?_))
  unfold Hold
  refine (awake16 w0 (HG.out _ Z0.out)).mono ?_
  rintro e w1 ⟨rfl, b1⟩
  have B1 := Aside0.mk b1
  have Z1 := Aside0.mk (bt Z0.out b1)
  clear b1
  go_wp2_with (first | (go_at_call 20; refine hold ?_))
  unfold Hold
  refine (few_yes HF0.out HR0.out HC0.out Z1.out).mono ?_
  rintro e w2 ⟨rfl, b2⟩
  have B2 := Aside0.mk b2
  have Z2 := Aside0.mk (bt Z1.out b2)
  clear b2
  go_wp2_with (first | (go_at_call 9; refine hold ?_))
  unfold Hold
  refine (size_no HN.out HR1.out HC1.out Z2.out).mono ?_
  rintro e w3 ⟨rfl, b3⟩
  have B3 := Aside0.mk b3
  have Z3 := Aside0.mk (bt Z2.out b3)
  clear b3
  go_wp2_with (first | (go_at_call 8; refine hold ?_))
  unfold Hold
  refine (awake16 w3 (HG.out _ Z3.out)).mono ?_
  rintro e w4 ⟨rfl, b4⟩
  have B4 := Aside0.mk b4
  have Z4 := Aside0.mk (bt Z3.out b4)
  clear b4
  go_wp2
  go_ret
  exact ⟨rfl, Z4.out⟩
 have HF1 := Aside0.mk hq1
 clear hq1
 by_cases hq2 : Fit l2
 case neg =>
  have HN := Aside0.mk hq2
  clear hq2
  go_enter Tryz.func7, Tryz.ntmps7
  go_wp2_with (first | (go_at_call 8; refine hold ?_))
  unfold Hold
  refine (awake16 w0 (HG.out _ Z0.out)).mono ?_
  rintro e w1 ⟨rfl, b1⟩
  have B1 := Aside0.mk b1
  have Z1 := Aside0.mk (bt Z0.out b1)
  clear b1
  go_wp2_with (first | (go_at_call 20; refine hold ?_))
  unfold Hold
  refine (few_yes HF0.out HR0.out HC0.out Z1.out).mono ?_
  rintro e w2 ⟨rfl, b2⟩
  have B2 := Aside0.mk b2
  have Z2 := Aside0.mk (bt Z1.out b2)
  clear b2
  go_wp2_with (first | (go_at_call 9; refine hold ?_))
  unfold Hold
  refine (size_yes HF1.out HR1.out HC1.out Z2.out).mono ?_
  rintro e w3 ⟨rfl, b3⟩
  have B3 := Aside0.mk b3
  have Z3 := Aside0.mk (bt Z2.out b3)
  clear b3
  go_wp2_with (first | (go_at_call 9; refine hold ?_))
  unfold Hold
  refine (size_no HN.out HR2.out HC2.out Z3.out).mono ?_
  rintro e w4 ⟨rfl, b4⟩
  have B4 := Aside0.mk b4
  have Z4 := Aside0.mk (bt Z3.out b4)
  clear b4
  go_wp2_with (first | (go_at_call 8; refine hold ?_))
  unfold Hold
  refine (awake16 w4 (HG.out _ Z4.out)).mono ?_
  rintro e w5 ⟨rfl, b5⟩
  have B5 := Aside0.mk b5
  have Z5 := Aside0.mk (bt Z4.out b5)
  clear b5
  go_wp2
  go_ret
  exact ⟨rfl, Z5.out⟩
 have HF2 := Aside0.mk hq2
 clear hq2
 by_cases hq6 : 6 < l0.length
 case pos =>
  have hx6 : (6 : Int) < (l0.length : Int) := by omega
  go_enter Tryz.func7, Tryz.ntmps7
  go_wp2_with (first | (go_at_call 8; refine hold ?_))
  unfold Hold
  refine (awake16 w0 (HG.out _ Z0.out)).mono ?_
  rintro e w1 ⟨rfl, b1⟩
  have B1 := Aside0.mk b1
  have Z1 := Aside0.mk (bt Z0.out b1)
  clear b1
  go_wp2_with (first | (go_at_call 20; refine hold ?_))
  unfold Hold
  refine (few_yes HF0.out HR0.out HC0.out Z1.out).mono ?_
  rintro e w2 ⟨rfl, b2⟩
  have B2 := Aside0.mk b2
  have Z2 := Aside0.mk (bt Z1.out b2)
  clear b2
  go_wp2_with (first | (go_at_call 9; refine hold ?_))
  unfold Hold
  refine (size_yes HF1.out HR1.out HC1.out Z2.out).mono ?_
  rintro e w3 ⟨rfl, b3⟩
  have B3 := Aside0.mk b3
  have Z3 := Aside0.mk (bt Z2.out b3)
  clear b3
  go_wp2_with (first | (go_at_call 9; refine hold ?_))
  unfold Hold
  refine (size_yes HF2.out HR2.out HC2.out Z3.out).mono ?_
  rintro e w4 ⟨rfl, b4⟩
  have B4 := Aside0.mk b4
  have Z4 := Aside0.mk (bt Z3.out b4)
  clear b4
  go_wp2_with (first | (go_at_call 8; refine hold ?_))
  unfold Hold
  refine (awake16 w4 (HG.out _ Z4.out)).mono ?_
  rintro e w5 ⟨rfl, b5⟩
  have B5 := Aside0.mk b5
  have Z5 := Aside0.mk (bt Z4.out b5)
  clear b5
  go_wp2
  go_ret
  exact ⟨rfl, Z5.out⟩
 have hx6 : ¬ (6 : Int) < (l0.length : Int) := by omega
 have H6 := Aside0.mk hq6
 clear hq6
 obtain ⟨b, hb⟩ : ∃ b, b = decide ((l0.length : Int) = 0) := ⟨_, rfl⟩
 have HBB := Aside0.mk hb
 by_cases hL : LR l1 ∧ LR l2
 case neg =>
  have HNL := Aside0.mk hL
  clear hL
  have HBG := Aside0.mk (fun (V : World) (hV : Below w0.heap.size w0 V) => begin_bad b HF1.out HF2.out HNL.out HR1.out HC1.out HR2.out HC2.out hV)
  rw [hb] at HBG
  clear hb
  go_enter Tryz.func7, Tryz.ntmps7
  go_wp2_with (first | (go_at_call 8; refine hold ?_))
  unfold Hold
  refine (awake16 w0 (HG.out _ Z0.out)).mono ?_
  rintro e w1 ⟨rfl, b1⟩
  have B1 := Aside0.mk b1
  have Z1 := Aside0.mk (bt Z0.out b1)
  clear b1
  go_wp2_with (first | (go_at_call 20; refine hold ?_))
  unfold Hold
  refine (few_yes HF0.out HR0.out HC0.out Z1.out).mono ?_
  rintro e w2 ⟨rfl, b2⟩
  have B2 := Aside0.mk b2
  have Z2 := Aside0.mk (bt Z1.out b2)
  clear b2
  go_wp2_with (first | (go_at_call 9; refine hold ?_))
  unfold Hold
  refine (size_yes HF1.out HR1.out HC1.out Z2.out).mono ?_
  rintro e w3 ⟨rfl, b3⟩
  have B3 := Aside0.mk b3
  have Z3 := Aside0.mk (bt Z2.out b3)
  clear b3
  go_wp2_with (first | (go_at_call 9; refine hold ?_))
  unfold Hold
  refine (size_yes HF2.out HR2.out HC2.out Z3.out).mono ?_
  rintro e w4 ⟨rfl, b4⟩
  have B4 := Aside0.mk b4
  have Z4 := Aside0.mk (bt Z3.out b4)
  clear b4
  go_wp2_with (first | (go_at_call 11; refine hold ?_))
  unfold Hold
  refine (HBG.out _ Z4.out).mono ?_
  rintro e w5 ⟨u5, rfl, p5, b5⟩
  have B5 := Aside0.mk b5
  have Z5 := Aside0.mk (bt Z4.out b5)
  clear b5
  have E5 := Aside0.mk p5
  clear p5
  go_wp2_with (first | (go_at_call 15; refine hold ?_))
  unfold Hold
  refine ((code_R (Kd.R_below E5.out (Below.refl _ _)) (HG.out _ Z5.out) : Calls Tryz.prog 15 #[errV u5] w5 fun e w' => e = .returned (.int .i64 16) ∧ Below (w5).heap.size w5 w')).mono ?_
  rintro e w6 ⟨rfl, b6⟩
  have B6 := Aside0.mk b6
  have Z6 := Aside0.mk (bt Z5.out b6)
  clear b6
  go_wp2_with (first | (go_at_call 15; refine hold ?_))
  unfold Hold
  refine ((code_R (Kd.R_below E5.out B6.out) (HG.out _ Z6.out) : Calls Tryz.prog 15 #[errV u5] w6 fun e w' => e = .returned (.int .i64 16) ∧ Below (w6).heap.size w6 w')).mono ?_
  rintro e w7 ⟨rfl, b7⟩
  have B7 := Aside0.mk b7
  have Z7 := Aside0.mk (bt Z6.out b7)
  clear b7
  go_wp2
  go_ret
  exact ⟨by first | rfl | simp, Z7.out⟩
 have HLL := Aside0.mk hL
 clear hL
 obtain ⟨rr, er, hrr, hfin, hlay⟩ := layer_any (twoL l1 l2) b (by have := two_len HLL.out.1 HLL.out.2 l2.length; rw [List.take_length] at this; omega)
 have HRR := Aside0.mk hrr
 have HLY := Aside0.mk hlay
 have HBG := Aside0.mk (fun (V : World) (hV : Below w0.heap.size w0 V) => begin_yes b HLL.out.1 HLL.out.2 HR1.out HC1.out HR2.out HC2.out hV)
 have HB2 := HBB
 rw [hb] at HBG HLY
 clear hrr hlay hb
 rcases hfin with ⟨hf, hrr, her⟩ | ⟨hf, hrr, her⟩
 ·subst her
  have HFI := Aside0.mk hf
  have HRQ := Aside0.mk hrr
  clear hf hrr
  go_enter Tryz.func7, Tryz.ntmps7
  go_wp2_with (first | (go_at_call 8; refine hold ?_))
  unfold Hold
  refine (awake16 w0 (HG.out _ Z0.out)).mono ?_
  rintro e w1 ⟨rfl, b1⟩
  have B1 := Aside0.mk b1
  have Z1 := Aside0.mk (bt Z0.out b1)
  clear b1
  go_wp2_with (first | (go_at_call 20; refine hold ?_))
  unfold Hold
  refine (few_yes HF0.out HR0.out HC0.out Z1.out).mono ?_
  rintro e w2 ⟨rfl, b2⟩
  have B2 := Aside0.mk b2
  have Z2 := Aside0.mk (bt Z1.out b2)
  clear b2
  go_wp2_with (first | (go_at_call 9; refine hold ?_))
  unfold Hold
  refine (size_yes HF1.out HR1.out HC1.out Z2.out).mono ?_
  rintro e w3 ⟨rfl, b3⟩
  have B3 := Aside0.mk b3
  have Z3 := Aside0.mk (bt Z2.out b3)
  clear b3
  go_wp2_with (first | (go_at_call 9; refine hold ?_))
  unfold Hold
  refine (size_yes HF2.out HR2.out HC2.out Z3.out).mono ?_
  rintro e w4 ⟨rfl, b4⟩
  have B4 := Aside0.mk b4
  have Z4 := Aside0.mk (bt Z3.out b4)
  clear b4
  go_wp2_with (first | (go_at_call 11; refine hold ?_))
  unfold Hold
  refine (HBG.out _ Z4.out).mono ?_
  rintro e w5 ⟨g, rfl, hg, ms, b5⟩
  have B5 := Aside0.mk b5
  have Z5 := Aside0.mk (bt Z4.out b5)
  have M := Aside0.mk (ms.wide (S' := fun k => k = g) (fun k _ h => .inr h))
  have GWM := Aside0.mk (Nat.le_trans Z4.out.size hg)
  clear b5 ms hg
  go_wp2_with (first | (go_at_call 15; refine hold ?_))
  unfold Hold
  refine (code_nil w5 (HG.out _ Z5.out)).mono ?_
  rintro e w6 ⟨rfl, b6⟩
  have B6 := Aside0.mk b6
  have Z6 := Aside0.mk (bt Z5.out b6)
  clear b6
  go_wp2_with (first | (go_at_call 14; refine hold ?_))
  unfold Hold
  refine (step_g 100 l2.length (twoL l1 l2) (by decide) (by have := HLL.out.2.2; omega) (by have := HLL.out.2.2; omega) (M.out.below B6.out) (by rw [List.take_length]; exact run_all HLL.out.1 HLL.out.2)).mono ?_
  rintro e w7 ⟨rfl, ms, k7, q7⟩
  have NA := Aside0.mk (show MS w7 (fun k => k = g) g (twoL l1 l2) [] (decide ((l0.length : Int) = 0)) from by rwa [List.drop_length] at ms)
  have Z7 := Aside0.mk (Z6.out.trans (q7.mono GWM.out))
  clear ms k7 q7 M
  go_wp2_with (first | (go_at_call 16; refine hold ?_))
  unfold Hold
  refine (HLY.out _ _ _ NA.out).mono ?_
  rintro e w8 ⟨va, ua, rfl, oa, pa, b8⟩
  have B8 := Aside0.mk b8
  have Z8 := Aside0.mk (bt Z7.out b8)
  clear b8
  have XA := Aside0.mk oa
  have EA := Aside0.mk pa
  clear oa pa
  go_wp2_with (first | (go_at_call 15; refine hold ?_))
  unfold Hold
  refine ((code_R (Kd.R_below EA.out (Below.refl _ _)) (HG.out _ Z8.out) : Calls Tryz.prog 15 #[errV ua] w8 fun e w' => e = .returned (.int .i64 0) ∧ Below (w8).heap.size w8 w')).mono ?_
  rintro e w9 ⟨rfl, b9⟩
  have B9 := Aside0.mk b9
  have Z9 := Aside0.mk (bt Z8.out b9)
  clear b9
  have X4 := Aside0.mk (Kd.R_below XA.out B9.out)
  obtain ⟨Aa, ca, rfl⟩ := Kd.R_slice X4.out
  obtain ⟨vs, hvl, hvc⟩ := raw_of HR0.out
  have HVL := Aside0.mk hvl
  rw [hvl.1] at hvc
  have HVC := Aside0.mk hvc
  have HV6 := Aside0.mk (show vs.length ≤ 6 from by rw [hvl.1]; have := H6.out; omega)
  obtain ⟨r1, hr1⟩ : ∃ v : RV, v.1 = .slice A1 l1.length c1 := ⟨⟨_, rfl⟩, rfl⟩
  obtain ⟨r2, hr2⟩ : ∃ v : RV, v.1 = .slice A2 l2.length c2 := ⟨⟨_, rfl⟩, rfl⟩
  obtain ⟨r3, hr3⟩ : ∃ v : RV, v.1 = .slice Aa rr.length ca := ⟨⟨_, rfl⟩, rfl⟩
  have Hr1 := Aside0.mk hr1
  have Hr2 := Aside0.mk hr2
  have Hr3 := Aside0.mk hr3
  have hlit2 := fun (V : World) => lit_raw V [r1, r2] (by simp) 22
  have hlit1 := fun (V : World) => lit_raw V [r3] (by simp) 22
  rw [show ([r1, r2].map fun v => v.1) = [.slice A1 l1.length c1, .slice A2 l2.length c2] from by rw [List.map_cons, List.map_cons, List.map_nil, hr1, hr2]] at hlit2
  rw [show ([r3].map fun v => v.1) = [.slice Aa rr.length ca] from by rw [List.map_cons, List.map_nil, hr3]] at hlit1
  have HLIT2 := Aside0.mk hlit2
  have HLIT1 := Aside0.mk hlit1
  clear hvl hvc hr1 hr2 hr3 hlit1 hlit2
  go_wp2_with (first | ((with_reducible refine gate_builtin (b := .append) (xs := #[.tmp 76, .tmp 77]) rfl ?_); refine hold ?_))
  unfold Hold
  refine Kd.R_append_rows kdV (w0 := w9) w9.heap.size rfl (.tmp 76) (.tmp 77) 46 22 _ 24 rfl Tryz.underlying46 infoV rfl (by decide) (by omega) _ [] vs _ _ _ (fun _ => True) (fun _ => False) rfl rfl ?aF ?aR (fun _ _ h => h) (fun _ h => h.elim) (fun _ _ => trivial) ?aB ?aS ?aL ?_
  case aF => exact R_empty_lit _ _ _ _ (Nat.le_refl _)
  case aR => exact Kd.C_below HVC.out (Z9.out.trans ((below_alloc (Below.refl _ _) _).mono Z9.out.size))
  case aB => exact below_alloc (Below.refl _ _) _
  case aS => exact (below_alloc (Below.refl w9.heap.size w9) _).size
  case aL => have := HV6.out; simp; omega
  intro v10 w10 ho hb hg hat
  rw [List.nil_append] at ho
  have Rx := Aside0.mk ho
  have B10 := Aside0.mk hb
  have Z10 := Aside0.mk (bt Z9.out hb)
  clear ho hb hg hat
  go_wp2_with (first | ((with_reducible refine gate_builtin (b := .append) (xs := #[.tmp 78, .tmp 81]) rfl ?_); refine hold ?_))
  unfold Hold
  refine Kd.R_append_rows kdV (w0 := w9) w9.heap.size rfl (.tmp 78) (.tmp 81) 46 22 _ 24 rfl Tryz.underlying46 infoV rfl (by decide) (by omega) _ vs [r1, r2] _ _ _ (fun _ => True) (fun _ => False) rfl rfl ?aF ?aR (fun _ _ h => h) (fun _ h => h.elim) (fun _ _ => trivial) ?aB ?aS ?aL ?_
  case aF => exact Kd.R_alloc Rx.out _
  case aR => exact HLIT2.out _
  case aB => exact below_alloc B10.out _
  case aS => exact (below_alloc B10.out _).size
  case aL => have := HV6.out; simp; omega
  intro v11 w11 ho hb hg hat
  have Rx2 := Aside0.mk ho
  have B11 := Aside0.mk hb
  have Z11 := Aside0.mk (bt Z9.out hb)
  clear ho hb hg hat
  go_wp2_with (first | ((with_reducible refine gate_builtin (b := .append) (xs := #[.tmp 83, .tmp 84]) rfl ?_); refine hold ?_))
  unfold Hold
  refine Kd.R_append_rows kdV (w0 := w11) w11.heap.size rfl (.tmp 83) (.tmp 84) 46 22 _ 24 rfl Tryz.underlying46 infoV rfl (by decide) (by omega) _ [] vs _ _ _ (fun _ => True) (fun _ => False) rfl rfl ?aF ?aR (fun _ _ h => h) (fun _ h => h.elim) (fun _ _ => trivial) ?aB ?aS ?aL ?_
  case aF => exact R_empty_lit _ _ _ _ (Nat.le_refl _)
  case aR => exact Kd.C_below HVC.out (Z11.out.trans ((below_alloc (Below.refl _ _) _).mono Z11.out.size))
  case aB => exact below_alloc (Below.refl _ _) _
  case aS => exact (below_alloc (Below.refl w11.heap.size w11) _).size
  case aL => have := HV6.out; simp; omega
  intro v12 w12 ho hb hg hat
  rw [List.nil_append] at ho
  have Ry := Aside0.mk ho
  have B12 := Aside0.mk hb
  have Z12 := Aside0.mk (bt Z11.out hb)
  clear ho hb hg hat
  go_wp2_with (first | ((with_reducible refine gate_builtin (b := .append) (xs := #[.tmp 85, .tmp 87]) rfl ?_); refine hold ?_))
  unfold Hold
  refine Kd.R_append_rows kdV (w0 := w11) w11.heap.size rfl (.tmp 85) (.tmp 87) 46 22 _ 24 rfl Tryz.underlying46 infoV rfl (by decide) (by omega) _ vs [r3] _ _ _ (fun _ => True) (fun _ => False) rfl rfl ?aF ?aR (fun _ _ h => h) (fun _ h => h.elim) (fun _ _ => trivial) ?aB ?aS ?aL ?_
  case aF => exact Kd.R_alloc Ry.out _
  case aR => exact HLIT1.out _
  case aB => exact below_alloc B12.out _
  case aS => exact (below_alloc B12.out _).size
  case aL => have := HV6.out; simp; omega
  intro v13 w13 ho hb hg hat
  have Ry2 := Aside0.mk ho
  have B13 := Aside0.mk hb
  have Z13 := Aside0.mk (bt Z11.out hb)
  clear ho hb hg hat
  have LX : Aside0 (AllLead w13 (vs ++ [r1, r2]) (l0 ++ [l1, l2])) := ⟨(HVL.out.below Z13.out).append (AllLead.append (AllLead.one ⟨A1, c1, Hr1.out, HC1.out, Kd.C_below HR1.out Z13.out⟩) (AllLead.one ⟨A2, c2, Hr2.out, HC2.out, Kd.C_below HR2.out Z13.out⟩))⟩
  have LY0 : Aside0 (Below w9.heap.size w9 w13) := ⟨bt B11.out B13.out⟩
  have LY : Aside0 (AllLead w13 (vs ++ [r3]) (l0 ++ [rr])) := ⟨(HVL.out.below Z13.out).append (AllLead.one ⟨Aa, ca, Hr3.out, (Kd.R_reads' X4.out).2.1, Kd.C_below (Kd.R_reads' X4.out).2.2 LY0.out⟩)⟩
  have RX : Aside0 (Kd.R kdV 22 w13 _ _ _ (vs ++ [r1, r2])) := ⟨Kd.R_below Rx2.out B13.out⟩
  have hbx : ∀ x ∈ l0 ++ [l1, l2], ∀ e ∈ x, e.f0.size ≤ 9223372036854775807 := fun x hx => by
   rcases List.mem_append.1 hx with hx | hx
   ·exact (HF0.out.2 x hx).b
   ·rcases List.mem_cons.1 hx with rfl | hx
    ·exact HF1.out.b
    ·rw [List.mem_singleton.1 hx]; exact HF2.out.b
  have hby : ∀ x ∈ l0 ++ [rr], ∀ e ∈ x, e.f0.size ≤ 9223372036854775807 := fun x hx => by
   rcases List.mem_append.1 hx with hx | hx
   ·exact (HF0.out.2 x hx).b
   ·rw [List.mem_singleton.1 hx, HRQ.out]; exact (twO_lr HLL.out.1 HLL.out.2 b HFI.out).1.b
  have heq : stX (l0 ++ [l1, l2]) = stX (l0 ++ [rr]) := by
   rw [HRQ.out]
   exact stack_same l0 HLL.out.1 HLL.out.2 (by have := H6.out; omega) b HBB.out HFI.out
  have HBX := Aside0.mk hbx
  have HBY := Aside0.mk hby
  have HEQ := Aside0.mk heq
  clear hbx hby heq
  go_wp2_with (first | (go_at_call 21; refine hold ?_))
  unfold Hold
  refine (stack_c RX.out LX.out HBX.out).mono ?_
  rintro e w14 ⟨vx, rfl, ox, b14⟩
  have B14 := Aside0.mk b14
  have Z14 := Aside0.mk (bt Z13.out b14)
  clear b14
  have SX := Aside0.mk ox
  clear ox
  go_wp2_with (first | (go_at_call 21; refine hold ?_))
  unfold Hold
  refine (stack_c (Kd.R_below Ry2.out B14.out) (LY.out.below B14.out) HBY.out).mono ?_
  rintro e w15 ⟨vy, rfl, oy, b15⟩
  have B15 := Aside0.mk b15
  have Z15 := Aside0.mk (bt Z14.out b15)
  clear b15
  have SY := Aside0.mk oy
  clear oy
  go_wp2_with (first | (go_at_call 17; refine hold ?_))
  unfold Hold
  refine (same_R (by have := (stX_tre (l0 ++ [l1, l2])).2; omega) HEQ.out (Kd.R_below SX.out B15.out) SY.out).mono ?_
  rintro e w16 ⟨rfl, b16⟩
  have B16 := Aside0.mk b16
  have Z16 := Aside0.mk (bt Z15.out b16)
  clear b16
  go_wp2
  go_ret
  exact ⟨by first | rfl | simp, Z16.out⟩
 ·subst her
  have HFI := Aside0.mk hf
  have HRQ := Aside0.mk hrr
  clear hf hrr
  go_enter Tryz.func7, Tryz.ntmps7
  go_wp2_with (first | (go_at_call 8; refine hold ?_))
  unfold Hold
  refine (awake16 w0 (HG.out _ Z0.out)).mono ?_
  rintro e w1 ⟨rfl, b1⟩
  have B1 := Aside0.mk b1
  have Z1 := Aside0.mk (bt Z0.out b1)
  clear b1
  go_wp2_with (first | (go_at_call 20; refine hold ?_))
  unfold Hold
  refine (few_yes HF0.out HR0.out HC0.out Z1.out).mono ?_
  rintro e w2 ⟨rfl, b2⟩
  have B2 := Aside0.mk b2
  have Z2 := Aside0.mk (bt Z1.out b2)
  clear b2
  go_wp2_with (first | (go_at_call 9; refine hold ?_))
  unfold Hold
  refine (size_yes HF1.out HR1.out HC1.out Z2.out).mono ?_
  rintro e w3 ⟨rfl, b3⟩
  have B3 := Aside0.mk b3
  have Z3 := Aside0.mk (bt Z2.out b3)
  clear b3
  go_wp2_with (first | (go_at_call 9; refine hold ?_))
  unfold Hold
  refine (size_yes HF2.out HR2.out HC2.out Z3.out).mono ?_
  rintro e w4 ⟨rfl, b4⟩
  have B4 := Aside0.mk b4
  have Z4 := Aside0.mk (bt Z3.out b4)
  clear b4
  go_wp2_with (first | (go_at_call 11; refine hold ?_))
  unfold Hold
  refine (HBG.out _ Z4.out).mono ?_
  rintro e w5 ⟨g, rfl, hg, ms, b5⟩
  have B5 := Aside0.mk b5
  have Z5 := Aside0.mk (bt Z4.out b5)
  have M := Aside0.mk (ms.wide (S' := fun k => k = g) (fun k _ h => .inr h))
  have GWM := Aside0.mk (Nat.le_trans Z4.out.size hg)
  clear b5 ms hg
  go_wp2_with (first | (go_at_call 15; refine hold ?_))
  unfold Hold
  refine (code_nil w5 (HG.out _ Z5.out)).mono ?_
  rintro e w6 ⟨rfl, b6⟩
  have B6 := Aside0.mk b6
  have Z6 := Aside0.mk (bt Z5.out b6)
  clear b6
  go_wp2_with (first | (go_at_call 14; refine hold ?_))
  unfold Hold
  refine (step_g 100 l2.length (twoL l1 l2) (by decide) (by have := HLL.out.2.2; omega) (by have := HLL.out.2.2; omega) (M.out.below B6.out) (by rw [List.take_length]; exact run_all HLL.out.1 HLL.out.2)).mono ?_
  rintro e w7 ⟨rfl, ms, k7, q7⟩
  have NA := Aside0.mk (show MS w7 (fun k => k = g) g (twoL l1 l2) [] (decide ((l0.length : Int) = 0)) from by rwa [List.drop_length] at ms)
  have Z7 := Aside0.mk (Z6.out.trans (q7.mono GWM.out))
  clear ms k7 q7 M
  go_wp2_with (first | (go_at_call 16; refine hold ?_))
  unfold Hold
  refine (HLY.out _ _ _ NA.out).mono ?_
  rintro e w8 ⟨va, ua, rfl, oa, pa, b8⟩
  have B8 := Aside0.mk b8
  have Z8 := Aside0.mk (bt Z7.out b8)
  clear b8
  have XA := Aside0.mk oa
  have EA := Aside0.mk pa
  clear oa pa
  go_wp2_with (first | (go_at_call 15; refine hold ?_))
  unfold Hold
  refine ((code_R (Kd.R_below EA.out (Below.refl _ _)) (HG.out _ Z8.out) : Calls Tryz.prog 15 #[errV ua] w8 fun e w' => e = .returned (.int .i64 9) ∧ Below (w8).heap.size w8 w')).mono ?_
  rintro e w9 ⟨rfl, b9⟩
  have B9 := Aside0.mk b9
  have Z9 := Aside0.mk (bt Z8.out b9)
  clear b9
  go_wp2_with (first | (go_at_call 15; refine hold ?_))
  unfold Hold
  refine ((code_R (Kd.R_below EA.out B9.out) (HG.out _ Z9.out) : Calls Tryz.prog 15 #[errV ua] w9 fun e w' => e = .returned (.int .i64 9) ∧ Below (w9).heap.size w9 w')).mono ?_
  rintro e w10 ⟨rfl, b10⟩
  have B10 := Aside0.mk b10
  have Z10 := Aside0.mk (bt Z9.out b10)
  clear b10
  have hsum : (64 : Int) < (l1.length : Int) + (l2.length : Int) := by
   have h1 := HFI.out
   have h2 : (finL (twoL l1 l2) b).length ≤ l1.length + l2.length := twO_len l1 l2 b
   omega
  have hw : IntKind.i64.wrap ((l1.length : Int) + (l2.length : Int)) = (l1.length : Int) + (l2.length : Int) := IntWalk.i64_in _ (by have := HLL.out.1.2; have := HLL.out.2.2; omega)
  go_wp2
  go_ret
  exact ⟨by first | rfl | simp, Z10.out⟩
end Go.Proofs.YtjlflmjimibciaaGreatDoor.Print
