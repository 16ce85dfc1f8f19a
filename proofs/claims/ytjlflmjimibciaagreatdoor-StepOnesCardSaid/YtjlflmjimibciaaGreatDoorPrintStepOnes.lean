import Derived.Test.YtjlflmjimibciaaGreatDoorStepB
namespace Go.Proofs.YtjlflmjimibciaaGreatDoor.Print
open Go Go.RowKit Go.Proofs.YtjlflmjimibciaaGreatDoorW.PrintWords Go.Proofs.YtjlflmjimibciaaGreatDoorW.PrintLast Go.Proofs.YtjlflmjimibciaaGreatDoorW.PrintMore Go.Proofs.YtjlflmjimibciaaGreatDoor.Th
attribute [local go_sem] max2_int min2_int max_two min_two max_three min_three max_four min_four
set_option linter.unusedVariables false
set_option linter.unusedSimpArgs false
open Classical
def shalelaw16_StepOnes.f (k : Nat) (l0 : List S41) (l1 : List S41) (a2 : Bool) : Option Bool := some true
set_option maxHeartbeats 16000000 in
set_option maxRecDepth 100000 in
theorem shalelaw16_StepOnes.calls (k : Nat) (A0 : Option Addr) (c0 : Nat) (l0 : List S41) (A1 : Option Addr) (c1 : Nat) (l1 : List S41) (a2 : Bool) (r : Bool) (w0 : World) (hr0 : Kd.C k41 w0 A0 l0.length l0) (hc0 : l0.length ≤ c0) (hr1 : Kd.C k41 w0 A1 l1.length l1) (hc1 : l1.length ≤ c1) (hG : Gl w0) (h : shalelaw16_StepOnes.f k l0 l1 a2 = some r) (hr : r = true) :
  Calls Tryz.prog 3 #[.slice A0 l0.length c0, .slice A1 l1.length c1, .bool a2] w0 fun e w' => e = .returned (.bool r) ∧ Below w0.heap.size w0 w' := by
 subst hr
 clear h
 have HG := Aside0.mk (fun (V : World) (h : Below w0.heap.size w0 V) => hG.below h)
 have Z0 := Aside0.mk (Below.refl w0.heap.size w0)
 have HR0 := Aside0.mk hr0
 have HC0 := Aside0.mk hc0
 have HR1 := Aside0.mk hr1
 have HC1 := Aside0.mk hc1
 clear hr0 hc0 hr1 hc1 hG
 by_cases hq0 : Fit l0
 case neg =>
  have HN := Aside0.mk hq0
  clear hq0
  go_enter Tryz.func3, Tryz.ntmps3
  go_wp2_with (first | (go_at_call 8; refine hold ?_))
  unfold Hold
  refine (awake16 w0 (HG.out _ Z0.out)).mono ?_
  rintro e w1 ⟨rfl, b1⟩
  have B1 := Aside0.mk b1
  have Z1 := Aside0.mk (bt Z0.out b1)
  clear b1
  go_wp2_with (first | (go_at_call 9; refine hold ?_))
  unfold Hold
  refine (size_no HN.out HR0.out HC0.out Z1.out).mono ?_
  rintro e w2 ⟨rfl, b2⟩
  have B2 := Aside0.mk b2
  have Z2 := Aside0.mk (bt Z1.out b2)
  clear b2
  go_wp2_with (first | (go_at_call 8; refine hold ?_))
  unfold Hold
  refine (awake16 w2 (HG.out _ Z2.out)).mono ?_
  rintro e w3 ⟨rfl, b3⟩
  have B3 := Aside0.mk b3
  have Z3 := Aside0.mk (bt Z2.out b3)
  clear b3
  go_wp2
  go_ret
  exact ⟨rfl, Z3.out⟩
 have HF0 := Aside0.mk hq0
 clear hq0
 by_cases hq1 : Fit l1
 case neg =>
  have HN := Aside0.mk hq1
  clear hq1
  go_enter Tryz.func3, Tryz.ntmps3
  go_wp2_with (first | (go_at_call 8; refine hold ?_))
  unfold Hold
  refine (awake16 w0 (HG.out _ Z0.out)).mono ?_
  rintro e w1 ⟨rfl, b1⟩
  have B1 := Aside0.mk b1
  have Z1 := Aside0.mk (bt Z0.out b1)
  clear b1
  go_wp2_with (first | (go_at_call 9; refine hold ?_))
  unfold Hold
  refine (size_yes HF0.out HR0.out HC0.out Z1.out).mono ?_
  rintro e w2 ⟨rfl, b2⟩
  have B2 := Aside0.mk b2
  have Z2 := Aside0.mk (bt Z1.out b2)
  clear b2
  go_wp2_with (first | (go_at_call 9; refine hold ?_))
  unfold Hold
  refine (size_no HN.out HR1.out HC1.out Z2.out).mono ?_
  rintro e w3 ⟨rfl, b3⟩
  have B3 := Aside0.mk b3
  have Z3 := Aside0.mk (bt Z2.out b3)
  clear b3
  go_wp2_with (first | (go_at_call 8; refine hold ?_))
  unfold Hold
  refine (awake16 w3 (HG.out _ Z3.out)).mono ?_
  rintro e w4 ⟨rfl, b4⟩
  have B4 := Aside0.mk b4
  have Z4 := Aside0.mk (bt Z3.out b4)
  clear b4
  go_wp2
  go_ret
  exact ⟨rfl, Z4.out⟩
 have HF1 := Aside0.mk hq1
 clear hq1
 by_cases hq2 : LR l0
 case neg =>
  have HN := Aside0.mk hq2
  clear hq2
  go_enter Tryz.func3, Tryz.ntmps3
  go_wp2_with (first | (go_at_call 8; refine hold ?_))
  unfold Hold
  refine (awake16 w0 (HG.out _ Z0.out)).mono ?_
  rintro e w1 ⟨rfl, b1⟩
  have B1 := Aside0.mk b1
  have Z1 := Aside0.mk (bt Z0.out b1)
  clear b1
  go_wp2_with (first | (go_at_call 9; refine hold ?_))
  unfold Hold
  refine (size_yes HF0.out HR0.out HC0.out Z1.out).mono ?_
  rintro e w2 ⟨rfl, b2⟩
  have B2 := Aside0.mk b2
  have Z2 := Aside0.mk (bt Z1.out b2)
  clear b2
  go_wp2_with (first | (go_at_call 9; refine hold ?_))
  unfold Hold
  refine (size_yes HF1.out HR1.out HC1.out Z2.out).mono ?_
  rintro e w3 ⟨rfl, b3⟩
  have B3 := Aside0.mk b3
  have Z3 := Aside0.mk (bt Z2.out b3)
  clear b3
  go_wp2_with (first | (go_at_call 10; refine hold ?_))
  unfold Hold
  refine (right_no HN.out HF0.out HR0.out HC0.out Z3.out).mono ?_
  rintro e w4 ⟨rfl, b4⟩
  have B4 := Aside0.mk b4
  have Z4 := Aside0.mk (bt Z3.out b4)
  clear b4
  go_wp2_with (first | (go_at_call 8; refine hold ?_))
  unfold Hold
  refine (awake16 w4 (HG.out _ Z4.out)).mono ?_
  rintro e w5 ⟨rfl, b5⟩
  have B5 := Aside0.mk b5
  have Z5 := Aside0.mk (bt Z4.out b5)
  clear b5
  go_wp2
  go_ret
  exact ⟨rfl, Z5.out⟩
 have HL0 := Aside0.mk hq2
 clear hq2
 by_cases hq3 : LR l1
 case neg =>
  have HN := Aside0.mk hq3
  clear hq3
  go_enter Tryz.func3, Tryz.ntmps3
  go_wp2_with (first | (go_at_call 8; refine hold ?_))
  unfold Hold
  refine (awake16 w0 (HG.out _ Z0.out)).mono ?_
  rintro e w1 ⟨rfl, b1⟩
  have B1 := Aside0.mk b1
  have Z1 := Aside0.mk (bt Z0.out b1)
  clear b1
  go_wp2_with (first | (go_at_call 9; refine hold ?_))
  unfold Hold
  refine (size_yes HF0.out HR0.out HC0.out Z1.out).mono ?_
  rintro e w2 ⟨rfl, b2⟩
  have B2 := Aside0.mk b2
  have Z2 := Aside0.mk (bt Z1.out b2)
  clear b2
  go_wp2_with (first | (go_at_call 9; refine hold ?_))
  unfold Hold
  refine (size_yes HF1.out HR1.out HC1.out Z2.out).mono ?_
  rintro e w3 ⟨rfl, b3⟩
  have B3 := Aside0.mk b3
  have Z3 := Aside0.mk (bt Z2.out b3)
  clear b3
  go_wp2_with (first | (go_at_call 10; refine hold ?_))
  unfold Hold
  refine (right_yes HL0.out HR0.out HC0.out Z3.out).mono ?_
  rintro e w4 ⟨rfl, b4⟩
  have B4 := Aside0.mk b4
  have Z4 := Aside0.mk (bt Z3.out b4)
  clear b4
  go_wp2_with (first | (go_at_call 10; refine hold ?_))
  unfold Hold
  refine (right_no HN.out HF1.out HR1.out HC1.out Z4.out).mono ?_
  rintro e w5 ⟨rfl, b5⟩
  have B5 := Aside0.mk b5
  have Z5 := Aside0.mk (bt Z4.out b5)
  clear b5
  go_wp2_with (first | (go_at_call 8; refine hold ?_))
  unfold Hold
  refine (awake16 w5 (HG.out _ Z5.out)).mono ?_
  rintro e w6 ⟨rfl, b6⟩
  have B6 := Aside0.mk b6
  have Z6 := Aside0.mk (bt Z5.out b6)
  clear b6
  go_wp2
  go_ret
  exact ⟨rfl, Z6.out⟩
 have HL1 := Aside0.mk hq3
 clear hq3
 go_enter Tryz.func3, Tryz.ntmps3
 go_wp2_with (first | (go_at_call 8; refine hold ?_))
 unfold Hold
 refine (awake16 w0 (HG.out _ Z0.out)).mono ?_
 rintro e w1 ⟨rfl, b1⟩
 have B1 := Aside0.mk b1
 have Z1 := Aside0.mk (bt Z0.out b1)
 clear b1
 go_wp2_with (first | (go_at_call 9; refine hold ?_))
 unfold Hold
 refine (size_yes HF0.out HR0.out HC0.out Z1.out).mono ?_
 rintro e w2 ⟨rfl, b2⟩
 have B2 := Aside0.mk b2
 have Z2 := Aside0.mk (bt Z1.out b2)
 clear b2
 go_wp2_with (first | (go_at_call 9; refine hold ?_))
 unfold Hold
 refine (size_yes HF1.out HR1.out HC1.out Z2.out).mono ?_
 rintro e w3 ⟨rfl, b3⟩
 have B3 := Aside0.mk b3
 have Z3 := Aside0.mk (bt Z2.out b3)
 clear b3
 go_wp2_with (first | (go_at_call 10; refine hold ?_))
 unfold Hold
 refine (right_yes HL0.out HR0.out HC0.out Z3.out).mono ?_
 rintro e w4 ⟨rfl, b4⟩
 have B4 := Aside0.mk b4
 have Z4 := Aside0.mk (bt Z3.out b4)
 clear b4
 go_wp2_with (first | (go_at_call 10; refine hold ?_))
 unfold Hold
 refine (right_yes HL1.out HR1.out HC1.out Z4.out).mono ?_
 rintro e w5 ⟨rfl, b5⟩
 have B5 := Aside0.mk b5
 have Z5 := Aside0.mk (bt Z4.out b5)
 clear b5
 go_wp2_with (first | (go_at_call 11; refine hold ?_))
 unfold Hold
 refine (begin_yes a2 HL0.out HL1.out HR0.out HC0.out HR1.out HC1.out Z5.out).mono ?_
 rintro e w6 ⟨g, rfl, hg, ms, b6⟩
 have B6 := Aside0.mk b6
 have Z6 := Aside0.mk (bt Z5.out b6)
 have M := Aside0.mk (ms.wide (S' := fun k => k = g) (fun k _ h => .inr h))
 have GWM := Aside0.mk (Nat.le_trans Z5.out.size hg)
 clear b6 ms hg
 obtain ⟨n, hn⟩ : ∃ n, l1.length = n := ⟨_, rfl⟩
 have hnb : n ≤ 64 := by have := HL1.out.2; omega
 have HN := Aside0.mk hn
 have HNB := Aside0.mk hnb
 have hrun : runF l0 (l1.drop 0) = some (twoL l0 l1) := by rw [List.drop_zero]; exact run_all HL0.out HL1.out
 have HRUN := Aside0.mk hrun
 clear hrun
 rw [hn]
 clear hn hnb
 go_wp2
 go_loopg [9] n (fun gg s9 wr => ∃ (i : Nat) (o : List SE), s9 = .int .i64 i ∧ i ≤ n ∧ n - i ≤ gg ∧ Aside0 (MS wr (fun k => k = g) g o (l1.drop i) a2) ∧ Aside0 (runF o (l1.drop i) = some (twoL l0 l1)) ∧ Aside0 (Below w0.heap.size w0 wr))
 case atStart => exact ⟨0, l0, rfl, Nat.zero_le _, by omega, ⟨by rw [List.drop_zero]; exact M.out⟩, HRUN, Z6⟩
 case round =>
  obtain ⟨i, o, rfl, hin, hgg, ML, HRL, ZL⟩ := hrel
  clear M HRUN
  by_cases hlt : i < n
  ·have hltz : (i : Int) < (n : Int) := by omega
   have hil : i < l1.length := by rw [HN.out]; exact hlt
   have hln : ((l1.drop i).length : Int) = (n : Int) - (i : Int) := by rw [List.length_drop, HN.out]; omega
   have hw1 : IntKind.i64.wrap ((n : Int) - (i : Int)) = (n : Int) - (i : Int) := IntWalk.i64_in _ (by have := HNB.out; omega)
   have hw2 : IntKind.i64.wrap ((i : Int) + 1) = (i : Int) + 1 := IntWalk.i64_in _ (by have := HNB.out; omega)
   have HRD := Aside0.mk (ready_ms ML.out false (decide_eq_false (by omega)).symm)
   have HLF : Aside0 (∀ V, Below wr.heap.size wr V → Calls Tryz.prog 13 #[.pointer (some ⟨g, 0, none⟩)] V fun e w' => e = .returned (.int .i64 ((n : Int) - (i : Int))) ∧ Below V.heap.size V w') := ⟨fun V hV => by rw [← hln]; exact left_ms (ML.out.below hV)⟩
   have hdrop := List.drop_eq_getElem_cons hil
   have hr1 := HRL.out
   rw [hdrop, runF] at hr1
   obtain ⟨o2, ho2, hr2⟩ := Option.bind_eq_some_iff.1 hr1
   have HST : Aside0 (∀ V, Below wr.heap.size wr V → Calls Tryz.prog 14 #[.pointer (some ⟨g, 0, none⟩), .int .i64 1] V fun e w' => e = .returned (.tuple #[.int .i64 1, .nilIface]) ∧ MS w' (fun k => k = g) g o2 (l1.drop (i + 1)) a2 ∧ Below g V w') := ⟨fun V hV => by
    have h := step_g 1 1 o2 (by decide) (by have := HNB.out; rw [hln]; omega) (by rw [List.length_drop]; have := HNB.out; have := HN.out; omega) (ML.out.below hV) (by rw [hdrop, List.take_succ_cons, List.take_zero, runF, ho2]; rfl)
    rw [List.drop_drop] at h
    exact h.mono fun e w' h => ⟨h.1, h.2.1, h.2.2.2⟩⟩
   have HR2 := Aside0.mk hr2
   clear hdrop hr1 ho2 hr2 hln hil ML HRL
   have Z100 := ZL
   obtain ⟨w100, hw100⟩ : ∃ w100, w100 = wr := ⟨_, rfl⟩
   subst hw100
   go_wp2_with (first | (go_at_call 12; refine hold ?_))
   unfold Hold
   refine (HRD.out).mono ?_
   rintro e w101 ⟨rfl, b101⟩
   have B101 := Aside0.mk b101
   have Z101 := Aside0.mk (bt Z100.out b101)
   clear b101
   go_wp2_with (first | (go_at_call 13; refine hold ?_))
   unfold Hold
   refine (HLF.out _ B101.out).mono ?_
   rintro e w102 ⟨rfl, b102⟩
   have B102 := Aside0.mk b102
   have Z102 := Aside0.mk (bt Z101.out b102)
   clear b102
   go_wp2_with (first | (go_at_call 14; refine hold ?_))
   unfold Hold
   refine (HST.out _ (bt B101.out B102.out)).mono ?_
   rintro e w103 ⟨rfl, ms, q103⟩
   have M103 := Aside0.mk ms
   have Z103 := Aside0.mk (Z102.out.trans (q103.mono GWM.out))
   clear ms q103
   go_wp2_with (first | (go_at_call 15; refine hold ?_))
   unfold Hold
   refine (code_nil w103 (HG.out _ Z103.out)).mono ?_
   rintro e w104 ⟨rfl, b104⟩
   have B104 := Aside0.mk b104
   have Z104 := Aside0.mk (bt Z103.out b104)
   clear b104
   have M104 := Aside0.mk (M103.out.below B104.out)
   go_wp2
   go_roundg (n - (i + 1))
   case measure => omega
   case rel => exact ⟨i + 1, o2, by push_cast; rfl, by omega, by omega, M104, HR2, Z104⟩
  ·have hltz : ¬ (i : Int) < (n : Int) := by omega
   have hd : l1.drop i = [] := List.drop_of_length_le (by rw [HN.out]; omega)
   have hm := ML.out
   have hr1 := HRL.out
   rw [hd] at hm hr1
   obtain rfl := Option.some.inj hr1
   obtain ⟨rr, er, hrr, hfin, hlay⟩ := layer_any (twoL l0 l1) a2 (by have := two_len HL0.out HL1.out l1.length; rw [List.take_length] at this; omega)
   have HRR := Aside0.mk hrr
   have HLY := Aside0.mk hlay
   have M200 := Aside0.mk hm
   clear hd hm hr1 hrr hfin hlay ML HRL
   have Z200 := ZL
   obtain ⟨w200, hw200⟩ : ∃ w200, w200 = wr := ⟨_, rfl⟩
   subst hw200
   go_wp2_with (first | (go_at_call 16; refine hold ?_))
   unfold Hold
   refine (HLY.out _ _ _ M200.out).mono ?_
   rintro e w201 ⟨v201, u201, rfl, o201, p201, b201⟩
   have B201 := Aside0.mk b201
   have Z201 := Aside0.mk (bt Z200.out b201)
   clear b201
   have X201 := Aside0.mk o201
   have E201 := Aside0.mk p201
   clear o201 p201
   go_wp2_with (first | (go_at_call 16; refine hold ?_))
   unfold Hold
   refine (HLY.out _ _ _ (M200.out.below B201.out)).mono ?_
   rintro e w202 ⟨v202, u202, rfl, o202, p202, b202⟩
   have B202 := Aside0.mk b202
   have Z202 := Aside0.mk (bt Z201.out b202)
   clear b202
   have X202 := Aside0.mk o202
   have E202 := Aside0.mk p202
   clear o202 p202
   go_wp2_with (first | (go_at_call 14; refine hold ?_))
   unfold Hold
   refine (step_low w202 (.pointer none) (.inl rfl) 1 (.inl rfl)).mono ?_
   rintro e w203 ⟨u203, rfl, p203, b203⟩
   have B203 := Aside0.mk b203
   have Z203 := Aside0.mk (bt Z202.out b203)
   clear b203
   have E203 := Aside0.mk p203
   clear p203
   go_wp2_with (first | (go_at_call 16; refine hold ?_))
   unfold Hold
   refine (layer_nil w203).mono ?_
   rintro e w204 ⟨u204, rfl, p204, b204⟩
   have B204 := Aside0.mk b204
   have Z204 := Aside0.mk (bt Z203.out b204)
   clear b204
   have E204 := Aside0.mk p204
   clear p204
   go_wp2_with (first | (go_at_call 15; refine hold ?_))
   unfold Hold
   refine (code_nil w204 (HG.out _ Z204.out)).mono ?_
   rintro e w205 ⟨rfl, b205⟩
   have B205 := Aside0.mk b205
   have Z205 := Aside0.mk (bt Z204.out b205)
   clear b205
   go_wp2_with (first | (go_at_call 12; refine hold ?_))
   unfold Hold
   refine (ready_ms (M200.out.below (bt B201.out (bt B202.out (bt B203.out (bt B204.out B205.out))))) true rfl).mono ?_
   rintro e w206 ⟨rfl, b206⟩
   have B206 := Aside0.mk b206
   have Z206 := Aside0.mk (bt Z205.out b206)
   clear b206
   go_wp2_with (first | (go_at_call 15; refine hold ?_))
   unfold Hold
   refine (code_R (Kd.R_below E201.out (bt B202.out (bt B203.out (bt B204.out (bt B205.out B206.out))))) (HG.out _ Z206.out)).mono ?_
   rintro e w207 ⟨rfl, b207⟩
   have B207 := Aside0.mk b207
   have Z207 := Aside0.mk (bt Z206.out b207)
   clear b207
   go_wp2_with (first | (go_at_call 15; refine hold ?_))
   unfold Hold
   refine (code_R (Kd.R_below E202.out (bt B203.out (bt B204.out (bt B205.out (bt B206.out B207.out))))) (HG.out _ Z207.out)).mono ?_
   rintro e w208 ⟨rfl, b208⟩
   have B208 := Aside0.mk b208
   have Z208 := Aside0.mk (bt Z207.out b208)
   clear b208
   go_wp2_with (first | (go_at_call 17; refine hold ?_))
   unfold Hold
   refine (same_R (by have := HRR.out; omega) rfl (Kd.R_below X201.out (bt B202.out (bt B203.out (bt B204.out (bt B205.out (bt B206.out (bt B207.out B208.out))))))) (Kd.R_below X202.out (bt B203.out (bt B204.out (bt B205.out (bt B206.out (bt B207.out B208.out))))))).mono ?_
   rintro e w209 ⟨rfl, b209⟩
   have B209 := Aside0.mk b209
   have Z209 := Aside0.mk (bt Z208.out b209)
   clear b209
   go_wp2_with (first | (go_at_call 15; refine hold ?_))
   unfold Hold
   refine (code_R (Kd.R_below E203.out (bt B204.out (bt B205.out (bt B206.out (bt B207.out (bt B208.out B209.out)))))) (HG.out _ Z209.out)).mono ?_
   rintro e w210 ⟨rfl, b210⟩
   have B210 := Aside0.mk b210
   have Z210 := Aside0.mk (bt Z209.out b210)
   clear b210
   go_wp2_with (first | (go_at_call 15; refine hold ?_))
   unfold Hold
   refine (code_R (Kd.R_below E204.out (bt B205.out (bt B206.out (bt B207.out (bt B208.out (bt B209.out B210.out)))))) (HG.out _ Z210.out)).mono ?_
   rintro e w211 ⟨rfl, b211⟩
   have B211 := Aside0.mk b211
   have Z211 := Aside0.mk (bt Z210.out b211)
   clear b211
   go_wp2_with (first | (go_at_call 13; refine hold ?_))
   unfold Hold
   refine (left_nil w211).mono ?_
   rintro e w212 ⟨rfl, b212⟩
   have B212 := Aside0.mk b212
   have Z212 := Aside0.mk (bt Z211.out b212)
   clear b212
   go_wp2_with (first | (go_at_call 12; refine hold ?_))
   unfold Hold
   refine (ready_nil w212).mono ?_
   rintro e w213 ⟨rfl, b213⟩
   have B213 := Aside0.mk b213
   have Z213 := Aside0.mk (bt Z212.out b213)
   clear b213
   go_wp2
   go_ret
   exact ⟨by first | rfl | simp, Z213.out⟩
end Go.Proofs.YtjlflmjimibciaaGreatDoor.Print
