import Derived.Test.YtjlflmjimibciaaGreatDoorStepB
namespace Go.Proofs.YtjlflmjimibciaaGreatDoor.Print
open Go Go.RowKit Go.Proofs.YtjlflmjimibciaaGreatDoorW.PrintWords Go.Proofs.YtjlflmjimibciaaGreatDoorW.PrintLast Go.Proofs.YtjlflmjimibciaaGreatDoorW.PrintMore Go.Proofs.YtjlflmjimibciaaGreatDoor.Th
attribute [local go_sem] max2_int min2_int max_two min_two max_three min_three max_four min_four
set_option linter.unusedVariables false
set_option linter.unusedSimpArgs false
open Classical
def shalelaw16_StepMany.f (k : Nat) (l0 : List S41) (l1 : List S41) (a2 : Bool) (a3 : Int) : Option Bool := if 0 ≤ a3 ∧ a3 ≤ 255 then some true else none
set_option maxHeartbeats 16000000 in
set_option maxRecDepth 100000 in
theorem shalelaw16_StepMany.calls (k : Nat) (A0 : Option Addr) (c0 : Nat) (l0 : List S41) (A1 : Option Addr) (c1 : Nat) (l1 : List S41) (a2 : Bool) (a3 : Int) (r : Bool) (w0 : World) (hr0 : Kd.C k41 w0 A0 l0.length l0) (hc0 : l0.length ≤ c0) (hr1 : Kd.C k41 w0 A1 l1.length l1) (hc1 : l1.length ≤ c1) (hG : Gl w0) (h : shalelaw16_StepMany.f k l0 l1 a2 a3 = some r) (hr : r = true) :
  Calls Tryz.prog 4 #[.slice A0 l0.length c0, .slice A1 l1.length c1, .bool a2, .int .u8 a3] w0 fun e w' => e = .returned (.bool r) ∧ Below w0.heap.size w0 w' := by
 subst hr
 have ha3 : 0 ≤ a3 ∧ a3 ≤ 255 := by
  unfold shalelaw16_StepMany.f at h
  split at h
  ·assumption
  ·cases h
 clear h
 have HG := Aside0.mk (fun (V : World) (h : Below w0.heap.size w0 V) => hG.below h)
 have Z0 := Aside0.mk (Below.refl w0.heap.size w0)
 have HR0 := Aside0.mk hr0
 have HC0 := Aside0.mk hc0
 have HR1 := Aside0.mk hr1
 have HC1 := Aside0.mk hc1
 clear hr0 hc0 hr1 hc1 hG
 by_cases hq0 : Fit l0
 case neg =>
  have HN := Aside0.mk hq0
  clear hq0
  go_enter Tryz.func4, Tryz.ntmps4
  go_wp2_with (first | (go_at_call 8; refine hold ?_))
  unfold Hold
  refine (awake16 w0 (HG.out _ Z0.out)).mono ?_
  rintro e w1 ⟨rfl, b1⟩
  have B1 := Aside0.mk b1
  have Z1 := Aside0.mk (bt Z0.out b1)
  clear b1
  go_wp2_with (first | (go_at_call 9; refine hold ?_))
  unfold Hold
  refine (size_no HN.out HR0.out HC0.out Z1.out).mono ?_
  rintro e w2 ⟨rfl, b2⟩
  have B2 := Aside0.mk b2
  have Z2 := Aside0.mk (bt Z1.out b2)
  clear b2
  go_wp2_with (first | (go_at_call 8; refine hold ?_))
  unfold Hold
  refine (awake16 w2 (HG.out _ Z2.out)).mono ?_
  rintro e w3 ⟨rfl, b3⟩
  have B3 := Aside0.mk b3
  have Z3 := Aside0.mk (bt Z2.out b3)
  clear b3
  go_wp2
  go_ret
  exact ⟨rfl, Z3.out⟩
 have HF0 := Aside0.mk hq0
 clear hq0
 by_cases hq1 : Fit l1
 case neg =>
  have HN := Aside0.mk hq1
  clear hq1
  go_enter Tryz.func4, Tryz.ntmps4
  go_wp2_with (first | (go_at_call 8; refine hold ?_))
  unfold Hold
  refine (awake16 w0 (HG.out _ Z0.out)).mono ?_
  rintro e w1 ⟨rfl, b1⟩
  have B1 := Aside0.mk b1
  have Z1 := Aside0.mk (bt Z0.out b1)
  clear b1
  go_wp2_with (first | (go_at_call 9; refine hold ?_))
  unfold Hold
  refine (size_yes HF0.out HR0.out HC0.out Z1.out).mono ?_
  rintro e w2 ⟨rfl, b2⟩
  have B2 := Aside0.mk b2
  have Z2 := Aside0.mk (bt Z1.out b2)
  clear b2
  go_wp2_with (first | (go_at_call 9; refine hold ?_))
  unfold Hold
  refine (size_no HN.out HR1.out HC1.out Z2.out).mono ?_
  rintro e w3 ⟨rfl, b3⟩
  have B3 := Aside0.mk b3
  have Z3 := Aside0.mk (bt Z2.out b3)
  clear b3
  go_wp2_with (first | (go_at_call 8; refine hold ?_))
  unfold Hold
  refine (awake16 w3 (HG.out _ Z3.out)).mono ?_
  rintro e w4 ⟨rfl, b4⟩
  have B4 := Aside0.mk b4
  have Z4 := Aside0.mk (bt Z3.out b4)
  clear b4
  go_wp2
  go_ret
  exact ⟨rfl, Z4.out⟩
 have HF1 := Aside0.mk hq1
 clear hq1
 by_cases hq2 : LR l0
 case neg =>
  have HN := Aside0.mk hq2
  clear hq2
  go_enter Tryz.func4, Tryz.ntmps4
  go_wp2_with (first | (go_at_call 8; refine hold ?_))
  unfold Hold
  refine (awake16 w0 (HG.out _ Z0.out)).mono ?_
  rintro e w1 ⟨rfl, b1⟩
  have B1 := Aside0.mk b1
  have Z1 := Aside0.mk (bt Z0.out b1)
  clear b1
  go_wp2_with (first | (go_at_call 9; refine hold ?_))
  unfold Hold
  refine (size_yes HF0.out HR0.out HC0.out Z1.out).mono ?_
  rintro e w2 ⟨rfl, b2⟩
  have B2 := Aside0.mk b2
  have Z2 := Aside0.mk (bt Z1.out b2)
  clear b2
  go_wp2_with (first | (go_at_call 9; refine hold ?_))
  unfold Hold
  refine (size_yes HF1.out HR1.out HC1.out Z2.out).mono ?_
  rintro e w3 ⟨rfl, b3⟩
  have B3 := Aside0.mk b3
  have Z3 := Aside0.mk (bt Z2.out b3)
  clear b3
  go_wp2_with (first | (go_at_call 10; refine hold ?_))
  unfold Hold
  refine (right_no HN.out HF0.out HR0.out HC0.out Z3.out).mono ?_
  rintro e w4 ⟨rfl, b4⟩
  have B4 := Aside0.mk b4
  have Z4 := Aside0.mk (bt Z3.out b4)
  clear b4
  go_wp2_with (first | (go_at_call 8; refine hold ?_))
  unfold Hold
  refine (awake16 w4 (HG.out _ Z4.out)).mono ?_
  rintro e w5 ⟨rfl, b5⟩
  have B5 := Aside0.mk b5
  have Z5 := Aside0.mk (bt Z4.out b5)
  clear b5
  go_wp2
  go_ret
  exact ⟨rfl, Z5.out⟩
 have HL0 := Aside0.mk hq2
 clear hq2
 by_cases hq3 : LR l1
 case neg =>
  have HN := Aside0.mk hq3
  clear hq3
  go_enter Tryz.func4, Tryz.ntmps4
  go_wp2_with (first | (go_at_call 8; refine hold ?_))
  unfold Hold
  refine (awake16 w0 (HG.out _ Z0.out)).mono ?_
  rintro e w1 ⟨rfl, b1⟩
  have B1 := Aside0.mk b1
  have Z1 := Aside0.mk (bt Z0.out b1)
  clear b1
  go_wp2_with (first | (go_at_call 9; refine hold ?_))
  unfold Hold
  refine (size_yes HF0.out HR0.out HC0.out Z1.out).mono ?_
  rintro e w2 ⟨rfl, b2⟩
  have B2 := Aside0.mk b2
  have Z2 := Aside0.mk (bt Z1.out b2)
  clear b2
  go_wp2_with (first | (go_at_call 9; refine hold ?_))
  unfold Hold
  refine (size_yes HF1.out HR1.out HC1.out Z2.out).mono ?_
  rintro e w3 ⟨rfl, b3⟩
  have B3 := Aside0.mk b3
  have Z3 := Aside0.mk (bt Z2.out b3)
  clear b3
  go_wp2_with (first | (go_at_call 10; refine hold ?_))
  unfold Hold
  refine (right_yes HL0.out HR0.out HC0.out Z3.out).mono ?_
  rintro e w4 ⟨rfl, b4⟩
  have B4 := Aside0.mk b4
  have Z4 := Aside0.mk (bt Z3.out b4)
  clear b4
  go_wp2_with (first | (go_at_call 10; refine hold ?_))
  unfold Hold
  refine (right_no HN.out HF1.out HR1.out HC1.out Z4.out).mono ?_
  rintro e w5 ⟨rfl, b5⟩
  have B5 := Aside0.mk b5
  have Z5 := Aside0.mk (bt Z4.out b5)
  clear b5
  go_wp2_with (first | (go_at_call 8; refine hold ?_))
  unfold Hold
  refine (awake16 w5 (HG.out _ Z5.out)).mono ?_
  rintro e w6 ⟨rfl, b6⟩
  have B6 := Aside0.mk b6
  have Z6 := Aside0.mk (bt Z5.out b6)
  clear b6
  go_wp2
  go_ret
  exact ⟨rfl, Z6.out⟩
 have HL1 := Aside0.mk hq3
 clear hq3
 go_enter Tryz.func4, Tryz.ntmps4
 go_wp2_with (first | (go_at_call 8; refine hold ?_))
 unfold Hold
 refine (awake16 w0 (HG.out _ Z0.out)).mono ?_
 rintro e w1 ⟨rfl, b1⟩
 have B1 := Aside0.mk b1
 have Z1 := Aside0.mk (bt Z0.out b1)
 clear b1
 go_wp2_with (first | (go_at_call 9; refine hold ?_))
 unfold Hold
 refine (size_yes HF0.out HR0.out HC0.out Z1.out).mono ?_
 rintro e w2 ⟨rfl, b2⟩
 have B2 := Aside0.mk b2
 have Z2 := Aside0.mk (bt Z1.out b2)
 clear b2
 go_wp2_with (first | (go_at_call 9; refine hold ?_))
 unfold Hold
 refine (size_yes HF1.out HR1.out HC1.out Z2.out).mono ?_
 rintro e w3 ⟨rfl, b3⟩
 have B3 := Aside0.mk b3
 have Z3 := Aside0.mk (bt Z2.out b3)
 clear b3
 go_wp2_with (first | (go_at_call 10; refine hold ?_))
 unfold Hold
 refine (right_yes HL0.out HR0.out HC0.out Z3.out).mono ?_
 rintro e w4 ⟨rfl, b4⟩
 have B4 := Aside0.mk b4
 have Z4 := Aside0.mk (bt Z3.out b4)
 clear b4
 go_wp2_with (first | (go_at_call 10; refine hold ?_))
 unfold Hold
 refine (right_yes HL1.out HR1.out HC1.out Z4.out).mono ?_
 rintro e w5 ⟨rfl, b5⟩
 have B5 := Aside0.mk b5
 have Z5 := Aside0.mk (bt Z4.out b5)
 clear b5
 go_wp2_with (first | (go_at_call 11; refine hold ?_))
 unfold Hold
 refine (begin_yes a2 HL0.out HL1.out HR0.out HC0.out HR1.out HC1.out Z5.out).mono ?_
 rintro e w6 ⟨ga, rfl, hga, ms, b6⟩
 have B6 := Aside0.mk b6
 have Z6 := Aside0.mk (bt Z5.out b6)
 have MA6 := Aside0.mk ms
 have GA := Aside0.mk hga
 clear b6 ms hga
 go_wp2_with (first | (go_at_call 11; refine hold ?_))
 unfold Hold
 refine (begin_yes a2 HL0.out HL1.out HR0.out HC0.out HR1.out HC1.out Z6.out).mono ?_
 rintro e w7 ⟨gb, rfl, hgb, ms, b7⟩
 have B7 := Aside0.mk b7
 have Z7 := Aside0.mk (bt Z6.out b7)
 have hla := MA6.out.lt
 have hne : ga ≠ gb := by omega
 have NE := Aside0.mk hne
 have GWA := Aside0.mk (Nat.le_trans Z5.out.size GA.out)
 have GWB := Aside0.mk (Nat.le_trans Z6.out.size hgb)
 have M0A := Aside0.mk ((MA6.out.wide (S' := fun k => k = ga ∨ k = gb) (fun k hk h => by rcases h with h | h; exact .inr h; omega)).below b7)
 have M0B := Aside0.mk (ms.wide (S' := fun k => k = ga ∨ k = gb) (fun k hk h => by rcases h with h | h; left; omega; exact .inr h))
 clear b7 ms hgb hla MA6
 obtain ⟨K, hK, hK1, hK2⟩ : ∃ K : Nat, 1 + a3 % 70 = (K : Int) ∧ 1 ≤ K ∧ K ≤ 70 := ⟨(1 + a3 % 70).toNat, by omega, by omega, by omega⟩
 obtain ⟨n, hn⟩ : ∃ n, l1.length = n := ⟨_, rfl⟩
 have hnb : n ≤ 64 := by have := HL1.out.2; omega
 obtain ⟨m, hm⟩ : ∃ m, m = min K n := ⟨_, rfl⟩
 have HN := Aside0.mk hn
 have HNB := Aside0.mk hnb
 have HM := Aside0.mk hm
 have HK := Aside0.mk (And.intro hK1 hK2)
 have HTW := Aside0.mk (fun j => run_take HL0.out HL1.out j)
 clear hn hnb hm hK1 hK2
 go_wp2_with (first | (go_at_call 14; refine hold ?_))
 unfold Hold
 refine (step_ms (S := fun k => k = ga ∨ k = gb) (K : Int) m (twoL l0 (l1.take m)) (by have := HK.out; omega) (by rw [HN.out, HM.out]; omega) (by have := HN.out; have := HNB.out; omega) (fun k hk => by rcases hk with h | h; exact h ▸ (M0A.out).lt; exact h ▸ (M0B.out).lt) (.inl rfl) (M0A.out) (HTW.out m)).mono ?_
 rintro e w8 ⟨rfl, ms, k8, q8⟩
 have M8A := Aside0.mk ms
 have M8B := Aside0.mk ((M0B.out).kept k8 (fun k h => .inl h) (fun h => NE.out h.symm))
 have Z8 := Aside0.mk (Z7.out.trans (q8.mono GWA.out))
 clear ms k8 q8
 clear M0A M0B
 go_wp2
 go_loopg [16, 17] K (fun gg s16 s17 wr => ∃ (i j : Nat), s16 = .int .i64 j ∧ s17 = .int .i64 i ∧ i ≤ K ∧ K - i ≤ gg ∧ Aside0 (j = min i n) ∧ Aside0 (MS wr (fun k => k = ga ∨ k = gb) ga (twoL l0 (l1.take m)) (l1.drop m) a2) ∧ Aside0 (MS wr (fun k => k = ga ∨ k = gb) gb (twoL l0 (l1.take j)) (l1.drop j) a2) ∧ Aside0 (Below w0.heap.size w0 wr))
 case atStart => exact ⟨0, 0, rfl, rfl, Nat.zero_le _, by omega, ⟨by omega⟩, M8A, ⟨by rw [List.drop_zero, List.take_zero]; exact M8B.out⟩, Z8⟩
 case round =>
  obtain ⟨i, j, rfl, rfl, hiK, hgg, HJ, LA, LB, ZL⟩ := hrel
  clear M8A M8B
  by_cases hlt : i < K
  ·have hltz : (i : Int) < (K : Int) := by omega
   have hj := HJ.out
   have hnb := HNB.out
   have hkk := HK.out
   obtain ⟨d, hd⟩ : ∃ d, d = min (i + 1) n - j := ⟨_, rfl⟩
   have hjd : min (i + 1) n = j + d := by omega
   have hw2 : IntKind.i64.wrap ((i : Int) + 1) = (i : Int) + 1 := IntWalk.i64_in _ (by omega)
   have hw3 : IntKind.i64.wrap ((j : Int) + (d : Int)) = (j : Int) + (d : Int) := IntWalk.i64_in _ (by omega)
   have hln : (l1.drop j).length = n - j := by rw [List.length_drop, HN.out]
   have hrun : runF (twoL l0 (l1.take j)) ((l1.drop j).take d) = some (twoL l0 (l1.take (j + d))) := by
    have h := run_from HL0.out (LR.pre HL1.out (j + d)) j (by rw [List.length_take, HN.out]; omega)
    rw [List.take_take, Nat.min_eq_left (by omega), List.drop_take, Nat.add_sub_cancel_left] at h
    exact h
   have HRUN := Aside0.mk hrun
   have HD := Aside0.mk (And.intro hd hjd)
   have HLN := Aside0.mk hln
   clear hj hnb hkk hd hjd hln hrun
   have Z100 := ZL
   obtain ⟨w100, hw100⟩ : ∃ w100, w100 = wr := ⟨_, rfl⟩
   subst hw100
   go_wp2_with (first | (go_at_call 14; refine hold ?_))
   unfold Hold
   refine (step_ms (S := fun k => k = ga ∨ k = gb) 1 d (twoL l0 (l1.take (j + d))) (by decide) (by have := HLN.out; have := HD.out; have := HNB.out; have := HJ.out; have := HK.out; omega) (by have := HLN.out; have := HNB.out; omega) (fun k hk => by rcases hk with h | h; exact h ▸ (LA.out).lt; exact h ▸ (LB.out).lt) (.inr rfl) (LB.out) HRUN.out).mono ?_
   rintro e w101 ⟨rfl, ms, k101, q101⟩
   have M101B := Aside0.mk ms
   have M101A := Aside0.mk ((LA.out).kept k101 (fun k h => .inr h) (fun h => NE.out h))
   have Z101 := Aside0.mk (Z100.out.trans (q101.mono GWB.out))
   clear ms k101 q101
   have NB := Aside0.mk (show MS w101 (fun k => k = ga ∨ k = gb) gb (twoL l0 (l1.take (j + d))) (l1.drop (j + d)) a2 from by have h := M101B.out; rwa [List.drop_drop] at h)
   go_wp2
   go_roundg (K - (i + 1))
   case measure => omega
   case rel => exact ⟨i + 1, j + d, by push_cast; rfl, by push_cast; rfl, by omega, by omega, ⟨HD.out.2.symm⟩, M101A, NB, Z101⟩
  ·have hltz : ¬ (i : Int) < (K : Int) := by omega
   have hjm : j = m := by have := HJ.out; have := HM.out; omega
   subst hjm
   have hln : (l1.drop j).length = n - j := by rw [List.length_drop, HN.out]
   have HRUN := Aside0.mk (run_from HL0.out HL1.out j (by have := HN.out; have := HJ.out; omega))
   have HLN := Aside0.mk hln
   obtain ⟨rr, er, hrr, hfin, hlay⟩ := layer_any (twoL l0 l1) a2 (by have := two_len HL0.out HL1.out l1.length; rw [List.take_length] at this; omega)
   have HRR := Aside0.mk hrr
   have HLY := Aside0.mk hlay
   clear hln hrr hfin hlay
   have Z200 := ZL
   obtain ⟨w200, hw200⟩ : ∃ w200, w200 = wr := ⟨_, rfl⟩
   subst hw200
   have M200A := LA
   have M200B := LB
   clear LA LB ZL
   have hmin : (j : Int) = min (K : Int) (n : Int) := by have := HM.out; omega
   have HMI := Aside0.mk hmin
   clear hmin
   by_cases hc : (K : Int) ≤ (n : Int)
   ·have hq : (K : Int) = (j : Int) := by have := HMI.out; omega
    have hx : (j : Int) ≤ (l1.length : Int) := by have := HN.out; omega
    go_wp2_with (first | (go_at_call 15; refine hold ?_))
    unfold Hold
    refine (code_nil w200 (HG.out _ Z200.out)).mono ?_
    rintro e w201 ⟨rfl, b201⟩
    have B201 := Aside0.mk b201
    have Z201 := Aside0.mk (bt Z200.out b201)
    clear b201
    go_wp2_with (first | (go_at_call 15; refine hold ?_))
    unfold Hold
    refine (code_nil w201 (HG.out _ Z201.out)).mono ?_
    rintro e w202 ⟨rfl, b202⟩
    have B202 := Aside0.mk b202
    have Z202 := Aside0.mk (bt Z201.out b202)
    clear b202
    go_wp2_with (first | (go_at_call 15; refine hold ?_))
    unfold Hold
    refine (code_nil w202 (HG.out _ Z202.out)).mono ?_
    rintro e w203 ⟨rfl, b203⟩
    have B203 := Aside0.mk b203
    have Z203 := Aside0.mk (bt Z202.out b203)
    clear b203
    go_wp2_with (first | (go_at_call 13; refine hold ?_))
    unfold Hold
    refine (left_ms (M200A.out.below (bt B201.out (bt B202.out B203.out)))).mono ?_
    rintro e w204 ⟨rfl, b204⟩
    have B204 := Aside0.mk b204
    have Z204 := Aside0.mk (bt Z203.out b204)
    clear b204
    go_wp2_with (first | (go_at_call 13; refine hold ?_))
    unfold Hold
    refine (left_ms (M200B.out.below (bt B201.out (bt B202.out (bt B203.out B204.out))))).mono ?_
    rintro e w205 ⟨rfl, b205⟩
    have B205 := Aside0.mk b205
    have Z205 := Aside0.mk (bt Z204.out b205)
    clear b205
    have M205A := Aside0.mk (M200A.out.below (bt B201.out (bt B202.out (bt B203.out (bt B204.out B205.out)))))
    have M205B := Aside0.mk (M200B.out.below (bt B201.out (bt B202.out (bt B203.out (bt B204.out B205.out)))))
    clear M200A M200B
    go_wp2_with (first | (go_at_call 14; refine hold ?_))
    unfold Hold
    refine (step_ms (S := fun k => k = ga ∨ k = gb) 100 (l1.drop j).length (twoL l0 l1) (by decide) (by have := HLN.out; have := HNB.out; omega) (by have := HLN.out; have := HNB.out; omega) (fun k hk => by rcases hk with h | h; exact h ▸ (M205A.out).lt; exact h ▸ (M205B.out).lt) (.inl rfl) (M205A.out) (by rw [List.take_length]; exact HRUN.out)).mono ?_
    rintro e w206 ⟨rfl, ms, k206, q206⟩
    have M206A := Aside0.mk ms
    have M206B := Aside0.mk ((M205B.out).kept k206 (fun k h => .inl h) (fun h => NE.out h.symm))
    have Z206 := Aside0.mk (Z205.out.trans (q206.mono GWA.out))
    clear ms k206 q206
    go_wp2_with (first | (go_at_call 14; refine hold ?_))
    unfold Hold
    refine (step_ms (S := fun k => k = ga ∨ k = gb) 100 (l1.drop j).length (twoL l0 l1) (by decide) (by have := HLN.out; have := HNB.out; omega) (by have := HLN.out; have := HNB.out; omega) (fun k hk => by rcases hk with h | h; exact h ▸ (M206A.out).lt; exact h ▸ (M206B.out).lt) (.inr rfl) (M206B.out) (by rw [List.take_length]; exact HRUN.out)).mono ?_
    rintro e w207 ⟨rfl, ms, k207, q207⟩
    have M207B := Aside0.mk ms
    have M207A := Aside0.mk ((M206A.out).kept k207 (fun k h => .inr h) (fun h => NE.out h))
    have Z207 := Aside0.mk (Z206.out.trans (q207.mono GWB.out))
    clear ms k207 q207
    have NA := Aside0.mk (show MS w207 (fun k => k = ga ∨ k = gb) ga (twoL l0 l1) [] a2 from by have h := M207A.out; rwa [List.drop_length] at h)
    have NB := Aside0.mk (show MS w207 (fun k => k = ga ∨ k = gb) gb (twoL l0 l1) [] a2 from by have h := M207B.out; rwa [List.drop_length] at h)
    go_wp2_with (first | (go_at_call 16; refine hold ?_))
    unfold Hold
    refine (HLY.out _ _ _ NA.out).mono ?_
    rintro e w208 ⟨va, ua, rfl, oa, pa, b208⟩
    have B208 := Aside0.mk b208
    have Z208 := Aside0.mk (bt Z207.out b208)
    clear b208
    have XA := Aside0.mk oa
    have EA := Aside0.mk pa
    clear oa pa
    go_wp2_with (first | (go_at_call 16; refine hold ?_))
    unfold Hold
    refine (HLY.out _ _ _ (NB.out.below B208.out)).mono ?_
    rintro e w209 ⟨vb, ub, rfl, ob, pb, b209⟩
    have B209 := Aside0.mk b209
    have Z209 := Aside0.mk (bt Z208.out b209)
    clear b209
    have XB := Aside0.mk ob
    have EB := Aside0.mk pb
    clear ob pb
    go_wp2_with (first | (go_at_call 15; refine hold ?_))
    unfold Hold
    refine (code_R (Kd.R_below EA.out B209.out) (HG.out _ Z209.out)).mono ?_
    rintro e w210 ⟨rfl, b210⟩
    have B210 := Aside0.mk b210
    have Z210 := Aside0.mk (bt Z209.out b210)
    clear b210
    go_wp2_with (first | (go_at_call 15; refine hold ?_))
    unfold Hold
    refine (code_R (Kd.R_below EB.out B210.out) (HG.out _ Z210.out)).mono ?_
    rintro e w211 ⟨rfl, b211⟩
    have B211 := Aside0.mk b211
    have Z211 := Aside0.mk (bt Z210.out b211)
    clear b211
    go_wp2_with (first | (go_at_call 17; refine hold ?_))
    unfold Hold
    refine (same_R (by have := HRR.out; omega) rfl (Kd.R_below XA.out (bt B209.out (bt B210.out B211.out))) (Kd.R_below XB.out (bt B210.out B211.out))).mono ?_
    rintro e w212 ⟨rfl, b212⟩
    have B212 := Aside0.mk b212
    have Z212 := Aside0.mk (bt Z211.out b212)
    clear b212
    go_wp2
    go_ret
    exact ⟨by first | rfl | simp, Z212.out⟩
   ·have hq : (n : Int) = (j : Int) := by have := HMI.out; omega
    have hx : (l1.length : Int) = (j : Int) := by have := HN.out; omega
    have hy : ¬ (K : Int) ≤ (j : Int) := by omega
    go_wp2_with (first | (go_at_call 15; refine hold ?_))
    unfold Hold
    refine (code_nil w200 (HG.out _ Z200.out)).mono ?_
    rintro e w201 ⟨rfl, b201⟩
    have B201 := Aside0.mk b201
    have Z201 := Aside0.mk (bt Z200.out b201)
    clear b201
    go_wp2_with (first | (go_at_call 15; refine hold ?_))
    unfold Hold
    refine (code_nil w201 (HG.out _ Z201.out)).mono ?_
    rintro e w202 ⟨rfl, b202⟩
    have B202 := Aside0.mk b202
    have Z202 := Aside0.mk (bt Z201.out b202)
    clear b202
    go_wp2_with (first | (go_at_call 15; refine hold ?_))
    unfold Hold
    refine (code_nil w202 (HG.out _ Z202.out)).mono ?_
    rintro e w203 ⟨rfl, b203⟩
    have B203 := Aside0.mk b203
    have Z203 := Aside0.mk (bt Z202.out b203)
    clear b203
    go_wp2_with (first | (go_at_call 13; refine hold ?_))
    unfold Hold
    refine (left_ms (M200A.out.below (bt B201.out (bt B202.out B203.out)))).mono ?_
    rintro e w204 ⟨rfl, b204⟩
    have B204 := Aside0.mk b204
    have Z204 := Aside0.mk (bt Z203.out b204)
    clear b204
    go_wp2_with (first | (go_at_call 13; refine hold ?_))
    unfold Hold
    refine (left_ms (M200B.out.below (bt B201.out (bt B202.out (bt B203.out B204.out))))).mono ?_
    rintro e w205 ⟨rfl, b205⟩
    have B205 := Aside0.mk b205
    have Z205 := Aside0.mk (bt Z204.out b205)
    clear b205
    have M205A := Aside0.mk (M200A.out.below (bt B201.out (bt B202.out (bt B203.out (bt B204.out B205.out)))))
    have M205B := Aside0.mk (M200B.out.below (bt B201.out (bt B202.out (bt B203.out (bt B204.out B205.out)))))
    clear M200A M200B
    go_wp2_with (first | (go_at_call 14; refine hold ?_))
    unfold Hold
    refine (step_ms (S := fun k => k = ga ∨ k = gb) 100 (l1.drop j).length (twoL l0 l1) (by decide) (by have := HLN.out; have := HNB.out; omega) (by have := HLN.out; have := HNB.out; omega) (fun k hk => by rcases hk with h | h; exact h ▸ (M205A.out).lt; exact h ▸ (M205B.out).lt) (.inl rfl) (M205A.out) (by rw [List.take_length]; exact HRUN.out)).mono ?_
    rintro e w206 ⟨rfl, ms, k206, q206⟩
    have M206A := Aside0.mk ms
    have M206B := Aside0.mk ((M205B.out).kept k206 (fun k h => .inl h) (fun h => NE.out h.symm))
    have Z206 := Aside0.mk (Z205.out.trans (q206.mono GWA.out))
    clear ms k206 q206
    go_wp2_with (first | (go_at_call 14; refine hold ?_))
    unfold Hold
    refine (step_ms (S := fun k => k = ga ∨ k = gb) 100 (l1.drop j).length (twoL l0 l1) (by decide) (by have := HLN.out; have := HNB.out; omega) (by have := HLN.out; have := HNB.out; omega) (fun k hk => by rcases hk with h | h; exact h ▸ (M206A.out).lt; exact h ▸ (M206B.out).lt) (.inr rfl) (M206B.out) (by rw [List.take_length]; exact HRUN.out)).mono ?_
    rintro e w207 ⟨rfl, ms, k207, q207⟩
    have M207B := Aside0.mk ms
    have M207A := Aside0.mk ((M206A.out).kept k207 (fun k h => .inr h) (fun h => NE.out h))
    have Z207 := Aside0.mk (Z206.out.trans (q207.mono GWB.out))
    clear ms k207 q207
    have NA := Aside0.mk (show MS w207 (fun k => k = ga ∨ k = gb) ga (twoL l0 l1) [] a2 from by have h := M207A.out; rwa [List.drop_length] at h)
    have NB := Aside0.mk (show MS w207 (fun k => k = ga ∨ k = gb) gb (twoL l0 l1) [] a2 from by have h := M207B.out; rwa [List.drop_length] at h)
    go_wp2_with (first | (go_at_call 16; refine hold ?_))
    unfold Hold
    refine (HLY.out _ _ _ NA.out).mono ?_
    rintro e w208 ⟨va, ua, rfl, oa, pa, b208⟩
    have B208 := Aside0.mk b208
    have Z208 := Aside0.mk (bt Z207.out b208)
    clear b208
    have XA := Aside0.mk oa
    have EA := Aside0.mk pa
    clear oa pa
    go_wp2_with (first | (go_at_call 16; refine hold ?_))
    unfold Hold
    refine (HLY.out _ _ _ (NB.out.below B208.out)).mono ?_
    rintro e w209 ⟨vb, ub, rfl, ob, pb, b209⟩
    have B209 := Aside0.mk b209
    have Z209 := Aside0.mk (bt Z208.out b209)
    clear b209
    have XB := Aside0.mk ob
    have EB := Aside0.mk pb
    clear ob pb
    go_wp2_with (first | (go_at_call 15; refine hold ?_))
    unfold Hold
    refine (code_R (Kd.R_below EA.out B209.out) (HG.out _ Z209.out)).mono ?_
    rintro e w210 ⟨rfl, b210⟩
    have B210 := Aside0.mk b210
    have Z210 := Aside0.mk (bt Z209.out b210)
    clear b210
    go_wp2_with (first | (go_at_call 15; refine hold ?_))
    unfold Hold
    refine (code_R (Kd.R_below EB.out B210.out) (HG.out _ Z210.out)).mono ?_
    rintro e w211 ⟨rfl, b211⟩
    have B211 := Aside0.mk b211
    have Z211 := Aside0.mk (bt Z210.out b211)
    clear b211
    go_wp2_with (first | (go_at_call 17; refine hold ?_))
    unfold Hold
    refine (same_R (by have := HRR.out; omega) rfl (Kd.R_below XA.out (bt B209.out (bt B210.out B211.out))) (Kd.R_below XB.out (bt B210.out B211.out))).mono ?_
    rintro e w212 ⟨rfl, b212⟩
    have B212 := Aside0.mk b212
    have Z212 := Aside0.mk (bt Z211.out b212)
    clear b212
    go_wp2
    go_ret
    exact ⟨by first | rfl | simp, Z212.out⟩
end Go.Proofs.YtjlflmjimibciaaGreatDoor.Print
