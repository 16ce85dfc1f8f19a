import Derived.Test.YtjlflmjimibciaaGreatDoorStepB
namespace Go.Proofs.YtjlflmjimibciaaGreatDoor.Print
open Go Go.RowKit Go.Proofs.YtjlflmjimibciaaGreatDoorW.PrintWords Go.Proofs.YtjlflmjimibciaaGreatDoorW.PrintLast Go.Proofs.YtjlflmjimibciaaGreatDoorW.PrintMore Go.Proofs.YtjlflmjimibciaaGreatDoor.Th
attribute [local go_sem] max2_int min2_int max_two min_two max_three min_three max_four min_four
set_option linter.unusedVariables false
set_option linter.unusedSimpArgs false
open Classical
def shalelaw16_StepAlike.f (k : Nat) (l0 : List S41) (l1 : List S41) (a2 : Bool) (l3 : List Int) : Option Bool := some true
set_option maxHeartbeats 80000000 in
set_option maxRecDepth 100000 in
theorem shalelaw16_StepAlike.calls (k : Nat) (A0 : Option Addr) (c0 : Nat) (l0 : List S41) (A1 : Option Addr) (c1 : Nat) (l1 : List S41) (a2 : Bool) (A3 : Option Addr) (c3 : Nat) (l3 : List Int) (r : Bool) (w0 : World) (hr0 : Kd.C k41 w0 A0 l0.length l0) (hc0 : l0.length ≤ c0) (hr1 : Kd.C k41 w0 A1 l1.length l1) (hc1 : l1.length ≤ c1) (hr3 : Kd.C (Kd.int .i64) w0 A3 l3.length l3) (hc3 : l3.length ≤ c3) (hG : Gl w0) (h : shalelaw16_StepAlike.f k l0 l1 a2 l3 = some r) (hr : r = true) :
  Calls Tryz.prog 6 #[.slice A0 l0.length c0, .slice A1 l1.length c1, .bool a2, .slice A3 l3.length c3] w0 fun e w' => e = .returned (.bool r) ∧ Below w0.heap.size w0 w' := by
 subst hr
 clear h
 have HG := Aside0.mk (fun (V : World) (h : Below w0.heap.size w0 V) => hG.below h)
 have Z0 := Aside0.mk (Below.refl w0.heap.size w0)
 have HR0 := Aside0.mk hr0
 have HC0 := Aside0.mk hc0
 have HR1 := Aside0.mk hr1
 have HC1 := Aside0.mk hc1
 have HR3 := Aside0.mk hr3
 have HC3 := Aside0.mk hc3
 obtain ⟨iI, hI⟩ : ∃ i, Tryz.prog.info? 3 = some i := Option.isSome_iff_exists.1 (by kernel_rfl)
 have HII := Aside0.mk hI
 clear hI
 clear hr0 hc0 hr1 hc1 hr3 hc3 hG
 by_cases hq0 : Fit l0
 case neg =>
  have HN := Aside0.mk hq0
  clear hq0
  go_enter Tryz.func6, Tryz.ntmps6
  go_wp2_with (first | (go_at_call 8; refine hold ?_))
  unfold Hold
  refine (awake16 w0 (HG.out _ Z0.out)).mono ?_
  rintro e w1 ⟨rfl, b1⟩
  have B1 := Aside0.mk b1
  have Z1 := Aside0.mk (bt Z0.out b1)
  clear b1
  go_wp2_with (first | (go_at_call 9; refine hold ?_))
  unfold Hold
  refine (size_no HN.out HR0.out HC0.out Z1.out).mono ?_
  rintro e w2 ⟨rfl, b2⟩
  have B2 := Aside0.mk b2
  have Z2 := Aside0.mk (bt Z1.out b2)
  clear b2
  go_wp2_with (first | (go_at_call 8; refine hold ?_))
  unfold Hold
  refine (awake16 w2 (HG.out _ Z2.out)).mono ?_
  rintro e w3 ⟨rfl, b3⟩
  have B3 := Aside0.mk b3
  have Z3 := Aside0.mk (bt Z2.out b3)
  clear b3
  go_wp2
  go_ret
  exact ⟨rfl, Z3.out⟩
 have HF0 := Aside0.mk hq0
 clear hq0
 by_cases hq1 : Fit l1
 case neg =>
  have HN := Aside0.mk hq1
  clear hq1
  go_enter Tryz.func6, Tryz.ntmps6
  go_wp2_with (first | (go_at_call 8; refine hold ?_))
  unfold Hold
  refine (awake16 w0 (HG.out _ Z0.out)).mono ?_
  rintro e w1 ⟨rfl, b1⟩
  have B1 := Aside0.mk b1
  have Z1 := Aside0.mk (bt Z0.out b1)
  clear b1
  go_wp2_with (first | (go_at_call 9; refine hold ?_))
  unfold Hold
  refine (size_yes HF0.out HR0.out HC0.out Z1.out).mono ?_
  rintro e w2 ⟨rfl, b2⟩
  have B2 := Aside0.mk b2
  have Z2 := Aside0.mk (bt Z1.out b2)
  clear b2
  go_wp2_with (first | (go_at_call 9; refine hold ?_))
  unfold Hold
  refine (size_no HN.out HR1.out HC1.out Z2.out).mono ?_
  rintro e w3 ⟨rfl, b3⟩
  have B3 := Aside0.mk b3
  have Z3 := Aside0.mk (bt Z2.out b3)
  clear b3
  go_wp2_with (first | (go_at_call 8; refine hold ?_))
  unfold Hold
  refine (awake16 w3 (HG.out _ Z3.out)).mono ?_
  rintro e w4 ⟨rfl, b4⟩
  have B4 := Aside0.mk b4
  have Z4 := Aside0.mk (bt Z3.out b4)
  clear b4
  go_wp2
  go_ret
  exact ⟨rfl, Z4.out⟩
 have HF1 := Aside0.mk hq1
 clear hq1
 by_cases hq2 : 100 < l3.length
 case pos =>
  have hx3 : (100 : Int) < (l3.length : Int) := by omega
  go_enter Tryz.func6, Tryz.ntmps6
  go_wp2_with (first | (go_at_call 8; refine hold ?_))
  unfold Hold
  refine (awake16 w0 (HG.out _ Z0.out)).mono ?_
  rintro e w1 ⟨rfl, b1⟩
  have B1 := Aside0.mk b1
  have Z1 := Aside0.mk (bt Z0.out b1)
  clear b1
  go_wp2_with (first | (go_at_call 9; refine hold ?_))
  unfold Hold
  refine (size_yes HF0.out HR0.out HC0.out Z1.out).mono ?_
  rintro e w2 ⟨rfl, b2⟩
  have B2 := Aside0.mk b2
  have Z2 := Aside0.mk (bt Z1.out b2)
  clear b2
  go_wp2_with (first | (go_at_call 9; refine hold ?_))
  unfold Hold
  refine (size_yes HF1.out HR1.out HC1.out Z2.out).mono ?_
  rintro e w3 ⟨rfl, b3⟩
  have B3 := Aside0.mk b3
  have Z3 := Aside0.mk (bt Z2.out b3)
  clear b3
  go_wp2_with (first | (go_at_call 8; refine hold ?_))
  unfold Hold
  refine (awake16 w3 (HG.out _ Z3.out)).mono ?_
  rintro e w4 ⟨rfl, b4⟩
  have B4 := Aside0.mk b4
  have Z4 := Aside0.mk (bt Z3.out b4)
  clear b4
  go_wp2
  go_ret
  exact ⟨rfl, Z4.out⟩
 have hx3 : ¬ (100 : Int) < (l3.length : Int) := by omega
 have HX3 := Aside0.mk hq2
 clear hq2
 by_cases hL0 : LR l0
 case neg =>
  have HNL := Aside0.mk hL0
  clear hL0
  go_enter Tryz.func6, Tryz.ntmps6
  go_wp2_with (first | (go_at_call 8; refine hold ?_))
  unfold Hold
  refine (awake16 w0 (HG.out _ Z0.out)).mono ?_
  rintro e w1 ⟨rfl, b1⟩
  have B1 := Aside0.mk b1
  have Z1 := Aside0.mk (bt Z0.out b1)
  clear b1
  go_wp2_with (first | (go_at_call 9; refine hold ?_))
  unfold Hold
  refine (size_yes HF0.out HR0.out HC0.out Z1.out).mono ?_
  rintro e w2 ⟨rfl, b2⟩
  have B2 := Aside0.mk b2
  have Z2 := Aside0.mk (bt Z1.out b2)
  clear b2
  go_wp2_with (first | (go_at_call 9; refine hold ?_))
  unfold Hold
  refine (size_yes HF1.out HR1.out HC1.out Z2.out).mono ?_
  rintro e w3 ⟨rfl, b3⟩
  have B3 := Aside0.mk b3
  have Z3 := Aside0.mk (bt Z2.out b3)
  clear b3
  go_wp2_with (first | (go_at_call 11; refine hold ?_))
  unfold Hold
  refine (begin_bad a2 HF0.out HF1.out (fun h => HNL.out h.1) HR0.out HC0.out HR1.out HC1.out Z3.out).mono ?_
  rintro e w4 ⟨u4, rfl, p4, b4⟩
  have B4 := Aside0.mk b4
  have Z4 := Aside0.mk (bt Z3.out b4)
  clear b4
  have E4 := Aside0.mk p4
  clear p4
  go_wp2_with (first | (go_at_call 10; refine hold ?_))
  unfold Hold
  refine (right_no HNL.out HF0.out HR0.out HC0.out Z4.out).mono ?_
  rintro e w5 ⟨rfl, b5⟩
  have B5 := Aside0.mk b5
  have Z5 := Aside0.mk (bt Z4.out b5)
  clear b5
  go_wp2_with (first | (go_at_call 15; refine hold ?_))
  unfold Hold
  refine (code_R (Kd.R_below E4.out B5.out) (HG.out _ Z5.out)).mono ?_
  rintro e w6 ⟨rfl, b6⟩
  have B6 := Aside0.mk b6
  have Z6 := Aside0.mk (bt Z5.out b6)
  clear b6
  go_wp2
  go_ret
  exact ⟨by first | rfl | simp, Z6.out⟩
 have HL0 := Aside0.mk hL0
 clear hL0
 by_cases hL1 : LR l1
 case neg =>
  have HNL := Aside0.mk hL1
  clear hL1
  go_enter Tryz.func6, Tryz.ntmps6
  go_wp2_with (first | (go_at_call 8; refine hold ?_))
  unfold Hold
  refine (awake16 w0 (HG.out _ Z0.out)).mono ?_
  rintro e w1 ⟨rfl, b1⟩
  have B1 := Aside0.mk b1
  have Z1 := Aside0.mk (bt Z0.out b1)
  clear b1
  go_wp2_with (first | (go_at_call 9; refine hold ?_))
  unfold Hold
  refine (size_yes HF0.out HR0.out HC0.out Z1.out).mono ?_
  rintro e w2 ⟨rfl, b2⟩
  have B2 := Aside0.mk b2
  have Z2 := Aside0.mk (bt Z1.out b2)
  clear b2
  go_wp2_with (first | (go_at_call 9; refine hold ?_))
  unfold Hold
  refine (size_yes HF1.out HR1.out HC1.out Z2.out).mono ?_
  rintro e w3 ⟨rfl, b3⟩
  have B3 := Aside0.mk b3
  have Z3 := Aside0.mk (bt Z2.out b3)
  clear b3
  go_wp2_with (first | (go_at_call 11; refine hold ?_))
  unfold Hold
  refine (begin_bad a2 HF0.out HF1.out (fun h => HNL.out h.2) HR0.out HC0.out HR1.out HC1.out Z3.out).mono ?_
  rintro e w4 ⟨u4, rfl, p4, b4⟩
  have B4 := Aside0.mk b4
  have Z4 := Aside0.mk (bt Z3.out b4)
  clear b4
  have E4 := Aside0.mk p4
  clear p4
  go_wp2_with (first | (go_at_call 10; refine hold ?_))
  unfold Hold
  refine (right_yes HL0.out HR0.out HC0.out Z4.out).mono ?_
  rintro e w5 ⟨rfl, b5⟩
  have B5 := Aside0.mk b5
  have Z5 := Aside0.mk (bt Z4.out b5)
  clear b5
  go_wp2_with (first | (go_at_call 10; refine hold ?_))
  unfold Hold
  refine (right_no HNL.out HF1.out HR1.out HC1.out Z5.out).mono ?_
  rintro e w6 ⟨rfl, b6⟩
  have B6 := Aside0.mk b6
  have Z6 := Aside0.mk (bt Z5.out b6)
  clear b6
  go_wp2_with (first | (go_at_call 15; refine hold ?_))
  unfold Hold
  refine (code_R (Kd.R_below E4.out (bt B5.out B6.out)) (HG.out _ Z6.out)).mono ?_
  rintro e w7 ⟨rfl, b7⟩
  have B7 := Aside0.mk b7
  have Z7 := Aside0.mk (bt Z6.out b7)
  clear b7
  go_wp2
  go_ret
  exact ⟨by first | rfl | simp, Z7.out⟩
 have HL1 := Aside0.mk hL1
 clear hL1
 go_enter Tryz.func6, Tryz.ntmps6
 go_wp2_with (first | (go_at_call 8; refine hold ?_))
 unfold Hold
 refine (awake16 w0 (HG.out _ Z0.out)).mono ?_
 rintro e w1 ⟨rfl, b1⟩
 have B1 := Aside0.mk b1
 have Z1 := Aside0.mk (bt Z0.out b1)
 clear b1
 go_wp2_with (first | (go_at_call 9; refine hold ?_))
 unfold Hold
 refine (size_yes HF0.out HR0.out HC0.out Z1.out).mono ?_
 rintro e w2 ⟨rfl, b2⟩
 have B2 := Aside0.mk b2
 have Z2 := Aside0.mk (bt Z1.out b2)
 clear b2
 go_wp2_with (first | (go_at_call 9; refine hold ?_))
 unfold Hold
 refine (size_yes HF1.out HR1.out HC1.out Z2.out).mono ?_
 rintro e w3 ⟨rfl, b3⟩
 have B3 := Aside0.mk b3
 have Z3 := Aside0.mk (bt Z2.out b3)
 clear b3
 go_wp2_with (first | (go_at_call 11; refine hold ?_))
 unfold Hold
 refine (begin_yes a2 HL0.out HL1.out HR0.out HC0.out HR1.out HC1.out Z3.out).mono ?_
 rintro e w4 ⟨g, rfl, hg, ms, b4⟩
 have B4 := Aside0.mk b4
 have Z4 := Aside0.mk (bt Z3.out b4)
 have M := Aside0.mk (ms.wide (S' := fun k => k = g) (fun k _ h => .inr h))
 have GWM := Aside0.mk (Nat.le_trans Z3.out.size hg)
 clear b4 ms hg
 go_wp2_with (first | (go_at_call 10; refine hold ?_))
 unfold Hold
 refine (right_yes HL0.out HR0.out HC0.out Z4.out).mono ?_
 rintro e w5 ⟨rfl, b5⟩
 have B5 := Aside0.mk b5
 have Z5 := Aside0.mk (bt Z4.out b5)
 clear b5
 go_wp2_with (first | (go_at_call 10; refine hold ?_))
 unfold Hold
 refine (right_yes HL1.out HR1.out HC1.out Z5.out).mono ?_
 rintro e w6 ⟨rfl, b6⟩
 have B6 := Aside0.mk b6
 have Z6 := Aside0.mk (bt Z5.out b6)
 clear b6
 have M6 := Aside0.mk (M.out.below (bt B5.out B6.out))
 clear M
 obtain ⟨n, hn⟩ : ∃ n, l1.length = n := ⟨_, rfl⟩
 obtain ⟨N, hN⟩ : ∃ n, l3.length = n := ⟨_, rfl⟩
 have hnb : n ≤ 64 := by have := HL1.out.2; omega
 have HN := Aside0.mk hn
 have HN3 := Aside0.mk hN
 have HNB := Aside0.mk hnb
 have HTK := Aside0.mk (fun j => run_take HL0.out HL1.out j)
 rw [hn, hN]
 clear hn hnb hN hx3
 go_wp2
 go_loopg [11] N (fun gg s11 wr => ∃ (i d : Nat), s11 = .int .i64 i ∧ i ≤ N ∧ N - i ≤ gg ∧ Aside0 (d ≤ n) ∧ Aside0 (n - d = refL n (l3.take i)) ∧ Aside0 (MS wr (fun k => k = g) g (twoL l0 (l1.take d)) (l1.drop d) a2) ∧ Aside0 (Below w0.heap.size w0 wr))
 case atStart => exact ⟨0, 0, rfl, Nat.zero_le _, by omega, ⟨Nat.zero_le _⟩, ⟨rfl⟩, ⟨by rw [List.drop_zero, List.take_zero]; exact M6.out⟩, Z6⟩
 case round =>
  obtain ⟨i, d, rfl, hin, hgg, HD, HRL, ML, ZL⟩ := hrel
  clear M6
  by_cases hlt : i < N
  ·have hltz : (i : Int) < (N : Int) := by omega
   have hi0 : (0 : Int) ≤ (i : Int) := by omega
   have hil : i < l3.length := by rw [HN3.out]; exact hlt
   have hi1 : (i : Int) < (l3.length : Int) := by omega
   have hN100 : N ≤ 100 := by have := HX3.out; have := HN3.out; omega
   have hw2 : IntKind.i64.wrap ((i : Int) + 1) = (i : Int) + 1 := IntWalk.i64_in _ (by omega)
   have hcut := cut_to (P := Tryz.prog) 43 3 .i64 Tryz.underlying43 HII.out A3 N c3 ((i : Int) + 1) (by omega) (by omega) (by have := HC3.out; have := HN3.out; omega)
   rw [show ((i : Int) + 1).toNat = i + 1 from by omega] at hcut
   have hj0 : (0 : Int) ≤ (i : Int) + 1 := by omega
   have hj1 : (i : Int) + 1 ≤ (N : Int) := by omega
   obtain ⟨s, hs⟩ : ∃ s, l3[i] = s := ⟨_, rfl⟩
   have hrd : rd l3 (i : Int) = s := by rw [rd_int l3 i hil, hs]
   have htake : refL n (l3.take (i + 1)) = stepL (n - d) s := by rw [List.take_succ_eq_append_getElem hil, refL_snoc, ← HRL.out, hs]
   have HTA := Aside0.mk htake
   obtain ⟨lf, hlf⟩ : ∃ lf, n - d = lf := ⟨_, rfl⟩
   have hdl : (l1.drop d).length = lf := by rw [List.length_drop, HN.out, hlf]
   have HLF := Aside0.mk (And.intro hlf hdl)
   have HMS := ML
   obtain ⟨w100, hw100⟩ : ∃ w100, w100 = wr := ⟨_, rfl⟩
   subst hw100
   have Z100 := ZL
   have HRC := Aside0.mk (fun (V : World) (hV : Below w0.heap.size w0 V) => left_c (W := w0) (V := V) n (i + 1) (by have := HNB.out; omega) (by have := HN3.out; omega) (by omega) HR3.out HC3.out hV)
   obtain ⟨ad, hA, hx0⟩ := Kd.at_int (Kd.C_below HR3.out ZL.out) (i : Int) hi0 hi1
   subst hA
   rw [hrd, Int.toNat_natCast] at hx0
   have hx0' := hx0
   clear htake hdl hs HRL ML ZL
   by_cases hs1 : 1 ≤ s
   ·skip
    obtain ⟨m, hm⟩ : ∃ m : Nat, min s (lf : Int) = (m : Int) := ⟨(min s (lf : Int)).toNat, by omega⟩
    have hmle : m ≤ lf := by omega
    have hst : stepL (n - d) s = lf - m := by rw [HLF.out.1]; unfold stepL; split <;> (try split) <;> omega
    have hrun : runF (twoL l0 (l1.take d)) ((l1.drop d).take m) = some (twoL l0 (l1.take (d + m))) := by
     have h := run_from HL0.out (LR.pre HL1.out (d + m)) d (by rw [List.length_take, HN.out]; have := HLF.out.1; have := HD.out; omega)
     rw [List.take_take, Nat.min_eq_left (by omega), List.drop_take, Nat.add_sub_cancel_left] at h
     exact h
    have HST0 := Aside0.mk (fun (V : World) (hV : Below w100.heap.size w100 V) => (step_g s m (twoL l0 (l1.take (d + m))) hs1 (by rw [HLF.out.2]; exact hm) (by rw [HLF.out.2]; have := HLF.out.1; have := HNB.out; omega) (HMS.out.below hV) hrun).mono fun e w' h => (⟨h.1, by have h2 := h.2.1; rw [List.drop_drop] at h2; exact h2, h.2.2.2⟩ : e = .returned (.tuple #[.int .i64 (m : Int), .nilIface]) ∧ MS w' (fun k => k = g) g (twoL l0 (l1.take (d + m))) (l1.drop (d + m)) a2 ∧ Below g V w'))
    obtain ⟨lf2, hlf2⟩ : ∃ x, lf - m = x := ⟨_, rfl⟩
    have hln2 : (l1.drop (d + m)).length = lf2 := by rw [List.length_drop, HN.out]; have := HLF.out.1; omega
    have hrf := HTA.out
    rw [hst, hlf2] at hrf
    clear hrun hst
    rcases Nat.eq_zero_or_pos lf2 with hz | hz
    ·skip
     have hml : m = lf := by omega
     subst hml
     subst hz
     have LFW : Aside0 (Calls Tryz.prog 13 #[.pointer (some ⟨g, 0, none⟩)] w100 fun e w' => e = .returned (.int .i64 (m : Int)) ∧ Below w100.heap.size w100 w') := ⟨by have h := left_ms HMS.out; rwa [HLF.out.2] at h⟩
     have HLA : Aside0 ((l1.drop (d + m)).length = 0) := ⟨hln2⟩
     have HRD : Aside0 (true = decide (((l1.drop (d + m)).length : Int) = 0)) := ⟨by rw [hln2]; rfl⟩
     have HRF := Aside0.mk (fun (V : World) (hV : Below w0.heap.size w0 V) => by have h := HRC.out V hV; rwa [hrf] at h)
     have HD2 : Aside0 (d + m ≤ n) ∧ Aside0 (n - (d + m) = refL n (l3.take (i + 1))) := ⟨⟨by have := HLF.out.1; have := HD.out; omega⟩, ⟨by rw [hrf]; have := HLF.out.1; have := HD.out; omega⟩⟩
     have HD2 := Aside0.mk HD2
     have hw3 : IntKind.i64.wrap (m : Int) = (m : Int) := IntWalk.i64_in _ (by have := HLF.out.1; have := HNB.out; omega)
     have HST := HST0
     have hs2 : (1 : Int) ≤ s := hs1
     clear hm hmle hlf2 hln2 hrf HST0 hlf
     go_wp2_with (first | (go_at_call 13; refine hold ?_))
     unfold Hold
     refine (LFW.out).mono ?_
     rintro e w101 ⟨rfl, b101⟩
     have B101 := Aside0.mk b101
     have Z101 := Aside0.mk (bt Z100.out b101)
     clear b101
     have x1 := pw_cell_below B101.out hx0
     go_wp2_with (first | (go_at_call 14; refine hold ?_))
     unfold Hold
     refine (HST.out _ B101.out).mono ?_
     rintro e w102 ⟨rfl, ms, q102⟩
     have M102 := Aside0.mk ms
     have Z102 := Aside0.mk (Z101.out.trans (q102.mono GWM.out))
     clear ms q102
     have y1 := (Kd.at_int (Kd.C_below HR3.out Z102.out) (i : Int) hi0 hi1)
     obtain ⟨ad', e', y1⟩ := y1
     cases e'
     rw [hrd, Int.toNat_natCast] at y1
     clear hx0 x1
     have hBW : Below w102.heap.size w102 w102.drew := below_drew1 (Below.refl _ _)
     have HCODE := Aside0.mk (fun (V : World) (hV : Below w102.heap.size w102 V) => code_nil V (HG.out _ (bt Z102.out hV)))
     have HLEFT := Aside0.mk (fun (V : World) (hV : Below w102.heap.size w102 V) => (by have h := left_ms (M102.out.below hV); rw [HLA.out] at h; exact h : Calls Tryz.prog 13 #[.pointer (some ⟨g, 0, none⟩)] V fun e w' => e = .returned (.int .i64 0) ∧ Below V.heap.size V w'))
     have HREF := Aside0.mk (fun (V : World) (hV : Below w102.heap.size w102 V) => HRF.out V (bt Z102.out hV))
     have HRDY := Aside0.mk (fun (V : World) (hV : Below w102.heap.size w102 V) => ready_ms (M102.out.below hV) true HRD.out)
     go_wp2
     go_region_held3 (fun W => Below w102.heap.size w102 W ∧ W.cell? (ad.add i) = some (.int .i64 s)) (first | go_keep | exact heldC (by assumption) (by assumption) (by assumption) | exact heldD (by assumption) (by assumption))
      (first | (go_at_call 15; refine (HCODE.out _ (by first | assumption | exact And.left (by assumption : _ ∧ World.cell? _ (ad.add i) = some (.int .i64 s)))).mono ?_; rintro e w' ⟨rfl, hb⟩) | (go_at_call 19; refine (HREF.out _ (by first | assumption | exact And.left (by assumption : _ ∧ World.cell? _ (ad.add i) = some (.int .i64 s)))).mono ?_; rintro e w' ⟨rfl, hb⟩) | (go_at_call 12; refine (HRDY.out _ (by first | assumption | exact And.left (by assumption : _ ∧ World.cell? _ (ad.add i) = some (.int .i64 s)))).mono ?_; rintro e w' ⟨rfl, hb⟩) | (go_at_call 13; refine (HLEFT.out _ (by first | assumption | exact And.left (by assumption : _ ∧ World.cell? _ (ad.add i) = some (.int .i64 s)))).mono ?_; rintro e w' ⟨rfl, hb⟩))
     have B103 : Aside0 (Below w102.heap.size w102 w') := ⟨by first | assumption | exact And.left (by assumption : _ ∧ World.cell? w' (ad.add i) = some (.int .i64 s))⟩
     obtain ⟨w103, hw103⟩ : ∃ w103, w103 = w' := ⟨_, rfl⟩
     subst hw103
     have Z103 := Aside0.mk (bt Z102.out B103.out)
     clear hb
     go_wp2_with (first | (go_at_call 12; refine hold ?_))
     unfold Hold
     refine (ready_ms (M102.out.below B103.out) true HRD.out).mono ?_
     rintro e w104 ⟨rfl, b104⟩
     have B104 := Aside0.mk b104
     have Z104 := Aside0.mk (bt Z103.out b104)
     clear b104
     have MN := Aside0.mk (M102.out.below (bt B103.out B104.out))
     go_wp2
     go_roundg (N - (i + 1))
     case measure => omega
     case rel => exact ⟨i + 1, d + m, by push_cast; rfl, by omega, by omega, HD2.out.1, HD2.out.2, MN, Z104⟩
    ·skip
     have LFW : Aside0 (Calls Tryz.prog 13 #[.pointer (some ⟨g, 0, none⟩)] w100 fun e w' => e = .returned (.int .i64 (lf : Int)) ∧ Below w100.heap.size w100 w') := ⟨by have h := left_ms HMS.out; rwa [HLF.out.2] at h⟩
     have HLA : Aside0 ((l1.drop (d + m)).length = lf2) := ⟨hln2⟩
     have HRD : Aside0 (false = decide (((l1.drop (d + m)).length : Int) = 0)) := ⟨by rw [hln2]; exact (decide_eq_false (by omega)).symm⟩
     have HNE : Aside0 (l1.drop (d + m) ≠ []) := ⟨fun h => by rw [h] at hln2; simp at hln2; omega⟩
     have HRF := Aside0.mk (fun (V : World) (hV : Below w0.heap.size w0 V) => by have h := HRC.out V hV; rwa [hrf] at h)
     have HD2 : Aside0 (d + m ≤ n) ∧ Aside0 (n - (d + m) = refL n (l3.take (i + 1))) := ⟨⟨by have := HLF.out.1; have := HD.out; omega⟩, ⟨by rw [hrf]; have := HLF.out.1; have := HD.out; omega⟩⟩
     have HD2 := Aside0.mk HD2
     have hw3 : IntKind.i64.wrap ((lf : Int) - (lf2 : Int)) = (m : Int) := (IntWalk.i64_in _ (by have := HLF.out.1; have := HNB.out; omega)).trans (by omega)
     have hz3 : ¬ (lf2 : Int) = 0 := by omega
     have HST := HST0
     have hs2 : (1 : Int) ≤ s := hs1
     clear hm hmle hlf2 hln2 hrf HST0 hlf hz
     go_wp2_with (first | (go_at_call 13; refine hold ?_))
     unfold Hold
     refine (LFW.out).mono ?_
     rintro e w101 ⟨rfl, b101⟩
     have B101 := Aside0.mk b101
     have Z101 := Aside0.mk (bt Z100.out b101)
     clear b101
     have x1 := pw_cell_below B101.out hx0
     go_wp2_with (first | (go_at_call 14; refine hold ?_))
     unfold Hold
     refine (HST.out _ B101.out).mono ?_
     rintro e w102 ⟨rfl, ms, q102⟩
     have M102 := Aside0.mk ms
     have Z102 := Aside0.mk (Z101.out.trans (q102.mono GWM.out))
     clear ms q102
     have y1 := (Kd.at_int (Kd.C_below HR3.out Z102.out) (i : Int) hi0 hi1)
     obtain ⟨ad', e', y1⟩ := y1
     cases e'
     rw [hrd, Int.toNat_natCast] at y1
     clear hx0 x1
     have hBW : Below w102.heap.size w102 w102.drew := below_drew1 (Below.refl _ _)
     have HCODE := Aside0.mk (fun (V : World) (hV : Below w102.heap.size w102 V) => code_nil V (HG.out _ (bt Z102.out hV)))
     have HLEFT := Aside0.mk (fun (V : World) (hV : Below w102.heap.size w102 V) => (by have h := left_ms (M102.out.below hV); rw [HLA.out] at h; exact h : Calls Tryz.prog 13 #[.pointer (some ⟨g, 0, none⟩)] V fun e w' => e = .returned (.int .i64 (lf2 : Int)) ∧ Below V.heap.size V w'))
     have HREF := Aside0.mk (fun (V : World) (hV : Below w102.heap.size w102 V) => HRF.out V (bt Z102.out hV))
     have HRDY := Aside0.mk (fun (V : World) (hV : Below w102.heap.size w102 V) => ready_ms (M102.out.below hV) false HRD.out)
     go_wp2
     go_region_held3 (fun W => Below w102.heap.size w102 W ∧ W.cell? (ad.add i) = some (.int .i64 s)) (first | go_keep | exact heldC (by assumption) (by assumption) (by assumption) | exact heldD (by assumption) (by assumption))
      (first | (go_at_call 15; refine (HCODE.out _ (by first | assumption | exact And.left (by assumption : _ ∧ World.cell? _ (ad.add i) = some (.int .i64 s)))).mono ?_; rintro e w' ⟨rfl, hb⟩) | (go_at_call 19; refine (HREF.out _ (by first | assumption | exact And.left (by assumption : _ ∧ World.cell? _ (ad.add i) = some (.int .i64 s)))).mono ?_; rintro e w' ⟨rfl, hb⟩) | (go_at_call 12; refine (HRDY.out _ (by first | assumption | exact And.left (by assumption : _ ∧ World.cell? _ (ad.add i) = some (.int .i64 s)))).mono ?_; rintro e w' ⟨rfl, hb⟩) | (go_at_call 13; refine (HLEFT.out _ (by first | assumption | exact And.left (by assumption : _ ∧ World.cell? _ (ad.add i) = some (.int .i64 s)))).mono ?_; rintro e w' ⟨rfl, hb⟩))
     have B103 : Aside0 (Below w102.heap.size w102 w') := ⟨by first | assumption | exact And.left (by assumption : _ ∧ World.cell? w' (ad.add i) = some (.int .i64 s))⟩
     obtain ⟨w103, hw103⟩ : ∃ w103, w103 = w' := ⟨_, rfl⟩
     subst hw103
     have Z103 := Aside0.mk (bt Z102.out B103.out)
     clear hb
     go_wp2_with (first | (go_at_call 12; refine hold ?_))
     unfold Hold
     refine (ready_ms (M102.out.below B103.out) false HRD.out).mono ?_
     rintro e w104 ⟨rfl, b104⟩
     have B104 := Aside0.mk b104
     have Z104 := Aside0.mk (bt Z103.out b104)
     clear b104
     go_wp2_with (first | (go_at_call 16; refine hold ?_))
     unfold Hold
     refine (layer_wait (M102.out.below (bt B103.out B104.out)) HNE.out).mono ?_
     rintro e w105 ⟨u105, rfl, p105, b105⟩
     have B105 := Aside0.mk b105
     have Z105 := Aside0.mk (bt Z104.out b105)
     clear b105
     have E110 := Aside0.mk p105
     clear p105
     go_wp2_with (first | (go_at_call 15; refine hold ?_))
     unfold Hold
     refine (code_R E110.out (HG.out _ Z105.out)).mono ?_
     rintro e w106 ⟨rfl, b106⟩
     have B106 := Aside0.mk b106
     have Z106 := Aside0.mk (bt Z105.out b106)
     clear b106
     have MN := Aside0.mk (M102.out.below (bt B103.out (bt B104.out (bt B105.out B106.out))))
     go_wp2
     go_roundg (N - (i + 1))
     case measure => omega
     case rel => exact ⟨i + 1, d + m, by push_cast; rfl, by omega, by omega, HD2.out.1, HD2.out.2, MN, Z106⟩
   ·have hs1 : s < 1 := by omega
    have hst : stepL (n - d) s = lf := by rw [HLF.out.1]; unfold stepL; split <;> (try split) <;> omega
    have hrf := HTA.out
    rw [hst] at hrf
    have hns : ((1 : Int) ≤ s) = False := eq_false (by omega)
    clear hst
    rcases Nat.eq_zero_or_pos lf with hz | hz
    ·skip
     subst hz
     have LFW : Aside0 (Calls Tryz.prog 13 #[.pointer (some ⟨g, 0, none⟩)] w100 fun e w' => e = .returned (.int .i64 0) ∧ Below w100.heap.size w100 w') := ⟨by have h := left_ms HMS.out; rw [HLF.out.2] at h; exact h⟩
     have HLA : Aside0 ((l1.drop d).length = 0) := ⟨HLF.out.2⟩
     have HRD : Aside0 (true = decide (((l1.drop d).length : Int) = 0)) := ⟨by rw [HLF.out.2]; rfl⟩
     have HRF := Aside0.mk (fun (V : World) (hV : Below w0.heap.size w0 V) => by have h := HRC.out V hV; rwa [hrf] at h)
     have HD2 : Aside0 (d ≤ n) ∧ Aside0 (n - d = refL n (l3.take (i + 1))) := ⟨HD, ⟨by rw [hrf]; exact HLF.out.1⟩⟩
     have HD2 := Aside0.mk HD2
     have hw5 : IntKind.i64.wrap ((0 : Int) - 0) = 0 := rfl
     have hw4 : IntKind.i64.wrap 0 = 0 := rfl
     clear hrf hlf
     go_wp2_with (first | (go_at_call 13; refine hold ?_))
     unfold Hold
     refine (LFW.out).mono ?_
     rintro e w101 ⟨rfl, b101⟩
     have B101 := Aside0.mk b101
     have Z101 := Aside0.mk (bt Z100.out b101)
     clear b101
     have x1 := pw_cell_below B101.out hx0
     go_wp2_with (first | (go_at_call 14; refine hold ?_))
     unfold Hold
     refine (step_low w101 (.pointer (some ⟨g, 0, none⟩)) (.inr ⟨g, rfl⟩) s (.inr hs1)).mono ?_
     rintro e w102 ⟨u102, rfl, p102, b102⟩
     have M102 := Aside0.mk ((HMS.out.below B101.out).below b102)
     have Z102 := Aside0.mk (bt Z101.out b102)
     have E102 := Aside0.mk p102
     clear b102 p102
     have y1 := (Kd.at_int (Kd.C_below HR3.out Z102.out) (i : Int) hi0 hi1)
     obtain ⟨ad', e', y1⟩ := y1
     cases e'
     rw [hrd, Int.toNat_natCast] at y1
     clear hx0 x1
     have hBW : Below w102.heap.size w102 w102.drew := below_drew1 (Below.refl _ _)
     have HCODE := Aside0.mk (fun (V : World) (hV : Below w102.heap.size w102 V) => (code_R (Kd.R_below E102.out hV) (HG.out _ (bt Z102.out hV)) : Calls Tryz.prog 15 #[errV u102] V fun e w' => e = .returned (.int .i64 1) ∧ Below V.heap.size V w'))
     have HLEFT := Aside0.mk (fun (V : World) (hV : Below w102.heap.size w102 V) => (by have h := left_ms (M102.out.below hV); rw [HLA.out] at h; exact h : Calls Tryz.prog 13 #[.pointer (some ⟨g, 0, none⟩)] V fun e w' => e = .returned (.int .i64 0) ∧ Below V.heap.size V w'))
     have HREF := Aside0.mk (fun (V : World) (hV : Below w102.heap.size w102 V) => HRF.out V (bt Z102.out hV))
     have HRDY := Aside0.mk (fun (V : World) (hV : Below w102.heap.size w102 V) => ready_ms (M102.out.below hV) true HRD.out)
     go_wp2
     go_region_held3 (fun W => Below w102.heap.size w102 W ∧ W.cell? (ad.add i) = some (.int .i64 s)) (first | go_keep | exact heldC (by assumption) (by assumption) (by assumption) | exact heldD (by assumption) (by assumption))
      (first | (go_at_call 15; refine (HCODE.out _ (by first | assumption | exact And.left (by assumption : _ ∧ World.cell? _ (ad.add i) = some (.int .i64 s)))).mono ?_; rintro e w' ⟨rfl, hb⟩) | (go_at_call 19; refine (HREF.out _ (by first | assumption | exact And.left (by assumption : _ ∧ World.cell? _ (ad.add i) = some (.int .i64 s)))).mono ?_; rintro e w' ⟨rfl, hb⟩) | (go_at_call 12; refine (HRDY.out _ (by first | assumption | exact And.left (by assumption : _ ∧ World.cell? _ (ad.add i) = some (.int .i64 s)))).mono ?_; rintro e w' ⟨rfl, hb⟩) | (go_at_call 13; refine (HLEFT.out _ (by first | assumption | exact And.left (by assumption : _ ∧ World.cell? _ (ad.add i) = some (.int .i64 s)))).mono ?_; rintro e w' ⟨rfl, hb⟩))
     have B103 : Aside0 (Below w102.heap.size w102 w') := ⟨by first | assumption | exact And.left (by assumption : _ ∧ World.cell? w' (ad.add i) = some (.int .i64 s))⟩
     obtain ⟨w103, hw103⟩ : ∃ w103, w103 = w' := ⟨_, rfl⟩
     subst hw103
     have Z103 := Aside0.mk (bt Z102.out B103.out)
     clear hb
     go_wp2_with (first | (go_at_call 12; refine hold ?_))
     unfold Hold
     refine (ready_ms (M102.out.below B103.out) true HRD.out).mono ?_
     rintro e w104 ⟨rfl, b104⟩
     have B104 := Aside0.mk b104
     have Z104 := Aside0.mk (bt Z103.out b104)
     clear b104
     have MN := Aside0.mk (M102.out.below (bt B103.out B104.out))
     go_wp2
     go_roundg (N - (i + 1))
     case measure => omega
     case rel => exact ⟨i + 1, d, by push_cast; rfl, by omega, by omega, HD2.out.1, HD2.out.2, MN, Z104⟩
    ·skip
     have LFW : Aside0 (Calls Tryz.prog 13 #[.pointer (some ⟨g, 0, none⟩)] w100 fun e w' => e = .returned (.int .i64 (lf : Int)) ∧ Below w100.heap.size w100 w') := ⟨by have h := left_ms HMS.out; rw [HLF.out.2] at h; exact h⟩
     have HLA : Aside0 ((l1.drop d).length = lf) := ⟨HLF.out.2⟩
     have HRD : Aside0 (false = decide (((l1.drop d).length : Int) = 0)) := ⟨by rw [HLF.out.2]; exact (decide_eq_false (by omega)).symm⟩
     have HNE : Aside0 (l1.drop d ≠ []) := ⟨fun h => by have h2 := HLF.out.2; rw [h] at h2; simp at h2; omega⟩
     have HRF := Aside0.mk (fun (V : World) (hV : Below w0.heap.size w0 V) => by have h := HRC.out V hV; rwa [hrf] at h)
     have HD2 : Aside0 (d ≤ n) ∧ Aside0 (n - d = refL n (l3.take (i + 1))) := ⟨HD, ⟨by rw [hrf]; exact HLF.out.1⟩⟩
     have HD2 := Aside0.mk HD2
     have hz3 : ¬ (lf : Int) = 0 := by omega
     have hw5 : IntKind.i64.wrap ((lf : Int) - (lf : Int)) = 0 := by rw [Int.sub_self]; rfl
     have hw4 : IntKind.i64.wrap 0 = 0 := rfl
     clear hz
     clear hrf hlf
     go_wp2_with (first | (go_at_call 13; refine hold ?_))
     unfold Hold
     refine (LFW.out).mono ?_
     rintro e w101 ⟨rfl, b101⟩
     have B101 := Aside0.mk b101
     have Z101 := Aside0.mk (bt Z100.out b101)
     clear b101
     have x1 := pw_cell_below B101.out hx0
     go_wp2_with (first | (go_at_call 14; refine hold ?_))
     unfold Hold
     refine (step_low w101 (.pointer (some ⟨g, 0, none⟩)) (.inr ⟨g, rfl⟩) s (.inr hs1)).mono ?_
     rintro e w102 ⟨u102, rfl, p102, b102⟩
     have M102 := Aside0.mk ((HMS.out.below B101.out).below b102)
     have Z102 := Aside0.mk (bt Z101.out b102)
     have E102 := Aside0.mk p102
     clear b102 p102
     have y1 := (Kd.at_int (Kd.C_below HR3.out Z102.out) (i : Int) hi0 hi1)
     obtain ⟨ad', e', y1⟩ := y1
     cases e'
     rw [hrd, Int.toNat_natCast] at y1
     clear hx0 x1
     have hBW : Below w102.heap.size w102 w102.drew := below_drew1 (Below.refl _ _)
     have HCODE := Aside0.mk (fun (V : World) (hV : Below w102.heap.size w102 V) => (code_R (Kd.R_below E102.out hV) (HG.out _ (bt Z102.out hV)) : Calls Tryz.prog 15 #[errV u102] V fun e w' => e = .returned (.int .i64 1) ∧ Below V.heap.size V w'))
     have HLEFT := Aside0.mk (fun (V : World) (hV : Below w102.heap.size w102 V) => (by have h := left_ms (M102.out.below hV); rw [HLA.out] at h; exact h : Calls Tryz.prog 13 #[.pointer (some ⟨g, 0, none⟩)] V fun e w' => e = .returned (.int .i64 (lf : Int)) ∧ Below V.heap.size V w'))
     have HREF := Aside0.mk (fun (V : World) (hV : Below w102.heap.size w102 V) => HRF.out V (bt Z102.out hV))
     have HRDY := Aside0.mk (fun (V : World) (hV : Below w102.heap.size w102 V) => ready_ms (M102.out.below hV) false HRD.out)
     go_wp2
     go_region_held3 (fun W => Below w102.heap.size w102 W ∧ W.cell? (ad.add i) = some (.int .i64 s)) (first | go_keep | exact heldC (by assumption) (by assumption) (by assumption) | exact heldD (by assumption) (by assumption))
      (first | (go_at_call 15; refine (HCODE.out _ (by first | assumption | exact And.left (by assumption : _ ∧ World.cell? _ (ad.add i) = some (.int .i64 s)))).mono ?_; rintro e w' ⟨rfl, hb⟩) | (go_at_call 19; refine (HREF.out _ (by first | assumption | exact And.left (by assumption : _ ∧ World.cell? _ (ad.add i) = some (.int .i64 s)))).mono ?_; rintro e w' ⟨rfl, hb⟩) | (go_at_call 12; refine (HRDY.out _ (by first | assumption | exact And.left (by assumption : _ ∧ World.cell? _ (ad.add i) = some (.int .i64 s)))).mono ?_; rintro e w' ⟨rfl, hb⟩) | (go_at_call 13; refine (HLEFT.out _ (by first | assumption | exact And.left (by assumption : _ ∧ World.cell? _ (ad.add i) = some (.int .i64 s)))).mono ?_; rintro e w' ⟨rfl, hb⟩))
     have B103 : Aside0 (Below w102.heap.size w102 w') := ⟨by first | assumption | exact And.left (by assumption : _ ∧ World.cell? w' (ad.add i) = some (.int .i64 s))⟩
     obtain ⟨w103, hw103⟩ : ∃ w103, w103 = w' := ⟨_, rfl⟩
     subst hw103
     have Z103 := Aside0.mk (bt Z102.out B103.out)
     clear hb
     go_wp2_with (first | (go_at_call 12; refine hold ?_))
     unfold Hold
     refine (ready_ms (M102.out.below B103.out) false HRD.out).mono ?_
     rintro e w104 ⟨rfl, b104⟩
     have B104 := Aside0.mk b104
     have Z104 := Aside0.mk (bt Z103.out b104)
     clear b104
     go_wp2_with (first | (go_at_call 16; refine hold ?_))
     unfold Hold
     refine (layer_wait (M102.out.below (bt B103.out B104.out)) HNE.out).mono ?_
     rintro e w105 ⟨u105, rfl, p105, b105⟩
     have B105 := Aside0.mk b105
     have Z105 := Aside0.mk (bt Z104.out b105)
     clear b105
     have E110 := Aside0.mk p105
     clear p105
     go_wp2_with (first | (go_at_call 15; refine hold ?_))
     unfold Hold
     refine (code_R E110.out (HG.out _ Z105.out)).mono ?_
     rintro e w106 ⟨rfl, b106⟩
     have B106 := Aside0.mk b106
     have Z106 := Aside0.mk (bt Z105.out b106)
     clear b106
     have MN := Aside0.mk (M102.out.below (bt B103.out (bt B104.out (bt B105.out B106.out))))
     go_wp2
     go_roundg (N - (i + 1))
     case measure => omega
     case rel => exact ⟨i + 1, d, by push_cast; rfl, by omega, by omega, HD2.out.1, HD2.out.2, MN, Z106⟩
  ·have hltz : ¬ (i : Int) < (N : Int) := by omega
   have M200 := ML
   have Z200 := ZL
   clear ML ZL HRL
   obtain ⟨w200, hw200⟩ : ∃ w200, w200 = wr := ⟨_, rfl⟩
   subst hw200
   have HD0 := HD
   go_wp2
   clear hlt hltz
   go_loopg [17] 70 (fun gg s17 wr => ∃ (i d : Nat), s17 = .int .i64 i ∧ i ≤ 70 ∧ 70 - i ≤ gg ∧ Aside0 (d ≤ n ∧ n - d ≤ 70 - i) ∧ Aside0 (MS wr (fun k => k = g) g (twoL l0 (l1.take d)) (l1.drop d) a2) ∧ Aside0 (Below w0.heap.size w0 wr))
   case atStart => exact ⟨0, d, rfl, Nat.zero_le _, by omega, ⟨⟨HD0.out, by have := HNB.out; omega⟩⟩, M200, Z200⟩
   case round =>
    obtain ⟨i, d, rfl, hin, hgg, HD, ML, ZL⟩ := hrel
    clear M200
    by_cases hlt : i < 70
    ·have hltz : (i : Int) < 70 := by omega
     have hw2 : IntKind.i64.wrap ((i : Int) + 1) = (i : Int) + 1 := IntWalk.i64_in _ (by omega)
     obtain ⟨m, hm⟩ : ∃ m : Nat, min 1 (n - d) = m := ⟨_, rfl⟩
     have hdl : (l1.drop d).length = n - d := by rw [List.length_drop, HN.out]
     have hrun : runF (twoL l0 (l1.take d)) ((l1.drop d).take m) = some (twoL l0 (l1.take (d + m))) := by
      have h := run_from HL0.out (LR.pre HL1.out (d + m)) d (by rw [List.length_take, HN.out]; have := HD.out; omega)
      rw [List.take_take, Nat.min_eq_left (by omega), List.drop_take, Nat.add_sub_cancel_left] at h
      exact h
     have HST := Aside0.mk (step_g 1 m (twoL l0 (l1.take (d + m))) (by decide) (by rw [hdl]; omega) (by rw [hdl]; have := HNB.out; omega) ML.out hrun)
     have HDM : Aside0 (d + m ≤ n ∧ n - (d + m) ≤ 70 - (i + 1)) := ⟨by have := HD.out; omega⟩
     clear hrun hdl hm ML
     go_wp2_with (first | (go_at_call 14; refine hold ?_))
     unfold Hold
     refine HST.out.mono ?_
     rintro e w301 ⟨rfl, ms, k301, q301⟩
     have MN := Aside0.mk (show MS w301 (fun k => k = g) g (twoL l0 (l1.take (d + m))) (l1.drop (d + m)) a2 from by rwa [List.drop_drop] at ms)
     have ZN := Aside0.mk (ZL.out.trans (q301.mono GWM.out))
     clear ms k301 q301 HST
     go_wp2
     go_roundg (70 - (i + 1))
     case measure => omega
     case rel => exact ⟨i + 1, d + m, by push_cast; rfl, by omega, by omega, HDM, MN, ZN⟩
    ·have hltz : ¬ (i : Int) < 70 := by omega
     have hdn : d = n := by have := HD.out; omega
     have hd0 : l1.drop d = [] := List.drop_of_length_le (by rw [HN.out]; omega)
     have ht0 : l1.take d = l1 := List.take_of_length_le (by rw [HN.out]; omega)
     have hm := ML.out
     rw [hd0, ht0] at hm
     obtain ⟨rr, er, hrr, hfin, hlay⟩ := layer_any (twoL l0 l1) a2 (by have := two_len HL0.out HL1.out l1.length; rw [List.take_length] at this; omega)
     have HRR := Aside0.mk hrr
     have HLY := Aside0.mk hlay
     have HTWO := Aside0.mk (fun (V : World) (hV : Below w0.heap.size w0 V) => two_c a2 HL0.out HL1.out hfin HR0.out HC0.out HR1.out HC1.out hV)
     rw [HN.out] at HTWO
     have M400 := Aside0.mk hm
     have Z400 := ZL
     clear hrr hfin hlay hm hd0 ht0 ML ZL
     obtain ⟨w400, hw400⟩ : ∃ w400, w400 = wr := ⟨_, rfl⟩
     subst hw400
     go_wp2_with (first | (go_at_call 16; refine hold ?_))
     unfold Hold
     refine (HLY.out _ _ _ M400.out).mono ?_
     rintro e w401 ⟨va, ua, rfl, oa, pa, b401⟩
     have B401 := Aside0.mk b401
     have Z401 := Aside0.mk (bt Z400.out b401)
     clear b401
     have XA := Aside0.mk oa
     have EA := Aside0.mk pa
     clear oa pa
     go_wp2_with (first | (go_at_call 18; refine hold ?_))
     unfold Hold
     refine (HTWO.out _ Z401.out).mono ?_
     rintro e w402 ⟨vb, ub, rfl, ob, pb, b402⟩
     have B402 := Aside0.mk b402
     have Z402 := Aside0.mk (bt Z401.out b402)
     clear b402
     have XB := Aside0.mk ob
     have EB := Aside0.mk pb
     clear ob pb
     go_wp2_with (first | (go_at_call 15; refine hold ?_))
     unfold Hold
     refine (code_nil w402 (HG.out _ Z402.out)).mono ?_
     rintro e w403 ⟨rfl, b403⟩
     have B403 := Aside0.mk b403
     have Z403 := Aside0.mk (bt Z402.out b403)
     clear b403
     go_wp2_with (first | (go_at_call 12; refine hold ?_))
     unfold Hold
     refine (ready_ms (M400.out.below (bt B401.out (bt B402.out B403.out))) true rfl).mono ?_
     rintro e w404 ⟨rfl, b404⟩
     have B404 := Aside0.mk b404
     have Z404 := Aside0.mk (bt Z403.out b404)
     clear b404
     go_wp2_with (first | (go_at_call 15; refine hold ?_))
     unfold Hold
     refine (code_R (Kd.R_below EA.out (bt B402.out (bt B403.out B404.out))) (HG.out _ Z404.out)).mono ?_
     rintro e w405 ⟨rfl, b405⟩
     have B405 := Aside0.mk b405
     have Z405 := Aside0.mk (bt Z404.out b405)
     clear b405
     go_wp2_with (first | (go_at_call 15; refine hold ?_))
     unfold Hold
     refine (code_R (Kd.R_below EB.out (bt B403.out (bt B404.out B405.out))) (HG.out _ Z405.out)).mono ?_
     rintro e w406 ⟨rfl, b406⟩
     have B406 := Aside0.mk b406
     have Z406 := Aside0.mk (bt Z405.out b406)
     clear b406
     go_wp2_with (first | (go_at_call 17; refine hold ?_))
     unfold Hold
     refine (same_R (by have := HRR.out; omega) rfl (Kd.R_below XA.out (bt B402.out (bt B403.out (bt B404.out (bt B405.out B406.out))))) (Kd.R_below XB.out (bt B403.out (bt B404.out (bt B405.out B406.out))))).mono ?_
     rintro e w407 ⟨rfl, b407⟩
     have B407 := Aside0.mk b407
     have Z407 := Aside0.mk (bt Z406.out b407)
     clear b407
     go_wp2
     go_ret
     exact ⟨by first | rfl | simp, Z407.out⟩
end Go.Proofs.YtjlflmjimibciaaGreatDoor.Print
