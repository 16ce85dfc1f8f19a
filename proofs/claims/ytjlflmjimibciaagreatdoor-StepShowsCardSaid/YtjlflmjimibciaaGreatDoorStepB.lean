/- step.Merge: what Begin, Left, Ready, next, Step and Layer do (walks by hand). -/
import Derived.Test.YtjlflmjimibciaaGreatDoorPrint3
import Derived.Test.YtjlflmjimibciaaGreatDoorPrint2
import Derived.Test.YtjlflmjimibciaaGreatDoorPrintMe
import Derived.Test.YtjlflmjimibciaaGreatDoorPrint0
import Derived.Test.YtjlflmjimibciaaGreatDoorPrint1
import Derived.Test.YtjlflmjimibciaaGreatDoorPrintCl
import Derived.Test.YtjlflmjimibciaaGreatDoorWWords
import Derived.Lib.QuietBelow
import Derived.BigQuiet
import Derived.Deep.RegionHeld3
import Derived.StillTailTactics
import Derived.Deep.AppendLies
import Derived.IntWalk
import Derived.Test.YtjlflmjimibciaaGreatDoorPrintF
import Derived.Test.YtjlflmjimibciaaGreatDoorLayC
section
namespace Go.Proofs.YtjlflmjimibciaaGreatDoor.Print
open Go Go.RowKit Go.Proofs.YtjlflmjimibciaaGreatDoorW.PrintWords Go.Proofs.YtjlflmjimibciaaGreatDoorW.PrintLast Go.Proofs.YtjlflmjimibciaaGreatDoorW.PrintMore
set_option linter.unusedVariables false
set_option linter.unusedSimpArgs false
abbrev SE := S41
/-- What a slice leads to, whatever is written to S or made. -/
def Lasts (W : World) (S : Nat → Prop) (A : Option Addr) (xs : List SE) : Prop := ∀ W', Kept W W' S → Kd.C k41 W' A xs.length xs
section
variable {W W1 : World} {S S' : Nat → Prop} {A : Option Addr} {xs : List SE}
theorem Lasts.now (h : Lasts W S A xs) : Kd.C k41 W A xs.length xs := h W (Kept.refl _ _)
theorem Lasts.kept (h : Lasts W S A xs) (hk : Kept W W1 S') (hs : ∀ k, S' k → S k) : Lasts W1 S A xs := fun W' hk' => h W' ⟨Nat.le_trans hk.1 hk'.1, fun i hi hn => (hk'.2 i (Nat.lt_of_lt_of_le hi hk.1) hn).trans (hk.2 i hi (fun h => hn (hs i h)))⟩
theorem Lasts.below (h : Lasts W S A xs) (hb : Below W.heap.size W W1) : Lasts W1 S A xs := h.kept (Kept.of_below hb (fun _ => False)) (fun _ h => h.elim)
theorem Lasts.wide (h : Lasts W S A xs) (hs : ∀ k, k < W.heap.size → S' k → S k) : Lasts W S' A xs := fun W' hk => h W' ⟨hk.1, fun i hi hn => hk.2 i hi (fun h => hn (hs i hi h))⟩
theorem Lasts.nil : Lasts W S none [] := fun W' _ => Kd.C_nil _ _
end
theorem own_lasts {W : World} {T base : Nat} {ok : Nat → Prop} {v : Value} {xs : List SE} (S : Nat → Prop) (h : Kd.R k41 T W base ok v xs) (hS : ∀ k, base ≤ k → k < W.heap.size → ¬ S k) : ∃ A c, v = .slice A xs.length c ∧ xs.length ≤ c ∧ Lasts W S A xs := by
  have hb := Kd.R_bound h
  obtain ⟨A, c, rfl⟩ := Kd.R_slice h
  exact ⟨A, c, rfl, (Kd.R_reads' h).2.1, fun W' hk => Kd.C_kept_own hb (fun k hk2 => hS k hk2.2.1 hk2.2.2.1) W' hk⟩
theorem blk_kept {w W : World} {g e : Nat} {cur : List Value} {S : Nat → Prop} (h : Blk w g e cur) (hk : Kept w W S) (hn : ¬ S g) : Blk W g e cur := (hk.2 g h.lt hn).trans h
/-- A merge at block g: what is laid, what is not, is it at the bottom. -/
def MS (W : World) (S : Nat → Prop) (g : Nat) (out high : List SE) (b : Bool) : Prop := ∃ A1 c1 A2 c2, Blk W g 60 [.slice A1 out.length c1, .slice A2 high.length c2, .bool b] ∧ out.length ≤ c1 ∧ high.length ≤ c2 ∧ Lasts W S A1 out ∧ Lasts W S A2 high
section
variable {W W1 : World} {S S' : Nat → Prop} {g : Nat} {out high : List SE} {b : Bool}
theorem MS.kept (h : MS W S g out high b) (hk : Kept W W1 S') (hs : ∀ k, S' k → S k) (hg : ¬ S' g) : MS W1 S g out high b := by
  obtain ⟨A1, c1, A2, c2, h1, h2, h3, h4, h5⟩ := h
  exact ⟨A1, c1, A2, c2, blk_kept h1 hk hg, h2, h3, h4.kept hk hs, h5.kept hk hs⟩
theorem MS.below (h : MS W S g out high b) (hb : Below W.heap.size W W1) : MS W1 S g out high b := h.kept (Kept.of_below hb (fun _ => False)) (fun _ h => h.elim) (fun h => h)
theorem MS.lt (h : MS W S g out high b) : g < W.heap.size := by
  obtain ⟨A1, c1, A2, c2, h1, _⟩ := h
  exact h1.lt
theorem MS.wide (h : MS W S g out high b) (hs : ∀ k, k < W.heap.size → S' k → S k) : MS W S' g out high b := by
  obtain ⟨A1, c1, A2, c2, h1, h2, h3, h4, h5⟩ := h
  exact ⟨A1, c1, A2, c2, h1, h2, h3, h4.wide hs, h5.wide hs⟩
end
theorem ready_ms {W : World} {S : Nat → Prop} {g : Nat} {out high : List SE} {b : Bool} (h : MS W S g out high b) (r : Bool) (hr : r = decide ((high.length : Int) = 0)) : Calls Tryz.prog 12 #[.pointer (some ⟨g, 0, none⟩)] W fun e w' => e = .returned (.bool r) ∧ Below W.heap.size W w' := by
  obtain ⟨A1, c1, A2, c2, hb, _⟩ := h
  have x1 := hb.cell (j := 1) rfl
  clear hb
  go_enter Tryz.func12, Tryz.ntmps12
  go_wp2
  go_ret
  exact ⟨by subst hr; first | rfl | simp, Below.refl _ _⟩
end Go.Proofs.YtjlflmjimibciaaGreatDoor.Print
end

section
namespace Go.Proofs.YtjlflmjimibciaaGreatDoor.Print
open Go Go.RowKit Go.Proofs.YtjlflmjimibciaaGreatDoorW.PrintWords Go.Proofs.YtjlflmjimibciaaGreatDoorW.PrintLast Go.Proofs.YtjlflmjimibciaaGreatDoorW.PrintMore
set_option linter.unusedVariables false
set_option linter.unusedSimpArgs false
theorem lasts_tail {W : World} {S : Nat → Prop} {A : Option Addr} {x : SE} {xs : List SE} {c : Nat} (h : Lasts W S A (x :: xs)) (hc : (x :: xs).length ≤ c) : Lasts W S (if c = 1 then A else A.map (fun x => x.add (1 * 3))) xs := fun W' hk => Kd.C_drop (m := 1) (h W' hk) (by rw [List.length_cons]; omega) hc
theorem Kept.then1 {w W W2 : World} {S : Nat → Prop} (h : Kept w W S) (k : Kept W W2 S) : Kept w W2 S := ⟨Nat.le_trans h.1 k.1, fun i hi hn => (k.2 i (Nat.lt_of_lt_of_le hi h.1) hn).trans (h.2 i hi hn)⟩
theorem kept_set {W : World} {g j : Nat} (v : Value) : Kept W (W.setCell ⟨g, j, none⟩ v) (fun k => k = g) := ⟨by simp, fun i hi hn => Below.heap_setCell W ⟨g, j, none⟩ v i hn⟩
set_option maxHeartbeats 8000000 in
set_option maxRecDepth 100000 in
theorem next_ms {W : World} {S : Nat → Prop} {g : Nat} {out high : List SE} {x : SE} {b : Bool} {out' : List SE} (hS : ∀ k, S k → k < W.heap.size) (hg : S g) (h : MS W S g out (x :: high) b) (h1 : merge_One.f out x.f0 x.f1 x.f2 = some out') :
    Calls Tryz.prog 29 #[.pointer (some ⟨g, 0, none⟩)] W fun e w' => e = .returned (.tuple #[]) ∧ MS w' S g out' high b ∧ Kept W w' (fun k => k = g) ∧ Below g W w' := by
  obtain ⟨A1, c1, A2, c2, hb, hc1, hc2, hl1, hl2⟩ := h
  have x0 := hb.cell (j := 0) rfl
  have x1 := hb.cell (j := 1) rfl
  have f0 := blk_frozen hb 0
  have f1 := blk_frozen hb 1
  have hin0 : (0 : Int) ≤ 0 := Int.le_refl _
  have hin1 : (0 : Int) < ((x :: high).length : Int) := by rw [List.length_cons]; omega
  obtain ⟨ad, e2, hx0, hx1, hx2⟩ := at_T41 hl2.now 0 hin0 hin1
  subst e2
  rw [show rd_T41 (x :: high) 0 = x from rfl] at hx0 hx1 hx2
  obtain ⟨i0, hi0, hq0⟩ := Option.map_eq_some_iff.1 info41
  have hsz0 : i0.size = 3 := (Prod.mk.inj (Prod.mk.inj hq0).2).1
  have hcut := cut_from (P := Tryz.prog) 22 41 .i64 Tryz.underlying22 hi0 3 hsz0 (some ad) (x :: high).length c2 1 (by omega) (by rw [List.length_cons]; omega)
  have hl5 := lasts_tail hl2 hc2
  have hc5 : high.length ≤ c2 - 1 := by rw [List.length_cons] at hc2; omega
  rw [show (1 : Int).toNat = 1 from rfl, List.length_cons, Nat.add_sub_cancel] at hcut
  generalize (if c2 = 1 then some ad else Option.map (fun x => x.add (1 * 3)) (some ad)) = A4 at hcut hl5
  have HL5 := Aside0.mk hl5
  have HC5 := Aside0.mk hc5
  clear hl5 hc5 hi0 hq0 hsz0
  have ea : ad.add ((0 : Int).toNat * 3) = ad := by cases ad; rfl
  rw [ea] at hx0 hx1 hx2
  have HB := Aside0.mk hb
  have HL1 := Aside0.mk hl1
  have HL2 := Aside0.mk hl2
  have HC1 := Aside0.mk hc1
  have HC2 := Aside0.mk hc2
  clear hb hl1 hl2 hc1 hc2
  go_enter Tryz.func29, Tryz.ntmps29
  go_wp2
  have HX := Aside0.mk (And.intro hS hg)
  clear hS hg
  go_region_law (first | (go_simp; go_at_call 32; refine (merge_One.calls A1 c1 out x.f0 x.f1 x.f2 out' _ (Kd.C_drew HL1.out.now) HC1.out h1).mono ?_; rintro e w2 ⟨v2, rfl, o2, b2⟩; obtain ⟨A3, c3, rfl, hc3, hl3⟩ := own_lasts S o2 (fun k hk _ hs => Nat.not_lt.2 hk (HX.out.1 k hs)); have hb2 := (Blk.drew HB.out).below b2; have z0 := blk_frozen hb2 0; have z1 := hb2.cell (j := 0) rfl; have HB2 := Aside0.mk hb2; have HL3 := Aside0.mk hl3; have HC3 := Aside0.mk hc3; have HBB := Aside0.mk b2; clear hb2 hl3 hc3 b2 o2))
  all_goals (
    have hb3 : Blk (w2.setCell ⟨g, 0, none⟩ (.slice A3 out'.length c3)) g 60 [.slice A3 out'.length c3, .slice (some ad) (x :: high).length c2, .bool b] := by simpa [Blk] using blk_set HB2.out 0 (.slice A3 out'.length c3)
    have hq3 : Below g W (w2.setCell ⟨g, 0, none⟩ (.slice A3 out'.length c3)) := ((below_drew1 (Below.refl g W)).trans (HBB.out.mono (Nat.le_of_lt HB.out.lt))).setCell (p := ⟨g, 0, none⟩) (Nat.le_refl g) _
    have hk3 : Kept W (w2.setCell ⟨g, 0, none⟩ (.slice A3 out'.length c3)) (fun k => k = g) := Kept.then1 (Kept.of_below HBB.out (fun k => k = g)) (kept_set _)
    have hl3 : Lasts (w2.setCell ⟨g, 0, none⟩ (.slice A3 out'.length c3)) S A3 out' := HL3.out.kept (kept_set _) (fun k hk => hk ▸ HX.out.2)
    generalize w2.setCell ⟨g, 0, none⟩ (.slice A3 out'.length c3) = W3 at hb3 hk3 hl3 hq3 ⊢
    clear z0 z1 x0 x1 hx0 hx1 hx2 f0 f1
    have y1 := hb3.cell (j := 1) rfl
    have f1 := blk_frozen hb3 1
    have HB3 := Aside0.mk hb3
    have HK3 := Aside0.mk hk3
    have HL4 := Aside0.mk hl3
    have HQ3 := Aside0.mk hq3
    clear hb3 hk3 hl3 hq3
    go_wp2
    have hbf : Blk (W3.setCell ⟨g, 1, none⟩ (.slice A4 high.length (c2 - 1))) g 60 [.slice A3 out'.length c3, .slice A4 high.length (c2 - 1), .bool b] := by simpa [Blk] using blk_set HB3.out 1 (.slice A4 high.length (c2 - 1))
    have hl5 : Lasts W3 S A4 high := HL5.out.kept HK3.out (fun k hk => hk ▸ HX.out.2)
    refine ⟨rfl, .tuple #[], by first | rfl | (simp [results, Tryz.results29, go_sem]), rfl, ⟨A3, c3, A4, c2 - 1, hbf, HC3.out, HC5.out, HL4.out.kept (kept_set _) (fun k hk => hk ▸ HX.out.2), hl5.kept (kept_set _) (fun k hk => hk ▸ HX.out.2)⟩, Kept.then1 HK3.out (kept_set _), HQ3.out.setCell (p := ⟨g, 1, none⟩) (Nat.le_refl g) _⟩)
attribute [local go_sem] max2_int min2_int max_two min_two max_three min_three max_four min_four
/-- Entries laid one by one. -/
def runF : List SE → List SE → Option (List SE)
  | out, [] => some out
  | out, x :: xs => (merge_One.f out x.f0 x.f1 x.f2).bind fun o => runF o xs
set_option maxHeartbeats 8000000 in
set_option maxRecDepth 100000 in
theorem step_ms {W : World} {S : Nat → Prop} {g : Nat} {out high : List SE} {b : Bool} (n : Int) (m : Nat) (res : List SE) (hn : 1 ≤ n) (hm : min n (high.length : Int) = (m : Int)) (hml : high.length < 4611686018427387904) (hS : ∀ k, S k → k < W.heap.size) (hg : S g) (h : MS W S g out high b) (hr : runF out (high.take m) = some res) :
    Calls Tryz.prog 14 #[.pointer (some ⟨g, 0, none⟩), .int .i64 n] W fun e w' => e = .returned (.tuple #[.int .i64 (m : Int), .nilIface]) ∧ MS w' S g res (high.drop m) b ∧ Kept W w' (fun k => k = g) ∧ Below g W w' := by
  have ef : ∀ args w, (callFunc 29 args).run Tryz.prog w = .ok (.enter 29 args) w := fun _ _ => by kernel_rfl
  have hmf : ∀ (fn : Fn) (first cap : Array Value) (w : World), (Instr.makeFunc fn first cap).run Tryz.prog w = .ok (.func fn first cap) w := fun _ _ _ _ => rfl
  have HS := Aside0.mk hS
  have HG := Aside0.mk hg
  have HM := Aside0.mk h
  have HR := Aside0.mk hr
  have HML := Aside0.mk hml
  have hmle : m ≤ high.length := by omega
  have HLE := Aside0.mk hmle
  have hn1 : ¬ n < 1 := by omega
  obtain ⟨A1, c1, A2, c2, hb, _⟩ := h
  have x1 := hb.cell (j := 1) rfl
  clear hS hg hr hb hml hmle
  have HLQ : Aside0 (¬ (n ≤ (high.length : Int)) → high.length = m) := ⟨fun h => by omega⟩
  have HNM : Aside0 (n ≤ (high.length : Int) → n = (m : Int)) := ⟨fun h => by omega⟩
  clear hm
  by_cases hc : n ≤ (high.length : Int)
  · obtain rfl := HNM.out hc
    go_enter Tryz.func14, Tryz.ntmps14
    go_wp2
    clear x1
    go_loopg [25] m (fun gg s25 wr => ∃ (i : Nat) (o : List SE), s25 = .int .i64 i ∧ i ≤ m ∧ m - i ≤ gg ∧ Aside0 (MS wr S g o (high.drop i) b) ∧ Aside0 (runF o ((high.drop i).take (m - i)) = some res) ∧ Aside0 (Kept W wr (fun k => k = g)) ∧ Aside0 (Below g W wr))
    case atStart => exact ⟨0, out, rfl, Nat.zero_le _, by omega, ⟨by rw [List.drop_zero]; exact HM.out⟩, ⟨by rw [List.drop_zero, Nat.sub_zero]; exact HR.out⟩, ⟨Kept.refl _ _⟩, ⟨Below.refl _ _⟩⟩
    case round =>
      obtain ⟨i, o, rfl, him, hgg, HM1, HR1, HK1, HW1⟩ := hrel
      by_cases hlt : i < m
      · have hltz : (i : Int) < (m : Int) := by omega
        have hil : i < high.length := by have := HLE.out; omega
        have hw1 : IntKind.i64.wrap ((i : Int) + 1) = (i : Int) + 1 := IntWalk.i64_in _ (by have := HML.out; omega)
        have hdrop := List.drop_eq_getElem_cons hil
        have hm1 : m - i = m - (i + 1) + 1 := by omega
        have hr1 := HR1.out
        have hms := HM1.out
        rw [hdrop] at hms hr1
        rw [hm1, List.take_succ_cons, runF] at hr1
        obtain ⟨o2, ho2, hr2⟩ := Option.bind_eq_some_iff.1 hr1
        have HNX := Aside0.mk (next_ms (fun k hk => Nat.lt_of_lt_of_le (HS.out k hk) HK1.out.1) HG.out hms ho2)
        have HR2 := Aside0.mk hr2
        clear hr1 hms ho2 hr2 hdrop hm1 HR1 HM1
        go_wp2_with (first | (go_at_fn 29; refine hold ?_))
        unfold Hold
        refine HNX.out.mono ?_
        rintro e w2 ⟨rfl, ms2, k2, q2⟩
        have HM2 := Aside0.mk ms2
        have HK2 := Aside0.mk (Kept.then1 HK1.out k2)
        have HW2 := Aside0.mk (HW1.out.trans q2)
        clear ms2 k2 q2 HNX
        go_wp2
        go_roundg (m - (i + 1))
        case measure => omega
        case rel => exact ⟨i + 1, o2, by push_cast; rfl, by omega, by omega, HM2, HR2, HK2, HW2⟩
      · have hltz : ¬ (i : Int) < (m : Int) := by omega
        have him2 : i = m := by omega
        subst him2
        have hr1 := HR1.out
        rw [Nat.sub_self, List.take_zero, runF] at hr1
        obtain rfl := Option.some.inj hr1
        go_wp2
        go_ret2
        exact ⟨rfl, HM1.out, HK1.out, HW1.out⟩
  · have hq := HLQ.out hc
    go_enter Tryz.func14, Tryz.ntmps14
    go_wp2

    clear x1
    go_loopg [25] m (fun gg s25 wr => ∃ (i : Nat) (o : List SE), s25 = .int .i64 i ∧ i ≤ m ∧ m - i ≤ gg ∧ Aside0 (MS wr S g o (high.drop i) b) ∧ Aside0 (runF o ((high.drop i).take (m - i)) = some res) ∧ Aside0 (Kept W wr (fun k => k = g)) ∧ Aside0 (Below g W wr))
    case atStart => exact ⟨0, out, rfl, Nat.zero_le _, by omega, ⟨by rw [List.drop_zero]; exact HM.out⟩, ⟨by rw [List.drop_zero, Nat.sub_zero]; exact HR.out⟩, ⟨Kept.refl _ _⟩, ⟨Below.refl _ _⟩⟩
    case round =>
      obtain ⟨i, o, rfl, him, hgg, HM1, HR1, HK1, HW1⟩ := hrel
      by_cases hlt : i < m
      · have hltz : (i : Int) < (m : Int) := by omega
        have hil : i < high.length := by have := HLE.out; omega
        have hw1 : IntKind.i64.wrap ((i : Int) + 1) = (i : Int) + 1 := IntWalk.i64_in _ (by have := HML.out; omega)
        have hdrop := List.drop_eq_getElem_cons hil
        have hm1 : m - i = m - (i + 1) + 1 := by omega
        have hr1 := HR1.out
        have hms := HM1.out
        rw [hdrop] at hms hr1
        rw [hm1, List.take_succ_cons, runF] at hr1
        obtain ⟨o2, ho2, hr2⟩ := Option.bind_eq_some_iff.1 hr1
        have HNX := Aside0.mk (next_ms (fun k hk => Nat.lt_of_lt_of_le (HS.out k hk) HK1.out.1) HG.out hms ho2)
        have HR2 := Aside0.mk hr2
        clear hr1 hms ho2 hr2 hdrop hm1 HR1 HM1
        go_wp2_with (first | (go_at_fn 29; refine hold ?_))
        unfold Hold
        refine HNX.out.mono ?_
        rintro e w2 ⟨rfl, ms2, k2, q2⟩
        have HM2 := Aside0.mk ms2
        have HK2 := Aside0.mk (Kept.then1 HK1.out k2)
        have HW2 := Aside0.mk (HW1.out.trans q2)
        clear ms2 k2 q2 HNX
        go_wp2
        go_roundg (m - (i + 1))
        case measure => omega
        case rel => exact ⟨i + 1, o2, by push_cast; rfl, by omega, by omega, HM2, HR2, HK2, HW2⟩
      · have hltz : ¬ (i : Int) < (m : Int) := by omega
        have him2 : i = m := by omega
        subst him2
        have hr1 := HR1.out
        rw [Nat.sub_self, List.take_zero, runF] at hr1
        obtain rfl := Option.some.inj hr1
        go_wp2
        go_ret2
        exact ⟨rfl, HM1.out, HK1.out, HW1.out⟩
end Go.Proofs.YtjlflmjimibciaaGreatDoor.Print
end

section
namespace Go.Proofs.YtjlflmjimibciaaGreatDoor.Print
open Go Go.RowKit Go.Proofs.YtjlflmjimibciaaGreatDoorW.PrintWords Go.Proofs.YtjlflmjimibciaaGreatDoorW.PrintLast Go.Proofs.YtjlflmjimibciaaGreatDoorW.PrintMore
set_option linter.unusedVariables false
set_option linter.unusedSimpArgs false
/-- An error of the number c comes back, and new memory. -/
def ErrEnd (W : World) (F : Value → Value) (er : List Int) (e : Ending) (w' : World) : Prop := ∃ v0 : Value, e = .returned (F (errV v0)) ∧ Kd.R kdF 76 w' W.heap.size (fun _ => True) v0 er ∧ Below W.heap.size W w'
/-- A row and an error come back, and new memory. -/
def LayEnd (W : World) (ys : List SE) (er : List Int) (e : Ending) (w' : World) : Prop := ∃ v0 v1 : Value, e = .returned (.tuple #[v0, errV v1]) ∧ Kd.R k41 41 w' W.heap.size (fun _ => True) v0 ys ∧ Kd.R kdF 76 w' W.heap.size (fun _ => True) v1 er ∧ Below W.heap.size W w'
set_option maxHeartbeats 8000000 in
set_option maxRecDepth 100000 in
theorem layer_fit {W : World} {S : Nat → Prop} {g : Nat} {out : List SE} {b : Bool} (h : MS W S g out [] b) (hl : out.length ≤ 1000) (r : List SE) (hr : if b = true then merge_Bottom.f out = some r else r = out) (hq : r.length ≤ 64) :
    Calls Tryz.prog 16 #[.pointer (some ⟨g, 0, none⟩)] W (LayEnd W r []) := by
  have HR := Aside0.mk (ready_ms h true rfl)
  have HF := Aside0.mk (fail_At.calls ⟨#[115, 116, 101, 112]⟩ ⟨#[]⟩ 9 [9])
  obtain ⟨A1, c1, A2, c2, hb, hc1, _, hl1, _⟩ := h
  have HB0 := Aside0.mk hb
  have HC1 := Aside0.mk hc1
  have HL1 := Aside0.mk hl1
  have hcf : api_Entry.f out = some out := by unfold api_Entry.f; rw [if_pos (by omega)]
  have HCF := Aside0.mk hcf
  have hq1 : ¬ 64 < (r.length : Int) := by omega
  clear hb hc1 hl1 hcf hl hq
  go_enter Tryz.func16, Tryz.ntmps16
  go_wp2_with (go_at_call 12; refine hold ?_)
  unfold Hold
  refine HR.out.mono ?_
  rintro e w2 ⟨rfl, b2⟩
  have hb2 := HB0.out.below b2
  have x0 := hb2.cell (j := 0) rfl
  have HB2 := Aside0.mk b2
  have HX2 := Aside0.mk hb2
  have HCC := Aside0.mk (api_Entry.calls A1 c1 out out w2 (HL1.out.below b2).now HC1.out HCF.out)
  clear b2 hb2
  go_wp2_with (go_at_call 28; refine hold ?_)
  unfold Hold
  refine HCC.out.mono ?_
  rintro e w3 ⟨v3, rfl, o3, b3⟩
  have hb3 := HX2.out.below b3
  have x2 := hb3.cell (j := 2) rfl
  have HB3 := Aside0.mk (HB2.out.trans (b3.mono HB2.out.size))
  have HO3 := Aside0.mk (Kd.R_lower o3 HB2.out.size)
  clear b3 o3 hb3 x0
  obtain ⟨A3, c3, rfl⟩ := Kd.R_slice HO3.out
  cases b with
  | false =>
    rw [if_neg Bool.false_ne_true] at hr
    subst hr
    have HO := HO3
    have HB4 := HB3
    have HE : Aside0 (LayEnd W r [] (.returned (.tuple #[.slice A3 r.length c3, .nilIface])) w3) := ⟨⟨_, .slice none 0 0, rfl, HO.out, Kd.R_nil _ _ _ _ _, HB4.out⟩⟩
    go_wp2
    go_ret2
    exact HE.out
  | true =>
    rw [if_pos rfl] at hr
    obtain ⟨_, hle3, hC3⟩ := Kd.R_reads' HO3.out
    have HBT := Aside0.mk (merge_Bottom.calls A3 c3 out r w3 hC3 hle3 hr)
    clear hle3 hC3 hr
    go_wp2_with (go_at_call 31; refine hold ?_)
    unfold Hold
    refine HBT.out.mono ?_
    rintro e w4 ⟨v4, rfl, o4, b4⟩
    have HB4 := Aside0.mk (HB3.out.trans (b4.mono HB3.out.size))
    have HO := Aside0.mk (Kd.R_lower o4 HB3.out.size)
    clear b4 o4
    obtain ⟨A4, c4, rfl⟩ := Kd.R_slice HO.out
    have HE : Aside0 (LayEnd W r [] (.returned (.tuple #[.slice A4 r.length c4, .nilIface])) w4) := ⟨⟨_, .slice none 0 0, rfl, HO.out, Kd.R_nil _ _ _ _ _, HB4.out⟩⟩
    go_wp2
    go_ret2
    exact HE.out
set_option maxHeartbeats 8000000 in
set_option maxRecDepth 100000 in
theorem layer_big {W : World} {S : Nat → Prop} {g : Nat} {out : List SE} {b : Bool} (h : MS W S g out [] b) (hl : out.length ≤ 1000) (r : List SE) (hr : if b = true then merge_Bottom.f out = some r else r = out) (hq : 64 < r.length) :
    Calls Tryz.prog 16 #[.pointer (some ⟨g, 0, none⟩)] W (LayEnd W [] [9]) := by
  have HR := Aside0.mk (ready_ms h true rfl)
  have HF := Aside0.mk (fail_At.calls ⟨#[115, 116, 101, 112]⟩ ⟨#[]⟩ 9 [9])
  obtain ⟨A1, c1, A2, c2, hb, hc1, _, hl1, _⟩ := h
  have HB0 := Aside0.mk hb
  have HC1 := Aside0.mk hc1
  have HL1 := Aside0.mk hl1
  have hcf : api_Entry.f out = some out := by unfold api_Entry.f; rw [if_pos (by omega)]
  have HCF := Aside0.mk hcf
  have hq1 : 64 < (r.length : Int) := by omega
  clear hb hc1 hl1 hcf hl hq
  go_enter Tryz.func16, Tryz.ntmps16
  go_wp2_with (go_at_call 12; refine hold ?_)
  unfold Hold
  refine HR.out.mono ?_
  rintro e w2 ⟨rfl, b2⟩
  have hb2 := HB0.out.below b2
  have x0 := hb2.cell (j := 0) rfl
  have HB2 := Aside0.mk b2
  have HX2 := Aside0.mk hb2
  have HCC := Aside0.mk (api_Entry.calls A1 c1 out out w2 (HL1.out.below b2).now HC1.out HCF.out)
  clear b2 hb2
  go_wp2_with (go_at_call 28; refine hold ?_)
  unfold Hold
  refine HCC.out.mono ?_
  rintro e w3 ⟨v3, rfl, o3, b3⟩
  have hb3 := HX2.out.below b3
  have x2 := hb3.cell (j := 2) rfl
  have HB3 := Aside0.mk (HB2.out.trans (b3.mono HB2.out.size))
  have HO3 := Aside0.mk (Kd.R_lower o3 HB2.out.size)
  clear b3 o3 hb3 x0
  obtain ⟨A3, c3, rfl⟩ := Kd.R_slice HO3.out
  cases b with
  | false =>
    rw [if_neg Bool.false_ne_true] at hr
    subst hr
    have HO := HO3
    have HB4 := HB3
    go_wp2_with (go_at_call 27; refine hold ?_)
    unfold Hold
    refine (HF.out w3 rfl).mono ?_
    rintro e w7 ⟨v7, rfl, o7, b7⟩
    have HE : Aside0 (LayEnd W [] [9] (.returned (.tuple #[.slice none 0 0, errV v7])) w7) := ⟨⟨.slice none 0 0, v7, rfl, Kd.R_nil _ _ _ _ _, Kd.R_lower o7 HB4.out.size, HB4.out.trans (b7.mono HB4.out.size)⟩⟩
    clear o7 b7
    go_wp2
    go_ret2
    exact HE.out
  | true =>
    rw [if_pos rfl] at hr
    obtain ⟨_, hle3, hC3⟩ := Kd.R_reads' HO3.out
    have HBT := Aside0.mk (merge_Bottom.calls A3 c3 out r w3 hC3 hle3 hr)
    clear hle3 hC3 hr
    go_wp2_with (go_at_call 31; refine hold ?_)
    unfold Hold
    refine HBT.out.mono ?_
    rintro e w4 ⟨v4, rfl, o4, b4⟩
    have HB4 := Aside0.mk (HB3.out.trans (b4.mono HB3.out.size))
    have HO := Aside0.mk (Kd.R_lower o4 HB3.out.size)
    clear b4 o4
    obtain ⟨A4, c4, rfl⟩ := Kd.R_slice HO.out
    go_wp2_with (go_at_call 27; refine hold ?_)
    unfold Hold
    refine (HF.out w4 rfl).mono ?_
    rintro e w7 ⟨v7, rfl, o7, b7⟩
    have HE : Aside0 (LayEnd W [] [9] (.returned (.tuple #[.slice none 0 0, errV v7])) w7) := ⟨⟨.slice none 0 0, v7, rfl, Kd.R_nil _ _ _ _ _, Kd.R_lower o7 HB4.out.size, HB4.out.trans (b7.mono HB4.out.size)⟩⟩
    clear o7 b7
    go_wp2
    go_ret2
    exact HE.out
set_option maxHeartbeats 8000000 in
set_option maxRecDepth 100000 in
theorem begin_ms (k : Nat) (A0 : Option Addr) (c0 : Nat) (low : List SE) (A1 : Option Addr) (c1 : Nat) (high : List SE) (b : Bool) (W : World) (h0 : Kd.C k41 W A0 low.length low) (hc0 : low.length ≤ c0) (h1 : Kd.C k41 W A1 high.length high) (hc1 : high.length ≤ c1) (hl : low.length ≤ 1000) (hh : high.length ≤ 1000) (hr0 : layer_Right.f k low = some true) (hr1 : layer_Right.f k high = some true) :
    Calls Tryz.prog 11 #[.slice A0 low.length c0, .slice A1 high.length c1, .bool b] W fun e w' => ∃ g, e = .returned (.tuple #[.pointer (some ⟨g, 0, none⟩), .nilIface]) ∧ W.heap.size ≤ g ∧ MS w' (fun k => k < W.heap.size ∨ k = g) g low high b ∧ Below W.heap.size W w' := by
  have H0 := Aside0.mk (fun W' (hW : Below W.heap.size W W') => layer_Right.calls k A0 c0 low true W' (Kd.C_below h0 hW) hc0 hr0)
  have H1 := Aside0.mk (fun W' (hW : Below W.heap.size W W') => layer_Right.calls k A1 c1 high true W' (Kd.C_below h1 hW) hc1 hr1)
  have hcf : ∀ l : List SE, l.length ≤ 1000 → api_Entry.f l = some l := fun l hl => by unfold api_Entry.f; rw [if_pos (by omega)]
  have C0 := Aside0.mk (fun W' (hW : Below W.heap.size W W') => api_Entry.calls A0 c0 low low W' (Kd.C_below h0 hW) hc0 (hcf low hl))
  have C1 := Aside0.mk (fun W' (hW : Below W.heap.size W W') => api_Entry.calls A1 c1 high high W' (Kd.C_below h1 hW) hc1 (hcf high hh))
  clear hcf h0 h1 hc0 hc1 hl hh hr0 hr1
  go_enter Tryz.func11, Tryz.ntmps11
  go_wp2_with (go_at_call 10; refine hold ?_)
  unfold Hold
  refine (H0.out W (Below.refl _ _)).mono ?_
  rintro e w2 ⟨rfl, b2⟩
  have HB2 := Aside0.mk b2
  clear b2
  go_wp2_with (go_at_call 10; refine hold ?_)
  unfold Hold
  refine (H1.out w2 HB2.out).mono ?_
  rintro e w3 ⟨rfl, b3⟩
  have HB3 := Aside0.mk (HB2.out.trans (b3.mono HB2.out.size))
  clear b3
  go_wp2_with (go_at_call 28; refine hold ?_)
  unfold Hold
  refine (C0.out w3 HB3.out).mono ?_
  rintro e w4 ⟨v4, rfl, o4, b4⟩
  have HB4 := Aside0.mk (HB3.out.trans (b4.mono HB3.out.size))
  obtain ⟨A4, c4, rfl, hc4, hl4⟩ := own_lasts (fun k => k < W.heap.size) (Kd.R_lower o4 HB3.out.size) (fun k h _ => Nat.not_lt.2 h)
  have HC4 := Aside0.mk hc4
  have HL4 := Aside0.mk hl4
  clear b4 o4 hc4 hl4
  go_wp2_with (go_at_call 28; refine hold ?_)
  unfold Hold
  refine (C1.out w4 HB4.out).mono ?_
  rintro e w5 ⟨v5, rfl, o5, b5⟩
  have HB5 := Aside0.mk (HB4.out.trans (b5.mono HB4.out.size))
  obtain ⟨A5, c5, rfl, hc5, hl5⟩ := own_lasts (fun k => k < W.heap.size) (Kd.R_lower o5 HB4.out.size) (fun k h _ => Nat.not_lt.2 h)
  have HC5 := Aside0.mk hc5
  have HL5 := Aside0.mk hl5
  have HL4' := Aside0.mk (HL4.out.below b5)
  clear b5 o5 hc5 hl5
  have hfin : ∀ w6, w6 = w5.alloc (.cells #[.slice A4 low.length c4, .slice A5 high.length c5, .bool b] 60) → W.heap.size ≤ w5.heap.size ∧ MS w6 (fun k => k < W.heap.size ∨ k = w5.heap.size) w5.heap.size low high b ∧ Below W.heap.size W w6 := by
    rintro w6 rfl
    have hb6 : Below w5.heap.size w5 (w5.alloc (.cells #[.slice A4 low.length c4, .slice A5 high.length c5, .bool b] 60)) := below_alloc (Below.refl _ _) _
    refine ⟨HB5.out.size, ⟨A4, c4, A5, c5, Blk.new w5 _ _, HC4.out, HC5.out, Lasts.below (HL4'.out.wide (fun k hk h => ?_)) hb6, Lasts.below (HL5.out.wide (fun k hk h => ?_)) hb6⟩, HB5.out.trans (hb6.mono HB5.out.size)⟩ <;> (rcases h with h | h; exact h; omega)
  have HFIN := Aside0.mk hfin
  clear hfin
  go_wp2
  go_ret2
  exact ⟨_, rfl, HFIN.out _ rfl⟩
set_option maxHeartbeats 8000000 in
set_option maxRecDepth 100000 in
theorem begin_no (k : Nat) (A0 : Option Addr) (c0 : Nat) (low : List SE) (A1 : Option Addr) (c1 : Nat) (high : List SE) (b r0 r1 : Bool) (W : World) (h0 : Kd.C k41 W A0 low.length low) (hc0 : low.length ≤ c0) (h1 : Kd.C k41 W A1 high.length high) (hc1 : high.length ≤ c1) (hr0 : layer_Right.f k low = some r0) (hr1 : layer_Right.f k high = some r1) (hr : ¬ (r0 = true ∧ r1 = true)) :
    Calls Tryz.prog 11 #[.slice A0 low.length c0, .slice A1 high.length c1, .bool b] W (ErrEnd W (fun v => .tuple #[.pointer none, v]) [16]) := by
  have H0 := Aside0.mk (fun W' (hW : Below W.heap.size W W') => layer_Right.calls k A0 c0 low r0 W' (Kd.C_below h0 hW) hc0 hr0)
  have H1 := Aside0.mk (fun W' (hW : Below W.heap.size W W') => layer_Right.calls k A1 c1 high r1 W' (Kd.C_below h1 hW) hc1 hr1)
  have HF := Aside0.mk (fail_At.calls ⟨#[98, 101, 103, 105, 110]⟩ ⟨#[]⟩ 16 [16])
  clear h0 h1 hc0 hc1 hr0 hr1
  cases r0 with
  | false =>
    clear hr
    go_enter Tryz.func11, Tryz.ntmps11
    go_wp2_with (go_at_call 10; refine hold ?_)
    unfold Hold
    refine (H0.out W (Below.refl _ _)).mono ?_
    rintro e w2 ⟨rfl, b2⟩
    have HB := Aside0.mk b2
    clear b2
    go_wp2_with (go_at_call 27; refine hold ?_)
    unfold Hold
    refine (HF.out w2 rfl).mono ?_
    rintro e w7 ⟨v7, rfl, o7, b7⟩
    have HE : Aside0 (ErrEnd W (fun v => .tuple #[.pointer none, v]) [16] (.returned (.tuple #[.pointer none, errV v7])) w7) := ⟨⟨v7, rfl, Kd.R_lower o7 HB.out.size, HB.out.trans (b7.mono HB.out.size)⟩⟩
    clear o7 b7
    go_wp2
    go_ret2
    exact HE.out
  | true =>
    obtain rfl : r1 = false := by
      cases r1
      · rfl
      · exact absurd ⟨rfl, rfl⟩ hr
    clear hr
    go_enter Tryz.func11, Tryz.ntmps11
    go_wp2_with (go_at_call 10; refine hold ?_)
    unfold Hold
    refine (H0.out W (Below.refl _ _)).mono ?_
    rintro e w2 ⟨rfl, b2⟩
    have HB2 := Aside0.mk b2
    clear b2
    go_wp2_with (go_at_call 10; refine hold ?_)
    unfold Hold
    refine (H1.out w2 HB2.out).mono ?_
    rintro e w3 ⟨rfl, b3⟩
    have HB := Aside0.mk (HB2.out.trans (b3.mono HB2.out.size))
    clear b3
    go_wp2_with (go_at_call 27; refine hold ?_)
    unfold Hold
    refine (HF.out w3 rfl).mono ?_
    rintro e w7 ⟨v7, rfl, o7, b7⟩
    have HE : Aside0 (ErrEnd W (fun v => .tuple #[.pointer none, v]) [16] (.returned (.tuple #[.pointer none, errV v7])) w7) := ⟨⟨v7, rfl, Kd.R_lower o7 HB.out.size, HB.out.trans (b7.mono HB.out.size)⟩⟩
    clear o7 b7
    go_wp2
    go_ret2
    exact HE.out
end Go.Proofs.YtjlflmjimibciaaGreatDoor.Print
end

section
namespace Go.Proofs.YtjlflmjimibciaaGreatDoor.Print
open Go Go.RowKit Go.Proofs.YtjlflmjimibciaaGreatDoorW.PrintWords Go.Proofs.YtjlflmjimibciaaGreatDoorW.PrintLast Go.Proofs.YtjlflmjimibciaaGreatDoorW.PrintMore
set_option linter.unusedVariables false
set_option linter.unusedSimpArgs false
theorem bt {a b c : World} (h : Below a.heap.size a b) (k : Below b.heap.size b c) : Below a.heap.size a c := h.trans (k.mono h.size)
theorem step_g {W : World} {g : Nat} {out high : List SE} {b : Bool} (n : Int) (m : Nat) (res : List SE) (hn : 1 ≤ n) (hm : min n (high.length : Int) = (m : Int)) (hml : high.length < 4611686018427387904) (h : MS W (fun k => k = g) g out high b) (hr : runF out (high.take m) = some res) :
    Calls Tryz.prog 14 #[.pointer (some ⟨g, 0, none⟩), .int .i64 n] W fun e w' => e = .returned (.tuple #[.int .i64 (m : Int), .nilIface]) ∧ MS w' (fun k => k = g) g res (high.drop m) b ∧ Kept W w' (fun k => k = g) ∧ Below g W w' :=
  step_ms (S := fun k => k = g) n m res hn hm hml (fun k hk => hk ▸ h.lt) rfl h hr
theorem code_nil (W : World) (hG : Gl W) : Calls Tryz.prog 15 #[.nilIface] W fun e w' => e = .returned (.int .i64 0) ∧ Below W.heap.size W w' := fail_Code.calls none 0 [] 0 W (Kd.C_nil _ _) (Nat.le_refl _) hG rfl
theorem code_R {W : World} {T base : Nat} {ok : Nat → Prop} {v : Value} {er : List Int} (h : Kd.R kdF T W base ok v er) (hG : Gl W) : Calls Tryz.prog 15 #[errV v] W fun e w' => e = .returned (.int .i64 (er.headD 0)) ∧ Below W.heap.size W w' := by
  obtain ⟨A, c, rfl⟩ := Kd.R_slice h
  obtain ⟨_, hl, hc⟩ := Kd.R_reads' h
  exact fail_Code.calls A c er (er.headD 0) W hc hl hG rfl
theorem ents_C (P0 P1 : ByteArray) (k0 k1 : Int) (D0 D1 : ByteArray) (W : World) : Kd.C k41 (W.alloc (.cells #[.string P0, .int .i64 k0, .string D0, .string P1, .int .i64 k1, .string D1] 41)) (some ⟨W.heap.size, 0, none⟩) 2 [⟨P0, k0, D0⟩, ⟨P1, k1, D1⟩] := by
  have h : Kd.R (kd3 (fun x : SE => x.f0) (fun x => x.f1) (fun x => x.f2)) 41 (W.alloc (.cells #[.string P0, .int .i64 k0, .string D0, .string P1, .int .i64 k1, .string D1] 41)) W.heap.size (fun _ => True) (.slice (some ⟨W.heap.size, 0, none⟩) 2 2) [⟨P0, k0, D0⟩, ⟨P1, k1, D1⟩] :=
    R_shut (flat3 _ _ _) (Nat.le_refl _) trivial (Blk.new W _ _) rfl (Nat.le_refl _) (by decide) rfl rfl
  exact (Kd.R_reads' h).2.2
set_option maxHeartbeats 8000000 in
set_option maxRecDepth 100000 in
theorem awake16 (W : World) (hG : Gl W) : Calls Tryz.prog 8 #[] W fun e w' => e = .returned (.bool true) ∧ Below W.heap.size W w' := by
  have HG := Aside0.mk (fun (V : World) (h : Below W.heap.size W V) => hG.below h)
  clear hG
  obtain ⟨w0, hw0⟩ : ∃ w0, w0 = W.alloc (.cells #[.string ⟨#[47, 97]⟩, .int .i64 1, .string ⟨#[]⟩, .string ⟨#[47, 98]⟩, .int .i64 1, .string ⟨#[]⟩] 41) := ⟨_, rfl⟩
  have Z0 : Aside0 (Below W.heap.size W w0) := ⟨by rw [hw0]; exact below_alloc (Below.refl _ _) _⟩
  have hC : Kd.C k41 w0 (some ⟨W.heap.size, 0, none⟩) 2 [⟨⟨#[47, 97]⟩, 1, ⟨#[]⟩⟩, ⟨⟨#[47, 98]⟩, 1, ⟨#[]⟩⟩] := by rw [hw0]; exact ents_C _ _ _ _ _ _ W
  have HBG : Aside0 (Calls Tryz.prog 11 #[.slice none 0 0, .slice (some ⟨W.heap.size, 0, none⟩) 2 2, .bool false] w0 _) := ⟨begin_ms 60 none 0 [] (some ⟨W.heap.size, 0, none⟩) 2 [⟨⟨#[47, 97]⟩, 1, ⟨#[]⟩⟩, ⟨⟨#[47, 98]⟩, 1, ⟨#[]⟩⟩] false w0 (Kd.C_nil _ _) (Nat.le_refl _) hC (Nat.le_refl _) (by decide) (by decide) (by kernel_rfl) (by kernel_rfl)⟩
  clear hC
  go_enter Tryz.func8, Tryz.ntmps8
  rw [hw0] at HBG
  go_wp2_with (first | (go_at_call 11; refine hold ?_))
  unfold Hold
  refine HBG.out.mono ?_
  rw [← hw0]
  rintro e w1 ⟨g, rfl, hg, ms, b1⟩
  clear HBG hw0
  have B1 := Aside0.mk b1
  have Z1 := Aside0.mk (bt Z0.out b1)
  have M1 := Aside0.mk (ms.wide (S' := fun k => k = g) (fun k _ h => .inr h))
  have GW := Aside0.mk (Nat.le_trans Z0.out.size hg)
  clear b1 ms hg
  go_wp2_with (first | (go_at_call 14; refine hold ?_))
  unfold Hold
  refine (step_g (high := [⟨⟨#[47, 97]⟩, 1, ⟨#[]⟩⟩, ⟨⟨#[47, 98]⟩, 1, ⟨#[]⟩⟩]) 1 1 [⟨⟨#[47, 97]⟩, 1, ⟨#[]⟩⟩] (by decide) rfl (by decide) M1.out (by kernel_rfl)).mono ?_
  rintro e w2 ⟨rfl, ms, k2, q2⟩
  have M2 := Aside0.mk ms
  have Z2 := Aside0.mk (Z1.out.trans (q2.mono GW.out))
  clear ms k2 q2 M1
  go_wp2_with (first | (go_at_call 14; refine hold ?_))
  unfold Hold
  refine (step_g (high := [⟨⟨#[47, 98]⟩, 1, ⟨#[]⟩⟩]) 5 1 [⟨⟨#[47, 97]⟩, 1, ⟨#[]⟩⟩, ⟨⟨#[47, 98]⟩, 1, ⟨#[]⟩⟩] (by decide) rfl (by decide) M2.out (by kernel_rfl)).mono ?_
  rintro e w3 ⟨rfl, ms, k3, q3⟩
  have M3 := Aside0.mk ms
  have Z3 := Aside0.mk (Z2.out.trans (q3.mono GW.out))
  clear ms k3 q3 M2
  go_wp2_with (first | (go_at_call 15; refine hold ?_))
  unfold Hold
  refine (code_nil w3 (HG.out _ Z3.out)).mono ?_
  rintro e w4 ⟨rfl, b4⟩
  have B4 := Aside0.mk b4
  have Z4 := Aside0.mk (bt Z3.out b4)
  clear b4
  go_wp2_with (first | (go_at_call 15; refine hold ?_))
  unfold Hold
  refine (code_nil w4 (HG.out _ Z4.out)).mono ?_
  rintro e w5 ⟨rfl, b5⟩
  have B5 := Aside0.mk b5
  have Z5 := Aside0.mk (bt Z4.out b5)
  clear b5
  go_wp2_with (first | (go_at_call 15; refine hold ?_))
  unfold Hold
  refine (code_nil w5 (HG.out _ Z5.out)).mono ?_
  rintro e w6 ⟨rfl, b6⟩
  have B6 := Aside0.mk b6
  have Z6 := Aside0.mk (bt Z5.out b6)
  clear b6
  go_wp2_with (first | (go_at_call 12; refine hold ?_))
  unfold Hold
  refine (ready_ms (M3.out.below (bt B4.out (bt B5.out B6.out))) true rfl).mono ?_
  rintro e w7 ⟨rfl, b7⟩
  have B7 := Aside0.mk b7
  have Z7 := Aside0.mk (bt Z6.out b7)
  clear b7
  go_wp2
  go_ret
  exact ⟨rfl, Z7.out⟩
end Go.Proofs.YtjlflmjimibciaaGreatDoor.Print
end

section
namespace Go.Proofs.YtjlflmjimibciaaGreatDoor.Print
open Go Go.RowKit Go.Proofs.YtjlflmjimibciaaGreatDoorW.PrintWords Go.Proofs.YtjlflmjimibciaaGreatDoorW.PrintLast Go.Proofs.YtjlflmjimibciaaGreatDoorW.PrintMore Go.Proofs.YtjlflmjimibciaaGreatDoor.Th
set_option linter.unusedVariables false
set_option linter.unusedSimpArgs false
open Classical
theorem drawn_below {w w' : World} (h : Drawn0 w w') : Below w.heap.size w w' := by
  obtain ⟨n, rfl⟩ := h
  exact pw_below_drewN (Below.refl _ _) n
theorem size_yes {W V : World} {A : Option Addr} {c : Nat} {l : List SE} (hf : Fit l) (hC : Kd.C k41 W A l.length l) (hc : l.length ≤ c) (hV : Below W.heap.size W V) : Calls Tryz.prog 9 #[.slice A l.length c] V fun e w' => e = .returned (.int .i64 1) ∧ Below V.heap.size V w' :=
  (shalelaw09_Size.calls 100 A c l 1 V (Kd.C_below hC hV) hc (by rw [size_eq l 100 (by omega), if_pos hf])).mono fun e w' h => ⟨h.1, drawn_below h.2⟩
theorem size_no {W V : World} {A : Option Addr} {c : Nat} {l : List SE} (hf : ¬ Fit l) (hC : Kd.C k41 W A l.length l) (hc : l.length ≤ c) (hV : Below W.heap.size W V) : Calls Tryz.prog 9 #[.slice A l.length c] V fun e w' => e = .returned (.int .i64 0) ∧ Below V.heap.size V w' :=
  (shalelaw09_Size.calls 100 A c l 0 V (Kd.C_below hC hV) hc (by rw [size_eq l 100 (by omega), if_neg hf])).mono fun e w' h => ⟨h.1, drawn_below h.2⟩
theorem begin_yes {W V : World} {A0 A1 : Option Addr} {c0 c1 : Nat} {low high : List SE} (b : Bool) (h0 : LR low) (h1 : LR high) (hC0 : Kd.C k41 W A0 low.length low) (hc0 : low.length ≤ c0) (hC1 : Kd.C k41 W A1 high.length high) (hc1 : high.length ≤ c1) (hV : Below W.heap.size W V) :
    Calls Tryz.prog 11 #[.slice A0 low.length c0, .slice A1 high.length c1, .bool b] V fun e w' => ∃ g, e = .returned (.tuple #[.pointer (some ⟨g, 0, none⟩), .nilIface]) ∧ V.heap.size ≤ g ∧ MS w' (fun k => k < V.heap.size ∨ k = g) g low high b ∧ Below V.heap.size V w' :=
  begin_ms 300 A0 c0 low A1 c1 high b V (Kd.C_below hC0 hV) hc0 (Kd.C_below hC1 hV) hc1 (by have := h0.2; omega) (by have := h1.2; omega) (by rw [lr_eq low h0.1.b 300 (by omega), decide_eq_true h0]) (by rw [lr_eq high h1.1.b 300 (by omega), decide_eq_true h1])
theorem begin_bad {W V : World} {A0 A1 : Option Addr} {c0 c1 : Nat} {low high : List SE} (b : Bool) (f0 : Fit low) (f1 : Fit high) (h : ¬ (LR low ∧ LR high)) (hC0 : Kd.C k41 W A0 low.length low) (hc0 : low.length ≤ c0) (hC1 : Kd.C k41 W A1 high.length high) (hc1 : high.length ≤ c1) (hV : Below W.heap.size W V) :
    Calls Tryz.prog 11 #[.slice A0 low.length c0, .slice A1 high.length c1, .bool b] V (ErrEnd V (fun v => .tuple #[.pointer none, v]) [16]) :=
  begin_no 300 A0 c0 low A1 c1 high b (decide (LR low)) (decide (LR high)) V (Kd.C_below hC0 hV) hc0 (Kd.C_below hC1 hV) hc1 (lr_eq low f0.b 300 (by omega)) (lr_eq high f1.b 300 (by omega)) (fun k => h ⟨of_decide_eq_true k.1, of_decide_eq_true k.2⟩)
theorem same_c {V : World} {A0 A1 : Option Addr} {c0 c1 : Nat} {a b : List SE} (hl : a.length ≤ 2000) (he : a = b) (hC0 : Kd.C k41 V A0 a.length a) (hc0 : a.length ≤ c0) (hC1 : Kd.C k41 V A1 b.length b) (hc1 : b.length ≤ c1) : Calls Tryz.prog 17 #[.slice A0 a.length c0, .slice A1 b.length c1] V fun e w' => e = .returned (.int .i64 1) ∧ Below V.heap.size V w' :=
  (shalelaw09_Same.calls 3000 A0 c0 a A1 c1 b 1 V hC0 hc0 hC1 hc1 (by rw [same_eq a b 3000 hl (by omega), if_pos he])).mono fun e w' h => ⟨h.1, drawn_below h.2⟩
theorem same_R {V : World} {T0 T1 b0 b1 : Nat} {o0 o1 : Nat → Prop} {v0 v1 : Value} {a b : List SE} (hl : a.length ≤ 2000) (he : a = b) (h0 : Kd.R k41 T0 V b0 o0 v0 a) (h1 : Kd.R k41 T1 V b1 o1 v1 b) : Calls Tryz.prog 17 #[v0, v1] V fun e w' => e = .returned (.int .i64 1) ∧ Below V.heap.size V w' := by
  obtain ⟨A0, c0, rfl⟩ := Kd.R_slice h0
  obtain ⟨A1, c1, rfl⟩ := Kd.R_slice h1
  obtain ⟨_, l0, k0⟩ := Kd.R_reads' h0
  obtain ⟨_, l1, k1⟩ := Kd.R_reads' h1
  exact same_c hl he k0 l0 k1 l1
theorem LR.pre {l : List SE} (h : LR l) (n : Nat) : LR (l.take n) := ⟨Lyr.pre (r := l.drop n) (by rw [List.take_append_drop]; exact h.1), by rw [List.length_take]; have := h.2; omega⟩
theorem run_two {low high : List SE} (h0 : LR low) (h1 : LR high) : ∀ n i, i + n = high.length → runF (twoL low (high.take i)) (high.drop i) = some (twoL low high) := by
  have h64 := h1.2
  have l64 := h0.2
  intro n
  induction n with
  | zero =>
    intro i hi
    rw [List.drop_of_length_le (by omega), List.take_of_length_le (by omega)]
    rfl
  | succ n ih =>
    intro i hi
    have hil : i < high.length := by omega
    have hpre := (LR.pre h1 i).1
    have hL := twoL_lyr h0.1 hpre
    have hlen := twoL_len low (high.take i)
    rw [List.length_take] at hlen
    rw [List.drop_eq_getElem_cons hil, runF, mone_eq hL.srt (fun x hx => (hL.rt x hx).1) high[i] (h1.1.rt _ (List.getElem_mem hil)).1 (by omega), Option.bind_some, ← twoL_snoc, ← List.take_succ_eq_append_getElem hil]
    exact ih (i + 1) (by omega)
theorem run_all {low high : List SE} (h0 : LR low) (h1 : LR high) : runF low high = some (twoL low high) := by
  have := run_two h0 h1 high.length 0 (by omega)
  rwa [List.take_zero, List.drop_zero] at this
/-- What Layer answers when nothing is left. -/
def finL (out : List SE) (b : Bool) : List SE := if b = true then botL out else out
theorem layer_any (out : List SE) (b : Bool) (hl : out.length ≤ 1000) : ∃ (rr : List SE) (er : List Int), rr.length ≤ 64 ∧ ((finL out b).length ≤ 64 ∧ rr = finL out b ∧ er = [] ∨ 64 < (finL out b).length ∧ rr = [] ∧ er = [9]) ∧ ∀ V S g, MS V S g out [] b → Calls Tryz.prog 16 #[.pointer (some ⟨g, 0, none⟩)] V (LayEnd V rr er) := by
  have hb : if b = true then merge_Bottom.f out = some (finL out b) else finL out b = out := by
    unfold finL
    cases b with
    | true => rw [if_pos rfl, if_pos rfl]; exact mbot_eq out (by omega)
    | false => rw [if_neg Bool.false_ne_true, if_neg Bool.false_ne_true]
  by_cases h : (finL out b).length ≤ 64
  · exact ⟨finL out b, [], h, .inl ⟨h, rfl, rfl⟩, fun V S g hm => layer_fit hm hl _ hb h⟩
  · exact ⟨[], [9], by decide, .inr ⟨by omega, rfl, rfl⟩, fun V S g hm => layer_big hm hl _ hb (by omega)⟩
theorem two_len {low high : List SE} (h0 : LR low) (h1 : LR high) (m : Nat) : (twoL low (high.take m)).length ≤ 128 := by
  have h2 := twoL_len low (high.take m)
  rw [List.length_take] at h2
  have h3 := h0.2
  have h4 := h1.2
  omega
end Go.Proofs.YtjlflmjimibciaaGreatDoor.Print
end

section
namespace Go.Proofs.YtjlflmjimibciaaGreatDoor.Print
open Go Go.RowKit Go.Proofs.YtjlflmjimibciaaGreatDoorW.PrintWords Go.Proofs.YtjlflmjimibciaaGreatDoorW.PrintLast Go.Proofs.YtjlflmjimibciaaGreatDoorW.PrintMore Go.Proofs.YtjlflmjimibciaaGreatDoor.Th
set_option linter.unusedVariables false
set_option linter.unusedSimpArgs false
open Classical
/-- A row of one's own is one block, where it has an element. -/
def RowBlk (W : World) (lo hi : Nat) (A : Option Addr) (c n : Nat) : Prop := 0 < n → n ≤ c ∧ ∃ (g : Nat) (cur : List Value), A = some ⟨g, 0, none⟩ ∧ lo ≤ g ∧ g < hi ∧ Blk W g 41 cur ∧ cur.length = c * 3
theorem RowBlk.kept {W W1 : World} {S : Nat → Prop} {lo hi : Nat} {A : Option Addr} {c n : Nat} (h : RowBlk W lo hi A c n) (hk : Kept W W1 S) (hS : ∀ k, lo ≤ k → k < hi → ¬ S k) : RowBlk W1 lo hi A c n := by
  intro hn
  obtain ⟨h1, g, cur, h2, h3, h4, h5, h6⟩ := h hn
  exact ⟨h1, g, cur, h2, h3, h4, blk_kept h5 hk (hS g h3 h4), h6⟩
theorem RowBlk.below {W W1 : World} {lo hi : Nat} {A : Option Addr} {c n : Nat} (h : RowBlk W lo hi A c n) (hb : Below W.heap.size W W1) : RowBlk W1 lo hi A c n := h.kept (Kept.of_below hb (fun _ => False)) (fun _ _ _ h => h)
end Go.Proofs.YtjlflmjimibciaaGreatDoor.Print
end

section
namespace Go.Proofs.YtjlflmjimibciaaGreatDoor.Print
open Go Go.RowKit Go.Proofs.YtjlflmjimibciaaGreatDoorW.PrintWords Go.Proofs.YtjlflmjimibciaaGreatDoorW.PrintLast Go.Proofs.YtjlflmjimibciaaGreatDoorW.PrintMore Go.Proofs.YtjlflmjimibciaaGreatDoor.Th
set_option linter.unusedVariables false
set_option linter.unusedSimpArgs false
open Classical
/-- A value of one cell, as it stands. -/
abbrev RV := { v : Value // v.oneCell' = true }
def kdV : Kd RV := Kd.scalar (fun v => v.1) (fun v => v.2)
theorem infoV : (Tryz.prog.info? 22).map (fun i => (i.zero, i.size, i.bytes)) = some (some (.slice none 0 0), 1, 24) := by kernel_rfl
/-- The value is a slice that leads to xs. -/
def Leads (w : World) (v : RV) (xs : List SE) : Prop := ∃ A c, v.1 = .slice A xs.length c ∧ xs.length ≤ c ∧ Kd.C k41 w A xs.length xs
theorem Leads.below {w W : World} {v : RV} {xs : List SE} (h : Leads w v xs) (hb : Below w.heap.size w W) : Leads W v xs := by
  obtain ⟨A, c, h1, h2, h3⟩ := h
  exact ⟨A, c, h1, h2, Kd.C_below h3 hb⟩
def AllLead (w : World) (vs : List RV) (l : List (List SE)) : Prop := vs.length = l.length ∧ ∀ (i : Nat) (v : RV) (x : List SE), vs[i]? = some v → l[i]? = some x → Leads w v x
theorem AllLead.below {w W : World} {vs : List RV} {l : List (List SE)} (h : AllLead w vs l) (hb : Below w.heap.size w W) : AllLead W vs l := ⟨h.1, fun i v x h1 h2 => (h.2 i v x h1 h2).below hb⟩
theorem AllLead.append {w : World} {vs us : List RV} {l m : List (List SE)} (h : AllLead w vs l) (k : AllLead w us m) : AllLead w (vs ++ us) (l ++ m) := by
  refine ⟨by rw [List.length_append, List.length_append, h.1, k.1], fun i v x h1 h2 => ?_⟩
  by_cases hi : i < vs.length
  · rw [List.getElem?_append_left hi] at h1
    rw [List.getElem?_append_left (by rw [← h.1]; exact hi)] at h2
    exact h.2 i v x h1 h2
  · rw [List.getElem?_append_right (by omega)] at h1
    rw [List.getElem?_append_right (by rw [← h.1]; omega), ← h.1] at h2
    exact k.2 _ v x h1 h2
theorem AllLead.one {w : World} {v : RV} {x : List SE} (h : Leads w v x) : AllLead w [v] [x] := ⟨rfl, fun i u y h1 h2 => by
  cases i with
  | zero => simp at h1 h2; subst h1; subst h2; exact h
  | succ i => simp at h1⟩
theorem choose_raw {α : Type} (p : Nat → α → Prop) : ∀ n, (∀ i, i < n → ∃ a, p i a) → ∃ l : List α, l.length = n ∧ ∀ i a, l[i]? = some a → p i a
  | 0, _ => ⟨[], rfl, fun i a h => by simp at h⟩
  | n + 1, h => by
    obtain ⟨l, hl, hp⟩ := choose_raw p n (fun i hi => h i (by omega))
    obtain ⟨a, ha⟩ := h n (by omega)
    refine ⟨l ++ [a], by simp [hl], fun i b hb => ?_⟩
    by_cases hi : i < n
    · rw [List.getElem?_append_left (by omega)] at hb; exact hp i b hb
    · have hi2 : i = n := by
        have := (List.getElem?_eq_some_iff.1 hb).1
        simp at this; omega
      subst hi2
      rw [List.getElem?_append_right (by omega), hl] at hb
      simp at hb; subst hb; exact ha
theorem raw_of {w : World} {A : Option Addr} {l : List (List SE)} (h : Kd.C (Kd.slice 41 k41) w A l.length l) : ∃ vs : List RV, AllLead w vs l ∧ Kd.C kdV w A vs.length vs := by
  by_cases hn : 0 < l.length
  · obtain ⟨ad, rfl, hc⟩ := h.2.2 hn
    obtain ⟨vs, hl, hp⟩ := choose_raw (fun i (v : RV) => ∃ x, l[i]? = some x ∧ Leads w v x ∧ w.cell? (ad.add i) = some v.1) l.length (fun i hi => by
      obtain ⟨c, _, ⟨B, cc, rfl, h2, h3⟩, h4⟩ := hc i l[i] (List.getElem?_eq_getElem hi)
      have h5 := h4 0 _ rfl
      rw [show (Kd.slice 41 k41).sz = 1 from rfl, Nat.mul_one, Nat.add_zero] at h5
      exact ⟨⟨.slice B l[i].length cc, rfl⟩, l[i], List.getElem?_eq_getElem hi, ⟨B, cc, rfl, h2, h3⟩, h5⟩)
    refine ⟨vs, ⟨hl, fun i v x h1 h2 => ?_⟩, ⟨rfl, by rw [hl]; exact h.2.1, fun _ => ⟨ad, rfl, fun j p hj => ?_⟩⟩⟩
    · obtain ⟨y, hy, hL, _⟩ := hp i v h1
      rw [h2] at hy
      obtain rfl := Option.some.inj hy
      exact hL
    · obtain ⟨y, hy, _, hcell⟩ := hp j p hj
      refine ⟨[p.1], rfl, rfl, fun i u hu => ?_⟩
      cases i with
      | zero =>
        have : p.1 = u := by simpa using hu
        subst this
        rw [show kdV.sz = 1 from rfl, Nat.mul_one, Nat.add_zero]
        exact hcell
      | succ i => simp at hu
  · have h0 : l = [] := List.eq_nil_of_length_eq_zero (by omega)
    subst h0
    exact ⟨[], ⟨rfl, fun i v x h1 _ => by simp at h1⟩, ⟨rfl, by decide, fun h => absurd h (by decide)⟩⟩
theorem of_raw {w : World} {A : Option Addr} {vs : List RV} {l : List (List SE)} (h : Kd.C kdV w A vs.length vs) (hL : AllLead w vs l) : Kd.C (Kd.slice 41 k41) w A l.length l := by
  refine ⟨rfl, by rw [← hL.1]; exact h.2.1, fun hn => ?_⟩
  obtain ⟨ad, hA, hc⟩ := h.2.2 (by rw [hL.1]; exact hn)
  refine ⟨ad, hA, fun j x hj => ?_⟩
  have hjl : j < vs.length := by rw [hL.1]; exact (List.getElem?_eq_some_iff.1 hj).1
  obtain ⟨c, _, hK, hcell⟩ := hc j vs[j] (List.getElem?_eq_getElem hjl)
  obtain ⟨B, cc, h1, h2, h3⟩ := hL.2 j vs[j] x (List.getElem?_eq_getElem hjl) hj
  have hK' : c = [vs[j].1] := hK
  subst hK'
  exact ⟨_, rfl, ⟨B, cc, by rw [h1], h2, h3⟩, hcell⟩
theorem lit_raw (w : World) (vs : List RV) (hn : vs.length ≤ 9223372036854775807) (T : TypeId) : Kd.C kdV (w.alloc (.cells (vs.map fun v => v.1).toArray T)) (some ⟨w.heap.size, 0, none⟩) vs.length vs := by
  refine ⟨rfl, hn, fun _ => ⟨_, rfl, fun j p hj => ⟨[p.1], rfl, rfl, fun i u hu => ?_⟩⟩⟩
  cases i with
  | zero =>
    have : p.1 = u := by simpa using hu
    subst this
    have hb : Blk (w.alloc (.cells (vs.map fun v => v.1).toArray T)) w.heap.size T (vs.map fun v => v.1) := Blk.new w _ _
    have h2 := hb.cell (j := j) (u := p.1) (by rw [List.getElem?_map, hj]; rfl)
    rw [show kdV.sz = 1 from rfl, Nat.mul_one, Nat.add_zero]
    have e : (⟨w.heap.size, 0, none⟩ : Addr).add j = ⟨w.heap.size, j, none⟩ := by simp only [Addr.add]; split <;> simp_all
    rw [e]
    exact h2
  | succ i => simp at hu
theorem stack_same (l0 : List (List SE)) {low high : List SE} (h1 : LR low) (h2 : LR high) (hn : l0.length ≤ 6) (b : Bool) (hb : b = decide ((l0.length : Int) = 0)) (h64 : (finL (twoL low high) b).length ≤ 64) : stX (l0 ++ [low, high]) = stX (l0 ++ [finL (twoL low high) b]) := by
  have hone : LR (finL (twoL low high) b) := twO_lr h1 h2 b h64
  have hsh : shows (l0 ++ [low, high]) = shows (l0 ++ [finL (twoL low high) b]) := by
    have h := shows_two h1.1 h2.1 l0 []
    rw [List.append_nil, List.append_nil] at h
    rw [h]
    cases l0 with
    | nil =>
      have : b = true := by rw [hb]; rfl
      subst this
      have := (shows_bot (twoL_lyr h1.1 h2.1) []).symm
      simpa [finL] using this
    | cons x r =>
      have : b = false := by rw [hb]; exact decide_eq_false (by simp only [List.length_cons]; omega)
      subst this; rfl
  have key : SR (l0 ++ [low, high]) ↔ SR (l0 ++ [finL (twoL low high) b]) := by
    unfold SR
    constructor
    · rintro ⟨_, q⟩
      refine ⟨by simp; omega, fun l hl => ?_⟩
      rcases List.mem_append.1 hl with hl | hl
      · exact q l (by simp [hl])
      · rw [List.mem_singleton.1 hl]; exact hone
    · rintro ⟨_, q⟩
      refine ⟨by simp; omega, fun l hl => ?_⟩
      rcases List.mem_append.1 hl with hl | hl
      · exact q l (by simp [hl])
      · rcases List.mem_cons.1 hl with rfl | hl
        · exact h1
        · rw [List.mem_singleton.1 hl]; exact h2
  unfold stX
  by_cases hS : SR (l0 ++ [low, high])
  · have hS2 := key.1 hS
    rw [if_pos hS, if_pos hS2]
    exact Srt.ext (stkL_srt fun l hl => (hS.2 l hl).1) (stkL_srt fun l hl => (hS2.2 l hl).1) (fun p => by
      rw [fnd_stkL (fun l hl => (hS.2 l hl).1.srt), fnd_stkL (fun l hl => (hS2.2 l hl).1.srt), hsh])
  · rw [if_neg hS, if_neg (fun k => hS (key.2 k))]
theorem few_yes {W V : World} {A : Option Addr} {c : Nat} {l : List (List SE)} (hf : FitS l) (hC : Kd.C (Kd.slice 41 k41) W A l.length l) (hc : l.length ≤ c) (hV : Below W.heap.size W V) : Calls Tryz.prog 20 #[.slice A l.length c] V fun e w' => e = .returned (.int .i64 1) ∧ Below V.heap.size V w' :=
  (shalelaw10_Few.calls 200 A c l 1 V (Kd.C_below hC hV) hc (by rw [few_eq l 200 (by omega), if_pos hf])).mono fun e w' h => ⟨h.1, drawn_below h.2⟩
theorem few_no {W V : World} {A : Option Addr} {c : Nat} {l : List (List SE)} (hf : ¬ FitS l) (hC : Kd.C (Kd.slice 41 k41) W A l.length l) (hc : l.length ≤ c) (hV : Below W.heap.size W V) : Calls Tryz.prog 20 #[.slice A l.length c] V fun e w' => e = .returned (.int .i64 0) ∧ Below V.heap.size V w' :=
  (shalelaw10_Few.calls 200 A c l 0 V (Kd.C_below hC hV) hc (by rw [few_eq l 200 (by omega), if_neg hf])).mono fun e w' h => ⟨h.1, drawn_below h.2⟩
theorem stack_c {W : World} {T base : Nat} {ok : Nat → Prop} {v : Value} {vs : List RV} {l : List (List SE)} (h : Kd.R kdV T W base ok v vs) (hL : AllLead W vs l) (hb : ∀ x ∈ l, ∀ e ∈ x, e.f0.size ≤ 9223372036854775807) : Calls Tryz.prog 21 #[v] W fun e w' => ∃ v0 : Value, e = .returned v0 ∧ Kd.R k41 41 w' W.heap.size (fun _ => True) v0 (stX l) ∧ Below W.heap.size W w' := by
  obtain ⟨A, c, rfl⟩ := Kd.R_slice h
  obtain ⟨_, hl, hc⟩ := Kd.R_reads' h
  have hC := of_raw hc hL
  have hk := fold_Stack.calls 600 A c l (stX l) W hC (by rw [← hL.1]; exact hl) (stack_eq l hb 600 (by omega))
  rw [← hL.1] at hk
  exact hk
end Go.Proofs.YtjlflmjimibciaaGreatDoor.Print
end
