/- layer.at: slices.BinarySearchFunc at entries, by their paths: the walk. The search is told as Go's own steps (no order of the list is asked). -/
import Derived.Test.YthfbcclbappbcaaGreatDoorSplitP
import Derived.Defers
import Derived.WalkLawsBesides
import Derived.StillTailTactics
import Derived.BigQuiet
import Derived.Laws.BitsLemmas
import Derived.Deep.LoopGhost
section
namespace Go.Proofs.YthfbcclbappbcaaGreatDoor.Print
open Go Go.RowKit Go.Proofs.YthfbcclbappbcaaGreatDoorW.PrintWords Go.Proofs.YthfbcclbappbcaaGreatDoorW.PrintLast Go.Proofs.YthfbcclbappbcaaGreatDoorW.PrintMore
set_option linter.unusedVariables false
set_option linter.unusedSimpArgs false
/-- Go's search: F the paths, from lo to hi. -/
def bsF (F : Nat → ByteArray) (p : ByteArray) : Nat → Nat → Nat → Nat
  | 0, lo, _ => lo
  | n + 1, lo, hi => if lo < hi then (if Lib.compareBytes (F ((lo + hi) / 2)).data.toList p.data.toList < 0 then bsF F p n ((lo + hi) / 2 + 1) hi else bsF F p n lo ((lo + hi) / 2)) else lo
theorem bsF_fuel (F : Nat → ByteArray) (p : ByteArray) : ∀ (n m lo hi : Nat), hi - lo ≤ n → hi - lo ≤ m → bsF F p n lo hi = bsF F p m lo hi
  | 0, 0, _, _, _, _ => rfl
  | 0, m + 1, lo, hi, h, _ => by rw [bsF, bsF, if_neg (by omega)]
  | n + 1, 0, lo, hi, _, h => by rw [bsF, bsF, if_neg (by omega)]
  | n + 1, m + 1, lo, hi, h1, h2 => by
    rw [bsF, bsF]
    by_cases hl : lo < hi
    · rw [if_pos hl, if_pos hl, bsF_fuel F p n m ((lo + hi) / 2 + 1) hi (by omega) (by omega), bsF_fuel F p n m lo ((lo + hi) / 2) (by omega) (by omega)]
    · rw [if_neg hl, if_neg hl]
theorem bsF_stop (F : Nat → ByteArray) (p : ByteArray) (n lo hi : Nat) (h : ¬ lo < hi) : bsF F p n lo hi = lo := by
  cases n with
  | zero => rfl
  | succ n => rw [bsF, if_neg h]
theorem bsF_step (F : Nat → ByteArray) (p : ByteArray) (lo hi : Nat) (h : lo < hi) : bsF F p (hi - lo) lo hi = if Lib.compareBytes (F ((lo + hi) / 2)).data.toList p.data.toList < 0 then bsF F p (hi - ((lo + hi) / 2 + 1)) ((lo + hi) / 2 + 1) hi else bsF F p ((lo + hi) / 2 - lo) lo ((lo + hi) / 2) := by
  obtain ⟨j, hj⟩ : ∃ j, hi - lo = j + 1 := ⟨hi - lo - 1, by omega⟩
  rw [hj, bsF, if_pos h, bsF_fuel F p j (hi - ((lo + hi) / 2 + 1)) ((lo + hi) / 2 + 1) hi (by omega) (by omega), bsF_fuel F p j ((lo + hi) / 2 - lo) lo ((lo + hi) / 2) (by omega) (by omega)]
set_option maxHeartbeats 4000000 in
set_option maxRecDepth 100000 in
theorem at1_any (a : ByteArray) (k : Int) (d p : ByteArray) (w : World) :
    Calls Tryz.prog 52 #[.agg #[.string a, .int .i64 k, .string d], .string p] w fun e w' => e = .returned (.int .i64 (Lib.compareBytes a.data.toList p.data.toList)) ∧ Below w.heap.size w w' := by
  have hb : Below w.heap.size w (w.alloc (.cells #[.string a, .int .i64 k, .string d] 26)) := (Below.refl _ _).alloc (Nat.le_refl _) _
  have HB := Aside0.mk hb
  clear hb
  have HC := Any.strings_Compare Tryz.lays106 a p
  go_enter Tryz.func52, Tryz.ntmps52
  go_wp2_with (first | (go_at_call 53; refine (HC _).mono ?_; rintro e w' ⟨rfl, rfl⟩))
  go_ret
  exact ⟨rfl, HB.out⟩
structure RowAt (w : World) (ad : Addr) (n : Nat) (F : Nat → ByteArray) (K : Nat → Int) (D : Nat → ByteArray) : Prop where
  here : ad.block < w.heap.size
  c0 : ∀ i, i < n → w.cell? (ad.add (i * 3)) = some (.string (F i))
  c1 : ∀ i, i < n → w.cell? ⟨(ad.add (i * 3)).block, (ad.add (i * 3)).off + 1, none⟩ = some (.int .i64 (K i))
  c2 : ∀ i, i < n → w.cell? ⟨(ad.add (i * 3)).block, (ad.add (i * 3)).off + 2, none⟩ = some (.string (D i))
theorem add_block (ad : Addr) (m : Nat) : (ad.add m).block = ad.block := by unfold Addr.add; split <;> rfl
theorem RowAt.below {w W : World} {ad : Addr} {n : Nat} {F : Nat → ByteArray} {K : Nat → Int} {D : Nat → ByteArray} (h : RowAt w ad n F K D) (hb : Below w.heap.size w W) : RowAt W ad n F K D :=
  ⟨Nat.lt_of_lt_of_le h.here hb.size, fun i hi => (hb.cell (p := ad.add (i * 3)) (by rw [add_block]; exact h.here)).trans (h.c0 i hi), fun i hi => (hb.cell (p := ⟨(ad.add (i * 3)).block, _, none⟩) (by show (ad.add (i * 3)).block < _; rw [add_block]; exact h.here)).trans (h.c1 i hi), fun i hi => (hb.cell (p := ⟨(ad.add (i * 3)).block, _, none⟩) (by show (ad.add (i * 3)).block < _; rw [add_block]; exact h.here)).trans (h.c2 i hi)⟩
set_option maxHeartbeats 8000000 in
set_option maxRecDepth 100000 in
theorem search_any (ad : Addr) (n c : Nat) (F : Nat → ByteArray) (K : Nat → Int) (D : Nat → ByteArray) (p : ByteArray) (w : World) (hn : n < 4611686018427387904) (hR : RowAt w ad n F K D) :
    Calls Tryz.prog 51 #[.slice (some ad) n c, .string p, .func (.func 52) #[] #[]] w fun e w' =>
      e = .returned (.tuple #[.int .i64 (bsF F p n 0 n : Nat), .bool (decide (bsF F p n 0 n < n) && decide (Lib.compareBytes (F (bsF F p n 0 n)).data.toList p.data.toList = 0))]) ∧ Below w.heap.size w w' := by
  have ef : ∀ args w, (callFunc 52 args).run Tryz.prog w = .ok (.enter 52 args) w := fun _ _ => by kernel_rfl
  have HR := Aside0.mk hR
  have HB := Aside0.mk (Below.refl w.heap.size w)
  have HN := Aside0.mk hn
  clear hR
  generalize hres : bsF F p n 0 n = res
  have RES := Aside0.mk hres
  clear hres
  go_enter Tryz.func51, Tryz.ntmps51
  go_wp2
  go_loopg [9, 10] n (fun kx s9 s10 wr => ∃ lo hi : Nat, s9 = .int .i64 lo ∧ s10 = .int .i64 hi ∧ lo ≤ hi ∧ hi ≤ n ∧ hi - lo ≤ kx ∧ Aside0 (Below w.heap.size w wr) ∧ Aside0 (bsF F p (hi - lo) lo hi = res))
  case atStart => exact ⟨0, n, rfl, rfl, Nat.zero_le _, Nat.le_refl _, by omega, HB, RES⟩
  case round =>
    obtain ⟨lo, hi, rfl, rfl, hlh, hin, hg, HB1, RES1⟩ := hrel
    have r1 := HR.out.below HB1.out
    by_cases hlt : lo < hi
    · have cc0 := r1.c0 ((lo + hi) / 2) (by omega)
      have cc1 := r1.c1 ((lo + hi) / 2) (by omega)
      have cc2 := r1.c2 ((lo + hi) / 2) (by omega)
      have R1 := Aside0.mk r1
      clear r1
      by_cases hyx : Lib.compareBytes (F ((lo + hi) / 2)).data.toList p.data.toList < 0
      · have hyb := decide_eq_true hyx
        go_wp2_with (go_at_call 52; refine (at1_any _ _ _ _ _).mono ?_; rintro e w' ⟨rfl, hb⟩)
        go_roundg (hi - ((lo + hi) / 2 + 1))
        case measure => omega
        case rel =>
          exact ⟨(lo + hi) / 2 + 1, hi, by first | rfl | rw [show ((lo : Int) + (hi : Int)) / 2 + 1 = (((lo + hi) / 2 + 1 : Nat) : Int) by omega], rfl, by omega, hin, Nat.le_refl _, ⟨HB1.out.trans (hb.mono HB1.out.size)⟩, ⟨by have := RES1.out; rw [bsF_step F p lo hi hlt, if_pos hyx] at this; exact this⟩⟩
      · have hyb := decide_eq_false hyx
        go_wp2_with (go_at_call 52; refine (at1_any _ _ _ _ _).mono ?_; rintro e w' ⟨rfl, hb⟩)
        go_roundg ((lo + hi) / 2 - lo)
        case measure => omega
        case rel =>
          exact ⟨lo, (lo + hi) / 2, rfl, by first | rfl | rw [show ((lo : Int) + (hi : Int)) / 2 = (((lo + hi) / 2 : Nat) : Int) by omega], by omega, by omega, Nat.le_refl _, ⟨HB1.out.trans (hb.mono HB1.out.size)⟩, ⟨by have := RES1.out; rw [bsF_step F p lo hi hlt, if_neg (Int.not_lt.2 (by first | exact hyx | omega))] at this; exact this⟩⟩
    · obtain rfl : hi = lo := by omega
      have hres : hi = res := by have := RES1.out; rw [bsF_stop F p _ hi hi hlt] at this; exact this
      subst hres
      by_cases hn2 : hi < n
      · have cc0 := r1.c0 hi hn2
        have cc1 := r1.c1 hi hn2
        have cc2 := r1.c2 hi hn2
        clear r1
        go_wp2_with (go_at_call 52; refine (at1_any _ _ _ _ _).mono ?_; rintro e w' ⟨rfl, hb⟩)
        go_ret2
        exact ⟨by simp [hn2]; rfl, HB1.out.trans (hb.mono HB1.out.size)⟩
      · clear r1
        go_wp2
        go_ret2
        exact ⟨by simp [hn2], HB1.out⟩
set_option maxHeartbeats 4000000 in
set_option maxRecDepth 100000 in
theorem search_zero (A : Option Addr) (c : Nat) (p : ByteArray) (v : Value) (w : World) :
    Calls Tryz.prog 51 #[.slice A 0 c, .string p, v] w fun e w' =>
      e = .returned (.tuple #[.int .i64 0, .bool false]) ∧ Below w.heap.size w w' := by
  have HB := Aside0.mk (Below.refl w.heap.size w)
  go_enter Tryz.func51, Tryz.ntmps51
  go_wp2
  refine wp_loop_rounds 1 ?_
  rw [rounds_succ]
  go_wp2
  go_ret2
  exact ⟨rfl, HB.out⟩
set_option maxHeartbeats 4000000 in
set_option maxRecDepth 100000 in
/-- layer.at: Go's own search; whatever the list. -/
theorem at_row (A : Option Addr) (n c : Nat) (F : Nat → ByteArray) (K : Nat → Int) (D : Nat → ByteArray) (p : ByteArray) (w : World) (hn : n < 4611686018427387904) (h : n = 0 ∨ ∃ ad, A = some ad ∧ RowAt w ad n F K D) :
    Calls Tryz.prog 31 #[.slice A n c, .string p] w fun e w' =>
      e = .returned (.tuple #[.int .i64 (bsF F p n 0 n : Nat), .bool (decide (bsF F p n 0 n < n) && decide (Lib.compareBytes (F (bsF F p n 0 n)).data.toList p.data.toList = 0))]) ∧ Below w.heap.size w w' := by
  have H : Calls Tryz.prog 51 #[.slice A n c, .string p, .func (.func 52) #[] #[]] w fun e w' =>
      e = .returned (.tuple #[.int .i64 (bsF F p n 0 n : Nat), .bool (decide (bsF F p n 0 n < n) && decide (Lib.compareBytes (F (bsF F p n 0 n)).data.toList p.data.toList = 0))]) ∧ Below w.heap.size w w' := by
    rcases h with rfl | ⟨ad, rfl, hR⟩
    · have e0 : bsF F p 0 0 0 = 0 := rfl
      rw [e0]
      exact search_zero A c p _ w
    · exact search_any ad n c F K D p w hn hR
  clear h
  go_enter Tryz.func31, Tryz.ntmps31
  go_wp2_with (go_at_call 51; refine H.mono ?_; rintro e w' ⟨rfl, hb⟩)
  go_ret2
  exact ⟨rfl, hb⟩
end Go.Proofs.YthfbcclbappbcaaGreatDoor.Print
end
