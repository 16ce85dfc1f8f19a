/- layer.at: slices.BinarySearchFunc at entries, by their paths: the walk. The search is told as Go's own steps (no order of the list is asked). -/
import Derived.Test.YthfbcclbappbcaaGreatDoorSplitP
import Derived.Defers
import Derived.WalkLawsBesides
import Derived.StillTailTactics
import Derived.BigQuiet
import Derived.Laws.BitsLemmas
import Derived.Deep.LoopGhost
import Derived.Lib.Overlaps
import Derived.Lib.AppendZeros
import Derived.Lib.AppendZerosOnto
import Derived.Laws.NewBlocks
import Derived.Laws.Externs
import Derived.Deep.RegionHeld3
import Derived.StillTactics
import Derived.Lib.QuietBelow
section
namespace Go.Proofs.YthfbcclbappbcaaGreatDoor.Print
open Go Go.RowKit Go.Proofs.YthfbcclbappbcaaGreatDoorW.PrintWords Go.Proofs.YthfbcclbappbcaaGreatDoorW.PrintLast Go.Proofs.YthfbcclbappbcaaGreatDoorW.PrintMore
set_option linter.unusedVariables false
set_option linter.unusedSimpArgs false
/-- Go's search: F the paths, from lo to hi. -/
def bsF (F : Nat → ByteArray) (p : ByteArray) : Nat → Nat → Nat → Nat
  | 0, lo, _ => lo
  | n + 1, lo, hi => if lo < hi then (if Lib.compareBytes (F ((lo + hi) / 2)).data.toList p.data.toList < 0 then bsF F p n ((lo + hi) / 2 + 1) hi else bsF F p n lo ((lo + hi) / 2)) else lo
theorem bsF_fuel (F : Nat → ByteArray) (p : ByteArray) : ∀ (n m lo hi : Nat), hi - lo ≤ n → hi - lo ≤ m → bsF F p n lo hi = bsF F p m lo hi
  | 0, 0, _, _, _, _ => rfl
  | 0, m + 1, lo, hi, h, _ => by rw [bsF, bsF, if_neg (by omega)]
  | n + 1, 0, lo, hi, _, h => by rw [bsF, bsF, if_neg (by omega)]
  | n + 1, m + 1, lo, hi, h1, h2 => by
    rw [bsF, bsF]
    by_cases hl : lo < hi
    · rw [if_pos hl, if_pos hl, bsF_fuel F p n m ((lo + hi) / 2 + 1) hi (by omega) (by omega), bsF_fuel F p n m lo ((lo + hi) / 2) (by omega) (by omega)]
    · rw [if_neg hl, if_neg hl]
theorem bsF_stop (F : Nat → ByteArray) (p : ByteArray) (n lo hi : Nat) (h : ¬ lo < hi) : bsF F p n lo hi = lo := by
  cases n with
  | zero => rfl
  | succ n => rw [bsF, if_neg h]
theorem bsF_step (F : Nat → ByteArray) (p : ByteArray) (lo hi : Nat) (h : lo < hi) : bsF F p (hi - lo) lo hi = if Lib.compareBytes (F ((lo + hi) / 2)).data.toList p.data.toList < 0 then bsF F p (hi - ((lo + hi) / 2 + 1)) ((lo + hi) / 2 + 1) hi else bsF F p ((lo + hi) / 2 - lo) lo ((lo + hi) / 2) := by
  obtain ⟨j, hj⟩ : ∃ j, hi - lo = j + 1 := ⟨hi - lo - 1, by omega⟩
  rw [hj, bsF, if_pos h, bsF_fuel F p j (hi - ((lo + hi) / 2 + 1)) ((lo + hi) / 2 + 1) hi (by omega) (by omega), bsF_fuel F p j ((lo + hi) / 2 - lo) lo ((lo + hi) / 2) (by omega) (by omega)]
set_option maxHeartbeats 4000000 in
set_option maxRecDepth 100000 in
theorem at1_any (a : ByteArray) (k : Int) (d p : ByteArray) (w : World) :
    Calls Tryz.prog 52 #[.agg #[.string a, .int .i64 k, .string d], .string p] w fun e w' => e = .returned (.int .i64 (Lib.compareBytes a.data.toList p.data.toList)) ∧ Below w.heap.size w w' := by
  have hb : Below w.heap.size w (w.alloc (.cells #[.string a, .int .i64 k, .string d] 26)) := (Below.refl _ _).alloc (Nat.le_refl _) _
  have HB := Aside0.mk hb
  clear hb
  have HC := Any.strings_Compare Tryz.lays106 a p
  go_enter Tryz.func52, Tryz.ntmps52
  go_wp2_with (first | (go_at_call 53; refine (HC _).mono ?_; rintro e w' ⟨rfl, rfl⟩))
  go_ret
  exact ⟨rfl, HB.out⟩
structure RowAt (w : World) (ad : Addr) (n : Nat) (F : Nat → ByteArray) (K : Nat → Int) (D : Nat → ByteArray) : Prop where
  here : ad.block < w.heap.size
  c0 : ∀ i, i < n → w.cell? (ad.add (i * 3)) = some (.string (F i))
  c1 : ∀ i, i < n → w.cell? ⟨(ad.add (i * 3)).block, (ad.add (i * 3)).off + 1, none⟩ = some (.int .i64 (K i))
  c2 : ∀ i, i < n → w.cell? ⟨(ad.add (i * 3)).block, (ad.add (i * 3)).off + 2, none⟩ = some (.string (D i))
theorem add_block (ad : Addr) (m : Nat) : (ad.add m).block = ad.block := by unfold Addr.add; split <;> rfl
theorem RowAt.below {w W : World} {ad : Addr} {n : Nat} {F : Nat → ByteArray} {K : Nat → Int} {D : Nat → ByteArray} (h : RowAt w ad n F K D) (hb : Below w.heap.size w W) : RowAt W ad n F K D :=
  ⟨Nat.lt_of_lt_of_le h.here hb.size, fun i hi => (hb.cell (p := ad.add (i * 3)) (by rw [add_block]; exact h.here)).trans (h.c0 i hi), fun i hi => (hb.cell (p := ⟨(ad.add (i * 3)).block, _, none⟩) (by show (ad.add (i * 3)).block < _; rw [add_block]; exact h.here)).trans (h.c1 i hi), fun i hi => (hb.cell (p := ⟨(ad.add (i * 3)).block, _, none⟩) (by show (ad.add (i * 3)).block < _; rw [add_block]; exact h.here)).trans (h.c2 i hi)⟩
set_option maxHeartbeats 8000000 in
set_option maxRecDepth 100000 in
theorem search_any (ad : Addr) (n c : Nat) (F : Nat → ByteArray) (K : Nat → Int) (D : Nat → ByteArray) (p : ByteArray) (w : World) (hn : n < 4611686018427387904) (hR : RowAt w ad n F K D) :
    Calls Tryz.prog 51 #[.slice (some ad) n c, .string p, .func (.func 52) #[] #[]] w fun e w' =>
      e = .returned (.tuple #[.int .i64 (bsF F p n 0 n : Nat), .bool (decide (bsF F p n 0 n < n) && decide (Lib.compareBytes (F (bsF F p n 0 n)).data.toList p.data.toList = 0))]) ∧ Below w.heap.size w w' := by
  have ef : ∀ args w, (callFunc 52 args).run Tryz.prog w = .ok (.enter 52 args) w := fun _ _ => by kernel_rfl
  have HR := Aside0.mk hR
  have HB := Aside0.mk (Below.refl w.heap.size w)
  have HN := Aside0.mk hn
  clear hR
  generalize hres : bsF F p n 0 n = res
  have RES := Aside0.mk hres
  clear hres
  go_enter Tryz.func51, Tryz.ntmps51
  go_wp2
  go_loopg [9, 10] n (fun kx s9 s10 wr => ∃ lo hi : Nat, s9 = .int .i64 lo ∧ s10 = .int .i64 hi ∧ lo ≤ hi ∧ hi ≤ n ∧ hi - lo ≤ kx ∧ Aside0 (Below w.heap.size w wr) ∧ Aside0 (bsF F p (hi - lo) lo hi = res))
  case atStart => exact ⟨0, n, rfl, rfl, Nat.zero_le _, Nat.le_refl _, by omega, HB, RES⟩
  case round =>
    obtain ⟨lo, hi, rfl, rfl, hlh, hin, hg, HB1, RES1⟩ := hrel
    have r1 := HR.out.below HB1.out
    by_cases hlt : lo < hi
    · have cc0 := r1.c0 ((lo + hi) / 2) (by omega)
      have cc1 := r1.c1 ((lo + hi) / 2) (by omega)
      have cc2 := r1.c2 ((lo + hi) / 2) (by omega)
      have R1 := Aside0.mk r1
      clear r1
      by_cases hyx : Lib.compareBytes (F ((lo + hi) / 2)).data.toList p.data.toList < 0
      · have hyb := decide_eq_true hyx
        go_wp2_with (go_at_call 52; refine (at1_any _ _ _ _ _).mono ?_; rintro e w' ⟨rfl, hb⟩)
        go_roundg (hi - ((lo + hi) / 2 + 1))
        case measure => omega
        case rel =>
          exact ⟨(lo + hi) / 2 + 1, hi, by first | rfl | rw [show ((lo : Int) + (hi : Int)) / 2 + 1 = (((lo + hi) / 2 + 1 : Nat) : Int) by omega], rfl, by omega, hin, Nat.le_refl _, ⟨HB1.out.trans (hb.mono HB1.out.size)⟩, ⟨by have := RES1.out; rw [bsF_step F p lo hi hlt, if_pos hyx] at this; exact this⟩⟩
      · have hyb := decide_eq_false hyx
        go_wp2_with (go_at_call 52; refine (at1_any _ _ _ _ _).mono ?_; rintro e w' ⟨rfl, hb⟩)
        go_roundg ((lo + hi) / 2 - lo)
        case measure => omega
        case rel =>
          exact ⟨lo, (lo + hi) / 2, rfl, by first | rfl | rw [show ((lo : Int) + (hi : Int)) / 2 = (((lo + hi) / 2 : Nat) : Int) by omega], by omega, by omega, Nat.le_refl _, ⟨HB1.out.trans (hb.mono HB1.out.size)⟩, ⟨by have := RES1.out; rw [bsF_step F p lo hi hlt, if_neg (Int.not_lt.2 (by first | exact hyx | omega))] at this; exact this⟩⟩
    · obtain rfl : hi = lo := by omega
      have hres : hi = res := by have := RES1.out; rw [bsF_stop F p _ hi hi hlt] at this; exact this
      subst hres
      by_cases hn2 : hi < n
      · have cc0 := r1.c0 hi hn2
        have cc1 := r1.c1 hi hn2
        have cc2 := r1.c2 hi hn2
        clear r1
        go_wp2_with (go_at_call 52; refine (at1_any _ _ _ _ _).mono ?_; rintro e w' ⟨rfl, hb⟩)
        go_ret2
        exact ⟨by simp [hn2]; rfl, HB1.out.trans (hb.mono HB1.out.size)⟩
      · clear r1
        go_wp2
        go_ret2
        exact ⟨by simp [hn2], HB1.out⟩
set_option maxHeartbeats 4000000 in
set_option maxRecDepth 100000 in
theorem search_zero (A : Option Addr) (c : Nat) (p : ByteArray) (v : Value) (w : World) :
    Calls Tryz.prog 51 #[.slice A 0 c, .string p, v] w fun e w' =>
      e = .returned (.tuple #[.int .i64 0, .bool false]) ∧ Below w.heap.size w w' := by
  have HB := Aside0.mk (Below.refl w.heap.size w)
  go_enter Tryz.func51, Tryz.ntmps51
  go_wp2
  refine wp_loop_rounds 1 ?_
  rw [rounds_succ]
  go_wp2
  go_ret2
  exact ⟨rfl, HB.out⟩
set_option maxHeartbeats 4000000 in
set_option maxRecDepth 100000 in
/-- layer.at: Go's own search; whatever the list. -/
theorem at_row (A : Option Addr) (n c : Nat) (F : Nat → ByteArray) (K : Nat → Int) (D : Nat → ByteArray) (p : ByteArray) (w : World) (hn : n < 4611686018427387904) (h : n = 0 ∨ ∃ ad, A = some ad ∧ RowAt w ad n F K D) :
    Calls Tryz.prog 31 #[.slice A n c, .string p] w fun e w' =>
      e = .returned (.tuple #[.int .i64 (bsF F p n 0 n : Nat), .bool (decide (bsF F p n 0 n < n) && decide (Lib.compareBytes (F (bsF F p n 0 n)).data.toList p.data.toList = 0))]) ∧ Below w.heap.size w w' := by
  have H : Calls Tryz.prog 51 #[.slice A n c, .string p, .func (.func 52) #[] #[]] w fun e w' =>
      e = .returned (.tuple #[.int .i64 (bsF F p n 0 n : Nat), .bool (decide (bsF F p n 0 n < n) && decide (Lib.compareBytes (F (bsF F p n 0 n)).data.toList p.data.toList = 0))]) ∧ Below w.heap.size w w' := by
    rcases h with rfl | ⟨ad, rfl, hR⟩
    · have e0 : bsF F p 0 0 0 = 0 := rfl
      rw [e0]
      exact search_zero A c p _ w
    · exact search_any ad n c F K D p w hn hR
  clear h
  go_enter Tryz.func31, Tryz.ntmps31
  go_wp2_with (go_at_call 51; refine H.mono ?_; rintro e w' ⟨rfl, hb⟩)
  go_ret2
  exact ⟨rfl, hb⟩
end Go.Proofs.YthfbcclbappbcaaGreatDoor.Print
end

section
namespace Go.Proofs.YthfbcclbappbcaaGreatDoor.Print
open Go Go.RowKit Go.Proofs.YthfbcclbappbcaaGreatDoorW.PrintWords Go.Proofs.YthfbcclbappbcaaGreatDoorW.PrintLast Go.Proofs.YthfbcclbappbcaaGreatDoorW.PrintMore
set_option linter.unusedVariables false
set_option linter.unusedSimpArgs false
section
variable {α : Type} (P : α → ByteArray) (K : α → Int) (D : α → ByteArray)
/-- An entry's cells. -/
def e3 (x : α) : List Value := [.string (P x), .int .i64 (K x), .string (D x)]
def kd3 : Kd α := Kd.iso (Kd.pair Kd.string (Kd.pair (Kd.int .i64) Kd.string)) (fun x => (P x, K x, D x))
theorem flat3 : Flat (kd3 P K D) (e3 P K D) where
  len := fun _ => rfl
  pos := (by show 0 < 3; omega)
  one := fun x u hu => by simp [e3] at hu; rcases hu with rfl | rfl | rfl <;> rfl
  K := fun w x cs => by
    constructor
    · rintro ⟨_, _, rfl, rfl, ⟨_, _, rfl, rfl, rfl⟩⟩; rfl
    · rintro rfl; exact ⟨[_], [_, _], rfl, rfl, ⟨[_], [_], rfl, rfl, rfl⟩⟩
  M := fun w b ok x cs => by
    constructor
    · rintro ⟨_, _, rfl, rfl, ⟨_, _, rfl, rfl, rfl⟩⟩; rfl
    · rintro rfl; exact ⟨[_], [_, _], rfl, rfl, ⟨[_], [_], rfl, rfl, rfl⟩⟩
abbrev c3 (xs : List α) : List Value := encL (e3 P K D) xs
theorem c3_drop (xs : List α) (n : Nat) : (c3 P K D xs).drop (n * 3) = c3 P K D (xs.drop n) := encL_drop (flat3 P K D) xs n
theorem c3_cons (x : α) (ys : List α) : c3 P K D (x :: ys) = e3 P K D x ++ c3 P K D ys := rfl
theorem c3_get {xs : List α} {i : Nat} {x : α} (h : xs[i]? = some x) (j : Nat) (hj : j < 3) : (c3 P K D xs)[i * 3 + j]? = (e3 P K D x)[j]? := by
  obtain ⟨hl, rfl⟩ := List.getElem?_eq_some_iff.1 h
  have e := c3_drop P K D xs i
  rw [List.drop_eq_getElem_cons hl, c3_cons] at e
  have : (c3 P K D xs)[i * 3 + j]? = ((c3 P K D xs).drop (i * 3))[j]? := by rw [List.getElem?_drop]
  rw [this, e, List.getElem?_append_left (by simpa [e3] using hj)]
/-- The cells that are read at a list's places. -/
def At3 (w : World) (ad : Addr) (xs : List α) : Prop := ∀ j u, (c3 P K D xs)[j]? = some u → w.cell? (ad.add j) = some u
theorem At3.get {w : World} {ad : Addr} {xs : List α} (h : At3 P K D w ad xs) {i : Nat} {x : α} (hx : xs[i]? = some x) :
    w.cell? (ad.add (i * 3)) = some (.string (P x)) ∧ w.cell? ⟨(ad.add (i * 3)).block, (ad.add (i * 3)).off + 1, none⟩ = some (.int .i64 (K x)) ∧ w.cell? ⟨(ad.add (i * 3)).block, (ad.add (i * 3)).off + 2, none⟩ = some (.string (D x)) := by
  refine ⟨h (i * 3) _ ?_, ?_, ?_⟩
  · have := c3_get P K D hx 0 (by omega); simpa [e3] using this
  · rw [← add_field _ _ 1 (by omega)]; exact h _ _ (by have := c3_get P K D hx 1 (by omega); simpa [e3] using this)
  · rw [← add_field _ _ 2 (by omega)]; exact h _ _ (by have := c3_get P K D hx 2 (by omega); simpa [e3] using this)
theorem At3.below {w W : World} {ad : Addr} {xs : List α} (h : At3 P K D w ad xs) (hb : Below w.heap.size w W) : At3 P K D W ad xs := fun j u hu => by
  have h0 := h j u hu
  exact (hb.cell (World.block_lt_of_cell? _ _ h0)).trans h0
section
variable {Pg : Program} {ops : Array Oper} {rest : List Oper} {o : Oper} {a : Act} {Q : Exit → Act → World → Prop} {w : World}
end
def Hold (p : Prop) : Prop := p
theorem hold {p : Prop} (h : Hold p) : p := h
theorem Blk.below {w W : World} {g e : Nat} {cur : List Value} (h : Blk w g e cur) (hb : Below w.heap.size w W) : Blk W g e cur := (hb.block g h.lt).trans h
end
end Go.Proofs.YthfbcclbappbcaaGreatDoor.Print
end

section
namespace Go.Proofs.YthfbcclbappbcaaGreatDoor.Print
open Go Go.RowKit Go.Proofs.YthfbcclbappbcaaGreatDoorW.PrintWords Go.Proofs.YthfbcclbappbcaaGreatDoorW.PrintLast Go.Proofs.YthfbcclbappbcaaGreatDoorW.PrintMore
set_option linter.unusedVariables false
set_option linter.unusedSimpArgs false
theorem Tryz.info3 : (Tryz.prog.info? 26).map (fun i => (i.zero, i.size, i.bytes)) = some (some (.agg #[.string ⟨#[]⟩, .int .i64 0, .string ⟨#[]⟩]), 3, 40) := by kernel_rfl
section
variable {α : Type} (P : α → ByteArray) (K : α → Int) (D : α → ByteArray)
/-- A row of the call's own: of the blocks S, or a new one. -/
abbrev Own3 (w : World) (base : Nat) (S : Nat → Prop) (v : Value) (xs : List α) : Prop := Kd.R (kd3 P K D) 26 w base S v xs
theorem C_R3 {w : World} {A : Option Addr} {xs : List α} (h : Kd.C (kd3 P K D) w A xs.length xs) : ReadsRow (fun (y : α) cs => cs = e3 P K D y) 3 w A xs.length xs :=
  h.imp_ (Below.refl _ _) (fun x cs hx => ((flat3 P K D).K w x cs).1 hx)
/-- What an insertion leaves. -/
def InsEnd (w0 w : World) (S : Nat → Prop) (ys : List α) (e : Ending) (w' : World) : Prop :=
  ∃ v : Value, e = .returned v ∧ Own3 P K D w' w0.heap.size (fun k => S k ∨ w.heap.size ≤ k) v ys ∧ Below w0.heap.size w0 w' ∧ Kept w w' S
theorem Blk.new (w : World) (e : Nat) (cs : Array Value) : Blk (w.alloc (.cells cs e)) w.heap.size e cs.toList := by unfold Blk; simpa using heap_alloc_new w _
end
end Go.Proofs.YthfbcclbappbcaaGreatDoor.Print
end

section
namespace Go.Proofs.YthfbcclbappbcaaGreatDoor.Print
open Go Go.RowKit Go.Proofs.YthfbcclbappbcaaGreatDoorW.PrintWords Go.Proofs.YthfbcclbappbcaaGreatDoorW.PrintLast Go.Proofs.YthfbcclbappbcaaGreatDoorW.PrintMore
set_option linter.unusedVariables false
set_option linter.unusedSimpArgs false
section
variable {α : Type} (P : α → ByteArray) (K : α → Int) (D : α → ByteArray)
theorem Blk.kept {w W : World} {g e : Nat} {cur : List Value} {S : Nat → Prop} (h : Blk w g e cur) (hk : Kept w W S) (hn : ¬ S g) : Blk W g e cur := (hk.2 g h.lt hn).trans h
theorem InsEnd.after {w0 w w3 : World} {S S3 : Nat → Prop} {ys : List α} {e : Ending} {w' : World} (hk : Kept w w3 S) (hs : ∀ k, S3 k → S k ∨ w.heap.size ≤ k) (h : InsEnd P K D w0 w3 S3 ys e w') : InsEnd P K D w0 w S ys e w' := by
  obtain ⟨v, rfl, h1, h2, h3⟩ := h
  refine ⟨v, rfl, Kd.R_mono h1 (fun k h => ?_), h2, Nat.le_trans hk.1 h3.1, fun k hlt hn => ?_⟩
  · rcases h with h | h
    · exact hs k h
    · exact .inr (Nat.le_trans hk.1 h)
  · rw [h3.2 k (Nat.lt_of_lt_of_le hlt hk.1) (fun h => (hs k h).elim hn (fun h => by omega)), hk.2 k hlt hn]
section
variable (UF : ByteArray → ByteArray → Option Bool)
variable (mk : ByteArray → Int → ByteArray → α)
end
end
end Go.Proofs.YthfbcclbappbcaaGreatDoor.Print
end

section
namespace Go.Proofs.YthfbcclbappbcaaGreatDoor.Print
open Go Go.RowKit Go.Proofs.YthfbcclbappbcaaGreatDoorW.PrintWords Go.Proofs.YthfbcclbappbcaaGreatDoorW.PrintLast Go.Proofs.YthfbcclbappbcaaGreatDoorW.PrintMore
set_option linter.unusedVariables false
set_option linter.unusedSimpArgs false
section
variable {α : Type} (P : α → ByteArray) (K : α → Int) (D : α → ByteArray)
variable (UF : ByteArray → ByteArray → Option Bool) (WF : List α → ByteArray → Int → ByteArray → Option (List α))
def RUnderOk : Prop := ∀ (a b : ByteArray) (r : Bool) (w : World), UF a b = some r → Calls Tryz.prog 48 #[.string a, .string b] w fun e w' => e = .returned (.bool r) ∧ Below w.heap.size w w'
/-- A row of the call's own comes back. -/
def REnd (w : World) (ys : List α) (e : Ending) (w' : World) : Prop := ∃ v : Value, e = .returned v ∧ Own3 P K D w' w.heap.size (fun _ => True) v ys ∧ Below w.heap.size w w'
def RWithOk : Prop := ∀ (A : Option Addr) (c : Nat) (xs : List α) (a d : ByteArray) (k : Int) (r : List α) (w : World), WF xs a k d = some r → Kd.C (kd3 P K D) w A xs.length xs → xs.length ≤ c →
  Calls Tryz.prog 49 #[.slice A xs.length c, .agg #[.string a, .int .i64 k, .string d]] w (REnd P K D w r)
def rhere (a : ByteArray) (x : α) : Bool := (P x).toList == a.toList
/-- Does an entry stay, when one of a kind is laid over, at a path? -/
def rstay (k : Int) (a : ByteArray) (x : α) : Bool := if k = 2 then !(rhere P a x) || K x == 2 else !(rhere P a x) && !((UF (P x) a).getD false)
def rdir (a : ByteArray) (x : α) : Bool := rhere P a x && K x == 2
def rone (xs : List α) (a : ByteArray) (k : Int) (d : ByteArray) : Option (List α) :=
  if (xs.length + 1) * 40 ≤ 140737488355328 ∧ (xs.all fun x => (UF (P x) a).isSome) = true then
    if k = 1 then WF (xs.filter (rstay P K UF k a)) a 1 d
    else if k = 4 ∨ k = 2 ∧ xs.any (rdir P K a) = false then WF (xs.filter (rstay P K UF k a)) a 2 ⟨#[]⟩
    else some (xs.filter (rstay P K UF k a))
  else none
def roneL : List α → List α → Option (List α)
  | xs, [] => some xs
  | xs, y :: l => (rone P K UF WF xs (P y) (K y) (D y)).bind fun ys => roneL ys l
theorem take_filter_snoc (q : α → Bool) {xs : List α} {j : Nat} {x : α} (h : xs[j]? = some x) : (xs.take (j + 1)).filter q = if q x = true then (xs.take j).filter q ++ [x] else (xs.take j).filter q := by
  rw [List.take_add_one, h, Option.toList_some, List.filter_append]
  cases hq : q x <;> simp [hq]
theorem take_any_snoc (q : α → Bool) {xs : List α} {j : Nat} {x : α} (h : xs[j]? = some x) : (xs.take (j + 1)).any q = ((xs.take j).any q || q x) := by
  rw [List.take_add_one, h, Option.toList_some, List.any_append]; simp
set_option maxHeartbeats 32000000 in
set_option maxRecDepth 100000 in
theorem refOver3 (hU : RUnderOk UF) (hW : RWithOk P K D WF) (A0 A1 : Option Addr) (c0 c1 : Nat) (t l r : List α) (w : World)
    (hr0 : Kd.C (kd3 P K D) w A0 t.length t) (hr1 : Kd.C (kd3 P K D) w A1 l.length l) (hl : t.length * 40 ≤ 140737488355328) (h : roneL P K D UF WF t l = some r) :
    Calls Tryz.prog 21 #[.slice A0 t.length c0, .slice A1 l.length c1] w (REnd P K D w r) := by
  have HR0 := Aside0.mk hr0
  have HR1 := Aside0.mk hr1
  have HL := Aside0.mk hl
  have HU := Aside0.mk hU
  have HW := Aside0.mk hW
  have HH := Aside0.mk h
  have hnB : l.length ≤ 9223372036854775807 := hr1.2.1
  clear hr0 hr1 hl hU hW h
  generalize hlen : l.length = n at HR1 hnB ⊢
  have HN := Aside0.mk hlen
  clear hlen
  go_enter Tryz.func21, Tryz.ntmps21
  go_wp2_with (first
    | ((with_reducible refine gate_builtin (b := .append) (xs := #[.tmp 12, .tmp 13]) rfl ?_); refine hold ?_))
  unfold Hold
  refine Kd.R_append_rows (kd3 P K D) (w0 := w) w.heap.size rfl (.tmp 12) (.tmp 13) 27 26 _ 40 rfl Tryz.underlying27 Tryz.info3 rfl (flat3 P K D).pos (by omega) _ [] t A0 t.length c0 (fun _ => True) (fun _ => False) rfl rfl ?aF (C_R3 P K D (Kd.C_below HR0.out ?aB2)) (fun x cs h => ((flat3 P K D).M _ _ _ x cs).2 h) (fun _ h => h.elim) (fun _ _ => trivial) ?aB ?aS ?aL ?_
  case aF => exact R_empty_lit _ _ _ _ (Nat.le_refl _)
  case aB2 => exact qA (Below.refl _ _) _
  case aB => exact qA (Below.refl _ _) _
  case aS => simp
  case aL => have := HL.out; simp; omega
  intro v1 w1 ho hb hg hat
  rw [List.nil_append] at ho
  have HO := Aside0.mk ho
  have HB := Aside0.mk hb
  clear ho hb hg hat HR0 HL
  go_wp2
  go_loopg [5, 6] n (fun gg s5 s6 wr => ∃ (i : Nat) (xs : List α), s6 = .int .i64 i ∧ i ≤ n ∧ n - i ≤ gg ∧ Aside0 (Own3 P K D wr w.heap.size (fun _ => True) s5 xs) ∧ Aside0 (Below w.heap.size w wr) ∧ Aside0 (roneL P K D UF WF xs (l.drop i) = some r))
  case atStart => exact ⟨0, t, rfl, Nat.zero_le _, by omega, HO, HB, ⟨by rw [List.drop_zero]; exact HH.out⟩⟩
  case round =>
    obtain ⟨i, xs, rfl, hin, hgg, HO1, HB1, HRR⟩ := hrel
    clear HO HB HH
    obtain ⟨A, c, rfl⟩ := Kd.R_slice HO1.out
    by_cases hlt : i < n
    · obtain ⟨W1, hW1⟩ : ∃ W1, W1 = wr := ⟨_, rfl⟩
      subst hW1
      have hltz : (i : Int) < (n : Int) := by omega
      have hi0 : (0 : Int) ≤ (i : Int) := by omega
      obtain ⟨y, hy⟩ : ∃ y, l[i]? = some y := ⟨_, List.getElem?_eq_getElem (by rw [HN.out]; exact hlt)⟩
      have hdrop : l.drop i = y :: l.drop (i + 1) := by
        obtain ⟨h1, h2⟩ := List.getElem?_eq_some_iff.1 hy
        rw [List.drop_eq_getElem_cons h1, h2]
      have hrr := HRR.out
      rw [hdrop, roneL] at hrr
      obtain ⟨ys, hys, hrest⟩ := Option.bind_eq_some_iff.1 hrr
      have HREST := Aside0.mk hrest
      unfold rone at hys
      by_cases hgd : (xs.length + 1) * 40 ≤ 140737488355328 ∧ (xs.all fun x => (UF (P x) (P y)).isSome) = true
      case neg => rw [if_neg hgd] at hys; cases hys
      rw [if_pos hgd] at hys
      have HYS := Aside0.mk hys
      have HGD := Aside0.mk hgd
      obtain ⟨al, rfl, hal⟩ : ∃ al, A1 = some al ∧ At3 P K D w al l := by
        have h := HR1.out
        rw [← HN.out] at h
        exact C_cells (flat3 P K D) h (by rw [HN.out]; omega)
      have HAL := Aside0.mk hal
      have HY := Aside0.mk hy
      clear hrr hys hgd hrest hal hy hdrop HRR HR1
      obtain ⟨m, hm⟩ : ∃ m, xs.length = m := ⟨_, rfl⟩
      rw [hm] at HO1 ⊢
      have hmB : m ≤ 140737488355328 := by have := HGD.out.1; omega
      have HM := Aside0.mk hm
      clear hm
      have hyc : ∀ W, Below w.heap.size w W → W.cell? (al.add (i * 3)) = some (.string (P y)) ∧ W.cell? ⟨(al.add (i * 3)).block, (al.add (i * 3)).off + 1, none⟩ = some (.int .i64 (K y)) ∧ W.cell? ⟨(al.add (i * 3)).block, (al.add (i * 3)).off + 2, none⟩ = some (.string (D y)) := fun W hW => At3.get P K D (At3.below P K D HAL.out hW) HY.out
      have HYC := Aside0.mk hyc
      clear hyc HAL HY
      have hrest : ∀ (v : Value) (W : World) (zs : List α) (gg : Nat), zs = ys → Own3 P K D W w.heap.size (fun _ => True) v zs → Below w.heap.size w W → ∃ (i' : Nat) (xs' : List α), (Value.int .i64 ((i : Int) + 1)) = .int .i64 i' ∧ i' ≤ n ∧ n - i' ≤ n - (i + 1) ∧ Aside0 (Own3 P K D W w.heap.size (fun _ => True) v xs') ∧ Aside0 (Below w.heap.size w W) ∧ Aside0 (roneL P K D UF WF xs' (l.drop i') = some r) := fun v W zs gg e ho hb => ⟨i + 1, zs, by go_num, by omega, by omega, ⟨ho⟩, ⟨hb⟩, by rw [e]; exact HREST⟩
      have HNEXT := Aside0.mk hrest
      clear hrest HREST
      have HOUT := HO1
      go_wp2
      go_loopg [7, 8, 9] m (fun gg s7 s8 s9 wr => ∃ j : Nat, s9 = .int .i64 j ∧ s8 = .bool (K y == 2 && (xs.take j).any (rdir P K (P y))) ∧ j ≤ m ∧ m - j ≤ gg ∧ Aside0 (Own3 P K D wr W1.heap.size (fun _ => True) s7 ((xs.take j).filter (rstay P K UF (K y) (P y)))) ∧ Aside0 (Below W1.heap.size W1 wr))
      case atStart => exact ⟨0, rfl, by rw [List.take_zero, List.any_nil, Bool.and_false], Nat.zero_le _, by omega, ⟨Kd.R_nil _ _ _ _ _⟩, ⟨Below.refl _ _⟩⟩
      case round =>
        obtain ⟨j, rfl, rfl, hjm, hgg2, HO2, HB2⟩ := hrel
        obtain ⟨A2, c2, rfl⟩ := Kd.R_slice HO2.out
        by_cases hlj : j < m
        · have hljz : (j : Int) < (m : Int) := by omega
          have hj0 : (0 : Int) ≤ (j : Int) := by omega
          obtain ⟨x, hx⟩ : ∃ x, xs[j]? = some x := ⟨_, List.getElem?_eq_getElem (by rw [HM.out]; exact hlj)⟩
          obtain ⟨ad, rfl, had⟩ : ∃ ad, A = some ad ∧ At3 P K D W1 ad xs := C_cells (flat3 P K D) (Kd.R_reads' HOUT.out).2.2 (by rw [HM.out]; omega)
          have hww : Below w.heap.size w wr := HB1.out.trans (HB2.out.mono HB1.out.size)
          obtain ⟨p0, p1, p2⟩ := At3.get P K D (At3.below P K D had HB2.out) hx
          obtain ⟨q0, q1, q2⟩ := HYC.out wr hww
          obtain ⟨u, hu⟩ := Option.isSome_iff_exists.1 (List.all_eq_true.1 HGD.out.2 x (List.mem_of_getElem? hx))
          obtain ⟨hb, hhb⟩ : ∃ b, ((P x).toList == (P y).toList) = b := ⟨_, rfl⟩
          obtain ⟨xb, hxb⟩ : ∃ b, (K x == 2) = b := ⟨_, rfl⟩
          obtain ⟨yb, hyb⟩ : ∃ b, (K y == 2) = b := ⟨_, rfl⟩
          have hyn : (K y != 2) = !yb := by rw [← hyb]; rfl
          have hq : rstay P K UF (K y) (P y) x = if yb = true then !hb || xb else !hb && !u := by
            unfold rstay rhere
            rw [hhb, hxb, hu, Option.getD_some]
            by_cases h2 : K y = 2
            · rw [if_pos h2, if_pos (by rw [← hyb]; exact beq_iff_eq.2 h2)]
            · rw [if_neg h2, if_neg (by rw [← hyb, beq_iff_eq]; exact h2)]
          have hd : rdir P K (P y) x = (hb && xb) := by unfold rdir rhere; rw [hhb, hxb]
          have hF := take_filter_snoc (rstay P K UF (K y) (P y)) hx
          have hD := take_any_snoc (rdir P K (P y)) hx
          rw [hq] at hF
          rw [hd] at hD
          have HF := Aside0.mk hF
          have HD := Aside0.mk hD
          have HB3 : Aside0 (Below wr.heap.size wr (wr.alloc (.cells #[.string (P x), .int .i64 (K x), .string (D x)] 26))) := ⟨(Below.refl _ _).alloc (Nat.le_refl _) _⟩
          have g0 := qp HB3.out q0
          have g1 := qp HB3.out q1
          have g2 := qp HB3.out q2
          have hbk := Blk.new wr 26 #[.string (P x), .int .i64 (K x), .string (D x)]
          have b0 := hbk.cell (j := 0) rfl
          have b1 := hbk.cell (j := 1) rfl
          have b2 := hbk.cell (j := 2) rfl
          have HUC := Aside0.mk (HU.out (P x) (P y) u · hu)
          clear had hx hu hq hd hF hD hbk
          cases yb with
          | true =>
            cases hb with
            | true =>
              cases xb with
              | true =>
                go_wp2
                generalize wr.alloc (.cells #[.string (P x), .int .i64 (K x), .string (D x)] 26) = W3 at b0 b1 b2 g0 g1 g2 HB3 ⊢
                go_still (by kernel_rfl)
                go_wp2
                have e0 := below_drew (Below.refl W3.heap.size W3)
                have c0 := qp e0 b0
                have c1 := qp e0 b1
                have c2 := qp e0 b2
                have d0 := qp e0 g0
                have d1 := qp e0 g1
                have HB4 : Aside0 (Below wr.heap.size wr W3.drew) := ⟨HB3.out.trans (e0.mono HB3.out.size)⟩
                clear e0 b0 b1 b2 g0 g1 g2
                generalize W3.drew = W4 at c0 c1 c2 d0 d1 HB4 ⊢
                have k0 := cell_regrown c0
                have k1 := cell_regrown c1
                have k2 := cell_regrown c2
                have k3 := cell_regrown d0
                have k4 := cell_regrown d1
                have kr : ∀ d os, Calls Tryz.prog 48 #[.string (P x), .string (P y)] (Sort.grow (redrawn W4 d) os) fun e w'' => e = .returned (.bool u) ∧ ∃ p : Regrown, w'' = Sort.grow (redrawn W4 p.d) p.os := fun d os => Calls.regrown_of (HUC.out _)
                refine wp_region_quiet_below (by kernel_rfl) (by kernel_rfl) ?_
                repeat (first | go_big_quiet_step (first | (go_at_call 48; exact kr _ _)) | quiet_step (first | (go_at_call 48; exact kr _ _)))
                refine wpQuiet_nil ?_
                intro _ hw'
                obtain ⟨⟨dq, osq⟩, hw''⟩ := hw'
                subst hw''
                have hbq := below_regrown W4 dq osq
                have f0 := qp hbq c0
                have f1 := qp hbq c1
                have f2 := qp hbq c2
                have HB5 : Aside0 (Below wr.heap.size wr (Sort.grow (redrawn W4 dq) osq)) := ⟨HB4.out.trans (hbq.mono HB4.out.size)⟩
                clear hbq c0 c1 c2 d0 d1 k0 k1 k2 k3 k4 kr HB4 HB3
                generalize Sort.grow (redrawn W4 dq) osq = W5 at f0 f1 f2 HB5 ⊢
                have HB6 : Aside0 (Below W1.heap.size W1 W5) := ⟨HB2.out.trans (HB5.out.mono HB2.out.size)⟩
                have HO5 := Aside0.mk (Kd.R_below HO2.out HB5.out)
                go_wp2_with (first
                  | ((with_reducible refine gate_builtin (b := .append) (xs := #[.tmp 91, .tmp 93]) rfl ?_); refine hold ?_))
                unfold Hold
                refine Kd.R_append (kd3 P K D) (w0 := W1) W1.heap.size rfl (.tmp 91) (.tmp 93) 27 26 _ 40 rfl Tryz.underlying27 Tryz.info3 rfl (flat3 P K D).pos (by omega) _ ((xs.take j).filter (rstay P K UF (K y) (P y))) x (e3 P K D x) (fun _ => True) (fun _ => False) rfl rfl (((flat3 P K D).M _ _ _ x _).2 rfl) (fun _ h => h.elim) (fun _ _ => trivial) HO5.out HB6.out HB6.out.size ?hl ?_
                case hl =>
                  have h1 := HGD.out.1
                  have h2 : ((xs.take j).filter (rstay P K UF (K y) (P y))).length ≤ xs.length := Nat.le_trans (List.length_filter_le _ _) (by rw [List.length_take]; omega)
                  omega
                intro v2 w2 ho hb2 hg hat
                have HO7 := Aside0.mk ho
                have HB7 := Aside0.mk hb2
                clear ho hb2 hg hat
                go_wp2
                go_roundg (m - (j + 1))
                case measure => omega
                case rel => exact ⟨j + 1, by go_num, by rw [hyb, HD.out]; simp, by omega, by omega, by rw [HF.out, if_pos (by simp)]; exact HO7, HB7⟩
              | false =>
                go_wp2
                generalize wr.alloc (.cells #[.string (P x), .int .i64 (K x), .string (D x)] 26) = W3 at b0 b1 b2 g0 g1 g2 HB3 ⊢
                go_still (by kernel_rfl)
                go_wp2
                have e0 := below_drew (Below.refl W3.heap.size W3)
                have c0 := qp e0 b0
                have c1 := qp e0 b1
                have c2 := qp e0 b2
                have d0 := qp e0 g0
                have d1 := qp e0 g1
                have HB4 : Aside0 (Below wr.heap.size wr W3.drew) := ⟨HB3.out.trans (e0.mono HB3.out.size)⟩
                clear e0 b0 b1 b2 g0 g1 g2
                generalize W3.drew = W4 at c0 c1 c2 d0 d1 HB4 ⊢
                have k0 := cell_regrown c0
                have k1 := cell_regrown c1
                have k2 := cell_regrown c2
                have k3 := cell_regrown d0
                have k4 := cell_regrown d1
                have kr : ∀ d os, Calls Tryz.prog 48 #[.string (P x), .string (P y)] (Sort.grow (redrawn W4 d) os) fun e w'' => e = .returned (.bool u) ∧ ∃ p : Regrown, w'' = Sort.grow (redrawn W4 p.d) p.os := fun d os => Calls.regrown_of (HUC.out _)
                refine wp_region_quiet_below (by kernel_rfl) (by kernel_rfl) ?_
                repeat (first | go_big_quiet_step (first | (go_at_call 48; exact kr _ _)) | quiet_step (first | (go_at_call 48; exact kr _ _)))
                refine wpQuiet_nil ?_
                intro _ hw'
                obtain ⟨⟨dq, osq⟩, hw''⟩ := hw'
                subst hw''
                have hbq := below_regrown W4 dq osq
                have f0 := qp hbq c0
                have f1 := qp hbq c1
                have f2 := qp hbq c2
                have HB5 : Aside0 (Below wr.heap.size wr (Sort.grow (redrawn W4 dq) osq)) := ⟨HB4.out.trans (hbq.mono HB4.out.size)⟩
                clear hbq c0 c1 c2 d0 d1 k0 k1 k2 k3 k4 kr HB4 HB3
                generalize Sort.grow (redrawn W4 dq) osq = W5 at f0 f1 f2 HB5 ⊢
                have HB6 : Aside0 (Below W1.heap.size W1 W5) := ⟨HB2.out.trans (HB5.out.mono HB2.out.size)⟩
                have HO5 := Aside0.mk (Kd.R_below HO2.out HB5.out)
                go_wp2
                go_roundg (m - (j + 1))
                case measure => omega
                case rel => exact ⟨j + 1, by go_num, by rw [hyb, HD.out]; simp, by omega, by omega, by rw [HF.out, if_neg (by simp)]; exact HO5, HB6⟩
            | false =>
              go_wp2
              generalize wr.alloc (.cells #[.string (P x), .int .i64 (K x), .string (D x)] 26) = W3 at b0 b1 b2 g0 g1 g2 HB3 ⊢
              go_still (by kernel_rfl)
              go_wp2
              have e0 := below_drew (Below.refl W3.heap.size W3)
              have c0 := qp e0 b0
              have c1 := qp e0 b1
              have c2 := qp e0 b2
              have d0 := qp e0 g0
              have d1 := qp e0 g1
              have HB4 : Aside0 (Below wr.heap.size wr W3.drew) := ⟨HB3.out.trans (e0.mono HB3.out.size)⟩
              clear e0 b0 b1 b2 g0 g1 g2
              generalize W3.drew = W4 at c0 c1 c2 d0 d1 HB4 ⊢
              have k0 := cell_regrown c0
              have k1 := cell_regrown c1
              have k2 := cell_regrown c2
              have k3 := cell_regrown d0
              have k4 := cell_regrown d1
              have kr : ∀ d os, Calls Tryz.prog 48 #[.string (P x), .string (P y)] (Sort.grow (redrawn W4 d) os) fun e w'' => e = .returned (.bool u) ∧ ∃ p : Regrown, w'' = Sort.grow (redrawn W4 p.d) p.os := fun d os => Calls.regrown_of (HUC.out _)
              refine wp_region_quiet_below (by kernel_rfl) (by kernel_rfl) ?_
              repeat (first | go_big_quiet_step (first | (go_at_call 48; exact kr _ _)) | quiet_step (first | (go_at_call 48; exact kr _ _)))
              refine wpQuiet_nil ?_
              intro _ hw'
              obtain ⟨⟨dq, osq⟩, hw''⟩ := hw'
              subst hw''
              have hbq := below_regrown W4 dq osq
              have f0 := qp hbq c0
              have f1 := qp hbq c1
              have f2 := qp hbq c2
              have HB5 : Aside0 (Below wr.heap.size wr (Sort.grow (redrawn W4 dq) osq)) := ⟨HB4.out.trans (hbq.mono HB4.out.size)⟩
              clear hbq c0 c1 c2 d0 d1 k0 k1 k2 k3 k4 kr HB4 HB3
              generalize Sort.grow (redrawn W4 dq) osq = W5 at f0 f1 f2 HB5 ⊢
              have HB6 : Aside0 (Below W1.heap.size W1 W5) := ⟨HB2.out.trans (HB5.out.mono HB2.out.size)⟩
              have HO5 := Aside0.mk (Kd.R_below HO2.out HB5.out)
              go_wp2_with (first
                | ((with_reducible refine gate_builtin (b := .append) (xs := #[.tmp 91, .tmp 93]) rfl ?_); refine hold ?_))
              unfold Hold
              refine Kd.R_append (kd3 P K D) (w0 := W1) W1.heap.size rfl (.tmp 91) (.tmp 93) 27 26 _ 40 rfl Tryz.underlying27 Tryz.info3 rfl (flat3 P K D).pos (by omega) _ ((xs.take j).filter (rstay P K UF (K y) (P y))) x (e3 P K D x) (fun _ => True) (fun _ => False) rfl rfl (((flat3 P K D).M _ _ _ x _).2 rfl) (fun _ h => h.elim) (fun _ _ => trivial) HO5.out HB6.out HB6.out.size ?hl ?_
              case hl =>
                have h1 := HGD.out.1
                have h2 : ((xs.take j).filter (rstay P K UF (K y) (P y))).length ≤ xs.length := Nat.le_trans (List.length_filter_le _ _) (by rw [List.length_take]; omega)
                omega
              intro v2 w2 ho hb2 hg hat
              have HO7 := Aside0.mk ho
              have HB7 := Aside0.mk hb2
              clear ho hb2 hg hat
              go_wp2
              go_roundg (m - (j + 1))
              case measure => omega
              case rel => exact ⟨j + 1, by go_num, by rw [hyb, HD.out]; simp, by omega, by omega, by rw [HF.out, if_pos (by simp)]; exact HO7, HB7⟩
          | false =>
            cases hb with
            | true =>
              cases xb with
              | true =>
                go_wp2
                generalize wr.alloc (.cells #[.string (P x), .int .i64 (K x), .string (D x)] 26) = W3 at b0 b1 b2 g0 g1 g2 HB3 ⊢
                go_still (by kernel_rfl)
                go_wp2
                have e0 := below_drew (Below.refl W3.heap.size W3)
                have c0 := qp e0 b0
                have c1 := qp e0 b1
                have c2 := qp e0 b2
                have d0 := qp e0 g0
                have d1 := qp e0 g1
                have HB4 : Aside0 (Below wr.heap.size wr W3.drew) := ⟨HB3.out.trans (e0.mono HB3.out.size)⟩
                clear e0 b0 b1 b2 g0 g1 g2
                generalize W3.drew = W4 at c0 c1 c2 d0 d1 HB4 ⊢
                have k0 := cell_regrown c0
                have k1 := cell_regrown c1
                have k2 := cell_regrown c2
                have k3 := cell_regrown d0
                have k4 := cell_regrown d1
                have kr : ∀ d os, Calls Tryz.prog 48 #[.string (P x), .string (P y)] (Sort.grow (redrawn W4 d) os) fun e w'' => e = .returned (.bool u) ∧ ∃ p : Regrown, w'' = Sort.grow (redrawn W4 p.d) p.os := fun d os => Calls.regrown_of (HUC.out _)
                refine wp_region_quiet_below (by kernel_rfl) (by kernel_rfl) ?_
                repeat (first | go_big_quiet_step (first | (go_at_call 48; exact kr _ _)) | quiet_step (first | (go_at_call 48; exact kr _ _)))
                refine wpQuiet_nil ?_
                intro _ hw'
                obtain ⟨⟨dq, osq⟩, hw''⟩ := hw'
                subst hw''
                have hbq := below_regrown W4 dq osq
                have f0 := qp hbq c0
                have f1 := qp hbq c1
                have f2 := qp hbq c2
                have HB5 : Aside0 (Below wr.heap.size wr (Sort.grow (redrawn W4 dq) osq)) := ⟨HB4.out.trans (hbq.mono HB4.out.size)⟩
                clear hbq c0 c1 c2 d0 d1 k0 k1 k2 k3 k4 kr HB4 HB3
                generalize Sort.grow (redrawn W4 dq) osq = W5 at f0 f1 f2 HB5 ⊢
                have HB6 : Aside0 (Below W1.heap.size W1 W5) := ⟨HB2.out.trans (HB5.out.mono HB2.out.size)⟩
                have HO5 := Aside0.mk (Kd.R_below HO2.out HB5.out)
                go_wp2
                go_roundg (m - (j + 1))
                case measure => omega
                case rel => exact ⟨j + 1, by go_num, by rw [hyb, HD.out]; simp, by omega, by omega, by rw [HF.out, if_neg (by simp)]; exact HO5, HB6⟩
              | false =>
                go_wp2
                generalize wr.alloc (.cells #[.string (P x), .int .i64 (K x), .string (D x)] 26) = W3 at b0 b1 b2 g0 g1 g2 HB3 ⊢
                go_still (by kernel_rfl)
                go_wp2
                have e0 := below_drew (Below.refl W3.heap.size W3)
                have c0 := qp e0 b0
                have c1 := qp e0 b1
                have c2 := qp e0 b2
                have d0 := qp e0 g0
                have d1 := qp e0 g1
                have HB4 : Aside0 (Below wr.heap.size wr W3.drew) := ⟨HB3.out.trans (e0.mono HB3.out.size)⟩
                clear e0 b0 b1 b2 g0 g1 g2
                generalize W3.drew = W4 at c0 c1 c2 d0 d1 HB4 ⊢
                have k0 := cell_regrown c0
                have k1 := cell_regrown c1
                have k2 := cell_regrown c2
                have k3 := cell_regrown d0
                have k4 := cell_regrown d1
                have kr : ∀ d os, Calls Tryz.prog 48 #[.string (P x), .string (P y)] (Sort.grow (redrawn W4 d) os) fun e w'' => e = .returned (.bool u) ∧ ∃ p : Regrown, w'' = Sort.grow (redrawn W4 p.d) p.os := fun d os => Calls.regrown_of (HUC.out _)
                refine wp_region_quiet_below (by kernel_rfl) (by kernel_rfl) ?_
                repeat (first | go_big_quiet_step (first | (go_at_call 48; exact kr _ _)) | quiet_step (first | (go_at_call 48; exact kr _ _)))
                refine wpQuiet_nil ?_
                intro _ hw'
                obtain ⟨⟨dq, osq⟩, hw''⟩ := hw'
                subst hw''
                have hbq := below_regrown W4 dq osq
                have f0 := qp hbq c0
                have f1 := qp hbq c1
                have f2 := qp hbq c2
                have HB5 : Aside0 (Below wr.heap.size wr (Sort.grow (redrawn W4 dq) osq)) := ⟨HB4.out.trans (hbq.mono HB4.out.size)⟩
                clear hbq c0 c1 c2 d0 d1 k0 k1 k2 k3 k4 kr HB4 HB3
                generalize Sort.grow (redrawn W4 dq) osq = W5 at f0 f1 f2 HB5 ⊢
                have HB6 : Aside0 (Below W1.heap.size W1 W5) := ⟨HB2.out.trans (HB5.out.mono HB2.out.size)⟩
                have HO5 := Aside0.mk (Kd.R_below HO2.out HB5.out)
                go_wp2
                go_roundg (m - (j + 1))
                case measure => omega
                case rel => exact ⟨j + 1, by go_num, by rw [hyb, HD.out]; simp, by omega, by omega, by rw [HF.out, if_neg (by simp)]; exact HO5, HB6⟩
            | false =>
              cases u with
              | true =>
                go_wp2
                generalize wr.alloc (.cells #[.string (P x), .int .i64 (K x), .string (D x)] 26) = W3 at b0 b1 b2 g0 g1 g2 HB3 ⊢
                go_still (by kernel_rfl)
                go_wp2
                have e0 := below_drew (Below.refl W3.heap.size W3)
                have c0 := qp e0 b0
                have c1 := qp e0 b1
                have c2 := qp e0 b2
                have d0 := qp e0 g0
                have d1 := qp e0 g1
                have HB4 : Aside0 (Below wr.heap.size wr W3.drew) := ⟨HB3.out.trans (e0.mono HB3.out.size)⟩
                clear e0 b0 b1 b2 g0 g1 g2
                generalize W3.drew = W4 at c0 c1 c2 d0 d1 HB4 ⊢
                have k0 := cell_regrown c0
                have k1 := cell_regrown c1
                have k2 := cell_regrown c2
                have k3 := cell_regrown d0
                have k4 := cell_regrown d1
                have kr : ∀ d os, Calls Tryz.prog 48 #[.string (P x), .string (P y)] (Sort.grow (redrawn W4 d) os) fun e w'' => e = .returned (.bool true) ∧ ∃ p : Regrown, w'' = Sort.grow (redrawn W4 p.d) p.os := fun d os => Calls.regrown_of (HUC.out _)
                refine wp_region_quiet_below (by kernel_rfl) (by kernel_rfl) ?_
                repeat (first | go_big_quiet_step (first | (go_at_call 48; exact kr _ _)) | quiet_step (first | (go_at_call 48; exact kr _ _)))
                refine wpQuiet_nil ?_
                intro _ hw'
                obtain ⟨⟨dq, osq⟩, hw''⟩ := hw'
                subst hw''
                have hbq := below_regrown W4 dq osq
                have f0 := qp hbq c0
                have f1 := qp hbq c1
                have f2 := qp hbq c2
                have HB5 : Aside0 (Below wr.heap.size wr (Sort.grow (redrawn W4 dq) osq)) := ⟨HB4.out.trans (hbq.mono HB4.out.size)⟩
                clear hbq c0 c1 c2 d0 d1 k0 k1 k2 k3 k4 kr HB4 HB3
                generalize Sort.grow (redrawn W4 dq) osq = W5 at f0 f1 f2 HB5 ⊢
                have HB6 : Aside0 (Below W1.heap.size W1 W5) := ⟨HB2.out.trans (HB5.out.mono HB2.out.size)⟩
                have HO5 := Aside0.mk (Kd.R_below HO2.out HB5.out)
                go_wp2
                go_roundg (m - (j + 1))
                case measure => omega
                case rel => exact ⟨j + 1, by go_num, by rw [hyb, HD.out]; simp, by omega, by omega, by rw [HF.out, if_neg (by simp)]; exact HO5, HB6⟩
              | false =>
                go_wp2
                generalize wr.alloc (.cells #[.string (P x), .int .i64 (K x), .string (D x)] 26) = W3 at b0 b1 b2 g0 g1 g2 HB3 ⊢
                go_still (by kernel_rfl)
                go_wp2
                have e0 := below_drew (Below.refl W3.heap.size W3)
                have c0 := qp e0 b0
                have c1 := qp e0 b1
                have c2 := qp e0 b2
                have d0 := qp e0 g0
                have d1 := qp e0 g1
                have HB4 : Aside0 (Below wr.heap.size wr W3.drew) := ⟨HB3.out.trans (e0.mono HB3.out.size)⟩
                clear e0 b0 b1 b2 g0 g1 g2
                generalize W3.drew = W4 at c0 c1 c2 d0 d1 HB4 ⊢
                have k0 := cell_regrown c0
                have k1 := cell_regrown c1
                have k2 := cell_regrown c2
                have k3 := cell_regrown d0
                have k4 := cell_regrown d1
                have kr : ∀ d os, Calls Tryz.prog 48 #[.string (P x), .string (P y)] (Sort.grow (redrawn W4 d) os) fun e w'' => e = .returned (.bool false) ∧ ∃ p : Regrown, w'' = Sort.grow (redrawn W4 p.d) p.os := fun d os => Calls.regrown_of (HUC.out _)
                refine wp_region_quiet_below (by kernel_rfl) (by kernel_rfl) ?_
                repeat (first | go_big_quiet_step (first | (go_at_call 48; exact kr _ _)) | quiet_step (first | (go_at_call 48; exact kr _ _)))
                refine wpQuiet_nil ?_
                intro _ hw'
                obtain ⟨⟨dq, osq⟩, hw''⟩ := hw'
                subst hw''
                have hbq := below_regrown W4 dq osq
                have f0 := qp hbq c0
                have f1 := qp hbq c1
                have f2 := qp hbq c2
                have HB5 : Aside0 (Below wr.heap.size wr (Sort.grow (redrawn W4 dq) osq)) := ⟨HB4.out.trans (hbq.mono HB4.out.size)⟩
                clear hbq c0 c1 c2 d0 d1 k0 k1 k2 k3 k4 kr HB4 HB3
                generalize Sort.grow (redrawn W4 dq) osq = W5 at f0 f1 f2 HB5 ⊢
                have HB6 : Aside0 (Below W1.heap.size W1 W5) := ⟨HB2.out.trans (HB5.out.mono HB2.out.size)⟩
                have HO5 := Aside0.mk (Kd.R_below HO2.out HB5.out)
                go_wp2_with (first
                  | ((with_reducible refine gate_builtin (b := .append) (xs := #[.tmp 91, .tmp 93]) rfl ?_); refine hold ?_))
                unfold Hold
                refine Kd.R_append (kd3 P K D) (w0 := W1) W1.heap.size rfl (.tmp 91) (.tmp 93) 27 26 _ 40 rfl Tryz.underlying27 Tryz.info3 rfl (flat3 P K D).pos (by omega) _ ((xs.take j).filter (rstay P K UF (K y) (P y))) x (e3 P K D x) (fun _ => True) (fun _ => False) rfl rfl (((flat3 P K D).M _ _ _ x _).2 rfl) (fun _ h => h.elim) (fun _ _ => trivial) HO5.out HB6.out HB6.out.size ?hl ?_
                case hl =>
                  have h1 := HGD.out.1
                  have h2 : ((xs.take j).filter (rstay P K UF (K y) (P y))).length ≤ xs.length := Nat.le_trans (List.length_filter_le _ _) (by rw [List.length_take]; omega)
                  omega
                intro v2 w2 ho hb2 hg hat
                have HO7 := Aside0.mk ho
                have HB7 := Aside0.mk hb2
                clear ho hb2 hg hat
                go_wp2
                go_roundg (m - (j + 1))
                case measure => omega
                case rel => exact ⟨j + 1, by go_num, by rw [hyb, HD.out]; simp, by omega, by omega, by rw [HF.out, if_pos (by simp)]; exact HO7, HB7⟩
        · have hljz : ¬ (j : Int) < (m : Int) := by omega
          obtain rfl : j = m := by omega
          have hww : Below w.heap.size w wr := HB1.out.trans (HB2.out.mono HB1.out.size)
          obtain ⟨q0, q1, q2⟩ := HYC.out wr hww
          have hfil : (xs.take j).filter (rstay P K UF (K y) (P y)) = xs.filter (rstay P K UF (K y) (P y)) := by rw [← HM.out, List.take_length]
          have hany : (xs.take j).any (rdir P K (P y)) = xs.any (rdir P K (P y)) := by rw [← HM.out, List.take_length]
          have HW2 := Aside0.mk hww
          have HOL : Aside0 (Own3 P K D wr w.heap.size (fun _ => True) (.slice A2 ((xs.take j).filter (rstay P K UF (K y) (P y))).length c2) (xs.filter (rstay P K UF (K y) (P y)))) := ⟨by rw [← hfil]; exact Kd.R_lower HO2.out HB1.out.size⟩
          clear hww
          rw [hany]
          have hlf : ((xs.take j).filter (rstay P K UF (K y) (P y))).length = (xs.filter (rstay P K UF (K y) (P y))).length := by rw [hfil]
          rw [hlf] at HOL ⊢
          clear hfil hany hlf HO2
          have HYS1 := HYS.out
          clear HYS
          generalize xs.filter (rstay P K UF (K y) (P y)) = zs at HOL HYS1 ⊢
          generalize xs.any (rdir P K (P y)) = dd at HYS1 ⊢
          by_cases h1 : K y = 1
          · have hk1 : (K y == 1) = true := beq_iff_eq.2 h1
            have hk2 : (K y == 2) = false := beq_eq_false_iff_ne.2 (by omega)
            have hk4 : (K y == 4) = false := beq_eq_false_iff_ne.2 (by omega)
            have HYS2 : Aside0 (WF zs (P y) 1 (D y) = some ys) := ⟨by rw [if_pos h1] at HYS1; exact HYS1⟩
            obtain ⟨_, hcle, hcc⟩ := Kd.R_reads' HOL.out
            have HWC := Aside0.mk (HW.out A2 c2 zs (P y) (D y) 1 ys wr HYS2.out hcc hcle)
            clear hcle hcc
            go_wp2_with (go_at_call 49; refine hold ?_)
            unfold Hold
            refine HWC.out.mono ?_
            rintro e w2 ⟨v2, rfl, o2, b2⟩
            have HO3 := Aside0.mk (Kd.R_lower o2 HW2.out.size)
            have HB9 := Aside0.mk (HW2.out.trans (b2.mono HW2.out.size))
            clear o2 b2
            obtain ⟨r0, r1, r2⟩ := HYC.out w2 HB9.out
            go_wp2
            go_roundg (n - (i + 1))
            case measure => omega
            case rel => exact HNEXT.out v2 w2 ys 0 rfl HO3.out HB9.out
          · by_cases h2 : K y = 2
            · cases dd with
              | false =>
                have hk1 : (K y == 1) = false := beq_eq_false_iff_ne.2 (by omega)
                have hk2 : (K y == 2) = true := beq_iff_eq.2 h2
                have hk4 : (K y == 4) = false := beq_eq_false_iff_ne.2 (by omega)
                have HYS2 : Aside0 (WF zs (P y) 2 ⟨#[]⟩ = some ys) := ⟨by rw [if_neg h1, if_pos (.inr ⟨h2, rfl⟩)] at HYS1; exact HYS1⟩
                obtain ⟨_, hcle, hcc⟩ := Kd.R_reads' HOL.out
                have HWC := Aside0.mk (HW.out A2 c2 zs (P y) ⟨#[]⟩ 2 ys wr HYS2.out hcc hcle)
                clear hcle hcc
                go_wp2_with (go_at_call 49; refine hold ?_)
                unfold Hold
                refine HWC.out.mono ?_
                rintro e w2 ⟨v2, rfl, o2, b2⟩
                have HO3 := Aside0.mk (Kd.R_lower o2 HW2.out.size)
                have HB9 := Aside0.mk (HW2.out.trans (b2.mono HW2.out.size))
                clear o2 b2
                obtain ⟨r0, r1, r2⟩ := HYC.out w2 HB9.out
                go_wp2
                go_roundg (n - (i + 1))
                case measure => omega
                case rel => exact HNEXT.out v2 w2 ys 0 rfl HO3.out HB9.out
              | true =>
                have hk1 : (K y == 1) = false := beq_eq_false_iff_ne.2 (by omega)
                have hk2 : (K y == 2) = true := beq_iff_eq.2 h2
                have hk4 : (K y == 4) = false := beq_eq_false_iff_ne.2 (by omega)
                have hys3 : Aside0 (zs = ys) := ⟨by rw [if_neg h1, if_neg (by rintro (h | h); omega; exact Bool.noConfusion h.2)] at HYS1; exact Option.some.inj HYS1⟩
                go_wp2
                go_roundg (n - (i + 1))
                case measure => omega
                case rel => exact HNEXT.out _ _ _ 0 hys3.out HOL.out HW2.out
            · by_cases h4 : K y = 4
              · have hk1 : (K y == 1) = false := beq_eq_false_iff_ne.2 (by omega)
                have hk2 : (K y == 2) = false := beq_eq_false_iff_ne.2 (by omega)
                have hk4 : (K y == 4) = true := beq_iff_eq.2 h4
                have HYS2 : Aside0 (WF zs (P y) 2 ⟨#[]⟩ = some ys) := ⟨by rw [if_neg h1, if_pos (.inl h4)] at HYS1; exact HYS1⟩
                obtain ⟨_, hcle, hcc⟩ := Kd.R_reads' HOL.out
                have HWC := Aside0.mk (HW.out A2 c2 zs (P y) ⟨#[]⟩ 2 ys wr HYS2.out hcc hcle)
                clear hcle hcc
                go_wp2_with (go_at_call 49; refine hold ?_)
                unfold Hold
                refine HWC.out.mono ?_
                rintro e w2 ⟨v2, rfl, o2, b2⟩
                have HO3 := Aside0.mk (Kd.R_lower o2 HW2.out.size)
                have HB9 := Aside0.mk (HW2.out.trans (b2.mono HW2.out.size))
                clear o2 b2
                obtain ⟨r0, r1, r2⟩ := HYC.out w2 HB9.out
                go_wp2
                go_roundg (n - (i + 1))
                case measure => omega
                case rel => exact HNEXT.out v2 w2 ys 0 rfl HO3.out HB9.out
              · have hk1 : (K y == 1) = false := beq_eq_false_iff_ne.2 (by omega)
                have hk2 : (K y == 2) = false := beq_eq_false_iff_ne.2 (by omega)
                have hk4 : (K y == 4) = false := beq_eq_false_iff_ne.2 (by omega)
                have hys3 : Aside0 (zs = ys) := ⟨by rw [if_neg h1, if_neg (by rintro (h | h); exact h4 h; exact h2 h.1)] at HYS1; exact Option.some.inj HYS1⟩
                go_wp2
                go_roundg (n - (i + 1))
                case measure => omega
                case rel => exact HNEXT.out _ _ _ 0 hys3.out HOL.out HW2.out
    · have hltz : ¬ (i : Int) < (n : Int) := by omega
      obtain rfl : i = n := by omega
      have hre := HRR.out
      rw [List.drop_eq_nil_of_le (by rw [HN.out]; exact Nat.le_refl _), roneL] at hre
      obtain rfl := Option.some.inj hre
      have HE : Aside0 (REnd P K D w xs (.returned (.slice A xs.length c)) wr) := ⟨⟨_, rfl, HO1.out, HB1.out⟩⟩
      clear HO1
      go_wp2
      go_ret
      exact HE.out
end
end Go.Proofs.YthfbcclbappbcaaGreatDoor.Print
end
