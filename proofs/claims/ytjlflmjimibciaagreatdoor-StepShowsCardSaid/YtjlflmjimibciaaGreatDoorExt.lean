/- layer.at: slices.BinarySearchFunc at entries, by their paths: the walk. The search is told as Go's own steps (no order of the list is asked). -/
import Derived.Test.YtjlflmjimibciaaGreatDoorSplitP
import Derived.Defers
import Derived.WalkLawsBesides
import Derived.StillTailTactics
import Derived.BigQuiet
import Derived.Laws.BitsLemmas
import Derived.Deep.LoopGhost
import Derived.Lib.Overlaps
import Derived.Lib.AppendZeros
import Derived.Lib.AppendZerosOnto
import Derived.Laws.NewBlocks
import Derived.Laws.Externs
import Derived.Deep.RegionHeld3
import Derived.MapKept
import Derived.Lib.QuietBelow
import Derived.Carry
section
namespace Go.Proofs.YtjlflmjimibciaaGreatDoor.Print
open Go Go.RowKit Go.Proofs.YtjlflmjimibciaaGreatDoorW.PrintWords Go.Proofs.YtjlflmjimibciaaGreatDoorW.PrintLast Go.Proofs.YtjlflmjimibciaaGreatDoorW.PrintMore
set_option linter.unusedVariables false
set_option linter.unusedSimpArgs false
/-- Go's search: F the paths, from lo to hi. -/
def bsF (F : Nat → ByteArray) (p : ByteArray) : Nat → Nat → Nat → Nat
  | 0, lo, _ => lo
  | n + 1, lo, hi => if lo < hi then (if Lib.compareBytes (F ((lo + hi) / 2)).data.toList p.data.toList < 0 then bsF F p n ((lo + hi) / 2 + 1) hi else bsF F p n lo ((lo + hi) / 2)) else lo
theorem bsF_le (F : Nat → ByteArray) (p : ByteArray) : ∀ (n lo hi : Nat), lo ≤ hi → lo ≤ bsF F p n lo hi ∧ bsF F p n lo hi ≤ hi
  | 0, lo, hi, h => by rw [bsF]; omega
  | n + 1, lo, hi, h => by
    rw [bsF]
    split
    · split
      · have := bsF_le F p n ((lo + hi) / 2 + 1) hi (by omega); omega
      · have := bsF_le F p n lo ((lo + hi) / 2) (by omega); omega
    · omega
theorem bsF_fuel (F : Nat → ByteArray) (p : ByteArray) : ∀ (n m lo hi : Nat), hi - lo ≤ n → hi - lo ≤ m → bsF F p n lo hi = bsF F p m lo hi
  | 0, 0, _, _, _, _ => rfl
  | 0, m + 1, lo, hi, h, _ => by rw [bsF, bsF, if_neg (by omega)]
  | n + 1, 0, lo, hi, _, h => by rw [bsF, bsF, if_neg (by omega)]
  | n + 1, m + 1, lo, hi, h1, h2 => by
    rw [bsF, bsF]
    by_cases hl : lo < hi
    · rw [if_pos hl, if_pos hl, bsF_fuel F p n m ((lo + hi) / 2 + 1) hi (by omega) (by omega), bsF_fuel F p n m lo ((lo + hi) / 2) (by omega) (by omega)]
    · rw [if_neg hl, if_neg hl]
theorem bsF_stop (F : Nat → ByteArray) (p : ByteArray) (n lo hi : Nat) (h : ¬ lo < hi) : bsF F p n lo hi = lo := by
  cases n with
  | zero => rfl
  | succ n => rw [bsF, if_neg h]
theorem bsF_step (F : Nat → ByteArray) (p : ByteArray) (lo hi : Nat) (h : lo < hi) : bsF F p (hi - lo) lo hi = if Lib.compareBytes (F ((lo + hi) / 2)).data.toList p.data.toList < 0 then bsF F p (hi - ((lo + hi) / 2 + 1)) ((lo + hi) / 2 + 1) hi else bsF F p ((lo + hi) / 2 - lo) lo ((lo + hi) / 2) := by
  obtain ⟨j, hj⟩ : ∃ j, hi - lo = j + 1 := ⟨hi - lo - 1, by omega⟩
  rw [hj, bsF, if_pos h, bsF_fuel F p j (hi - ((lo + hi) / 2 + 1)) ((lo + hi) / 2 + 1) hi (by omega) (by omega), bsF_fuel F p j ((lo + hi) / 2 - lo) lo ((lo + hi) / 2) (by omega) (by omega)]
set_option maxHeartbeats 4000000 in
set_option maxRecDepth 100000 in
theorem at1_any (a : ByteArray) (k : Int) (d p : ByteArray) (w : World) :
    Calls Tryz.prog 38 #[.agg #[.string a, .int .i64 k, .string d], .string p] w fun e w' => e = .returned (.int .i64 (Lib.compareBytes a.data.toList p.data.toList)) ∧ Below w.heap.size w w' := by
  have hb : Below w.heap.size w (w.alloc (.cells #[.string a, .int .i64 k, .string d] 41)) := (Below.refl _ _).alloc (Nat.le_refl _) _
  have HB := Aside0.mk hb
  clear hb
  have HC := Any.strings_Compare Tryz.lays106 a p
  go_enter Tryz.func38, Tryz.ntmps38
  go_wp2_with (first | (go_at_call 39; refine (HC _).mono ?_; rintro e w' ⟨rfl, rfl⟩))
  go_ret
  exact ⟨rfl, HB.out⟩
structure RowAt (w : World) (ad : Addr) (n : Nat) (F : Nat → ByteArray) (K : Nat → Int) (D : Nat → ByteArray) : Prop where
  here : ad.block < w.heap.size
  c0 : ∀ i, i < n → w.cell? (ad.add (i * 3)) = some (.string (F i))
  c1 : ∀ i, i < n → w.cell? ⟨(ad.add (i * 3)).block, (ad.add (i * 3)).off + 1, none⟩ = some (.int .i64 (K i))
  c2 : ∀ i, i < n → w.cell? ⟨(ad.add (i * 3)).block, (ad.add (i * 3)).off + 2, none⟩ = some (.string (D i))
theorem add_block (ad : Addr) (m : Nat) : (ad.add m).block = ad.block := by unfold Addr.add; split <;> rfl
theorem RowAt.below {w W : World} {ad : Addr} {n : Nat} {F : Nat → ByteArray} {K : Nat → Int} {D : Nat → ByteArray} (h : RowAt w ad n F K D) (hb : Below w.heap.size w W) : RowAt W ad n F K D :=
  ⟨Nat.lt_of_lt_of_le h.here hb.size, fun i hi => (hb.cell (p := ad.add (i * 3)) (by rw [add_block]; exact h.here)).trans (h.c0 i hi), fun i hi => (hb.cell (p := ⟨(ad.add (i * 3)).block, _, none⟩) (by show (ad.add (i * 3)).block < _; rw [add_block]; exact h.here)).trans (h.c1 i hi), fun i hi => (hb.cell (p := ⟨(ad.add (i * 3)).block, _, none⟩) (by show (ad.add (i * 3)).block < _; rw [add_block]; exact h.here)).trans (h.c2 i hi)⟩
set_option maxHeartbeats 8000000 in
set_option maxRecDepth 100000 in
theorem search_any (ad : Addr) (n c : Nat) (F : Nat → ByteArray) (K : Nat → Int) (D : Nat → ByteArray) (p : ByteArray) (w : World) (hn : n < 4611686018427387904) (hR : RowAt w ad n F K D) :
    Calls Tryz.prog 37 #[.slice (some ad) n c, .string p, .func (.func 38) #[] #[]] w fun e w' =>
      e = .returned (.tuple #[.int .i64 (bsF F p n 0 n : Nat), .bool (decide (bsF F p n 0 n < n) && decide (Lib.compareBytes (F (bsF F p n 0 n)).data.toList p.data.toList = 0))]) ∧ Below w.heap.size w w' := by
  have ef : ∀ args w, (callFunc 38 args).run Tryz.prog w = .ok (.enter 38 args) w := fun _ _ => by kernel_rfl
  have HR := Aside0.mk hR
  have HB := Aside0.mk (Below.refl w.heap.size w)
  have HN := Aside0.mk hn
  clear hR
  generalize hres : bsF F p n 0 n = res
  have RES := Aside0.mk hres
  clear hres
  go_enter Tryz.func37, Tryz.ntmps37
  go_wp2
  go_loopg [9, 10] n (fun kx s9 s10 wr => ∃ lo hi : Nat, s9 = .int .i64 lo ∧ s10 = .int .i64 hi ∧ lo ≤ hi ∧ hi ≤ n ∧ hi - lo ≤ kx ∧ Aside0 (Below w.heap.size w wr) ∧ Aside0 (bsF F p (hi - lo) lo hi = res))
  case atStart => exact ⟨0, n, rfl, rfl, Nat.zero_le _, Nat.le_refl _, by omega, HB, RES⟩
  case round =>
    obtain ⟨lo, hi, rfl, rfl, hlh, hin, hg, HB1, RES1⟩ := hrel
    have r1 := HR.out.below HB1.out
    by_cases hlt : lo < hi
    · have cc0 := r1.c0 ((lo + hi) / 2) (by omega)
      have cc1 := r1.c1 ((lo + hi) / 2) (by omega)
      have cc2 := r1.c2 ((lo + hi) / 2) (by omega)
      have R1 := Aside0.mk r1
      clear r1
      by_cases hyx : Lib.compareBytes (F ((lo + hi) / 2)).data.toList p.data.toList < 0
      · have hyb := decide_eq_true hyx
        go_wp2_with (go_at_call 38; refine (at1_any _ _ _ _ _).mono ?_; rintro e w' ⟨rfl, hb⟩)
        go_roundg (hi - ((lo + hi) / 2 + 1))
        case measure => omega
        case rel =>
          exact ⟨(lo + hi) / 2 + 1, hi, by first | rfl | rw [show ((lo : Int) + (hi : Int)) / 2 + 1 = (((lo + hi) / 2 + 1 : Nat) : Int) by omega], rfl, by omega, hin, Nat.le_refl _, ⟨HB1.out.trans (hb.mono HB1.out.size)⟩, ⟨by have := RES1.out; rw [bsF_step F p lo hi hlt, if_pos hyx] at this; exact this⟩⟩
      · have hyb := decide_eq_false hyx
        go_wp2_with (go_at_call 38; refine (at1_any _ _ _ _ _).mono ?_; rintro e w' ⟨rfl, hb⟩)
        go_roundg ((lo + hi) / 2 - lo)
        case measure => omega
        case rel =>
          exact ⟨lo, (lo + hi) / 2, rfl, by first | rfl | rw [show ((lo : Int) + (hi : Int)) / 2 = (((lo + hi) / 2 : Nat) : Int) by omega], by omega, by omega, Nat.le_refl _, ⟨HB1.out.trans (hb.mono HB1.out.size)⟩, ⟨by have := RES1.out; rw [bsF_step F p lo hi hlt, if_neg (Int.not_lt.2 (by first | exact hyx | omega))] at this; exact this⟩⟩
    · obtain rfl : hi = lo := by omega
      have hres : hi = res := by have := RES1.out; rw [bsF_stop F p _ hi hi hlt] at this; exact this
      subst hres
      by_cases hn2 : hi < n
      · have cc0 := r1.c0 hi hn2
        have cc1 := r1.c1 hi hn2
        have cc2 := r1.c2 hi hn2
        clear r1
        go_wp2_with (go_at_call 38; refine (at1_any _ _ _ _ _).mono ?_; rintro e w' ⟨rfl, hb⟩)
        go_ret2
        exact ⟨by simp [hn2]; rfl, HB1.out.trans (hb.mono HB1.out.size)⟩
      · clear r1
        go_wp2
        go_ret2
        exact ⟨by simp [hn2], HB1.out⟩
set_option maxHeartbeats 4000000 in
set_option maxRecDepth 100000 in
theorem search_zero (A : Option Addr) (c : Nat) (p : ByteArray) (v : Value) (w : World) :
    Calls Tryz.prog 37 #[.slice A 0 c, .string p, v] w fun e w' =>
      e = .returned (.tuple #[.int .i64 0, .bool false]) ∧ Below w.heap.size w w' := by
  have HB := Aside0.mk (Below.refl w.heap.size w)
  go_enter Tryz.func37, Tryz.ntmps37
  go_wp2
  refine wp_loop_rounds 1 ?_
  rw [rounds_succ]
  go_wp2
  go_ret2
  exact ⟨rfl, HB.out⟩
set_option maxHeartbeats 4000000 in
set_option maxRecDepth 100000 in
/-- layer.at: Go's own search; whatever the list. -/
theorem at_row (A : Option Addr) (n c : Nat) (F : Nat → ByteArray) (K : Nat → Int) (D : Nat → ByteArray) (p : ByteArray) (w : World) (hn : n < 4611686018427387904) (h : n = 0 ∨ ∃ ad, A = some ad ∧ RowAt w ad n F K D) :
    Calls Tryz.prog 25 #[.slice A n c, .string p] w fun e w' =>
      e = .returned (.tuple #[.int .i64 (bsF F p n 0 n : Nat), .bool (decide (bsF F p n 0 n < n) && decide (Lib.compareBytes (F (bsF F p n 0 n)).data.toList p.data.toList = 0))]) ∧ Below w.heap.size w w' := by
  have H : Calls Tryz.prog 37 #[.slice A n c, .string p, .func (.func 38) #[] #[]] w fun e w' =>
      e = .returned (.tuple #[.int .i64 (bsF F p n 0 n : Nat), .bool (decide (bsF F p n 0 n < n) && decide (Lib.compareBytes (F (bsF F p n 0 n)).data.toList p.data.toList = 0))]) ∧ Below w.heap.size w w' := by
    rcases h with rfl | ⟨ad, rfl, hR⟩
    · have e0 : bsF F p 0 0 0 = 0 := rfl
      rw [e0]
      exact search_zero A c p _ w
    · exact search_any ad n c F K D p w hn hR
  clear h
  go_enter Tryz.func25, Tryz.ntmps25
  go_wp2_with (go_at_call 37; refine H.mono ?_; rintro e w' ⟨rfl, hb⟩)
  go_ret2
  exact ⟨rfl, hb⟩
end Go.Proofs.YtjlflmjimibciaaGreatDoor.Print
end

section
namespace Go.Proofs.YtjlflmjimibciaaGreatDoor.Print
open Go Go.RowKit Go.Proofs.YtjlflmjimibciaaGreatDoorW.PrintWords Go.Proofs.YtjlflmjimibciaaGreatDoorW.PrintLast Go.Proofs.YtjlflmjimibciaaGreatDoorW.PrintMore
set_option linter.unusedVariables false
set_option linter.unusedSimpArgs false
section
variable {α : Type} (P : α → ByteArray) (K : α → Int) (D : α → ByteArray)
/-- An entry's cells. -/
def e3 (x : α) : List Value := [.string (P x), .int .i64 (K x), .string (D x)]
def kd3 : Kd α := Kd.iso (Kd.pair Kd.string (Kd.pair (Kd.int .i64) Kd.string)) (fun x => (P x, K x, D x))
theorem flat3 : Flat (kd3 P K D) (e3 P K D) where
  len := fun _ => rfl
  pos := (by show 0 < 3; omega)
  one := fun x u hu => by simp [e3] at hu; rcases hu with rfl | rfl | rfl <;> rfl
  K := fun w x cs => by
    constructor
    · rintro ⟨_, _, rfl, rfl, ⟨_, _, rfl, rfl, rfl⟩⟩; rfl
    · rintro rfl; exact ⟨[_], [_, _], rfl, rfl, ⟨[_], [_], rfl, rfl, rfl⟩⟩
  M := fun w b ok x cs => by
    constructor
    · rintro ⟨_, _, rfl, rfl, ⟨_, _, rfl, rfl, rfl⟩⟩; rfl
    · rintro rfl; exact ⟨[_], [_, _], rfl, rfl, ⟨[_], [_], rfl, rfl, rfl⟩⟩
theorem sz3 : (kd3 P K D).sz = 3 := rfl
abbrev c3 (xs : List α) : List Value := encL (e3 P K D) xs
theorem c3_len (xs : List α) : (c3 P K D xs).length = xs.length * 3 := encL_length (flat3 P K D) xs
theorem c3_take (xs : List α) (n : Nat) : (c3 P K D xs).take (n * 3) = c3 P K D (xs.take n) := encL_take (flat3 P K D) xs n
theorem c3_drop (xs : List α) (n : Nat) : (c3 P K D xs).drop (n * 3) = c3 P K D (xs.drop n) := encL_drop (flat3 P K D) xs n
theorem c3_append (xs ys : List α) : c3 P K D (xs ++ ys) = c3 P K D xs ++ c3 P K D ys := List.flatMap_append
theorem c3_cons (x : α) (ys : List α) : c3 P K D (x :: ys) = e3 P K D x ++ c3 P K D ys := rfl
theorem c3_one (xs : List α) : ∀ u ∈ c3 P K D xs, u.oneCell' = true := encL_one (flat3 P K D) xs
theorem c3_get {xs : List α} {i : Nat} {x : α} (h : xs[i]? = some x) (j : Nat) (hj : j < 3) : (c3 P K D xs)[i * 3 + j]? = (e3 P K D x)[j]? := by
  obtain ⟨hl, rfl⟩ := List.getElem?_eq_some_iff.1 h
  have e := c3_drop P K D xs i
  rw [List.drop_eq_getElem_cons hl, c3_cons] at e
  have : (c3 P K D xs)[i * 3 + j]? = ((c3 P K D xs).drop (i * 3))[j]? := by rw [List.getElem?_drop]
  rw [this, e, List.getElem?_append_left (by simpa [e3] using hj)]
/-- The cells that are read at a list's places. -/
def At3 (w : World) (ad : Addr) (xs : List α) : Prop := ∀ j u, (c3 P K D xs)[j]? = some u → w.cell? (ad.add j) = some u
theorem At3.get {w : World} {ad : Addr} {xs : List α} (h : At3 P K D w ad xs) {i : Nat} {x : α} (hx : xs[i]? = some x) :
    w.cell? (ad.add (i * 3)) = some (.string (P x)) ∧ w.cell? ⟨(ad.add (i * 3)).block, (ad.add (i * 3)).off + 1, none⟩ = some (.int .i64 (K x)) ∧ w.cell? ⟨(ad.add (i * 3)).block, (ad.add (i * 3)).off + 2, none⟩ = some (.string (D x)) := by
  refine ⟨h (i * 3) _ ?_, ?_, ?_⟩
  · have := c3_get P K D hx 0 (by omega); simpa [e3] using this
  · rw [← add_field _ _ 1 (by omega)]; exact h _ _ (by have := c3_get P K D hx 1 (by omega); simpa [e3] using this)
  · rw [← add_field _ _ 2 (by omega)]; exact h _ _ (by have := c3_get P K D hx 2 (by omega); simpa [e3] using this)
theorem At3.below {w W : World} {ad : Addr} {xs : List α} (h : At3 P K D w ad xs) (hb : Below w.heap.size w W) : At3 P K D W ad xs := fun j u hu => by
  have h0 := h j u hu
  exact (hb.cell (World.block_lt_of_cell? _ _ h0)).trans h0
/-- What the search for the first gives. -/
def idx3 (q : α → Bool) (xs : List α) : Int := match xs.findIdx? q with | some i => (i : Int) | none => -1
/-- What is asked of a predicate: in every world of a kind it answers q, and lays but blocks of its own. -/
def Gives (G : Nat) (caps : Array Value) (q : α → Bool) (W : World) (xs : List α) : Prop :=
  ∀ x ∈ xs, Calls Tryz.prog G (#[.agg #[.string (P x), .int .i64 (K x), .string (D x)]] ++ caps) W fun e W' => e = .returned (.bool (q x)) ∧ Below W.heap.size W W'
theorem findIdx_snoc_none {q : α → Bool} {xs : List α} {k : Nat} (h : ∀ j, j < k → ∀ x, xs[j]? = some x → q x = false) {x : α} (hx : xs[k]? = some x) (hq : q x = true) : xs.findIdx? q = some k := by
  rw [List.findIdx?_eq_some_iff_getElem]
  obtain ⟨hl, e⟩ := List.getElem?_eq_some_iff.1 hx
  refine ⟨hl, by rw [e]; exact hq, fun j hj => ?_⟩
  rw [h j hj _ (List.getElem?_eq_getElem (by omega))]; simp
theorem findIdx_all_none {q : α → Bool} {xs : List α} (h : ∀ j, j < xs.length → ∀ x, xs[j]? = some x → q x = false) : xs.findIdx? q = none := by
  rw [List.findIdx?_eq_none_iff]
  intro x hx
  obtain ⟨j, hj, rfl⟩ := List.mem_iff_getElem.1 hx
  exact h j hj _ (List.getElem?_eq_getElem hj)
set_option maxHeartbeats 4000000 in
set_option maxRecDepth 100000 in
theorem indexFunc_at (ad : Addr) (c : Nat) (xs : List α) (G : Nat) (caps : Array Value) (q : α → Bool) (w : World) (eg : ∀ args w, (callFunc G args).run Tryz.prog w = .ok (.enter G args) w)
    (hn : xs.length < 4611686018427387904) (hA : At3 P K D w ad xs) (hq : ∀ W, Below w.heap.size w W → Gives P K D G caps q W xs) :
    Calls Tryz.prog 46 #[.slice (some ad) xs.length c, .func (.func G) #[] caps] w fun e w' => e = .returned (.int .i64 (idx3 q xs)) ∧ Below w.heap.size w w' := by
  have HA := Aside0.mk hA
  have HQ := Aside0.mk hq
  clear hA hq
  generalize hlen : xs.length = n at hn ⊢
  have HN := Aside0.mk hlen
  clear hlen
  go_enter Tryz.func46, Tryz.ntmps46
  go_wp2
  go_loopg [5, 8] n (fun gg _ s8 wr => ∃ kk : Nat, kk ≤ n ∧ n - kk ≤ gg ∧ s8 = .int .i64 kk ∧ Aside0 (Below w.heap.size w wr) ∧ Aside0 (∀ j, j < kk → ∀ x, xs[j]? = some x → q x = false))
  case atStart => exact ⟨0, Nat.zero_le _, by omega, rfl, ⟨Below.refl _ w⟩, ⟨fun j hj => absurd hj (Nat.not_lt_zero _)⟩⟩
  case round =>
    obtain ⟨kk, hkk, hg, rfl, BW, A⟩ := hrel
    by_cases hlt : kk < n
    · have hltz : (kk : Int) < (n : Int) := by omega
      obtain ⟨x, hx⟩ : ∃ x, xs[kk]? = some x := ⟨_, List.getElem?_eq_getElem (by rw [HN.out]; exact hlt)⟩
      obtain ⟨cc0, cc1, cc2⟩ := At3.get P K D (At3.below P K D HA.out BW.out) hx
      have hcall := HQ.out wr BW.out x (List.mem_of_getElem? hx)
      have HX := Aside0.mk hx
      clear hx
      cases hqx : q x with
      | true =>
        rw [hqx] at hcall
        have HQX := Aside0.mk hqx
        clear hqx
        go_wp2_with (go_at_fn G; refine hcall.mono ?_; rintro e w' ⟨rfl, hb'⟩)
        go_ret
        refine ⟨?_, BW.out.trans (hb'.mono BW.out.size)⟩
        unfold idx3
        rw [findIdx_snoc_none A.out HX.out HQX.out]
        rfl
      | false =>
        rw [hqx] at hcall
        have HQX := Aside0.mk hqx
        clear hqx
        go_wp2_with (go_at_fn G; refine hcall.mono ?_; rintro e w' ⟨rfl, hb'⟩)
        go_roundg (n - (kk + 1))
        case measure => omega
        case rel =>
          refine ⟨kk + 1, by omega, by omega, by go_num, ⟨BW.out.trans (hb'.mono BW.out.size)⟩, ⟨fun j hj y hy => ?_⟩⟩
          by_cases e : j = kk
          · subst e
            rw [HX.out] at hy
            obtain rfl := Option.some.inj hy
            exact HQX.out
          · exact A.out j (by omega) y hy
    · have hltz : ¬ (kk : Int) < (n : Int) := by omega
      obtain rfl : kk = n := by omega
      go_wp2
      go_ret
      refine ⟨?_, BW.out⟩
      unfold idx3
      rw [findIdx_all_none (fun j hj => A.out j (by rw [← HN.out]; exact hj))]
      rfl
theorem splice_take {cur : List Value} {o : Nat} {cs : List Value} (h : o + cs.length ≤ cur.length) : (splice cur o cs).take o = cur.take o := by
  unfold splice
  rw [List.take_append_of_le_length (by rw [List.length_take]; omega), List.take_take, Nat.min_self]
theorem splice_take2 {cur : List Value} {o : Nat} {cs : List Value} (h : o + cs.length ≤ cur.length) : (splice cur o cs).take (o + cs.length) = cur.take o ++ cs := by
  unfold splice
  rw [← List.append_assoc, List.take_append_of_le_length (by simp; omega), List.take_of_length_le (by simp; omega)]
theorem splice_drop {cur : List Value} {o : Nat} {cs : List Value} (h : o + cs.length ≤ cur.length) : (splice cur o cs).drop (o + cs.length) = cur.drop (o + cs.length) := by
  unfold splice
  rw [← List.append_assoc, List.drop_append, List.drop_eq_nil_of_le (by simp; omega), List.nil_append]
  have : o + cs.length - (cur.take o ++ cs).length = 0 := by simp; omega
  rw [this, List.drop_zero]
section
variable {Pg : Program} {ops : Array Oper} {rest : List Oper} {o : Oper} {a : Act} {Q : Exit → Act → World → Prop} {w : World}
/-- A store of a whole element into a row of one block. -/
theorem wp_store_blk (hgd : o.guard = none) (t : TypeId) (x y : Operand) (ho : o.op = .store t x y) (k : Nat) (hs : (Pg.info? t).map (·.size) = some k)
    (g off : Nat) (hx : a.eval x = .pointer (some ⟨g, off, none⟩)) (v : Value) (hy : a.eval y = v) (cs : List Value) (hv : v.cells.toList = cs) (hl : cs.length = k) (cur : List Value) (tt : TypeId) (hg : Blk w g tt cur)
    (hfit : off + cs.length ≤ cur.length) (h1 : ∀ u ∈ cs, u.oneCell' = true) {B : Nat} {w0 : World} (hb : Below B w0 w) (hBg : B ≤ g)
    (h : ∀ w', Aside0 (Blk w' g tt (splice cur off cs)) → Aside0 (KB w w' g) → Aside0 (Below B w0 w') → wpList Pg ops Q rest (a.put o.dst undef) w') : wpList Pg ops Q (o :: rest) a w := by
  refine wpList_plain hgd fun K hK => ?_
  cases hq : Pg.info? t with
  | none => simp [hq] at hs
  | some i =>
    have hi : i.size = k := by simpa [hq] using hs
    have hst := run_storeCells_at Pg g off tt cs 0 cur.toArray w hg (by simpa using hfit) h1
    have hvs : v.cells.size = k := by rw [← hl, ← hv]; simp
    unfold Oper.wp
    simp [execOp, ho, hx, hy, Instr.storeAt, Instr.sureAddr, storeVar, sizeOf, typeInfo, hq, hi, hvs, hv, hst, Result.andThen]
    exact hK _ _ (h _ ⟨hg.set _⟩ ⟨KB.setRow _ _ _⟩ ⟨below_setRow hb hBg _⟩)
end
theorem gate_st3 {Pg : Program} {ops : Array Oper} {rest : List Oper} {o : Oper} {a : Act} {Q : Exit → Act → World → Prop} {w : World} {t : TypeId} {x y : Operand} (_ho : o.op = .store t x y) (h : wpList Pg ops Q (o :: rest) a w) : wpList Pg ops Q (o :: rest) a w := h
def Hold (p : Prop) : Prop := p
theorem hold {p : Prop} (h : Hold p) : p := h
theorem box3 {W W' : World} {a b c : Value} {t : TypeId} (hb : Below (W.alloc (.cells #[a, b, c] t)).heap.size (W.alloc (.cells #[a, b, c] t)) W') :
    W'.cell? ⟨W.heap.size, 0, none⟩ = some a ∧ W'.cell? ⟨W.heap.size, 1, none⟩ = some b ∧ W'.cell? ⟨W.heap.size, 2, none⟩ = some c := by
  refine ⟨(hb.cell (p := ⟨W.heap.size, 0, none⟩) (by simp)).trans (by simp), (hb.cell (p := ⟨W.heap.size, 1, none⟩) (by simp)).trans (by simp), (hb.cell (p := ⟨W.heap.size, 2, none⟩) (by simp)).trans (by simp)⟩
theorem Blk.below {w W : World} {g e : Nat} {cur : List Value} (h : Blk w g e cur) (hb : Below w.heap.size w W) : Blk W g e cur := (hb.block g h.lt).trans h
theorem Tryz.size3 : (Tryz.prog.info? 41).map (·.size) = some 3 := by kernel_rfl
theorem Tryz.zero3 (w : World) : (zeroValue 41).run Tryz.prog w = .ok (.agg #[.string ⟨#[]⟩, .int .i64 0, .string ⟨#[]⟩]) w := by kernel_rfl
theorem Blk.at3 {w : World} {g e : Nat} {cur : List Value} (h : Blk w g e cur) {xs : List α} (ht : cur.take (xs.length * 3) = c3 P K D xs) : At3 P K D w ⟨g, 0, none⟩ xs := fun j u hu => by
  rw [addr_add, Nat.zero_add]
  refine h.cell ?_
  rw [← ht, List.getElem?_take] at hu
  split at hu
  · exact hu
  · cases hu
theorem filt_snoc (q : α → Bool) (xs : List α) {j : Nat} {x : α} (hx : xs[j]? = some x) : (xs.take (j + 1)).filter (fun x => !q x) = (xs.take j).filter (fun x => !q x) ++ (if q x then [] else [x]) := by
  rw [List.take_add_one, hx, List.filter_append]
  simp only [Option.toList_some, List.filter_cons, List.filter_nil]
  cases q x <;> simp
theorem filt_first (q : α → Bool) (xs : List α) {k : Nat} (h : xs.findIdx? q = some k) : k < xs.length ∧ (xs.take k).filter (fun x => !q x) = xs.take k ∧ ∀ x, xs[k]? = some x → q x = true := by
  obtain ⟨hk, h1, h2⟩ := List.findIdx?_eq_some_iff_getElem.1 h
  refine ⟨hk, List.filter_eq_self.2 fun x hx => ?_, fun x hx => ?_⟩
  · obtain ⟨j, hj, rfl⟩ := List.mem_iff_getElem.1 hx
    rw [List.length_take] at hj
    rw [List.getElem_take]
    have := h2 j (by omega)
    simpa using this
  · rw [List.getElem?_eq_getElem hk] at hx
    rw [← Option.some.inj hx]; exact h1
theorem filt_none (q : α → Bool) (xs : List α) (h : xs.findIdx? q = none) : xs.filter (fun x => !q x) = xs := by
  rw [List.filter_eq_self]
  intro x hx
  rw [List.findIdx?_eq_none_iff.1 h x hx]; rfl
set_option maxHeartbeats 8000000 in
set_option maxRecDepth 100000 in
/-- slices.DeleteFunc on a row of one block. -/
theorem deleteFunc_blk (g cap : Nat) (cur : List Value) (xs : List α) (G : Nat) (caps : Array Value) (q : α → Bool) (w0 w : World) (eg : ∀ args w, (callFunc G args).run Tryz.prog w = .ok (.enter G args) w)
    (hB : Below w0.heap.size w0 w) (hge : w0.heap.size ≤ g) (hg : Blk w g 41 cur) (hnc : xs.length ≤ cap) (hcm : cap ≤ 9223372036854775807) (hn : xs.length < 4611686018427387904) (hcs : cur.length = cap * 3) (ht : cur.take (xs.length * 3) = c3 P K D xs)
    (hq : ∀ W, KB w W g → Gives P K D G caps q W xs) :
    Calls Tryz.prog 44 #[.slice (some ⟨g, 0, none⟩) xs.length cap, .func (.func G) #[] caps] w fun e w' =>
      e = .returned (.slice (some ⟨g, 0, none⟩) (xs.filter fun x => !q x).length cap) ∧ (∃ cur', Blk w' g 41 cur' ∧ cur'.length = cap * 3 ∧ cur'.take ((xs.filter fun x => !q x).length * 3) = c3 P K D (xs.filter fun x => !q x)) ∧ KB w w' g ∧ Below w0.heap.size w0 w' := by
  have HI := Aside0.mk (indexFunc_at P K D ⟨g, 0, none⟩ cap xs G caps q w eg hn (hg.at3 P K D ht) (fun W hb => hq W (KB.below hb g)))
  have HQ := Aside0.mk hq
  have HB := Aside0.mk hB
  have HG := Aside0.mk hg
  have HC := Aside0.mk hcs
  have HT := Aside0.mk ht
  clear hq hB hg hcs ht
  cases hf : xs.findIdx? q with
  | none =>
    rw [filt_none q xs hf]
    have hi : idx3 q xs = -1 := by unfold idx3; rw [hf]
    rw [hi] at HI
    go_enter Tryz.func44, Tryz.ntmps44
    go_wp2_with (first | (go_at_call 46; refine HI.out.mono ?_; rintro e w' ⟨rfl, hb'⟩))
    go_ret
    exact ⟨rfl, ⟨cur, HG.out.below hb', HC.out, HT.out⟩, KB.below hb' g, HB.out.trans (hb'.mono HB.out.size)⟩
  | some k0 =>
    obtain ⟨hk0, hkt, hkq⟩ := filt_first q xs hf
    have hi : idx3 q xs = (k0 : Int) := by unfold idx3; rw [hf]
    rw [hi] at HI
    have HK := Aside0.mk hkt
    have HKQ := Aside0.mk hkq
    clear hi hkt hkq hf
    generalize hlen : xs.length = n at hnc hn hk0 HT ⊢
    rw [hlen] at HI
    have HN := Aside0.mk hlen
    clear hlen
    have hne1 : ((k0 : Int) == -1) = false := beq_eq_false_iff_ne.2 (by omega)
    have hne2 : ((k0 : Int) != -1) = true := bne_iff_ne.2 (by omega)
    go_enter Tryz.func44, Tryz.ntmps44
    go_wp2_with (first | (go_at_call 46; refine HI.out.mono ?_; rintro e w' ⟨rfl, hb'⟩))
    go_loopg [5, 6] n (fun gg s5 s6 wr => ∃ (i j : Nat) (cj : List Value), s5 = .int .i64 i ∧ s6 = .int .i64 j ∧ i < j ∧ j ≤ n ∧ n - j ≤ gg ∧ Aside0 (Blk wr g 41 cj) ∧ Aside0 (KB w wr g) ∧ Aside0 (Below w0.heap.size w0 wr) ∧ Aside0 (cj.length = cap * 3) ∧
      Aside0 (((xs.take j).filter fun x => !q x).length = i) ∧ Aside0 (cj.take (i * 3) = c3 P K D ((xs.take j).filter fun x => !q x)) ∧ Aside0 (cj.drop (j * 3) = cur.drop (j * 3)))
    case atStart =>
      obtain ⟨x0, hx0⟩ : ∃ x, xs[k0]? = some x := ⟨_, List.getElem?_eq_getElem (by rw [HN.out]; exact hk0)⟩
      have e1 : (xs.take (k0 + 1)).filter (fun x => !q x) = xs.take k0 := by rw [filt_snoc q xs hx0, HK.out, HKQ.out x0 hx0, if_pos rfl, List.append_nil]
      refine ⟨k0, k0 + 1, cur, rfl, rfl, by omega, by omega, by omega, ⟨HG.out.below hb'⟩, ⟨KB.below hb' g⟩, ⟨HB.out.trans (hb'.mono HB.out.size)⟩, HC, ⟨?_⟩, ⟨?_⟩, ⟨rfl⟩⟩
      · rw [e1, List.length_take]; have := HN.out; omega
      · rw [e1, ← c3_take, ← HT.out, List.take_take, Nat.min_eq_left (by omega)]
    case round =>
      obtain ⟨i, j, cj, rfl, rfl, hij, hjn, hgg, BL, KK, BB, LL, II, TT, DD⟩ := hrel
      by_cases hlt : j < n
      · have hltz : (j : Int) < (n : Int) := by omega
        obtain ⟨x, hx⟩ : ∃ x, xs[j]? = some x := ⟨_, List.getElem?_eq_getElem (by rw [HN.out]; exact hlt)⟩
        have hcell : ∀ m u, m < 3 → (e3 P K D x)[m]? = some u → wr.cell? ⟨g, j * 3 + m, none⟩ = some u := fun m u hm hu => by
          refine BL.out.cell ?_
          have e1 : (cj.drop (j * 3))[m]? = (cur.drop (j * 3))[m]? := by rw [DD.out]
          rw [List.getElem?_drop, List.getElem?_drop] at e1
          rw [e1, ← hu, ← c3_get P K D hx m hm, ← HT.out, List.getElem?_take, if_pos (by omega)]
        have cc0 := hcell 0 _ (by omega) rfl
        have cc1 := hcell 1 _ (by omega) rfl
        have cc2 := hcell 2 _ (by omega) rfl
        rw [Nat.add_zero] at cc0
        clear hcell
        have HX := Aside0.mk hx
        clear hx
        have hkb : KB w ((wr.alloc (.cells #[.string (P x), .int .i64 (K x), .string (D x)] 41))) g := KK.out.trans (KB.below ((Below.refl _ _).alloc (Nat.le_refl _) _) g)
        have hcall := HQ.out _ hkb x (List.mem_of_getElem? HX.out)
        have HKB := Aside0.mk hkb
        clear hkb
        have BB1 : Aside0 (Below w0.heap.size w0 (wr.alloc (.cells #[.string (P x), .int .i64 (K x), .string (D x)] 41))) := ⟨BB.out.alloc BB.out.size _⟩
        have BL1 : Aside0 (Blk (wr.alloc (.cells #[.string (P x), .int .i64 (K x), .string (D x)] 41)) g 41 cj) := ⟨BL.out.below ((Below.refl _ _).alloc (Nat.le_refl _) _)⟩
        cases hqx : q x with
        | false =>
          rw [hqx] at hcall
          have HQX := Aside0.mk hqx
          clear hqx
          go_wp2
          go_at_fn G
          refine hcall.mono ?_
          rintro e w' ⟨rfl, hb'⟩
          obtain ⟨b0, b1, b2⟩ := box3 hb'
          go_wp2_with (first
            | ((with_reducible refine gate_st3 (x := .tmp 33) (y := .tmp 32) rfl ?_); refine hold ?_))
          unfold Hold
          refine wp_store_blk rfl 41 (.tmp 33) (.tmp 32) rfl 3 Tryz.size3 g (i * 3) rfl _ rfl (e3 P K D x) rfl rfl cj 41 (BL1.out.below hb') ?hf (by intro u hu; simp [e3] at hu; rcases hu with rfl | rfl | rfl <;> rfl) (B := w0.heap.size) (w0 := w0) (BB1.out.trans (hb'.mono BB1.out.size)) hge ?_
          case hf => have := LL.out; simp [e3]; omega
          intro w2 hg2 hk2 hb2
          go_wp2
          go_roundg (n - (j + 1))
          case measure => omega
          case rel =>
            have hsl : i * 3 + (e3 P K D x).length ≤ cj.length := by have := LL.out; simp [e3]; omega
            refine ⟨i + 1, j + 1, _, by go_num, by go_num, by omega, by omega, Nat.le_refl _, hg2, ⟨(HKB.out.trans (KB.below hb' g)).trans hk2.out⟩, hb2, ⟨by rw [length_splice _ _ _ hsl]; exact LL.out⟩, ⟨?_⟩, ⟨?_⟩, ⟨?_⟩⟩
            · rw [filt_snoc q xs HX.out, HQX.out]; simp; exact II.out
            · rw [filt_snoc q xs HX.out, HQX.out, c3_append, ← TT.out, Nat.add_mul, Nat.one_mul]
              exact splice_take2 hsl
            · have e1 : ∀ L : List Value, L.drop ((j + 1) * 3) = (L.drop (i * 3 + (e3 P K D x).length)).drop ((j + 1) * 3 - (i * 3 + 3)) := fun L => by
                rw [List.drop_drop]; congr 1; simp [e3]; omega
              rw [e1, splice_drop hsl, ← e1]
              have e2 : (j + 1) * 3 = j * 3 + 3 := by omega
              rw [e2, ← List.drop_drop, ← List.drop_drop, DD.out]
        | true =>
          rw [hqx] at hcall
          have HQX := Aside0.mk hqx
          clear hqx
          go_wp2_with (go_at_fn G; refine hcall.mono ?_; rintro e w' ⟨rfl, hb'⟩)
          go_roundg (n - (j + 1))
          case measure => omega
          case rel =>
            refine ⟨i, j + 1, cj, rfl, by go_num, by omega, by omega, Nat.le_refl _, ⟨BL1.out.below hb'⟩, ⟨HKB.out.trans (KB.below hb' g)⟩, ⟨BB1.out.trans (hb'.mono BB1.out.size)⟩, LL, ⟨?_⟩, ⟨?_⟩, ⟨?_⟩⟩
            · rw [filt_snoc q xs HX.out, HQX.out]; simp; exact II.out
            · rw [filt_snoc q xs HX.out, HQX.out, TT.out]; simp
            · have e2 : (j + 1) * 3 = j * 3 + 3 := by omega
              rw [e2, ← List.drop_drop, ← List.drop_drop, DD.out]
      · obtain rfl : j = n := by omega
        have e0 : xs.take j = xs := List.take_of_length_le (by rw [HN.out]; omega)
        have II2 : Aside0 ((xs.filter fun x => !q x).length = i) := ⟨by have := II.out; rwa [e0] at this⟩
        have TT2 : Aside0 (cj.take (i * 3) = c3 P K D (xs.filter fun x => !q x)) := ⟨by have := TT.out; rwa [e0] at this⟩
        clear e0
        have hin : i ≤ j := by omega
        have hic : ¬ cap = i := by omega
        go_wp2_with (first
          | ((with_reducible refine gate_builtin (b := .clear) (xs := #[.tmp 38]) rfl ?_); refine hold ?_))
        unfold Hold
        refine wp_clear rfl (.tmp 38) 22 41 3 rfl _ Tryz.underlying22 Tryz.zero3 rfl (by simp [Value.cells, Value.oneCell']) g (i * 3) (j - i) (cap - i) _ rfl cj 41 BL.out (fun _ => rfl) ?hfit BB.out hge ?_
        case hfit => have := LL.out; omega
        intro w2 zs hz hg2 hk2 hb2
        have hsl : i * 3 + zs.length ≤ cj.length := by have := LL.out; omega
        go_wp2
        go_ret
        refine ⟨by rw [II2.out]; rfl, ⟨_, hg2.out, by rw [length_splice _ _ _ hsl]; exact LL.out, ?_⟩, KK.out.trans hk2.out, hb2.out⟩
        rw [II2.out, splice_take hsl]
        exact TT2.out
end
end Go.Proofs.YtjlflmjimibciaaGreatDoor.Print
end

section
namespace Go.Proofs.YtjlflmjimibciaaGreatDoor.Print
open Go Go.RowKit Go.Proofs.YtjlflmjimibciaaGreatDoorW.PrintWords Go.Proofs.YtjlflmjimibciaaGreatDoorW.PrintLast Go.Proofs.YtjlflmjimibciaaGreatDoorW.PrintMore
set_option linter.unusedVariables false
set_option linter.unusedSimpArgs false
theorem Tryz.info3 : (Tryz.prog.info? 41).map (fun i => (i.zero, i.size, i.bytes)) = some (some (.agg #[.string ⟨#[]⟩, .int .i64 0, .string ⟨#[]⟩]), 3, 40) := by kernel_rfl
section
variable {α : Type} (P : α → ByteArray) (K : α → Int) (D : α → ByteArray)
/-- A row of the call's own: of the blocks S, or a new one. -/
abbrev Own3 (w : World) (base : Nat) (S : Nat → Prop) (v : Value) (xs : List α) : Prop := Kd.R (kd3 P K D) 41 w base S v xs
theorem reads_one (x : α) {w : World} {b : Nat} (h : Blk w b 41 (e3 P K D x)) : ReadsRow (fun (y : α) cs => cs = e3 P K D y) 3 w (some ⟨b, 0, none⟩) 1 [x] := by
  refine ⟨rfl, by omega, fun _ => ⟨_, rfl, fun j y hy => ?_⟩⟩
  cases j with
  | zero =>
    obtain rfl : x = y := by simpa using hy
    exact ⟨_, rfl, rfl, fun i u hu => by rw [addr_add]; simp only [Nat.zero_mul, Nat.zero_add]; exact h.cell hu⟩
  | succ j => simp at hy
theorem C_R3 {w : World} {A : Option Addr} {xs : List α} (h : Kd.C (kd3 P K D) w A xs.length xs) : ReadsRow (fun (y : α) cs => cs = e3 P K D y) 3 w A xs.length xs :=
  h.imp_ (Below.refl _ _) (fun x cs hx => ((flat3 P K D).K w x cs).1 hx)
set_option maxHeartbeats 8000000 in
theorem clone3 (A0 : Option Addr) (c0 : Nat) (l0 : List α) (w : World) (hr0 : Kd.C (kd3 P K D) w A0 l0.length l0) (hc0 : l0.length ≤ c0) (hl : l0.length * 40 ≤ 140737488355328) :
    Calls Tryz.prog 28 #[.slice A0 l0.length c0] w fun e w' => ∃ v : Value, e = .returned v ∧ Own3 P K D w' w.heap.size (fun _ => True) v l0 ∧ Below w.heap.size w w' := by
  cases A0 with
  | none =>
    obtain ⟨h1, h2⟩ := reads_none hr0
    subst h1
    have hnil := @Lib.run_eql_slice_nil
    go_enter Tryz.func28, Tryz.ntmps28
    go_wp2
    go_ret
    exact ⟨_, rfl, Kd.R_nil _ _ _ _ _, Below.refl _ _⟩
  | some ad =>
    have hnil := @Lib.run_eql_slice_nil
    have HR := Aside0.mk hr0
    have HL := Aside0.mk hl
    clear hr0 hl hc0
    go_enter Tryz.func28, Tryz.ntmps28
    go_wp2_with (first
      | ((with_reducible refine gate_builtin (b := .append) (xs := #[.tmp 5, .tmp 6]) rfl ?_); refine hold ?_))
    unfold Hold
    refine Kd.R_append_rows (kd3 P K D) (w0 := w) w.heap.size rfl (.tmp 5) (.tmp 6) 22 41 _ 40 rfl Tryz.underlying22 Tryz.info3 rfl (flat3 P K D).pos (by omega) _ [] l0 (some ad) l0.length c0 (fun _ => True) (fun _ => False) rfl rfl ?aF (C_R3 P K D (Kd.C_below HR.out ?aB2)) (fun x cs h => ((flat3 P K D).M _ _ _ x cs).2 h) (fun _ h => h.elim) (fun _ _ => trivial) ?aB ?aS ?aL ?_
    case aF => exact R_empty_lit _ _ _ _ (Nat.le_refl _)
    case aB2 => exact below_alloc (Below.refl _ _) _
    case aB => exact below_alloc (Below.refl _ _) _
    case aS => simp
    case aL => have := HL.out; simp; omega
    intro v1 w1 ho hb hg hat
    go_wp2
    go_ret
    exact ⟨_, rfl, by simpa using ho, hb⟩
/-- What an insertion leaves. -/
def InsEnd (w0 w : World) (S : Nat → Prop) (ys : List α) (e : Ending) (w' : World) : Prop :=
  ∃ v : Value, e = .returned v ∧ Own3 P K D w' w0.heap.size (fun k => S k ∨ w.heap.size ≤ k) v ys ∧ Below w0.heap.size w0 w' ∧ Kept w w' S
theorem grown_kept {w w' : World} {v : Value} {S : Nat → Prop} (h : w.grownBy w' v.ownBlock) (hS : ∀ k, v.ownBlock = some k → S k) (hs : w.heap.size ≤ w'.heap.size) : Kept w w' S :=
  ⟨hs, fun k hk hn => h.block k hk (fun e => hn (hS k e.symm))⟩
set_option maxHeartbeats 8000000 in
set_option maxRecDepth 100000 in
/-- At the end. -/
theorem insert_end (S : Nat → Prop) (v : Value) (xs : List α) (x : α) (vb vc : Nat) (w0 w : World) (hB : Below w0.heap.size w0 w) (ho : Own3 P K D w w0.heap.size S v xs) (hV : Blk w vb 41 (e3 P K D x)) (hl : (xs.length + 1) * 40 ≤ 140737488355328) :
    Calls Tryz.prog 63 #[v, .int .i64 (xs.length : Nat), .slice (some ⟨vb, 0, none⟩) 1 vc] w (InsEnd P K D w0 w S (xs ++ [x])) := by
  have ho1 : Own3 P K D w w0.heap.size (fun k => S k ∨ w.heap.size ≤ k) v xs := Kd.R_mono ho (fun k hk => .inl hk)
  have HO := Aside0.mk ho1
  have HS := Aside0.mk ho.1
  have HB := Aside0.mk hB
  have HR := Aside0.mk (reads_one P K D x hV)
  have HL := Aside0.mk hl
  have hres : ∀ v1 w1, Own3 P K D w1 w0.heap.size (fun k => S k ∨ w.heap.size ≤ k) v1 (xs ++ [x]) → Below w0.heap.size w0 w1 → w.grownBy w1 v.ownBlock → InsEnd P K D w0 w S (xs ++ [x]) (.returned v1) w1 :=
    fun v1 w1 h1 h2 h3 => ⟨v1, rfl, h1, h2, grown_kept h3 HS.out h3.size⟩
  have HRES := Aside0.mk hres
  have hraw := R_raw (flat3 P K D) ho
  clear hB hV hl ho ho1 hres
  rcases hraw with ⟨rfl, rfl⟩ | ⟨g, cap, cur, rfl, hge, hok, hg, hnc, hcm, hcs, ht⟩
  · have hz : ((0 : Nat) : Int) = 0 := rfl
    go_enter Tryz.func63, Tryz.ntmps63
    go_wp2_with (first
      | ((with_reducible refine gate_builtin (b := .append) (xs := #[.tmp 23, .tmp 24]) rfl ?_); refine hold ?_))
    unfold Hold
    refine Kd.R_append_rows (kd3 P K D) (w0 := w0) w0.heap.size rfl (.tmp 23) (.tmp 24) 22 41 _ 40 rfl Tryz.underlying22 Tryz.info3 rfl (flat3 P K D).pos (by omega) _ [] [x] (some ⟨vb, 0, none⟩) 1 vc (fun k => S k ∨ w.heap.size ≤ k) (fun _ => False) rfl rfl HO.out HR.out (fun x cs h => ((flat3 P K D).M _ _ _ x cs).2 h) (fun _ h => h.elim) (fun _ h => .inr h) HB.out HB.out.size HL.out ?_
    intro v1 w1 ho hb hgr hat
    have HE := Aside0.mk (HRES.out v1 w1 ho hb hgr)
    clear ho hb hgr hat
    go_wp2
    go_ret
    exact HE.out
  · clear hg hcs ht hok hge
    generalize hlen : xs.length = n at hnc HL ⊢
    have HN := Aside0.mk hlen
    rw [hlen] at HO HRES
    clear hlen
    by_cases hcn : cap = n
    all_goals
      go_enter Tryz.func63, Tryz.ntmps63
      go_wp2_with (first
        | ((with_reducible refine gate_builtin (b := .append) (xs := #[.tmp 23, .tmp 24]) rfl ?_); refine hold ?_))
      unfold Hold
      refine Kd.R_append_rows (kd3 P K D) (w0 := w0) w0.heap.size rfl (.tmp 23) (.tmp 24) 22 41 _ 40 rfl Tryz.underlying22 Tryz.info3 rfl (flat3 P K D).pos (by omega) _ xs [x] (some ⟨vb, 0, none⟩) 1 vc (fun k => S k ∨ w.heap.size ≤ k) (fun _ => False) rfl rfl HO.out HR.out (fun x cs h => ((flat3 P K D).M _ _ _ x cs).2 h) (fun _ h => h.elim) (fun _ h => .inr h) HB.out HB.out.size (by have := HL.out; have := HN.out; omega) ?_
      intro v1 w1 ho hb hgr hat
      have HE := Aside0.mk (HRES.out v1 w1 ho hb hgr)
      clear ho hb hgr hat
      go_wp2
      go_ret
      exact HE.out
theorem shape3 {w : World} {b e : Nat} {cs : List Value} (h : Blk w b e cs) : w.shape? b = some (e, cs.length) := by unfold Blk at h; simp [World.shape?, h]
theorem frozen3 {w : World} {b e : Nat} {cs : List Value} (h : Blk w b e cs) (o : Nat) : w.frozen? ⟨b, o, none⟩ = false := by unfold Blk at h; simp [World.frozen?, h]
set_option maxHeartbeats 16000000 in
set_option maxRecDepth 100000 in
/-- In the middle, there is room. -/
theorem insert_room (S : Nat → Prop) (xs : List α) (i : Nat) (hi : i < xs.length) (x : α) (g cap : Nat) (cur : List Value) (vb vc : Nat) (w0 w : World) (hB : Below w0.heap.size w0 w) (hge : w0.heap.size ≤ g) (hS : S g) (hg : Blk w g 41 cur) (hnc : xs.length + 1 ≤ cap) (hcm : cap ≤ 9223372036854775807)
    (hcs : cur.length = cap * 3) (ht : cur.take (xs.length * 3) = c3 P K D xs) (hV : Blk w vb 41 (e3 P K D x)) (hvg : vb ≠ g) :
    Calls Tryz.prog 63 #[.slice (some ⟨g, 0, none⟩) xs.length cap, .int .i64 (i : Nat), .slice (some ⟨vb, 0, none⟩) 1 vc] w (InsEnd P K D w0 w S (xs.take i ++ x :: xs.drop i)) := by
  have hov : ∀ off lb cb, (callFunc 78 #[.slice (some ⟨vb, 0, none⟩) 1 vc, .slice (some ⟨g, off, none⟩) lb cb]).run Tryz.prog w = .ok (.value (.bool false)) w := fun off lb cb => by
    rw [run_callFunc_extern Tryz.func78 (by kernel_rfl) (by kernel_rfl) (by kernel_rfl) (e := Extern.SlicesOverlaps.overlaps #[22, 22] #[4]) (by kernel_rfl),
      Lib.run_overlaps_apart w 22 4 41 Tryz.underlying22 3 (fun w => by kernel_rfl) ⟨vb, 0, none⟩ ⟨g, off, none⟩ 1 vc lb cb hvg _ _ _ _ (shape3 hV) (shape3 hg) (by rw [hcs]; omega) (frozen3 hV _) (frozen3 hV _)]
    rfl
  have hfin : ∀ (cur2 : List Value) (w2 : World), Blk w2 g 41 cur2 → cur2.length = cap * 3 → cur2.take ((xs.length + 1) * 3) = c3 P K D (xs.take i ++ x :: xs.drop i) → KB w w2 g → Below w0.heap.size w0 w2 → InsEnd P K D w0 w S (xs.take i ++ x :: xs.drop i) (.returned (.slice (some ⟨g, 0, none⟩) (xs.length + 1) cap)) w2 := by
    intro cur2 w2 h1 h2 h3 h4 h5
    have hl : (xs.take i ++ x :: xs.drop i).length = xs.length + 1 := by simp; omega
    exact ⟨_, rfl, R_shut (flat3 P K D) hge (.inl hS) h1 hl.symm (by rw [hl]; exact hnc) hcm h2 (by rw [hl]; exact h3), h5, h4.kept hS⟩
  have HFIN := Aside0.mk hfin
  have HG := Aside0.mk hg
  have HV := Aside0.mk hV
  have HB := Aside0.mk hB
  have HC := Aside0.mk hcs
  have HT := Aside0.mk ht
  clear hfin hg hV hB hcs ht
  generalize hlen : xs.length = n at hi hnc HT HFIN ⊢
  have HN := Aside0.mk hlen
  clear hlen
  have k1 : IntKind.i64.wrap ((i : Int) + 1) = (i : Int) + 1 := IntWalk.i64_in _ (by omega)
  have k2 : 0 ≤ (i : Int) + 1 := by omega
  have k3 : ((i : Int) + 1).toNat = i + 1 := by omega
  have k4 : ¬ cap = i + 1 := by omega
  have k5 : ¬ cap = i := by omega
  have k6 : (i : Int) + 1 ≤ (n : Int) + 1 := by omega
  have k7 : (i : Int) ≤ (n : Int) + 1 := by omega
  have k8 : ((i : Int) == (n : Int)) = false := beq_eq_false_iff_ne.2 (by omega)
  have k9 : ¬ ((cap : Int) < (n : Int) + 1) := by omega
  have hnB : n < 9223372036854775807 := by omega
  go_enter Tryz.func63, Tryz.ntmps63
  go_wp2_with (simp only [hov])
  go_still_tail 8, (by kernel_rfl)
  change wpList _ _ _ _ _ w.drew
  (with_reducible refine gate_builtin (b := .copy) (xs := #[.tmp 73, .tmp 76]) rfl ?_)
  refine wp_copy rfl (.tmp 73) (.tmp 76) 22 22 rfl 41 3 Tryz.underlying22 Tryz.size3 g ((i + 1) * 3) _ _ _ _ _ _ rfl rfl cur 41 (c3 P K D (xs.drop i)) HG.out.drew ?hn (fun _ => ⟨rfl, ⟨g, i * 3, none⟩, rfl, ?hp⟩) ?hf (c3_one P K D _) (below_drew1 HB.out) hge ?_
  case hn => rw [c3_len, List.length_drop, HN.out]; congr 1; simp only [Nat.min_def]; split <;> omega
  case hp =>
    intro j u hu
    rw [addr_add]
    refine HG.out.drew.cell ?_
    rw [← c3_drop, ← HT.out, List.getElem?_drop, List.getElem?_take] at hu
    split at hu
    · exact hu
    · cases hu
  case hf => rw [c3_len, List.length_drop, HN.out, HC.out]; omega
  intro w1 hg1 hk1 hb1
  have hl0 : (c3 P K D (xs.drop i)).length = (n - i) * 3 := by rw [c3_len, List.length_drop, HN.out]
  have hsl1 : (i + 1) * 3 + (c3 P K D (xs.drop i)).length ≤ cur.length := by rw [hl0, HC.out]; omega
  obtain ⟨c1, hc1⟩ : ∃ c1, c1 = splice cur ((i + 1) * 3) (c3 P K D (xs.drop i)) := ⟨_, rfl⟩
  rw [← hc1] at hg1
  have HL1 : Aside0 (c1.length = cap * 3) := ⟨by rw [hc1, length_splice _ _ _ hsl1]; exact HC.out⟩
  have HA1 : Aside0 (c1.take (i * 3) = c3 P K D (xs.take i)) := ⟨by
    have e1 : c1.take (i * 3) = (c1.take ((i + 1) * 3)).take (i * 3) := by rw [List.take_take, Nat.min_eq_left (by omega)]
    rw [e1, hc1, splice_take hsl1, List.take_take, Nat.min_eq_left (by omega), ← c3_take, ← HT.out, List.take_take, Nat.min_eq_left (by omega)]⟩
  have HB1 : Aside0 ((c1.take ((n + 1) * 3)).drop ((i + 1) * 3) = c3 P K D (xs.drop i)) := ⟨by
    have e2 : (n + 1) * 3 = (i + 1) * 3 + (c3 P K D (xs.drop i)).length := by rw [hl0]; omega
    rw [e2, hc1, splice_take2 hsl1, List.drop_append, List.drop_eq_nil_of_le (by rw [List.length_take]; omega), List.nil_append]
    have : (i + 1) * 3 - (cur.take ((i + 1) * 3)).length = 0 := by rw [List.length_take, HC.out]; omega
    rw [this, List.drop_zero]⟩
  clear hc1 hsl1 hl0
  go_wp2_with (first
    | ((with_reducible refine gate_builtin (b := .copy) (xs := #[.tmp 80, .tmp 81]) rfl ?_); refine hold ?_))
  unfold Hold
  refine wp_copy rfl (.tmp 80) (.tmp 81) 22 22 rfl 41 3 Tryz.underlying22 Tryz.size3 g (i * 3) _ _ _ _ _ _ rfl rfl c1 41 (e3 P K D x) hg1.out ?hn (fun _ => ⟨rfl, ⟨vb, 0, none⟩, rfl, ?hp⟩) ?hf ((flat3 P K D).one x) hb1.out hge ?_
  case hn => simp only [e3, List.length_cons, List.length_nil]; have : Nat.min 1 (n + 1 - i) = 1 := Nat.min_eq_left (by omega); rw [this]
  case hp =>
    intro j u hu
    rw [addr_add, Nat.zero_add]
    exact (HV.out.other ((KB.trans (b := w.drew) ⟨Nat.le_refl _, fun _ _ _ => rfl⟩ hk1.out) : KB w w1 g) hvg).cell hu
  case hf => rw [HL1.out]; simp [e3]; omega
  intro w2 hg2 hk2 hb2
  have hsl2 : i * 3 + (e3 P K D x).length ≤ c1.length := by rw [HL1.out]; simp [e3]; omega
  have HE := Aside0.mk (HFIN.out _ w2 hg2.out (by rw [length_splice _ _ _ hsl2]; exact HL1.out) (by
    have e3l : (e3 P K D x).length = 3 := rfl
    have e4 : (n + 1) * 3 = (i * 3 + (e3 P K D x).length) + (n - i) * 3 := by rw [e3l]; omega
    rw [e4, List.take_add, splice_take2 hsl2, HA1.out, splice_drop hsl2, c3_append, c3_cons, List.append_assoc]
    congr 2
    have e5 : i * 3 + (e3 P K D x).length = (i + 1) * 3 := by rw [e3l]; omega
    rw [e5, ← HB1.out, List.drop_take]
    congr 1
    omega) ((KB.trans (b := w.drew) ⟨Nat.le_refl _, fun _ _ _ => rfl⟩ hk1.out).trans hk2.out) hb2.out)
  clear hg2 hk2 hb2
  go_wp2
  go_ret
  exact HE.out
theorem Blk.new (w : World) (e : Nat) (cs : Array Value) : Blk (w.alloc (.cells cs e)) w.heap.size e cs.toList := by unfold Blk; simpa using heap_alloc_new w _
set_option maxHeartbeats 16000000 in
set_option maxRecDepth 100000 in
/-- In the middle, no room: a new row. -/
theorem insert_grow (S : Nat → Prop) (xs : List α) (i : Nat) (hi : i < xs.length) (x : α) (g : Nat) (cur : List Value) (vb vc : Nat) (w0 w : World) (hB : Below w0.heap.size w0 w) (hg : Blk w g 41 cur)
    (ht : cur.take (xs.length * 3) = c3 P K D xs) (hV : Blk w vb 41 (e3 P K D x)) (hl : (xs.length + 1) * 40 ≤ 140737488355328) :
    Calls Tryz.prog 63 #[.slice (some ⟨g, 0, none⟩) xs.length xs.length, .int .i64 (i : Nat), .slice (some ⟨vb, 0, none⟩) 1 vc] w (InsEnd P K D w0 w S (xs.take i ++ x :: xs.drop i)) := by
  obtain ⟨i0, hi0, hz0, hzs, hzb⟩ := info_parts Tryz.info3
  have hgl := hg.lt
  have hvl := hV.lt
  have hhead : ∀ j u, (c3 P K D (xs.take i))[j]? = some u → w.cell? ((⟨g, 0, none⟩ : Addr).add j) = some u := fun j u hu => by
    rw [addr_add, Nat.zero_add]
    refine hg.cell ?_
    rw [← c3_take, ← ht, List.getElem?_take] at hu
    split at hu
    · rw [List.getElem?_take] at hu
      split at hu
      · exact hu
      · cases hu
    · cases hu
  have hold : (Builtin.firstCells i0.size i (.slice (some ⟨g, 0, none⟩) i xs.length)).run Tryz.prog w.drew = .ok (c3 P K D (xs.take i)).toArray w.drew := by
    rw [hzs]
    exact run_firstCells_some w.drew 3 i ⟨g, 0, none⟩ i xs.length _ (by rw [c3_len, List.length_take]; congr 1; omega) hhead
  have hrz : ∀ ty, (Builtin.append_ #[22, 3] ty #[.slice (some ⟨g, 0, none⟩) i xs.length, .int .i64 ((xs.length : Int) + 1 - (i : Int))]).run Tryz.prog w =
      .ok (.slice (some ⟨w.heap.size, 0, none⟩) (xs.length + 1) (grownCap w (xs.length + 1) xs.length 41)) (w.drew.alloc (.cells ((c3 P K D (xs.take i)).toArray ++ Builtin.zeroCells (Value.agg #[.string ⟨#[]⟩, .int .i64 0, .string ⟨#[]⟩]).cells (xs.length + 1 - i) ++ Builtin.zeroCells (Value.agg #[.string ⟨#[]⟩, .int .i64 0, .string ⟨#[]⟩]).cells (grownCap w (xs.length + 1) xs.length 41 - (xs.length + 1))) 41)) := fun ty => by
    have h := Lib.run_append_grow_zeros w 22 3 ty 41 i0 _ .i64 .i64 Tryz.underlying22 Tryz.underlying3 hi0 hz0 (some ⟨g, 0, none⟩) i xs.length (c3 P K D (xs.take i)) hold (xs.length + 1 - i) (by omega) (by omega) (by omega) (by omega) (by rw [hzb]; omega) (by rw [hzb]; exact growslice_fits (by omega) (by omega))
    have hik : i + (xs.length + 1 - i) = xs.length + 1 := by omega
    rw [hik] at h
    have hkk : (xs.length : Int) + 1 - (i : Int) = ((xs.length + 1 - i : Nat) : Int) := by omega
    rw [hkk]
    exact h
  obtain ⟨G, hG⟩ : ∃ G, G = grownCap w (xs.length + 1) xs.length 41 := ⟨_, rfl⟩
  have hGn : xs.length + 1 ≤ G := by rw [hG]; exact grownCap_ge w _ _ _
  have hG63 : G ≤ 9223372036854775807 := by
    have := grownCap_le_maxLen w (xs.length + 1) xs.length 41 (by unfold maxLen; omega)
    rw [← hG] at this
    unfold maxLen at this
    omega
  rw [← hG] at hrz
  obtain ⟨ROW, hROW⟩ : ∃ ROW : Array Value, ROW = (c3 P K D (xs.take i)).toArray ++ Builtin.zeroCells (Value.agg #[.string ⟨#[]⟩, .int .i64 0, .string ⟨#[]⟩]).cells (xs.length + 1 - i) ++ Builtin.zeroCells (Value.agg #[.string ⟨#[]⟩, .int .i64 0, .string ⟨#[]⟩]).cells (G - (xs.length + 1)) := ⟨_, rfl⟩
  rw [← hROW] at hrz
  have hl0 : (c3 P K D (xs.take i)).length = i * 3 := by rw [c3_len, List.length_take]; congr 1; omega
  have hRl : ROW.toList.length = G * 3 := by
    rw [hROW]
    simp [Builtin.zeroCells, Value.cells, hl0]
    omega
  have hRt : ROW.toList.take (i * 3) = c3 P K D (xs.take i) := by
    rw [hROW]
    simp only [Array.toList_append]
    rw [List.append_assoc, List.take_append_of_le_length (by rw [hl0]; exact Nat.le_refl _), List.take_of_length_le (by rw [hl0]; exact Nat.le_refl _)]
  have hN := Blk.new w.drew 41 ROW
  have hNb : Below w.heap.size w (w.drew.alloc (.cells ROW 41)) := below_alloc (below_drew (Below.refl _ _)) _
  obtain ⟨W1, hW1⟩ : ∃ W1, W1 = w.drew.alloc (.cells ROW 41) := ⟨_, rfl⟩
  rw [← hW1] at hrz hN hNb
  have hgW := hg.below hNb
  have hvW := hV.below hNb
  have hfin : ∀ (cur2 : List Value) (w2 : World), Blk w2 w.heap.size 41 cur2 → cur2.length = G * 3 → cur2.take ((xs.length + 1) * 3) = c3 P K D (xs.take i ++ x :: xs.drop i) → KB W1 w2 w.heap.size → Below w0.heap.size w0 w2 → InsEnd P K D w0 w S (xs.take i ++ x :: xs.drop i) (.returned (.slice (some ⟨w.heap.size, 0, none⟩) (xs.length + 1) G)) w2 := by
    intro cur2 w2 h1 h2 h3 h4 h5
    have hl : (xs.take i ++ x :: xs.drop i).length = xs.length + 1 := by simp; omega
    refine ⟨_, rfl, R_shut (flat3 P K D) hB.size (.inr (Nat.le_refl _)) h1 hl.symm (by rw [hl]; exact hGn) hG63 h2 (by rw [hl]; exact h3), h5, ?_⟩
    refine ⟨Nat.le_trans hNb.size h4.1, fun k hk _ => ?_⟩
    rw [h4.2 k (Nat.lt_of_lt_of_le hk hNb.size) (by omega)]
    exact hNb.block k hk
  have hBW : Below w0.heap.size w0 W1 := hB.trans (hNb.mono hB.size)
  have HFIN := Aside0.mk hfin
  have HG := Aside0.mk hgW
  have HV := Aside0.mk hvW
  have HN2 := Aside0.mk hN
  have HB := Aside0.mk hBW
  have HT := Aside0.mk ht
  have HRL := Aside0.mk hRl
  have HRT := Aside0.mk hRt
  have hge : w0.heap.size ≤ w.heap.size := hB.size
  have hne : g ≠ w.heap.size := by omega
  have hnv : vb ≠ w.heap.size := by omega
  clear hfin hg hV hB ht hgW hvW hN hNb hBW hW1 hROW hG hold hhead hRl hRt hl0 hgl hvl hi0 hz0 hzs hzb
  generalize hlen : xs.length = n at hi hl HT HFIN hrz hGn ⊢
  have HN := Aside0.mk hlen
  clear hlen
  have k1 : IntKind.i64.wrap ((i : Int) + 1) = (i : Int) + 1 := IntWalk.i64_in _ (by omega)
  have k2 : 0 ≤ (i : Int) + 1 := by omega
  have k3 : ((i : Int) + 1).toNat = i + 1 := by omega
  have k4 : ¬ G = i + 1 := by omega
  have k5 : ¬ G = i := by omega
  have k10 : ¬ n = i := by omega
  have k6 : (i : Int) + 1 ≤ (n : Int) + 1 := by omega
  have k7 : (i : Int) ≤ (n : Int) + 1 := by omega
  have k8 : ((i : Int) == (n : Int)) = false := beq_eq_false_iff_ne.2 (by omega)
  have k9 : ((n : Int) < (n : Int) + 1) := by omega
  have hin : i ≤ n := by omega
  go_enter Tryz.func63, Tryz.ntmps63
  go_wp2_with (first
    | (at_builtin; refine Lib.wpList_append_run _ rfl (.tmp 34) (.tmp 39) _ _ rfl _ _ rfl rfl _ _ (hrz _) ?_)
    | ((with_reducible refine gate_builtin (b := .copy) (xs := #[.tmp 43, .tmp 44]) rfl ?_); refine hold ?_))
  unfold Hold
  refine wp_copy rfl (.tmp 43) (.tmp 44) 22 22 rfl 41 3 Tryz.underlying22 Tryz.size3 w.heap.size (i * 3) _ _ _ _ _ _ rfl rfl ROW.toList 41 (e3 P K D x) HN2.out ?hn (fun _ => ⟨rfl, ⟨vb, 0, none⟩, rfl, ?hp⟩) ?hf ((flat3 P K D).one x) HB.out hge ?_
  case hn => simp only [e3, List.length_cons, List.length_nil]; have : Nat.min 1 (n + 1 - i) = 1 := Nat.min_eq_left (by omega); rw [this]
  case hp =>
    intro j u hu
    rw [addr_add, Nat.zero_add]
    exact HV.out.cell hu
  case hf => rw [HRL.out]; simp [e3]; omega
  intro w1 hg1 hk1 hb1
  have hsl1 : i * 3 + (e3 P K D x).length ≤ ROW.toList.length := by rw [HRL.out]; simp [e3]; omega
  obtain ⟨c1, hc1⟩ : ∃ c1, c1 = splice ROW.toList (i * 3) (e3 P K D x) := ⟨_, rfl⟩
  rw [← hc1] at hg1
  have HL1 : Aside0 (c1.length = G * 3) := ⟨by rw [hc1, length_splice _ _ _ hsl1]; exact HRL.out⟩
  have HA1 : Aside0 (c1.take ((i + 1) * 3) = c3 P K D (xs.take i) ++ e3 P K D x) := ⟨by
    have e1 : (i + 1) * 3 = i * 3 + (e3 P K D x).length := by simp [e3]; omega
    rw [e1, hc1, splice_take2 hsl1, HRT.out]⟩
  clear hc1 hsl1
  go_wp2
  go_still_tail 8, (by kernel_rfl)
  change wpList _ _ _ _ _ w1.drew
  (with_reducible refine gate_builtin (b := .copy) (xs := #[.tmp 50, .tmp 53]) rfl ?_)
  refine wp_copy rfl (.tmp 50) (.tmp 53) 22 22 rfl 41 3 Tryz.underlying22 Tryz.size3 w.heap.size ((i + 1) * 3) _ _ _ _ _ _ rfl rfl c1 41 (c3 P K D (xs.drop i)) hg1.out.drew ?hn (fun _ => ⟨rfl, ⟨g, i * 3, none⟩, rfl, ?hp⟩) ?hf (c3_one P K D _) (below_drew1 hb1.out) hge ?_
  case hn => rw [c3_len, List.length_drop, HN.out]; congr 1; simp only [Nat.min_def]; split <;> omega
  case hp =>
    intro j u hu
    rw [addr_add]
    refine (HG.out.other hk1.out hne).drew.cell ?_
    rw [← c3_drop, ← HT.out, List.getElem?_drop, List.getElem?_take] at hu
    split at hu
    · exact hu
    · cases hu
  case hf => rw [c3_len, List.length_drop, HN.out, HL1.out]; omega
  intro w2 hg2 hk2 hb2
  have hl0 : (c3 P K D (xs.drop i)).length = (n - i) * 3 := by rw [c3_len, List.length_drop, HN.out]
  have hsl2 : (i + 1) * 3 + (c3 P K D (xs.drop i)).length ≤ c1.length := by rw [hl0, HL1.out]; omega
  have HE := Aside0.mk (HFIN.out _ w2 hg2.out (by rw [length_splice _ _ _ hsl2]; exact HL1.out) (by
    have e4 : (n + 1) * 3 = (i + 1) * 3 + (c3 P K D (xs.drop i)).length := by rw [hl0]; omega
    rw [e4, splice_take2 hsl2, HA1.out, c3_append, c3_cons, List.append_assoc]) (hk1.out.trans (KB.trans (b := w1.drew) ⟨Nat.le_refl _, fun _ _ _ => rfl⟩ hk2.out)) hb2.out)
  clear hg2 hk2 hb2 hsl2 hl0
  go_wp2
  go_ret
  exact HE.out
/-- slices.Insert of one entry, wherever. -/
theorem insert3 (S : Nat → Prop) (v : Value) (xs : List α) (i : Nat) (hi : i ≤ xs.length) (x : α) (vb vc : Nat) (w0 w : World) (hB : Below w0.heap.size w0 w) (ho : Own3 P K D w w0.heap.size S v xs) (hV : Blk w vb 41 (e3 P K D x)) (hSv : ¬ S vb) (hl : (xs.length + 1) * 40 ≤ 140737488355328) :
    Calls Tryz.prog 63 #[v, .int .i64 (i : Nat), .slice (some ⟨vb, 0, none⟩) 1 vc] w (InsEnd P K D w0 w S (xs.take i ++ x :: xs.drop i)) := by
  rcases Nat.eq_or_lt_of_le hi with rfl | hlt
  · have := insert_end P K D S v xs x vb vc w0 w hB ho hV hl
    rw [List.take_length, List.drop_length]
    exact this
  · rcases R_raw (flat3 P K D) ho with ⟨rfl, rfl⟩ | ⟨g, cap, cur, rfl, hge, hok, hg, hnc, hcm, hcs, ht⟩
    · simp at hlt
    · rcases Nat.eq_or_lt_of_le hnc with e | hr
      · rw [← e]
        exact insert_grow P K D S xs i hlt x g cur vb vc w0 w hB hg ht hV hl
      · exact insert_room P K D S xs i hlt x g cap cur vb vc w0 w hB hge hok hg hr hcm hcs ht hV (fun h => hSv (h ▸ hok))
end
end Go.Proofs.YtjlflmjimibciaaGreatDoor.Print
end

section
namespace Go.Proofs.YtjlflmjimibciaaGreatDoor.Print
open Go Go.RowKit Go.Proofs.YtjlflmjimibciaaGreatDoorW.PrintWords Go.Proofs.YtjlflmjimibciaaGreatDoorW.PrintLast Go.Proofs.YtjlflmjimibciaaGreatDoorW.PrintMore
set_option linter.unusedVariables false
set_option linter.unusedSimpArgs false
theorem cb_lt : ∀ a b : List UInt8, (Lib.compareBytes a b < 0) ↔ Op.bytesLess a b = true
  | [], [] => by simp [Lib.compareBytes, Op.bytesLess]
  | [], y :: b => by simp [Lib.compareBytes, Op.bytesLess]
  | x :: a, [] => by simp [Lib.compareBytes, Op.bytesLess]
  | x :: a, y :: b => by
    have ih := cb_lt a b
    simp only [Lib.compareBytes, Op.bytesLess]
    by_cases h : x < y
    · simp [h]
    · by_cases h2 : y < x
      · have : ¬ x = y := fun e => by subst e; exact UInt8.lt_irrefl _ h2
        simp [h, h2, this]
      · have : x = y := UInt8.le_antisymm (UInt8.not_lt.1 h2) (UInt8.not_lt.1 h)
        subst this
        simp [h, ih]
theorem cb_cases (a b : List UInt8) : Lib.compareBytes a b = if Op.bytesLess a b then -1 else if Op.bytesLess b a then 1 else 0 := by
  have h1 := cb_lt a b
  have h2 := cb_lt b a
  have hr : ∀ a b : List UInt8, (Lib.compareBytes a b = -1 ∧ Lib.compareBytes b a = 1) ∨ (Lib.compareBytes a b = 1 ∧ Lib.compareBytes b a = -1) ∨ (Lib.compareBytes a b = 0 ∧ Lib.compareBytes b a = 0) := by
    intro a
    induction a with
    | nil => intro b; cases b <;> simp [Lib.compareBytes]
    | cons x a ih =>
      intro b
      cases b with
      | nil => simp [Lib.compareBytes]
      | cons y b =>
        simp only [Lib.compareBytes]
        by_cases h : x < y
        · have : ¬ y < x := fun h2 => UInt8.lt_irrefl _ (UInt8.lt_trans h h2)
          simp [h, this]
        · by_cases h2 : y < x
          · simp [h, h2]
          · simp [h, h2]; exact ih b
  rcases hr a b with ⟨e1, e2⟩ | ⟨e1, e2⟩ | ⟨e1, e2⟩
  · rw [if_pos (h1.1 (by omega)), e1]
  · rw [if_neg (fun h => by have := h1.2 h; omega), if_pos (h2.1 (by omega)), e1]
  · rw [if_neg (fun h => by have := h1.2 h; omega), if_neg (fun h => by have := h2.2 h; omega), e1]
set_option maxHeartbeats 4000000 in
theorem less3 (a b : ByteArray) (k l : Int) (c d : ByteArray) (w : World) :
    Calls Tryz.prog 23 #[.agg #[.string a, .int .i64 k, .string c], .agg #[.string b, .int .i64 l, .string d]] w fun e w' => e = .returned (.bool (Op.bytesLess a.data.toList b.data.toList)) ∧ Below w.heap.size w w' := by
  have HB : Aside0 (Below w.heap.size w ((w.alloc (.cells #[.string a, .int .i64 k, .string c] 41)).alloc (.cells #[.string b, .int .i64 l, .string d] 41))) := ⟨((Below.refl _ _).alloc (Nat.le_refl _) _).alloc (by simp) _⟩
  go_enter Tryz.func23, Tryz.ntmps23
  go_wp2
  go_ret
  exact ⟨by rw [← Lib.toList_data, ← Lib.toList_data]; rfl, HB.out⟩
theorem boxes2 {W W' : World} {a b c x y z : Value} {t u : TypeId} (hb : Below ((W.alloc (.cells #[a, b, c] t)).alloc (.cells #[x, y, z] u)).heap.size ((W.alloc (.cells #[a, b, c] t)).alloc (.cells #[x, y, z] u)) W') :
    (W'.cell? ⟨W.heap.size, 0, none⟩ = some a ∧ W'.cell? ⟨W.heap.size, 1, none⟩ = some b ∧ W'.cell? ⟨W.heap.size, 2, none⟩ = some c) ∧ W'.cell? ⟨W.heap.size + 1, 0, none⟩ = some x ∧ W'.cell? ⟨W.heap.size + 1, 1, none⟩ = some y ∧ W'.cell? ⟨W.heap.size + 1, 2, none⟩ = some z := by
  refine ⟨⟨?_, ?_, ?_⟩, ?_, ?_, ?_⟩
  · exact (hb.cell (p := ⟨W.heap.size, 0, none⟩) (by simp; omega)).trans (by simp)
  · exact (hb.cell (p := ⟨W.heap.size, 1, none⟩) (by simp; omega)).trans (by simp)
  · exact (hb.cell (p := ⟨W.heap.size, 2, none⟩) (by simp; omega)).trans (by simp)
  · exact (hb.cell (p := ⟨W.heap.size + 1, 0, none⟩) (by simp)).trans (by simp)
  · exact (hb.cell (p := ⟨W.heap.size + 1, 1, none⟩) (by simp)).trans (by simp)
  · exact (hb.cell (p := ⟨W.heap.size + 1, 2, none⟩) (by simp)).trans (by simp)
set_option maxHeartbeats 8000000 in
theorem put1_any (a b : ByteArray) (k l : Int) (c d : ByteArray) (w : World) :
    Calls Tryz.prog 81 #[.agg #[.string a, .int .i64 k, .string c], .agg #[.string b, .int .i64 l, .string d]] w fun e w' => e = .returned (.int .i64 (Lib.compareBytes a.data.toList b.data.toList)) ∧ Below w.heap.size w w' := by
  have hb0 : Below w.heap.size w ((w.alloc (.cells #[.string a, .int .i64 k, .string c] 41)).alloc (.cells #[.string b, .int .i64 l, .string d] 41)) := ((Below.refl _ _).alloc (Nat.le_refl _) _).alloc (by simp) _
  have HB := Aside0.mk hb0
  have h1 := less3 a b k l c d
  have h2 := less3 b a l k d c
  rw [cb_cases]
  clear hb0
  cases e1 : Op.bytesLess a.data.toList b.data.toList with
  | true =>
    rw [e1] at h1
    go_enter Tryz.func81, Tryz.ntmps81
    go_wp2_with (first | (go_at_call 23; refine (h1 _).mono ?_; rintro e w' ⟨rfl, hb'⟩))
    go_ret
    exact ⟨rfl, HB.out.trans (hb'.mono (by simp; omega))⟩
  | false =>
    rw [e1] at h1
    cases e2 : Op.bytesLess b.data.toList a.data.toList with
    | true =>
      rw [e2] at h2
      go_enter Tryz.func81, Tryz.ntmps81
      go_wp2_with (go_at_call 23; refine hold ?_)
      unfold Hold
      refine (h1 _).mono ?_
      rintro e w' ⟨rfl, hb'⟩
      obtain ⟨⟨b0, b1, b2⟩, b3, b4, b5⟩ := boxes2 hb'
      have HB1 := Aside0.mk (HB.out.trans (hb'.mono (by simp; omega)))
      clear hb'
      go_wp2_with (go_at_call 23; refine hold ?_)
      unfold Hold
      refine (h2 _).mono ?_
      rintro e w2 ⟨rfl, hb2⟩
      have HB2 := Aside0.mk (HB1.out.trans (hb2.mono HB1.out.size))
      clear hb2
      go_wp2
      go_ret
      exact ⟨rfl, HB2.out⟩
    | false =>
      rw [e2] at h2
      go_enter Tryz.func81, Tryz.ntmps81
      go_wp2_with (go_at_call 23; refine hold ?_)
      unfold Hold
      refine (h1 _).mono ?_
      rintro e w' ⟨rfl, hb'⟩
      obtain ⟨⟨b0, b1, b2⟩, b3, b4, b5⟩ := boxes2 hb'
      have HB1 := Aside0.mk (HB.out.trans (hb'.mono (by simp; omega)))
      clear hb'
      go_wp2_with (go_at_call 23; refine hold ?_)
      unfold Hold
      refine (h2 _).mono ?_
      rintro e w2 ⟨rfl, hb2⟩
      have HB2 := Aside0.mk (HB1.out.trans (hb2.mono HB1.out.size))
      clear hb2
      go_wp2
      go_ret
      exact ⟨rfl, HB2.out⟩
theorem heldNext {W0 W W' : World} {a1 a2 a3 a4 a5 a6 : Addr} {v1 v2 v3 v4 v5 v6 : Value} (hb : Below W.heap.size W W') (h0 : Below W0.heap.size W0 W) (h1 : W.cell? a1 = some v1) (h2 : W.cell? a2 = some v2) (h3 : W.cell? a3 = some v3) (h4 : W.cell? a4 = some v4) (h5 : W.cell? a5 = some v5) (h6 : W.cell? a6 = some v6) :
    Below W0.heap.size W0 W' ∧ W'.cell? a1 = some v1 ∧ W'.cell? a2 = some v2 ∧ W'.cell? a3 = some v3 ∧ W'.cell? a4 = some v4 ∧ W'.cell? a5 = some v5 ∧ W'.cell? a6 = some v6 :=
  ⟨h0.trans (hb.mono h0.size), pw_cell_below hb h1, pw_cell_below hb h2, pw_cell_below hb h3, pw_cell_below hb h4, pw_cell_below hb h5, pw_cell_below hb h6⟩
set_option maxHeartbeats 8000000 in
set_option maxRecDepth 100000 in
/-- Go's search among entries, by an entry. -/
theorem searchE_any (ad : Addr) (n c : Nat) (F : Nat → ByteArray) (K : Nat → Int) (D : Nat → ByteArray) (p d : ByteArray) (k : Int) (w : World) (hn : n < 4611686018427387904) (hR : RowAt w ad n F K D) :
    Calls Tryz.prog 80 #[.slice (some ad) n c, .agg #[.string p, .int .i64 k, .string d], .func (.func 81) #[] #[]] w fun e w' =>
      e = .returned (.tuple #[.int .i64 (bsF F p n 0 n : Nat), .bool (decide (bsF F p n 0 n < n) && decide (Lib.compareBytes (F (bsF F p n 0 n)).data.toList p.data.toList = 0))]) ∧ Below w.heap.size w w' := by
  have ef : ∀ args w, (callFunc 81 args).run Tryz.prog w = .ok (.enter 81 args) w := fun _ _ => by kernel_rfl
  have hb0 : Below w.heap.size w (w.alloc (.cells #[.string p, .int .i64 k, .string d] 41)) := (Below.refl _ _).alloc (Nat.le_refl _) _
  have HR := Aside0.mk (hR.below hb0)
  have HB := Aside0.mk hb0
  have HX : Aside0 (Blk (w.alloc (.cells #[.string p, .int .i64 k, .string d] 41)) w.heap.size 41 [.string p, .int .i64 k, .string d]) := ⟨Blk.new w _ _⟩
  have HN := Aside0.mk hn
  clear hR hb0
  generalize hres : bsF F p n 0 n = res
  have RES := Aside0.mk hres
  clear hres
  go_enter Tryz.func80, Tryz.ntmps80
  go_wp2
  obtain ⟨W0, HW0⟩ : ∃ W0, Aside0 (W0 = w.alloc (.cells #[.string p, .int .i64 k, .string d] 41)) := ⟨_, ⟨rfl⟩⟩
  rw [← HW0.out] at HR HB HX
  go_loopg [9, 10] n (fun kx s9 s10 wr => ∃ lo hi : Nat, s9 = .int .i64 lo ∧ s10 = .int .i64 hi ∧ lo ≤ hi ∧ hi ≤ n ∧ hi - lo ≤ kx ∧ Aside0 (Below W0.heap.size W0 wr) ∧ Aside0 (bsF F p (hi - lo) lo hi = res))
  case atStart => exact ⟨0, n, rfl, rfl, Nat.zero_le _, Nat.le_refl _, by omega, ⟨by rw [HW0.out]; exact Below.refl _ _⟩, RES⟩
  case round =>
    obtain ⟨lo, hi, rfl, rfl, hlh, hin, hg, HB1, RES1⟩ := hrel
    have r1 := HR.out.below HB1.out
    have x1 := HX.out.below HB1.out
    by_cases hlt : lo < hi
    · have cc0 := r1.c0 ((lo + hi) / 2) (by omega)
      have cc1 := r1.c1 ((lo + hi) / 2) (by omega)
      have cc2 := r1.c2 ((lo + hi) / 2) (by omega)
      have x0 := x1.cell (j := 0) rfl
      have x2 := x1.cell (j := 1) rfl
      have x3 := x1.cell (j := 2) rfl
      have R1 := Aside0.mk r1
      clear r1 x1
      go_wp2
      have m1 : (0 : Int) ≤ ((lo : Int) + (hi : Int)) / 2 := by omega
      have m2 : ((lo : Int) + (hi : Int)) / 2 < (n : Int) := by omega
      have m3 : (((lo : Int) + (hi : Int)) / 2).toNat = (lo + hi) / 2 := by omega
      go_still_tail 6, (by kernel_rfl)
      clear m1 m2 m3
      have HBB : Aside0 (∀ W2, Below wr.drew.heap.size wr.drew W2 → Below W0.heap.size W0 W2) := ⟨fun W2 h => (below_drew HB1.out).trans (h.mono HB1.out.size)⟩
      by_cases hyx : Lib.compareBytes (F ((lo + hi) / 2)).data.toList p.data.toList < 0
      · have hyb := decide_eq_true hyx
        change wpList _ _ _ _ _ wr.drew
        go_wp2_with (go_at_fn 81; refine hold ?_)
        unfold Hold
        refine (put1_any _ _ _ _ _ _ _).mono ?_
        rintro e w' ⟨rfl, hb⟩
        go_wp2
        go_roundg (hi - ((lo + hi) / 2 + 1))
        case measure => omega
        case rel =>
          exact ⟨(lo + hi) / 2 + 1, hi, by first | rfl | rw [show ((lo : Int) + (hi : Int)) / 2 + 1 = (((lo + hi) / 2 + 1 : Nat) : Int) by omega], rfl, by omega, hin, Nat.le_refl _, ⟨HBB.out _ hb⟩, ⟨by have := RES1.out; rw [bsF_step F p lo hi hlt, if_pos hyx] at this; exact this⟩⟩
      · have hyb := decide_eq_false hyx
        change wpList _ _ _ _ _ wr.drew
        go_wp2_with (go_at_fn 81; refine hold ?_)
        unfold Hold
        refine (put1_any _ _ _ _ _ _ _).mono ?_
        rintro e w' ⟨rfl, hb⟩
        go_wp2
        go_roundg ((lo + hi) / 2 - lo)
        case measure => omega
        case rel =>
          exact ⟨lo, (lo + hi) / 2, rfl, by first | rfl | rw [show ((lo : Int) + (hi : Int)) / 2 = (((lo + hi) / 2 : Nat) : Int) by omega], by omega, by omega, Nat.le_refl _, ⟨HBB.out _ hb⟩, ⟨by have := RES1.out; rw [bsF_step F p lo hi hlt, if_neg (Int.not_lt.2 (by first | exact hyx | omega))] at this; exact this⟩⟩
    · obtain rfl : hi = lo := by omega
      have hres : hi = res := by have := RES1.out; rw [bsF_stop F p _ hi hi hlt] at this; exact this
      subst hres
      have HBB : Aside0 (∀ W2, Below wr.drew.heap.size wr.drew W2 → Below w.heap.size w W2) := ⟨fun W2 h => by
        have h0 : Below W0.heap.size W0 W2 := (below_drew HB1.out).trans (h.mono HB1.out.size)
        exact HB.out.trans (h0.mono HB.out.size)⟩
      by_cases hn2 : hi < n
      · have cc0 := r1.c0 hi hn2
        have cc1 := r1.c1 hi hn2
        have cc2 := r1.c2 hi hn2
        have x0 := x1.cell (j := 0) rfl
        have x2 := x1.cell (j := 1) rfl
        have x3 := x1.cell (j := 2) rfl
        have hd1 : decide ((hi : Int) < (n : Int)) = true := by simpa using hn2
        clear r1 x1
        go_wp2
        have hBW : Below W0.heap.size W0 wr.drew := below_drew1 HB1.out
        have hin0 : (0 : Int) ≤ (hi : Int) := by omega
        have hin1 : (hi : Int) < (n : Int) := by omega
        go_region_held3 (fun W => Below W0.heap.size W0 W ∧ W.cell? (ad.add (hi * 3)) = some (.string (F hi)) ∧ W.cell? ⟨(ad.add (hi * 3)).block, (ad.add (hi * 3)).off + 1, none⟩ = some (.int .i64 (K hi)) ∧ W.cell? ⟨(ad.add (hi * 3)).block, (ad.add (hi * 3)).off + 2, none⟩ = some (.string (D hi)) ∧ W.cell? ⟨w.heap.size, 0, none⟩ = some (.string p) ∧ W.cell? ⟨w.heap.size, 1, none⟩ = some (.int .i64 k) ∧ W.cell? ⟨w.heap.size, 2, none⟩ = some (.string d)) (first | go_keep | exact heldNext (by assumption) (by assumption) (by assumption) (by assumption) (by assumption) (by assumption) (by assumption) (by assumption))
          (first | (go_at_fn 81; refine (put1_any _ _ _ _ _ _ _).mono ?_; rintro e w' ⟨rfl, hb⟩))
        have HF : Aside0 (Below w.heap.size w w') := ⟨HBB.out _ hb⟩
        clear hb
        go_wp2
        go_ret2
        exact ⟨by simp [hn2]; rfl, HF.out⟩
      · clear r1 x1
        have hd1 : decide ((hi : Int) < (n : Int)) = false := by simpa using hn2
        go_wp2
        go_quiet (fail)
        go_wp2
        go_ret2
        exact ⟨by simp [hn2], HB.out.trans ((pw_below_drewN HB1.out _).mono HB.out.size)⟩
set_option maxHeartbeats 4000000 in
set_option maxRecDepth 100000 in
theorem searchE_zero (A : Option Addr) (c : Nat) (v0 : Value) (p d : ByteArray) (k : Int) (w : World) :
    Calls Tryz.prog 80 #[.slice A 0 c, .agg #[.string p, .int .i64 k, .string d], v0] w fun e w' =>
      e = .returned (.tuple #[.int .i64 0, .bool false]) ∧ Below w.heap.size w w' := by
  have HB := Aside0.mk (show Below w.heap.size w (w.alloc (.cells #[.string p, .int .i64 k, .string d] 41)) from (Below.refl _ _).alloc (Nat.le_refl _) _)
  go_enter Tryz.func80, Tryz.ntmps80
  go_wp2
  refine wp_loop_rounds 1 ?_
  rw [rounds_succ]
  go_wp2
  go_quiet (fail)
  go_wp2
  go_ret2
  exact ⟨rfl, pw_below_drewN HB.out _⟩
section
variable {α : Type} (P : α → ByteArray) (K : α → Int) (D : α → ByteArray)
theorem R_raw3 {w : World} {base : Nat} {ok : Nat → Prop} {v : Value} {xs : List α} (h : Own3 P K D w base ok v xs) :
    (v = .slice none 0 0 ∧ xs = []) ∨ ∃ (g cap : Nat) (cur : List Value), v = .slice (some ⟨g, 0, none⟩) xs.length cap ∧ base ≤ g ∧ ok g ∧ Blk w g 41 cur ∧ xs.length ≤ cap ∧ cap ≤ 9223372036854775807 ∧ cur.length = cap * 3 ∧ cur.take (xs.length * 3) = c3 P K D xs := R_raw (flat3 P K D) h
def pathAt (xs : List α) (i : Nat) : ByteArray := ((xs[i]?).map P).getD ⟨#[]⟩
def kindAt (xs : List α) (i : Nat) : Int := ((xs[i]?).map K).getD 0
theorem rowAt_of {w : World} {ad : Addr} {xs : List α} (h : At3 P K D w ad xs) (hlt : ad.block < w.heap.size) : RowAt w ad xs.length (pathAt P xs) (kindAt K xs) (pathAt D xs) := by
  refine ⟨hlt, fun i hi => ?_, fun i hi => ?_, fun i hi => ?_⟩
  all_goals
    have hx : xs[i]? = some xs[i] := List.getElem?_eq_getElem hi
    obtain ⟨h0, h1, h2⟩ := At3.get P K D h hx
    simp only [pathAt, kindAt, hx, Option.map_some, Option.getD_some]
    assumption
theorem InsEnd.lift {w0 w w3 : World} {S : Nat → Prop} {ys : List α} {e : Ending} {w' : World} (hb : Below w.heap.size w w3) (h : InsEnd P K D w0 w3 S ys e w') : InsEnd P K D w0 w S ys e w' := by
  obtain ⟨v, rfl, h1, h2, h3⟩ := h
  exact ⟨v, rfl, Kd.R_mono h1 (fun k hk => hk.imp id (fun h => Nat.le_trans hb.size h)), h2, Nat.le_trans hb.size h3.1, fun k hk hn => (h3.2 k (Nat.lt_of_lt_of_le hk hb.size) hn).trans (hb.block k hk)⟩
theorem InsEnd.monoS {w0 w : World} {S S' : Nat → Prop} {ys : List α} {e : Ending} {w' : World} (hs : ∀ k, S' k → S k) (h : InsEnd P K D w0 w S' ys e w') : InsEnd P K D w0 w S ys e w' := by
  obtain ⟨v, rfl, h1, h2, h3⟩ := h
  exact ⟨v, rfl, Kd.R_mono h1 (fun k hk => hk.imp (hs k) id), h2, h3.1, fun k hk hn => h3.2 k hk (fun h => hn (hs k h))⟩
/-- Go's steps: where the search says it stands, it is replaced; else it is put there. -/
def putG (xs : List α) (x : α) : List α :=
  if decide (bsF (pathAt P xs) (P x) xs.length 0 xs.length < xs.length) && decide (Lib.compareBytes (pathAt P xs (bsF (pathAt P xs) (P x) xs.length 0 xs.length)).data.toList (P x).data.toList = 0)
  then xs.set (bsF (pathAt P xs) (P x) xs.length 0 xs.length) x
  else xs.take (bsF (pathAt P xs) (P x) xs.length 0 xs.length) ++ x :: xs.drop (bsF (pathAt P xs) (P x) xs.length 0 xs.length)
theorem c3_set (xs : List α) (i : Nat) (x : α) (hi : i < xs.length) : c3 P K D (xs.set i x) = (c3 P K D xs).take (i * 3) ++ e3 P K D x ++ (c3 P K D xs).drop ((i + 1) * 3) := by
  rw [c3_take, c3_drop, List.set_eq_take_append_cons_drop, if_pos hi, c3_append, c3_cons, List.append_assoc]
set_option maxHeartbeats 16000000 in
set_option maxRecDepth 100000 in
theorem foldPut3 (S : Nat → Prop) (v : Value) (xs : List α) (x : α) (w0 w : World) (hB : Below w0.heap.size w0 w) (ho : Own3 P K D w w0.heap.size S v xs) (hl : (xs.length + 1) * 40 ≤ 140737488355328) :
    Calls Tryz.prog 66 #[v, .agg #[.string (P x), .int .i64 (K x), .string (D x)]] w (InsEnd P K D w0 w S (putG P xs x)) := by
  have hb0 : Below w.heap.size w (w.alloc (.cells #[.string (P x), .int .i64 (K x), .string (D x)] 41)) := (Below.refl _ _).alloc (Nat.le_refl _) _
  have hX : Blk (w.alloc (.cells #[.string (P x), .int .i64 (K x), .string (D x)] 41)) w.heap.size 41 [.string (P x), .int .i64 (K x), .string (D x)] := Blk.new w _ _
  obtain ⟨res, hres⟩ : ∃ res, res = bsF (pathAt P xs) (P x) xs.length 0 xs.length := ⟨_, rfl⟩
  obtain ⟨hit, hhit⟩ : ∃ hit, hit = (decide (res < xs.length) && decide (Lib.compareBytes (pathAt P xs res).data.toList (P x).data.toList = 0)) := ⟨_, rfl⟩
  have hle : res ≤ xs.length := by rw [hres]; exact (bsF_le _ _ _ _ _ (Nat.zero_le _)).2
  have hput : putG P xs x = if hit = true then xs.set res x else xs.take res ++ x :: xs.drop res := by unfold putG; rw [← hres, ← hhit]
  -- the search
  have hsearch : Calls Tryz.prog 80 #[v, .agg #[.string (P x), .int .i64 (K x), .string (D x)], .func (.func 81) #[] #[]] (w.alloc (.cells #[.string (P x), .int .i64 (K x), .string (D x)] 41)) fun e w' =>
      e = .returned (.tuple #[.int .i64 (res : Nat), .bool hit]) ∧ Below (w.alloc (.cells #[.string (P x), .int .i64 (K x), .string (D x)] 41)).heap.size (w.alloc (.cells #[.string (P x), .int .i64 (K x), .string (D x)] 41)) w' := by
    rcases R_raw3 P K D ho with ⟨rfl, rfl⟩ | ⟨g, cap, cur, rfl, hge, hok, hg, hnc, hcm, hcs, ht⟩
    · have e1 : res = 0 := by simpa using hle
      have e2 : hit = false := by rw [hhit, e1]; rfl
      rw [e1, e2]
      exact searchE_zero none 0 _ (P x) (D x) (K x) _
    · rw [hhit, hres]
      have hg1 := hg.below hb0
      exact searchE_any ⟨g, 0, none⟩ xs.length cap (pathAt P xs) (kindAt K xs) (pathAt D xs) (P x) (D x) (K x) _ (by omega) (rowAt_of P K D (hg1.at3 P K D ht) hg1.lt)
  have HSE := Aside0.mk hsearch
  have HX := Aside0.mk hX
  have HO := Aside0.mk ho
  have HB := Aside0.mk hB
  have HB0 := Aside0.mk hb0
  have HL := Aside0.mk hl
  have HLE := Aside0.mk hle
  have HHIT := Aside0.mk hhit
  rw [hput]
  clear hsearch hX ho hB hb0 hl hle hput hhit hres
  cases hit with
  | false =>
    rw [if_neg (by simp)]
    obtain ⟨A, c, rfl⟩ := Kd.R_slice HO.out
    go_enter Tryz.func66, Tryz.ntmps66
    go_wp2_with (go_at_call 80; refine hold ?_)
    unfold Hold
    refine HSE.out.mono ?_
    rintro e w2 ⟨rfl, hb2⟩
    obtain ⟨b0, b1, b2⟩ := box3 hb2
    have hbw : Below w.heap.size w w2 := HB0.out.trans (hb2.mono HB0.out.size)
    have HBW := Aside0.mk hbw
    clear hb2 hbw
    go_wp2_with (go_at_call 63; refine hold ?_)
    unfold Hold
    have hbl : Below w.heap.size w (w2.alloc (.cells #[.string (P x), .int .i64 (K x), .string (D x)] 41)) := HBW.out.alloc HBW.out.size _
    have hi3 := insert3 P K D (fun k => S k ∧ k < w.heap.size) (.slice A xs.length c) xs res HLE.out x w2.heap.size 1 w0 _ (HB.out.trans (hbl.mono HB.out.size))
      (Kd.R_below (Kd.R_mono (Kd.R_bound HO.out) (fun k hk => ⟨hk.1, hk.2.2.1⟩)) hbl) (Blk.new w2 _ _) (fun h => by have := HBW.out.size; omega) HL.out
    refine hi3.mono ?_
    rintro e w3 h3
    have HE := Aside0.mk (InsEnd.monoS P K D (fun k hk => hk.1) (InsEnd.lift P K D hbl h3) : InsEnd P K D w0 w S _ e w3)
    obtain ⟨v3, rfl, _⟩ := h3
    clear hi3 hbl
    go_wp2
    go_ret
    exact HE.out
  | true =>
    rw [if_pos rfl]
    have hlt : res < xs.length := by
      have := HHIT.out
      rw [eq_comm, Bool.and_eq_true] at this
      exact of_decide_eq_true this.1
    rcases R_raw3 P K D HO.out with ⟨rfl, rfl⟩ | ⟨g, cap, cur, rfl, hge, hok, hg, hnc, hcm, hcs, ht⟩
    · simp at hlt
    · have HG := Aside0.mk hg
      have HC := Aside0.mk hcs
      have HT := Aside0.mk ht
      have HS := Aside0.mk hok
      clear hg hcs ht hok
      have hi0 : (0 : Int) ≤ (res : Int) := by omega
      have hi1 : (res : Int) < (xs.length : Int) := by omega
      go_enter Tryz.func66, Tryz.ntmps66
      go_wp2_with (go_at_call 80; refine hold ?_)
      unfold Hold
      refine HSE.out.mono ?_
      rintro e w2 ⟨rfl, hb2⟩
      obtain ⟨b0, b1, b2⟩ := box3 hb2
      have hbw : Below w.heap.size w w2 := HB0.out.trans (hb2.mono HB0.out.size)
      have HBW := Aside0.mk hbw
      clear hb2 hbw
      go_wp2_with (first
        | ((with_reducible refine gate_st3 (x := .tmp 17) (y := .tmp 16) rfl ?_); refine hold ?_))
      unfold Hold
      refine wp_store_blk rfl 41 (.tmp 17) (.tmp 16) rfl 3 Tryz.size3 g (res * 3) rfl _ rfl (e3 P K D x) rfl rfl cur 41 (HG.out.below HBW.out) ?hf (by intro u hu; simp [e3] at hu; rcases hu with rfl | rfl | rfl <;> rfl) (B := w0.heap.size) (w0 := w0) (HB.out.trans (HBW.out.mono HB.out.size)) hge ?_
      case hf => rw [HC.out]; simp [e3]; omega
      intro w3 hg3 hk3 hb3
      have hsl : res * 3 + (e3 P K D x).length ≤ cur.length := by rw [HC.out]; simp [e3]; omega
      have HE := Aside0.mk (⟨_, rfl, R_shut (flat3 P K D) hge (.inl HS.out) hg3.out (by rw [List.length_set]) (by rw [List.length_set]; exact hnc) hcm (by rw [length_splice _ _ _ hsl]; exact HC.out) (by
        rw [List.length_set, sz3]
        have e1 : xs.length * 3 = (res * 3 + (e3 P K D x).length) + (xs.length - (res + 1)) * 3 := by simp [e3]; omega
        have e2 : res * 3 + (e3 P K D x).length = (res + 1) * 3 := by simp [e3]; omega
        show List.take _ _ = c3 P K D (xs.set res x)
        rw [c3_set P K D xs res x hlt, ← HT.out, e1, List.take_add, splice_take2 hsl, splice_drop hsl, List.take_take, Nat.min_eq_left (by omega), e2, List.drop_take]
        congr 2
        omega), hb3.out, ((KB.below HBW.out g).trans hk3.out).kept HS.out⟩ : InsEnd P K D w0 w S (xs.set res x) (.returned (.slice (some ⟨g, 0, none⟩) xs.length cap)) w3)
      clear hg3 hk3 hb3
      go_wp2
      go_ret
      exact HE.out
theorem Blk.kept {w W : World} {g e : Nat} {cur : List Value} {S : Nat → Prop} (h : Blk w g e cur) (hk : Kept w W S) (hn : ¬ S g) : Blk W g e cur := (hk.2 g h.lt hn).trans h
theorem InsEnd.after {w0 w w3 : World} {S S3 : Nat → Prop} {ys : List α} {e : Ending} {w' : World} (hk : Kept w w3 S) (hs : ∀ k, S3 k → S k ∨ w.heap.size ≤ k) (h : InsEnd P K D w0 w3 S3 ys e w') : InsEnd P K D w0 w S ys e w' := by
  obtain ⟨v, rfl, h1, h2, h3⟩ := h
  refine ⟨v, rfl, Kd.R_mono h1 (fun k h => ?_), h2, Nat.le_trans hk.1 h3.1, fun k hlt hn => ?_⟩
  · rcases h with h | h
    · exact hs k h
    · exact .inr (Nat.le_trans hk.1 h)
  · rw [h3.2 k (Nat.lt_of_lt_of_le hlt hk.1) (fun h => (hs k h).elim hn (fun h => by omega)), hk.2 k hlt hn]
set_option maxHeartbeats 4000000 in
theorem indexFunc_nil (v : Value) (w : World) :
    Calls Tryz.prog 46 #[.slice none 0 0, v] w fun e w' => e = .returned (.int .i64 (-1)) ∧ w' = w := by
  go_enter Tryz.func46, Tryz.ntmps46
  go_wp2
  refine wp_loop_rounds 1 ?_
  rw [rounds_succ]
  go_wp2
  go_ret
  exact ⟨rfl, rfl⟩
set_option maxHeartbeats 4000000 in
/-- slices.DeleteFunc on a row of the call's own. -/
theorem deleteFunc3 (S : Nat → Prop) (v : Value) (xs : List α) (G : Nat) (caps : Array Value) (q : α → Bool) (w0 w : World) (eg : ∀ args w, (callFunc G args).run Tryz.prog w = .ok (.enter G args) w)
    (hB : Below w0.heap.size w0 w) (ho : Own3 P K D w w0.heap.size S v xs) (hn : xs.length < 4611686018427387904) (hq : ∀ W, Kept w W S → Gives P K D G caps q W xs) :
    Calls Tryz.prog 44 #[v, .func (.func G) #[] caps] w (InsEnd P K D w0 w S (xs.filter fun x => !q x)) := by
  rcases R_raw3 P K D ho with ⟨rfl, rfl⟩ | ⟨g, cap, cur, rfl, hge, hok, hg, hnc, hcm, hcs, ht⟩
  · have HE := Aside0.mk (⟨_, rfl, Kd.R_nil _ _ _ _ _, hB, Kept.refl _ _⟩ : InsEnd P K D w0 w S [] (.returned (.slice none 0 0)) w)
    have h1 := indexFunc_nil (.func (.func G) #[] caps) w
    clear hB ho hq
    rw [List.filter_nil]
    go_enter Tryz.func44, Tryz.ntmps44
    go_wp2_with (go_at_call 46; refine h1.mono ?_; rintro e w' ⟨rfl, rfl⟩)
    go_ret
    exact HE.out
  · have hl := List.length_filter_le (fun x => !q x) xs
    refine (deleteFunc_blk P K D g cap cur xs G caps q w0 w eg hB hge hg hnc hcm hn hcs ht (fun W hk => hq W (hk.kept hok))).mono ?_
    rintro e w' ⟨rfl, ⟨cur', h1, h2, h3⟩, h4, h5⟩
    exact ⟨_, rfl, R_shut (flat3 P K D) hge (.inl hok) h1 rfl (by omega) hcm h2 h3, h5, h4.kept hok⟩
section
variable (UF : ByteArray → ByteArray → Option Bool)
/-- What is asked of path.Under. -/
def UnderOk : Prop := ∀ (a b : ByteArray) (r : Bool) (w : World), UF a b = some r → Calls Tryz.prog 49 #[.string a, .string b] w fun e w' => e = .returned (.bool r) ∧ Below w.heap.size w w'
def goesQ (a : ByteArray) (x : α) : Bool := ((P x).toList == a.toList) || (UF (P x) a).getD false
def hereQ (a : ByteArray) (x : α) : Bool := ((P x).toList == a.toList) && (K x == 1)
set_option maxHeartbeats 4000000 in
theorem goes1_any (hU : UnderOk UF) (x : α) (a d : ByteArray) (k : Int) (b : Nat) (w : World) (hb : Blk w b 41 [.string a, .int .i64 k, .string d]) (hx : (P x).toList ≠ a.toList → (UF (P x) a).isSome = true) :
    Calls Tryz.prog 64 #[.agg #[.string (P x), .int .i64 (K x), .string (D x)], .pointer (some ⟨b, 0, none⟩)] w fun e w' => e = .returned (.bool (goesQ P UF a x)) ∧ Below w.heap.size w w' := by
  have hb0 : Below w.heap.size w (w.alloc (.cells #[.string (P x), .int .i64 (K x), .string (D x)] 41)) := (Below.refl _ _).alloc (Nat.le_refl _) _
  have x0 := (hb.below hb0).cell (j := 0) rfl
  have HB := Aside0.mk hb0
  clear hb hb0
  unfold goesQ
  cases he : ((P x).toList == a.toList) with
  | true =>
    clear hx
    rw [Bool.true_or]
    go_enter Tryz.func64, Tryz.ntmps64
    go_wp2
    go_ret
    exact ⟨rfl, HB.out⟩
  | false =>
    rw [Bool.false_or]
    obtain ⟨r, hr⟩ := Option.isSome_iff_exists.1 (hx (by simpa using he))
    rw [hr, Option.getD_some]
    have HC := Aside0.mk (hU (P x) a r (w.alloc (.cells #[.string (P x), .int .i64 (K x), .string (D x)] 41)) hr)
    clear hx hr
    go_enter Tryz.func64, Tryz.ntmps64
    go_wp2_with (go_at_call 49; refine HC.out.mono ?_; rintro e w' ⟨rfl, hb'⟩)
    go_ret
    exact ⟨rfl, HB.out.trans (hb'.mono HB.out.size)⟩
set_option maxHeartbeats 4000000 in
theorem goes2_any (x : α) (a d : ByteArray) (k : Int) (b : Nat) (w : World) (hb : Blk w b 41 [.string a, .int .i64 k, .string d]) :
    Calls Tryz.prog 65 #[.agg #[.string (P x), .int .i64 (K x), .string (D x)], .pointer (some ⟨b, 0, none⟩)] w fun e w' => e = .returned (.bool (hereQ P K a x)) ∧ Below w.heap.size w w' := by
  have hb0 : Below w.heap.size w (w.alloc (.cells #[.string (P x), .int .i64 (K x), .string (D x)] 41)) := (Below.refl _ _).alloc (Nat.le_refl _) _
  have x0 := (hb.below hb0).cell (j := 0) rfl
  have HB := Aside0.mk hb0
  clear hb hb0
  unfold hereQ
  cases he : ((P x).toList == a.toList) with
  | true =>
    rw [Bool.true_and]
    go_enter Tryz.func65, Tryz.ntmps65
    go_wp2
    go_ret
    exact ⟨rfl, HB.out⟩
  | false =>
    rw [Bool.false_and]
    go_enter Tryz.func65, Tryz.ntmps65
    go_wp2
    go_ret
    exact ⟨rfl, HB.out⟩
variable (mk : ByteArray → Int → ByteArray → α)
def oneG (xs : List α) (a : ByteArray) (k : Int) (d : ByteArray) : List α :=
  if k = 2 then putG P (xs.filter fun x => !hereQ P K a x) (mk a 2 d)
  else if k = 3 then xs.filter fun x => !goesQ P UF a x
  else putG P (xs.filter fun x => !goesQ P UF a x) (mk a (if k = 4 then 2 else k) d)
set_option maxHeartbeats 16000000 in
set_option maxRecDepth 100000 in
theorem foldOne3 (hU : UnderOk UF) (hmP : ∀ a k d, P (mk a k d) = a) (hmK : ∀ a k d, K (mk a k d) = k) (hmD : ∀ a k d, D (mk a k d) = d) (S : Nat → Prop) (v : Value) (xs : List α) (a d : ByteArray) (k : Int) (w0 w : World) (hB : Below w0.heap.size w0 w) (ho : Own3 P K D w w0.heap.size S v xs)
    (hl : (xs.length + 1) * 40 ≤ 140737488355328) (hx : k ≠ 2 → ∀ x ∈ xs, (P x).toList ≠ a.toList → (UF (P x) a).isSome = true) :
    Calls Tryz.prog 52 #[v, .agg #[.string a, .int .i64 k, .string d]] w (InsEnd P K D w0 w S (oneG P K UF mk xs a k d)) := by
  have e1 : ∀ args w, (callFunc 64 args).run Tryz.prog w = .ok (.enter 64 args) w := fun _ _ => by kernel_rfl
  have e2 : ∀ args w, (callFunc 65 args).run Tryz.prog w = .ok (.enter 65 args) w := fun _ _ => by kernel_rfl
  have hb0 : Below w.heap.size w (w.alloc (.cells #[.string a, .int .i64 k, .string d] 41)) := (Below.refl _ _).alloc (Nat.le_refl _) _
  have hX : Blk (w.alloc (.cells #[.string a, .int .i64 k, .string d] 41)) w.heap.size 41 [.string a, .int .i64 k, .string d] := Blk.new w _ _
  have ho1 := Kd.R_below (Kd.R_mono (Kd.R_bound ho) (fun k hk => ⟨hk.1, hk.2.2.1⟩) : Own3 P K D w w0.heap.size (fun k => S k ∧ k < w.heap.size) v xs) hb0
  have hbox : ∀ W, Kept (w.alloc (.cells #[.string a, .int .i64 k, .string d] 41)) W (fun k => S k ∧ k < w.heap.size) → Blk W w.heap.size 41 [.string a, .int .i64 k, .string d] := fun W hk => by
    exact hX.kept hk (fun h => by omega)
  have hd1 : k ≠ 2 → Calls Tryz.prog 44 #[v, .func (.func 64) #[] #[.pointer (some ⟨w.heap.size, 0, none⟩)]] (w.alloc (.cells #[.string a, .int .i64 k, .string d] 41)) (InsEnd P K D w0 (w.alloc (.cells #[.string a, .int .i64 k, .string d] 41)) (fun k => S k ∧ k < w.heap.size) (xs.filter fun x => !goesQ P UF a x)) := fun h2 =>
    deleteFunc3 P K D _ v xs _ _ (goesQ P UF a) w0 _ e1 (hB.trans (hb0.mono hB.size)) ho1 (by omega) (fun W hk x hxm => goes1_any P K D UF hU x a d k w.heap.size W (hbox W hk) (hx h2 x hxm))
  have hd2 : Calls Tryz.prog 44 #[v, .func (.func 65) #[] #[.pointer (some ⟨w.heap.size, 0, none⟩)]] (w.alloc (.cells #[.string a, .int .i64 k, .string d] 41)) (InsEnd P K D w0 (w.alloc (.cells #[.string a, .int .i64 k, .string d] 41)) (fun k => S k ∧ k < w.heap.size) (xs.filter fun x => !hereQ P K a x)) :=
    deleteFunc3 P K D _ v xs _ _ (hereQ P K a) w0 _ e2 (hB.trans (hb0.mono hB.size)) ho1 (by omega) (fun W hk x hxm => goes2_any P K D x a d k w.heap.size W (hbox W hk))
  have HD1 := Aside0.mk hd1
  have HD2 := Aside0.mk hd2
  have HB0 := Aside0.mk hb0
  have HBX := Aside0.mk hbox
  have HL := Aside0.mk hl
  have HSZ := Aside0.mk hB.size
  have HM := Aside0.mk (And.intro hmP (And.intro hmK hmD))
  clear hd1 hd2 hb0 hbox hX ho ho1 hB hx hl hmP hmK hmD
  have hend : ∀ (ys : List α) (v2 : Value) (w2 : World), Own3 P K D w2 w0.heap.size (fun j => (S j ∧ j < w.heap.size) ∨ (w.alloc (.cells #[.string a, .int .i64 k, .string d] 41)).heap.size ≤ j) v2 ys → Below w0.heap.size w0 w2 → Kept (w.alloc (.cells #[.string a, .int .i64 k, .string d] 41)) w2 (fun j => S j ∧ j < w.heap.size) → InsEnd P K D w0 w S ys (.returned v2) w2 := fun ys v2 w2 o2 b2 k2 =>
    InsEnd.monoS P K D (fun k hk => hk.1) (InsEnd.lift P K D HB0.out (⟨v2, rfl, o2, b2, k2⟩ : InsEnd P K D w0 _ _ ys (.returned v2) w2))
  have HEND := Aside0.mk hend
  clear hend
  have hput : ∀ (ys : List α) (v2 : Value) (w2 w3 : World) (k' : Int), ys.length ≤ xs.length → Own3 P K D w2 w0.heap.size (fun j => (S j ∧ j < w.heap.size) ∨ (w.alloc (.cells #[.string a, .int .i64 k, .string d] 41)).heap.size ≤ j) v2 ys → Below w0.heap.size w0 w3 → Kept (w.alloc (.cells #[.string a, .int .i64 k, .string d] 41)) w2 (fun j => S j ∧ j < w.heap.size) →
      Kept w2 w3 (fun j => j = w.heap.size) →
      Calls Tryz.prog 66 #[v2, .agg #[.string a, .int .i64 k', .string d]] w3 (InsEnd P K D w0 w S (putG P ys (mk a k' d))) := fun ys v2 w2 w3 k' hy o2 b3 k2 k3 => by
    have hs1 : (w.alloc (.cells #[.string a, .int .i64 k, .string d] 41)).heap.size = w.heap.size + 1 := by simp
    have o3 := Kd.R_kept o2 k3 (fun j hj hjb => by subst hjb; rcases hj with ⟨_, h⟩ | h <;> omega)
    have hp := foldPut3 P K D _ v2 ys (mk a k' d) w0 w3 b3 o3 (by have := HL.out; omega)
    rw [HM.out.1, HM.out.2.1, HM.out.2.2] at hp
    refine hp.mono fun e w4 h4 => InsEnd.after P K D ⟨?_, fun j hj hn => ?_⟩ (fun j hj => ?_) h4
    · exact Nat.le_trans HB0.out.size (Nat.le_trans k2.1 k3.1)
    · rw [k3.2 j (Nat.lt_of_lt_of_le hj (Nat.le_trans HB0.out.size k2.1)) (by omega), k2.2 j (Nat.lt_of_lt_of_le hj HB0.out.size) (fun h => hn h.1), HB0.out.block j hj]
    · rcases hj with h | h
      · exact .inl h.1
      · exact .inr (by omega)
  have HPUT := Aside0.mk hput
  clear hput
  by_cases h2 : k = 2
  · subst h2
    have eg : oneG P K UF mk xs a 2 d = putG P (xs.filter fun x => !hereQ P K a x) (mk a 2 d) := by unfold oneG; rw [if_pos rfl]
    rw [eg]
    clear eg HD1
    go_enter Tryz.func52, Tryz.ntmps52
    go_wp2_with (go_at_call 44; refine hold ?_)
    unfold Hold
    refine HD2.out.mono ?_
    rintro e w2 ⟨v2, rfl, o2, b2, k2⟩
    have hx2 := HBX.out w2 k2
    have x0 := hx2.cell (j := 0) rfl
    have x1 := hx2.cell (j := 1) rfl
    have x2 := hx2.cell (j := 2) rfl
    have HP := Aside0.mk (HPUT.out _ v2 w2 w2 2 (List.length_filter_le _ _) o2 b2 k2 (Kept.refl _ _))
    clear o2 b2 k2 hx2
    go_wp2_with (go_at_call 66; refine hold ?_)
    unfold Hold
    refine HP.out.mono ?_
    rintro e w3 h3
    have HE := Aside0.mk h3
    obtain ⟨v3, rfl, _⟩ := h3
    go_wp2
    go_ret
    exact HE.out
  · have HD := Aside0.mk (HD1.out h2)
    clear HD1 HD2
    by_cases h3 : k = 3
    · subst h3
      have eg : oneG P K UF mk xs a 3 d = xs.filter fun x => !goesQ P UF a x := by unfold oneG; rw [if_neg (by omega), if_pos rfl]
      rw [eg]
      clear eg h2
      go_enter Tryz.func52, Tryz.ntmps52
      go_wp2_with (go_at_call 44; refine hold ?_)
      unfold Hold
      refine HD.out.mono ?_
      rintro e w2 ⟨v2, rfl, o2, b2, k2⟩
      have hx2 := HBX.out w2 k2
      have x1 := hx2.cell (j := 1) rfl
      have HE := Aside0.mk (HEND.out _ v2 w2 o2 b2 k2)
      clear o2 b2 k2 hx2
      go_wp2
      go_ret
      exact HE.out
    · by_cases h4 : k = 4
      · subst h4
        have eg : oneG P K UF mk xs a 4 d = putG P (xs.filter fun x => !goesQ P UF a x) (mk a 2 d) := by unfold oneG; rw [if_neg (by omega), if_neg (by omega), if_pos rfl]
        rw [eg]
        clear eg h2 h3
        go_enter Tryz.func52, Tryz.ntmps52
        go_wp2_with (go_at_call 44; refine hold ?_)
        unfold Hold
        refine HD.out.mono ?_
        rintro e w2 ⟨v2, rfl, o2, b2, k2⟩
        have hx2 := HBX.out w2 k2
        have x0 := hx2.cell (j := 0) rfl
        have x1 := hx2.cell (j := 1) rfl
        have x2 := hx2.cell (j := 2) rfl
        have f1 := frozen3 hx2 1
        have hw0 : w0.heap.size ≤ w.heap.size := HSZ.out
        have HP := Aside0.mk (HPUT.out _ v2 w2 (w2.setCell ⟨w.heap.size, 1, none⟩ (.int .i64 2)) 2 (List.length_filter_le _ _) o2 (b2.setCell hw0 _) k2 ⟨by simp, fun j hj hn => Below.heap_setCell w2 ⟨w.heap.size, 1, none⟩ _ j hn⟩)
        clear o2 b2 k2 hx2
        go_wp2_with (go_at_call 66; refine hold ?_)
        unfold Hold
        refine HP.out.mono ?_
        rintro e w3 h3
        have HE := Aside0.mk h3
        obtain ⟨v3, rfl, _⟩ := h3
        go_wp2
        go_ret
        exact HE.out
      · have eg : oneG P K UF mk xs a k d = putG P (xs.filter fun x => !goesQ P UF a x) (mk a k d) := by unfold oneG; rw [if_neg h2, if_neg h3, if_neg h4]
        rw [eg]
        have k2b : (k == 2) = false := beq_eq_false_iff_ne.2 h2
        have k3b : (k == 3) = false := beq_eq_false_iff_ne.2 h3
        have k4b : (k == 4) = false := beq_eq_false_iff_ne.2 h4
        clear eg h2 h3 h4
        go_enter Tryz.func52, Tryz.ntmps52
        go_wp2_with (go_at_call 44; refine hold ?_)
        unfold Hold
        refine HD.out.mono ?_
        rintro e w2 ⟨v2, rfl, o2, b2, k2⟩
        have hx2 := HBX.out w2 k2
        have x0 := hx2.cell (j := 0) rfl
        have x1 := hx2.cell (j := 1) rfl
        have x2 := hx2.cell (j := 2) rfl
        have HP := Aside0.mk (HPUT.out _ v2 w2 w2 k (List.length_filter_le _ _) o2 b2 k2 (Kept.refl _ _))
        clear o2 b2 k2 hx2
        go_wp2_with (go_at_call 66; refine hold ?_)
        unfold Hold
        refine HP.out.mono ?_
        rintro e w3 h3
        have HE := Aside0.mk h3
        obtain ⟨v3, rfl, _⟩ := h3
        go_wp2
        go_ret
        exact HE.out
end
end
end Go.Proofs.YtjlflmjimibciaaGreatDoor.Print
end

section
namespace Go.Proofs.YtjlflmjimibciaaGreatDoor.Print
open Go Go.RowKit Go.Proofs.YtjlflmjimibciaaGreatDoorW.PrintWords Go.Proofs.YtjlflmjimibciaaGreatDoorW.PrintLast Go.Proofs.YtjlflmjimibciaaGreatDoorW.PrintMore
set_option linter.unusedVariables false
set_option linter.unusedSimpArgs false
def lk : List (ByteArray × Bool) → ByteArray → Bool
  | [], _ => false
  | (a, v) :: r, p => if a = p then v else lk r p
def up : List (ByteArray × Bool) → ByteArray → Bool → List (ByteArray × Bool)
  | [], p, v => [(p, v)]
  | (a, x) :: r, p, v => if a = p then (p, v) :: r else (a, x) :: up r p v
def MapB (w : World) (b : Nat) (L : List (ByteArray × Bool)) : Prop := ∃ es clock, w.heap[b]? = some (.map es clock) ∧ es.toList.map (fun e => (e.key, e.val)) = L.map (fun x => (Value.string x.1, Value.bool x.2))
theorem MapB.lt {w : World} {b : Nat} {L : List (ByteArray × Bool)} (h : MapB w b L) : b < w.heap.size := by
  obtain ⟨es, c, h, _⟩ := h
  exact (Array.getElem?_eq_some_iff.1 h).1
theorem MapB.below {w W : World} {b : Nat} {L : List (ByteArray × Bool)} (h : MapB w b L) (hb : Below w.heap.size w W) : MapB W b L := by
  have hl := h.lt
  obtain ⟨es, c, h, h2⟩ := h
  exact ⟨es, c, (hb.block b hl).trans h, h2⟩
theorem KB.cell {w w' : World} {g : Nat} (h : KB w w' g) {a : Addr} {v : Value} (hc : w.cell? a = some v) (hne : a.block ≠ g) : w'.cell? a = some v := by
  have := h.2 a.block (World.block_lt_of_cell? w a hc) hne
  simpa [World.cell?, this] using hc
theorem bbeq (a b : ByteArray) : (a == b) = decide (a = b) := by
  cases a with
  | mk a =>
    cases b with
    | mk b =>
      show (a == b) = _
      by_cases h : a = b
      · subst h; simp
      · have : ¬ (ByteArray.mk a = ByteArray.mk b) := fun e => h (by injection e)
        rw [decide_eq_false this]; simpa using h
theorem find_run (p : ByteArray) : ∀ (es : List MapEntry) (L : List (ByteArray × Bool)) (i : Nat), es.map (fun e => (e.key, e.val)) = L.map (fun x => (Value.string x.1, Value.bool x.2)) →
    (Instr.findNow .string (.string p) es i = some none ∧ lk L p = false ∧ up L p = fun v => L ++ [(p, v)]) ∨ ∃ k, k < es.length ∧ Instr.findNow .string (.string p) es i = some (some (i + k, .bool (lk L p))) ∧ (∀ v, up L p v = L.set k (p, v)) ∧ ∃ x, L[k]? = some x ∧ x.1 = p
  | [], L, i, h => by
    have : L = [] := by simpa using h.symm
    subst this
    exact .inl ⟨rfl, rfl, rfl⟩
  | e :: es, L, i, h => by
    cases L with
    | nil => simp at h
    | cons x r =>
      obtain ⟨a, v⟩ := x
      simp only [List.map_cons, List.cons.injEq, Prod.mk.injEq] at h
      obtain ⟨⟨h1, h2⟩, h3⟩ := h
      by_cases hap : a = p
      · right
        subst hap
        refine ⟨0, by simp, ?_, fun v => ?_, (a, v), rfl, rfl⟩
        · simp [Instr.findNow, Instr.sameNow, h1, h2, lk, bbeq]
        · simp [up]
      · have hne : ¬ p = a := fun e => hap e.symm
        rcases find_run p es r (i + 1) h3 with ⟨g1, g2, g3⟩ | ⟨k, hk, g1, g2, x, hx, hxp⟩
        · left
          refine ⟨?_, ?_, ?_⟩
          · simp [Instr.findNow, Instr.sameNow, h1, hne, g1, bbeq]
          · simp [lk, hap, g2]
          · funext v; simp [up, hap, g3]
        · right
          refine ⟨k + 1, by simpa using hk, ?_, fun v => ?_, x, by simpa using hx, hxp⟩
          · simp only [Instr.findNow, Instr.sameNow, h1, lk, if_neg hap]
            have : (p == a) = false := by rw [bbeq]; exact decide_eq_false hne
            rw [this]
            simp only
            rw [g1]
            congr 3
            omega
          · simp [up, hap, g2]
section
variable {Pg : Program} {t kt et : TypeId} (ht : Pg.underlying t = some (.map kt et)) (hk : Pg.underlying kt = some .string)
include ht hk
omit ht in
theorem check_run (em : Bool) (p : ByteArray) (w : World) : (Instr.checkKey em 10000 kt (.string p)).run Pg w = .ok () w := by
  rw [show (10000 : Nat) = 9999 + 1 from rfl, Instr.checkKey]
  simp [run_underlying hk]
theorem lookup_run (hz : ∀ w, (zeroValue et).run Pg w = .ok (.bool false) w) {w : World} {b : Nat} {L : List (ByteArray × Bool)} (h : MapB w b L) (p : ByteArray) : (Instr.lookup t (.map (some b)) (.string p) false).run Pg w = .ok (.bool (lk L p)) w := by
  obtain ⟨es, c, hh, hm⟩ := h
  have hg := MapKept.run_getObj_map (P := Pg) hh
  rcases find_run p es.toList L 0 hm with ⟨g1, g2, _⟩ | ⟨k, hk0, g1, _⟩
  · simp [Instr.lookup, run_underlying ht, run_underlying hk, hg, check_run hk, Instr.findKey, g1, g2, hz]
  · simp [Instr.lookup, run_underlying ht, run_underlying hk, hg, check_run hk, Instr.findKey, g1]
theorem update_run {w : World} {b : Nat} {L : List (ByteArray × Bool)} (h : MapB w b L) (p : ByteArray) (v : Bool) : ∃ w', (Instr.mapUpdate t (.map (some b)) (.string p) (.bool v)).run Pg w = .ok () w' ∧ MapB w' b (up L p v) ∧ KB w w' b ∧ ∀ B w0, Below B w0 w → B ≤ b → Below B w0 w' := by
  have hlt := h.lt
  obtain ⟨es, c, hh, hm⟩ := h
  have hg := MapKept.run_getObj_map (P := Pg) hh
  have hbel : ∀ o B w0, Below B w0 w → B ≤ b → Below B w0 { w with heap := w.heap.setIfInBounds b o } := fun o B w0 h1 h2 => by
    exact ⟨h1.os, h1.tape, h1.output, by simpa using h1.size, fun k hk => by
      have hne : b ≠ k := by omega
      simpa [hne] using h1.block k hk⟩
  have hkb : ∀ o, KB w { w with heap := w.heap.setIfInBounds b o } b := fun o => ⟨by simp, fun k hk hne => by simp [Ne.symm hne]⟩
  have hself : ∀ o, ({ w with heap := w.heap.setIfInBounds b o } : World).heap[b]? = some o := fun o => by simp [hlt]
  rcases find_run p es.toList L 0 hm with ⟨g1, g2, g3⟩ | ⟨k, hk0, g1, g2, x, hx, hxp⟩
  · refine ⟨{ w with heap := w.heap.setIfInBounds b (.map (es.push { key := .string p, val := .bool v, born := c }) (c + 1)) }, ?_, ⟨_, _, hself _, ?_⟩, hkb _, hbel _⟩
    · have hs := MapKept.run_setObj_map (P := Pg) (.map (es.push { key := .string p, val := .bool v, born := c }) (c + 1)) hh
      simp [Instr.mapUpdate, run_underlying ht, run_underlying hk, hg, check_run hk, Instr.findKey, g1, hs]
    · simp [g3, hm]
  · have hke : (es[k]?).map (·.key) = some (.string p) := by
      have h1 : (es.toList.map (fun e => (e.key, e.val)))[k]? = (L.map (fun x => (Value.string x.1, Value.bool x.2)))[k]? := by rw [hm]
      rw [List.getElem?_map, List.getElem?_map, hx] at h1
      simp only [Option.map_some, Array.getElem?_toList] at h1
      cases he : es[k]? with
      | none => rw [he] at h1; simp at h1
      | some e0 => rw [he] at h1; simp at h1; simp [h1.1, hxp]
    refine ⟨{ w with heap := w.heap.setIfInBounds b (.map (es.modify k fun e => { e with key := .string p, val := .bool v }) c) }, ?_, ⟨_, _, hself _, ?_⟩, hkb _, hbel _⟩
    · have hs := MapKept.run_setObj_map (P := Pg) (.map (es.modify k fun e => { e with key := .string p, val := .bool v }) c) hh
      simp [Instr.mapUpdate, run_underlying ht, run_underlying hk, hg, check_run hk, Instr.findKey, g1, hs, hke, Instr.keyThatStays, Instr.sameBits, bbeq]
    · rw [g2]
      apply List.ext_getElem?
      intro j
      have h1 : (es.toList.map (fun e => (e.key, e.val)))[j]? = (L.map (fun x => (Value.string x.1, Value.bool x.2)))[j]? := by rw [hm]
      simp only [List.getElem?_map, List.getElem?_set, Array.getElem?_toList, Array.getElem?_modify] at h1 ⊢
      by_cases e : k = j
      · subst e
        have hkl : k < L.length := (List.getElem?_eq_some_iff.1 hx).1
        cases he : es[k]? with
        | none => rw [he] at hke; simp at hke
        | some e0 => simp [hkl]
      · simp [e, h1]
end
section
variable {Pg : Program} {ops : Array Oper} {rest : List Oper} {o : Oper} {a : Act} {Q : Exit → Act → World → Prop} {w : World}
theorem gate_insert {t : TypeId} {m k v : Operand} (_ho : o.op = .insert t m k v) (h : wpList Pg ops Q (o :: rest) a w) : wpList Pg ops Q (o :: rest) a w := h
theorem wp_insert_run (hgd : o.guard = none) (t : TypeId) (m k v : Operand) (ho : o.op = .insert t m k v) (vm vk vv : Value) (hm : a.eval m = vm) (hk : a.eval k = vk) (hv : a.eval v = vv) (w' : World) (hr : (Instr.mapUpdate t vm vk vv).run Pg w = .ok () w') (h : wpList Pg ops Q rest (a.put o.dst undef) w') : wpList Pg ops Q (o :: rest) a w := by
  refine wpList_plain hgd fun K hK => ?_
  unfold Oper.wp
  simp [execOp, ho, hm, hk, hv, hr, Result.andThen]
  exact hK _ _ h
end
end Go.Proofs.YtjlflmjimibciaaGreatDoor.Print
end

section
namespace Go.Proofs.YtjlflmjimibciaaGreatDoor.Print
open Go Go.RowKit Go.Proofs.YtjlflmjimibciaaGreatDoorW.PrintWords Go.Proofs.YtjlflmjimibciaaGreatDoorW.PrintLast Go.Proofs.YtjlflmjimibciaaGreatDoorW.PrintMore
set_option linter.unusedVariables false
set_option linter.unusedSimpArgs false
set_option maxHeartbeats 4000000 in
theorem holds3 (a d : ByteArray) (k : Int) (w : World) :
    Calls Tryz.prog 26 #[.agg #[.string a, .int .i64 k, .string d]] w fun e w' => e = .returned (.bool (k == 2 || k == 4)) ∧ Below w.heap.size w w' := by
  have HB : Aside0 (Below w.heap.size w (w.alloc (.cells #[.string a, .int .i64 k, .string d] 41))) := ⟨(Below.refl _ _).alloc (Nat.le_refl _) _⟩
  cases h2 : (k == 2) with
  | true =>
    have h2b : (k != 2) = false := by simpa using h2
    rw [Bool.true_or]
    go_enter Tryz.func26, Tryz.ntmps26
    go_wp2
    go_ret
    exact ⟨rfl, HB.out⟩
  | false =>
    rw [Bool.false_or]
    go_enter Tryz.func26, Tryz.ntmps26
    go_wp2
    go_ret
    exact ⟨rfl, HB.out⟩
section
variable {α : Type} (P : α → ByteArray) (K : α → Int) (D : α → ByteArray)
variable (RF : ByteArray → Int → ByteArray → Option Bool) (DF : ByteArray → Option (ByteArray × ByteArray × List Int))
def RightOk : Prop := ∀ (a : ByteArray) (k : Int) (d : ByteArray) (r : Bool) (w : World), RF a k d = some r → Calls Tryz.prog 22 #[.agg #[.string a, .int .i64 k, .string d]] w fun e w' => e = .returned (.bool r) ∧ Below w.heap.size w w'
def ParentOk : Prop := ∀ (a r1 r2 : ByteArray) (r3 : List Int) (w : World), DF a = some (r1, r2, r3) → Calls Tryz.prog 24 #[.string a] w fun e w' => ∃ v2 : Value, e = .returned (.tuple #[.string r1, .string r2, v2]) ∧ Below w.heap.size w w'
def okB (x : α) : Bool := (RF (P x) (K x) (D x)).getD false
def dirB (x : α) : ByteArray := ((DF (P x)).map (·.1)).getD ⟨#[]⟩
/-- Is the next entry at fault? -/
def badB (pr : Option α) (L : List (ByteArray × Bool)) (x : α) : Bool :=
  !okB P K D RF x || decide (2 < K x) || !lk L (dirB P DF x) || (match pr with | some y => !Op.bytesLess (P y).data.toList (P x).data.toList | none => false)
def treeG : Option α → List (ByteArray × Bool) → List α → Bool
  | _, _, [] => true
  | pr, L, x :: r => if badB P K D RF DF pr L x then false else treeG (some x) (up L (P x) (K x == 2 || K x == 4)) r
def treeF (xs : List α) : Bool := if 1024 < xs.length then false else treeG P K D RF DF none [(⟨#[47]⟩, true)] xs
set_option maxHeartbeats 1000000 in
set_option maxRecDepth 100000 in
theorem tree_at (hR : RightOk RF) (hP : ParentOk DF) (ad : Addr) (c : Nat) (xs : List α) (w : World) (hA : At3 P K D w ad xs) (hlt0 : ad.block < w.heap.size) (hn : xs.length ≤ 1024) (hall : ∀ x ∈ xs, (RF (P x) (K x) (D x)).isSome = true ∧ (DF (P x)).isSome = true) :
    Calls Tryz.prog 51 #[.slice (some ad) xs.length c] w fun e w' => e = .returned (.bool (treeG P K D RF DF none [(⟨#[47]⟩, true)] xs)) ∧ Below w.heap.size w w' := by
  have hmm := @run_makeMap Tryz.prog
  have HA := Aside0.mk hA
  have HALL := Aside0.mk hall
  have HLT := Aside0.mk hlt0
  have hm0 : MapB (w.alloc (.map #[] 0)) w.heap.size [] := ⟨#[], 0, by simpa using heap_alloc_new w _, rfl⟩
  obtain ⟨w1, hw1, hM1, hk1, hB1⟩ := update_run (Pg := Tryz.prog) Tryz.underlying115 Tryz.underlying9 hm0 ⟨#[47]⟩ true
  have hb1 : Below w.heap.size w w1 := hB1 _ _ ((Below.refl _ _).alloc (Nat.le_refl _) _) (Nat.le_refl _)
  have HM1 := Aside0.mk hM1
  have HB1 := Aside0.mk hb1
  have HW := Aside0.mk hw1
  clear hA hall hlt0 hm0 hM1 hk1 hB1 hb1 hw1
  generalize hres : treeG P K D RF DF none [(⟨#[47]⟩, true)] xs = res
  have RES := Aside0.mk hres
  clear hres
  generalize hlen : xs.length = n at hn ⊢
  have HN := Aside0.mk hlen
  clear hlen
  go_enter Tryz.func51, Tryz.ntmps51
  go_wp2_with ((with_reducible refine gate_insert (t := 115) (m := .tmp 12) rfl ?_); refine hold ?_)
  unfold Hold
  refine wp_insert_run rfl _ _ _ _ rfl _ _ _ rfl rfl rfl w1 HW.out ?_
  go_wp2
  go_loopg [16] n (fun gg s16 wr => ∃ (j : Nat) (L : List (ByteArray × Bool)), s16 = .int .i64 j ∧ j ≤ n ∧ n - j ≤ gg ∧ Aside0 (Below w.heap.size w wr) ∧ Aside0 (MapB wr w.heap.size L) ∧ Aside0 (treeG P K D RF DF (if j = 0 then none else xs[j - 1]?) L (xs.drop j) = res))
  case atStart => exact ⟨0, _, rfl, by omega, by omega, HB1, HM1, RES⟩
  case round =>
    obtain ⟨j, L, rfl, hjn, hgg, BB, MM, RR⟩ := hrel
    by_cases hlt : j < n
    · have hltz : (j : Int) < (n : Int) := by omega
      obtain ⟨x, hx⟩ : ∃ x, xs[j]? = some x := ⟨_, List.getElem?_eq_getElem (by rw [HN.out]; exact hlt)⟩
      have hat := At3.below P K D HA.out BB.out
      obtain ⟨cc0, cc1, cc2⟩ := At3.get P K D hat hx
      obtain ⟨hrs, hds⟩ := HALL.out x (List.mem_of_getElem? hx)
      obtain ⟨r, hr⟩ := Option.isSome_iff_exists.1 hrs
      obtain ⟨⟨d1, d2, d3⟩, hd⟩ := Option.isSome_iff_exists.1 hds
      have hok : okB P K D RF x = r := by unfold okB; rw [hr]; rfl
      have hdir : dirB P DF x = d1 := by unfold dirB; rw [hd]; rfl
      have hdrop : xs.drop j = x :: xs.drop (j + 1) := by
        obtain ⟨h1, h2⟩ := List.getElem?_eq_some_iff.1 hx
        rw [List.drop_eq_getElem_cons h1, h2]
      have hrr := RR.out
      rw [hdrop, treeG] at hrr
      have hbad : badB P K D RF DF (if j = 0 then none else xs[j - 1]?) L x = (!r || decide (2 < K x) || !lk L d1 || (match (if j = 0 then none else xs[j - 1]?) with | some y => !Op.bytesLess (P y).data.toList (P x).data.toList | none => false)) := by unfold badB; rw [hok, hdir]
      rw [hbad] at hrr
      have RR2 := Aside0.mk hrr
      have HX := Aside0.mk hx
      have HR1 := Aside0.mk (hR (P x) (K x) (D x) r · hr)
      have HP1 := Aside0.mk (hP (P x) d1 d2 d3 · hd)
      have hlk : ∃ b, lk L d1 = b := ⟨_, rfl⟩
      obtain ⟨b, hlk⟩ := hlk
      rw [hlk] at RR2
      have HLK := Aside0.mk hlk
      have hkk : ∃ b, decide (2 < K x) = b := ⟨_, rfl⟩
      obtain ⟨bk, hkk⟩ := hkk
      rw [hkk] at RR2
      clear hx hrs hds hr hd hok hdir hdrop hrr hbad hlk RR
      have HAT := Aside0.mk hat
      clear hat
      go_wp2_with (go_at_call 24; refine hold ?_)
      unfold Hold
      refine (HP1.out _).mono ?_
      rintro e w2 ⟨v2, rfl, hb2⟩
      have hw : Below w.heap.size w w2 := (BB.out.alloc BB.out.size _).trans (hb2.mono (by simp; have := BB.out.size; omega))
      have hw2 : Below wr.heap.size wr w2 := ((Below.refl _ _).alloc (Nat.le_refl _) _).trans (hb2.mono (by simp))
      have hMM : MapB w2 w.heap.size L := (MM.out.below ((Below.refl _ _).alloc (Nat.le_refl _) _)).below hb2
      obtain ⟨b0, b1, b2⟩ := box3 hb2
      have k0 := cell_regrown b0
      have k1 := cell_regrown b1
      have k2 := cell_regrown b2
      have kl : ∀ d os, (Instr.lookup 115 (.map (some w.heap.size)) (.string d1) false).run Tryz.prog (Sort.grow (redrawn w2 d) os) = .ok (.bool b) (Sort.grow (redrawn w2 d) os) := fun d os => by
        rw [← HLK.out]
        exact lookup_run Tryz.underlying115 Tryz.underlying9 (fun w => by kernel_rfl) (hMM.below (below_regrown w2 d os)) d1
      have kr : ∀ d os, Calls Tryz.prog 22 #[.agg #[.string (P x), .int .i64 (K x), .string (D x)]] (Sort.grow (redrawn w2 d) os) fun e w'' => e = .returned (.bool r) ∧ ∃ p : Regrown, w'' = Sort.grow (redrawn w2 p.d) p.os := fun d os => Calls.regrown_of (HR1.out _)
      have B0 := Aside0.mk b0
      have B1 := Aside0.mk b1
      have B2 := Aside0.mk b2
      have HW2 := Aside0.mk hw
      have HWR := Aside0.mk hw2
      have HMM := Aside0.mk hMM
      have HMB : Aside0 (wr.heap.size ≠ w.heap.size) := ⟨by have := MM.out.lt; omega⟩
      clear hb2 hw hw2 hMM MM BB b0 b1 b2
      have hgo : ∀ w5, Below w2.heap.size w2 w5 → ∃ w6, (Instr.mapUpdate 115 (.map (some w.heap.size)) (.string (P x)) (.bool (K x == 2 || K x == 4))).run Tryz.prog w5 = .ok () w6 ∧ MapB w6 w.heap.size (up L (P x) (K x == 2 || K x == 4)) ∧ Below w.heap.size w w6 ∧ KB w5 w6 w.heap.size := fun w5 h5 => by
        obtain ⟨w6, e1, e2, e3, e4⟩ := update_run (Pg := Tryz.prog) Tryz.underlying115 Tryz.underlying9 (HMM.out.below h5) (P x) (K x == 2 || K x == 4)
        exact ⟨w6, e1, e2, e4 _ _ (HW2.out.trans (h5.mono HW2.out.size)) (Nat.le_refl _), e3⟩
      have HGO := Aside0.mk hgo
      clear hgo
      rcases Nat.eq_zero_or_pos j with hj0 | hj0
      · subst hj0
        have RR3 : Aside0 ((if (!r || bk || !b) = true then false else treeG P K D RF DF (some x) (up L (P x) (K x == 2 || K x == 4)) (xs.drop (0 + 1))) = res) := ⟨by have := RR2.out; simpa using this⟩
        clear RR2 HLK
        cases r with
        | false =>
          go_wp2
          refine wp_region_quiet_below (by kernel_rfl) (by kernel_rfl) ?_
          repeat (first | go_big_quiet_step (first | (go_at_call 22; exact kr _ _)) | quiet_step (first | (go_at_call 22; exact kr _ _)))
          refine wpQuiet_nil ?_
          intro _ hw'
          obtain ⟨⟨dq, osq⟩, hw''⟩ := hw'
          subst hw''
          have hre : false = res := by have := RR3.out; simpa using this
          subst hre
          go_wp2
          go_ret
          exact ⟨rfl, HW2.out.trans ((below_regrown w2 dq osq).mono HW2.out.size)⟩
        | true =>
          cases bk with
          | true =>
            go_wp2
            refine wp_region_quiet_below (by kernel_rfl) (by kernel_rfl) ?_
            repeat (first | go_big_quiet_step (first | (go_at_call 22; exact kr _ _)) | quiet_step (first | (go_at_call 22; exact kr _ _)))
            refine wpQuiet_nil ?_
            intro _ hw'
            obtain ⟨⟨dq, osq⟩, hw''⟩ := hw'
            subst hw''
            have hre : false = res := by have := RR3.out; simpa using this
            subst hre
            go_wp2
            go_ret
            exact ⟨rfl, HW2.out.trans ((below_regrown w2 dq osq).mono HW2.out.size)⟩
          | false =>
            cases b with
            | false =>
              go_wp2
              refine wp_region_quiet_below (by kernel_rfl) (by kernel_rfl) ?_
              repeat (first | go_big_quiet_step (first | (go_at_call 22; exact kr _ _)) | quiet_step (first | (go_at_call 22; exact kr _ _)))
              refine wpQuiet_nil ?_
              intro _ hw'
              obtain ⟨⟨dq, osq⟩, hw''⟩ := hw'
              subst hw''
              have hre : false = res := by have := RR3.out; simpa using this
              subst hre
              go_wp2
              go_ret
              exact ⟨rfl, HW2.out.trans ((below_regrown w2 dq osq).mono HW2.out.size)⟩
            | true =>
              go_wp2
              refine wp_region_quiet_below (by kernel_rfl) (by kernel_rfl) ?_
              repeat (first | go_big_quiet_step (first | (go_at_call 22; exact kr _ _)) | quiet_step (first | (go_at_call 22; exact kr _ _)))
              refine wpQuiet_nil ?_
              intro _ hw'
              obtain ⟨⟨dq, osq⟩, hw''⟩ := hw'
              subst hw''
              have HRE : Aside0 (treeG P K D RF DF (some x) (up L (P x) (K x == 2 || K x == 4)) (xs.drop (0 + 1)) = res) := ⟨by have := RR3.out; simpa using this⟩
              have hbq := below_regrown w2 dq osq
              have g0 := pw_cell_below hbq B0.out
              have g1 := pw_cell_below hbq B1.out
              have g2 := pw_cell_below hbq B2.out
              have HBQ := Aside0.mk hbq
              clear hbq k0 k1 k2 kl kr
              generalize Sort.grow (redrawn w2 dq) osq = w3 at HBQ g0 g1 g2 ⊢
              go_wp2
              have hBD : Below w2.heap.size w2 w3.drew := below_drew HBQ.out
              have hmb := HMB.out
              go_region_held3 (fun W => W.cell? ⟨wr.heap.size, 0, none⟩ = some (.string (P x)) ∧ W.cell? ⟨wr.heap.size, 1, none⟩ = some (.int .i64 (K x)) ∧ W.cell? ⟨wr.heap.size, 2, none⟩ = some (.string (D x))) (first | exact ⟨g0, g1, g2⟩ | exact ⟨pw_cell_below hb4 g0, pw_cell_below hb4 g1, pw_cell_below hb4 g2⟩ | exact ⟨e4.cell (pw_cell_below hb4 g0) hmb, e4.cell (pw_cell_below hb4 g1) hmb, e4.cell (pw_cell_below hb4 g2) hmb⟩)
                  (first | (go_at_call 26; refine (holds3 _ _ _ _).mono ?_; rintro e w4 ⟨rfl, hb4⟩; obtain ⟨w6, e1, e2, e3, e4⟩ := HGO.out w4 (hBD.trans (hb4.mono hBD.size)); have E2 := Aside0.mk e2; have E3 := Aside0.mk e3; clear e2 e3))
              go_wp2
              go_roundg (n - (0 + 1))
              case measure => omega
              case rel => exact ⟨0 + 1, _, by go_num, by omega, Nat.le_refl _, E3, E2, ⟨by rw [if_neg (by omega)]; show treeG P K D RF DF xs[0]? _ _ = res; rw [HX.out]; exact HRE.out⟩⟩
      · have hj1 : (0 : Int) < (j : Int) := by omega
        have hj2 : ¬ j = 0 := by omega
        have hj3 : IntKind.i64.wrap ((j : Int) - 1) = (j : Int) - 1 := IntWalk.i64_in _ (by omega)
        have hj4 : (0 : Int) ≤ (j : Int) - 1 := by omega
        have hj5 : (j : Int) - 1 < (n : Int) := by omega
        have hj6 : ((j : Int) - 1).toNat = j - 1 := by omega
        obtain ⟨y, hy⟩ : ∃ y, xs[j - 1]? = some y := ⟨_, List.getElem?_eq_getElem (by rw [HN.out]; omega)⟩
        obtain ⟨p0, p1, p2⟩ := At3.get P K D (At3.below P K D HAT.out HWR.out) hy
        have q0 := cell_regrown p0
        have q1 := cell_regrown p1
        have q2 := cell_regrown p2
        have hls : ∃ s, Op.bytesLess (P y).data.toList (P x).data.toList = s := ⟨_, rfl⟩
        obtain ⟨ls, hls⟩ := hls
        have kls : ∀ d os, Calls Tryz.prog 23 #[.agg #[.string (P y), .int .i64 (K y), .string (D y)], .agg #[.string (P x), .int .i64 (K x), .string (D x)]] (Sort.grow (redrawn w2 d) os) fun e w'' => e = .returned (.bool ls) ∧ ∃ p : Regrown, w'' = Sort.grow (redrawn w2 p.d) p.os := fun d os => Calls.regrown_of (by have := less3 (P y) (P x) (K y) (K x) (D y) (D x) (Sort.grow (redrawn w2 d) os); rwa [hls] at this)
        have RR3 : Aside0 ((if (!r || bk || !b || !ls) = true then false else treeG P K D RF DF (some x) (up L (P x) (K x == 2 || K x == 4)) (xs.drop (j + 1))) = res) := ⟨by have := RR2.out; rw [if_neg hj2, hy] at this; simp only [hls] at this; exact this⟩
        clear RR2 HLK hy p0 p1 p2 hls
        cases r with
        | false =>
          go_wp2
          refine wp_region_quiet_below (by kernel_rfl) (by kernel_rfl) ?_
          repeat (first | go_big_quiet_step (first | (go_at_call 22; exact kr _ _) | (go_at_call 23; exact kls _ _)) | quiet_step (first | (go_at_call 22; exact kr _ _) | (go_at_call 23; exact kls _ _)))
          refine wpQuiet_nil ?_
          intro _ hw'
          obtain ⟨⟨dq, osq⟩, hw''⟩ := hw'
          subst hw''
          have hre : false = res := by have := RR3.out; simpa using this
          subst hre
          go_wp2
          go_ret
          exact ⟨rfl, HW2.out.trans ((below_regrown w2 dq osq).mono HW2.out.size)⟩
        | true =>
          cases bk with
          | true =>
            go_wp2
            refine wp_region_quiet_below (by kernel_rfl) (by kernel_rfl) ?_
            repeat (first | go_big_quiet_step (first | (go_at_call 22; exact kr _ _) | (go_at_call 23; exact kls _ _)) | quiet_step (first | (go_at_call 22; exact kr _ _) | (go_at_call 23; exact kls _ _)))
            refine wpQuiet_nil ?_
            intro _ hw'
            obtain ⟨⟨dq, osq⟩, hw''⟩ := hw'
            subst hw''
            have hre : false = res := by have := RR3.out; simpa using this
            subst hre
            go_wp2
            go_ret
            exact ⟨rfl, HW2.out.trans ((below_regrown w2 dq osq).mono HW2.out.size)⟩
          | false =>
            cases b with
            | false =>
              go_wp2
              refine wp_region_quiet_below (by kernel_rfl) (by kernel_rfl) ?_
              repeat (first | go_big_quiet_step (first | (go_at_call 22; exact kr _ _) | (go_at_call 23; exact kls _ _)) | quiet_step (first | (go_at_call 22; exact kr _ _) | (go_at_call 23; exact kls _ _)))
              refine wpQuiet_nil ?_
              intro _ hw'
              obtain ⟨⟨dq, osq⟩, hw''⟩ := hw'
              subst hw''
              have hre : false = res := by have := RR3.out; simpa using this
              subst hre
              go_wp2
              go_ret
              exact ⟨rfl, HW2.out.trans ((below_regrown w2 dq osq).mono HW2.out.size)⟩
            | true =>
              cases ls with
              | false =>
                go_wp2
                refine wp_region_quiet_below (by kernel_rfl) (by kernel_rfl) ?_
                repeat (first | go_big_quiet_step (first | (go_at_call 22; exact kr _ _) | (go_at_call 23; exact kls _ _)) | quiet_step (first | (go_at_call 22; exact kr _ _) | (go_at_call 23; exact kls _ _)))
                refine wpQuiet_nil ?_
                intro _ hw'
                obtain ⟨⟨dq, osq⟩, hw''⟩ := hw'
                subst hw''
                have hre : false = res := by have := RR3.out; simpa using this
                subst hre
                go_wp2
                go_ret
                exact ⟨rfl, HW2.out.trans ((below_regrown w2 dq osq).mono HW2.out.size)⟩
              | true =>
                go_wp2
                refine wp_region_quiet_below (by kernel_rfl) (by kernel_rfl) ?_
                repeat (first | go_big_quiet_step (first | (go_at_call 22; exact kr _ _) | (go_at_call 23; exact kls _ _)) | quiet_step (first | (go_at_call 22; exact kr _ _) | (go_at_call 23; exact kls _ _)))
                refine wpQuiet_nil ?_
                intro _ hw'
                obtain ⟨⟨dq, osq⟩, hw''⟩ := hw'
                subst hw''
                have HRE : Aside0 (treeG P K D RF DF (some x) (up L (P x) (K x == 2 || K x == 4)) (xs.drop (j + 1)) = res) := ⟨by have := RR3.out; simpa using this⟩
                have hbq := below_regrown w2 dq osq
                have g0 := pw_cell_below hbq B0.out
                have g1 := pw_cell_below hbq B1.out
                have g2 := pw_cell_below hbq B2.out
                have HBQ := Aside0.mk hbq
                clear hbq k0 k1 k2 kl kr kls q0 q1 q2
                generalize Sort.grow (redrawn w2 dq) osq = w3 at HBQ g0 g1 g2 ⊢
                go_wp2
                have hBD : Below w2.heap.size w2 w3.drew := below_drew HBQ.out
                have hmb := HMB.out
                go_region_held3 (fun W => W.cell? ⟨wr.heap.size, 0, none⟩ = some (.string (P x)) ∧ W.cell? ⟨wr.heap.size, 1, none⟩ = some (.int .i64 (K x)) ∧ W.cell? ⟨wr.heap.size, 2, none⟩ = some (.string (D x))) (first | exact ⟨g0, g1, g2⟩ | exact ⟨pw_cell_below hb4 g0, pw_cell_below hb4 g1, pw_cell_below hb4 g2⟩ | exact ⟨e4.cell (pw_cell_below hb4 g0) hmb, e4.cell (pw_cell_below hb4 g1) hmb, e4.cell (pw_cell_below hb4 g2) hmb⟩)
                    (first | (go_at_call 26; refine (holds3 _ _ _ _).mono ?_; rintro e w4 ⟨rfl, hb4⟩; obtain ⟨w6, e1, e2, e3, e4⟩ := HGO.out w4 (hBD.trans (hb4.mono hBD.size)); have E2 := Aside0.mk e2; have E3 := Aside0.mk e3; clear e2 e3))
                go_wp2
                go_roundg (n - (j + 1))
                case measure => omega
                case rel => exact ⟨j + 1, _, by go_num, by omega, Nat.le_refl _, E3, E2, ⟨by rw [if_neg (by omega)]; show treeG P K D RF DF xs[j]? _ _ = res; rw [HX.out]; exact HRE.out⟩⟩
    · obtain rfl : j = n := by omega
      have hre : true = res := by
        have := RR.out
        rwa [List.drop_eq_nil_of_le (by rw [HN.out]; omega), treeG] at this
      subst hre
      go_wp2
      go_ret
      exact ⟨rfl, BB.out⟩
set_option maxHeartbeats 4000000 in
set_option maxRecDepth 100000 in
theorem tree_zero (A : Option Addr) (c : Nat) (w : World) : Calls Tryz.prog 51 #[.slice A 0 c] w fun e w' => e = .returned (.bool true) ∧ Below w.heap.size w w' := by
  have hmm := @run_makeMap Tryz.prog
  have hm0 : MapB (w.alloc (.map #[] 0)) w.heap.size [] := ⟨#[], 0, by simpa using heap_alloc_new w _, rfl⟩
  obtain ⟨w1, hw1, hM1, hk1, hB1⟩ := update_run (Pg := Tryz.prog) Tryz.underlying115 Tryz.underlying9 hm0 ⟨#[47]⟩ true
  have hb1 : Below w.heap.size w w1 := hB1 _ _ ((Below.refl _ _).alloc (Nat.le_refl _) _) (Nat.le_refl _)
  have HB1 := Aside0.mk hb1
  have HW := Aside0.mk hw1
  clear hm0 hM1 hk1 hB1 hb1 hw1
  go_enter Tryz.func51, Tryz.ntmps51
  go_wp2_with ((with_reducible refine gate_insert (t := 115) (m := .tmp 12) rfl ?_); refine hold ?_)
  unfold Hold
  refine wp_insert_run rfl _ _ _ _ rfl _ _ _ rfl rfl rfl w1 HW.out ?_
  go_wp2
  refine wp_loop_rounds 1 ?_
  rw [rounds_succ]
  go_wp2
  go_ret
  exact ⟨rfl, HB1.out⟩
set_option maxHeartbeats 4000000 in
theorem tree_many (A : Option Addr) (n c : Nat) (w : World) (h : 1024 < n) (hn : n ≤ 9223372036854775807) : Calls Tryz.prog 51 #[.slice A n c] w fun e w' => e = .returned (.bool false) ∧ Below w.heap.size w w' := by
  have h1 : decide (1024 < (n : Int)) = true := decide_eq_true (by omega)
  go_enter Tryz.func51, Tryz.ntmps51
  go_wp2
  go_ret
  exact ⟨rfl, Below.refl _ _⟩
/-- fold.Tree. -/
theorem tree3 (hR : RightOk RF) (hP : ParentOk DF) (A : Option Addr) (c : Nat) (xs : List α) (w : World) (hC : Kd.C (kd3 P K D) w A xs.length xs) (hall : ∀ x ∈ xs, (RF (P x) (K x) (D x)).isSome = true ∧ (DF (P x)).isSome = true) :
    Calls Tryz.prog 51 #[.slice A xs.length c] w fun e w' => e = .returned (.bool (treeF P K D RF DF xs)) ∧ Below w.heap.size w w' := by
  unfold treeF
  split
  · rename_i h
    exact tree_many A xs.length c w h hC.2.1
  · rename_i h
    cases xs with
    | nil => exact tree_zero A c w
    | cons x r =>
      obtain ⟨ad, rfl, hc⟩ := C_cells (flat3 P K D) hC (by simp)
      have h0 := hc 0 (.string (P x)) rfl
      have hlt := World.block_lt_of_cell? w _ h0
      rw [add_block] at hlt
      exact tree_at P K D RF DF hR hP ad c (x :: r) w hc hlt (by omega) hall
end
end Go.Proofs.YtjlflmjimibciaaGreatDoor.Print
end

section
namespace Go.Proofs.YtjlflmjimibciaaGreatDoor.Print
open Go Go.RowKit Go.Proofs.YtjlflmjimibciaaGreatDoorW.PrintWords Go.Proofs.YtjlflmjimibciaaGreatDoorW.PrintLast Go.Proofs.YtjlflmjimibciaaGreatDoorW.PrintMore
set_option linter.unusedVariables false
set_option linter.unusedSimpArgs false
set_option maxHeartbeats 4000000 in
theorem mholds3 (a : ByteArray) (k : Int) (c : ByteArray) (w : World) :
    Calls Tryz.prog 26 #[.agg #[.string a, .int .i64 k, .string c]] w fun e w' => e = .returned (.bool (k == 2 || k == 4)) ∧ Below w.heap.size w w' := by
  have HB : Aside0 (Below w.heap.size w (w.alloc (.cells #[.string a, .int .i64 k, .string c] 41))) := ⟨(Below.refl _ _).alloc (Nat.le_refl _) _⟩
  cases h2 : (k == 2) with
  | true =>
    rw [Bool.true_or]
    go_enter Tryz.func26, Tryz.ntmps26
    go_wp2
    go_ret
    exact ⟨rfl, HB.out⟩
  | false =>
    rw [Bool.false_or]
    go_enter Tryz.func26, Tryz.ntmps26
    go_wp2
    go_ret
    exact ⟨rfl, HB.out⟩
section
variable {α : Type} (P : α → ByteArray) (K : α → Int) (D : α → ByteArray)
theorem own_base {w : World} {base base' : Nat} {ok ok' : Nat → Prop} {v : Value} {xs : List α} (h : Own3 P K D w base ok v xs) (hb : base' ≤ base) (hok : ∀ k, base ≤ k → ok k → ok' k) : Own3 P K D w base' ok' v xs := by
  rcases R_raw3 P K D h with ⟨rfl, rfl⟩ | ⟨g, cap, cur, rfl, hge, hg0, hg, hnc, hcm, hcs, ht⟩
  · exact Kd.R_nil _ _ _ _ _
  · exact R_shut (flat3 P K D) (Nat.le_trans hb hge) (hok g hge hg0) hg rfl hnc hcm hcs ht
theorem indexFunc3 (S : Nat → Prop) (v : Value) (xs : List α) (G : Nat) (caps : Array Value) (q : α → Bool) (w0 w : World) (eg : ∀ args w, (callFunc G args).run Tryz.prog w = .ok (.enter G args) w)
    (ho : Own3 P K D w w0.heap.size S v xs) (hn : xs.length < 4611686018427387904) (hq : ∀ W, Below w.heap.size w W → Gives P K D G caps q W xs) :
    Calls Tryz.prog 46 #[v, .func (.func G) #[] caps] w fun e w' => e = .returned (.int .i64 (idx3 q xs)) ∧ Below w.heap.size w w' := by
  rcases R_raw3 P K D ho with ⟨rfl, rfl⟩ | ⟨g, cap, cur, rfl, hge, hok, hg, hnc, hcm, hcs, ht⟩
  · refine (indexFunc_nil _ w).mono ?_
    rintro e w' ⟨rfl, rfl⟩
    exact ⟨rfl, Below.refl _ _⟩
  · exact indexFunc_at P K D ⟨g, 0, none⟩ cap xs G caps q w eg hn (hg.at3 P K D ht) hq
def lessQ (a : ByteArray) (x : α) : Bool := !Op.bytesLess (P x).data.toList a.data.toList
set_option maxHeartbeats 4000000 in
theorem mput1_any (x : α) (a d : ByteArray) (k : Int) (b : Nat) (w : World) (hb : Blk w b 41 [.string a, .int .i64 k, .string d]) :
    Calls Tryz.prog 62 #[.agg #[.string (P x), .int .i64 (K x), .string (D x)], .pointer (some ⟨b, 0, none⟩)] w fun e w' => e = .returned (.bool (lessQ P a x)) ∧ Below w.heap.size w w' := by
  have hb0 : Below w.heap.size w (w.alloc (.cells #[.string (P x), .int .i64 (K x), .string (D x)] 41)) := (Below.refl _ _).alloc (Nat.le_refl _) _
  have x0 := (hb.below hb0).cell (j := 0) rfl
  have x1 := (hb.below hb0).cell (j := 1) rfl
  have x2 := (hb.below hb0).cell (j := 2) rfl
  have HB := Aside0.mk hb0
  have HC := Aside0.mk (less3 (P x) a (K x) k (D x) d (w.alloc (.cells #[.string (P x), .int .i64 (K x), .string (D x)] 41)))
  clear hb hb0
  unfold lessQ
  go_enter Tryz.func62, Tryz.ntmps62
  go_wp2_with (go_at_call 23; refine HC.out.mono ?_; rintro e w' ⟨rfl, hb'⟩)
  go_ret
  exact ⟨rfl, HB.out.trans (hb'.mono HB.out.size)⟩
/-- Where no one is less, it is put. -/
def mputG (xs : List α) (x : α) : List α :=
  xs.take ((xs.findIdx? (lessQ P (P x))).getD xs.length) ++ x :: xs.drop ((xs.findIdx? (lessQ P (P x))).getD xs.length)
set_option maxHeartbeats 16000000 in
set_option maxRecDepth 100000 in
theorem mergePut3 (S : Nat → Prop) (v : Value) (xs : List α) (x : α) (w0 w : World) (hB : Below w0.heap.size w0 w) (ho : Own3 P K D w w0.heap.size S v xs) (hl : (xs.length + 1) * 40 ≤ 140737488355328) :
    Calls Tryz.prog 50 #[v, .agg #[.string (P x), .int .i64 (K x), .string (D x)]] w (InsEnd P K D w0 w S (mputG P xs x)) := by
  have hb0 : Below w.heap.size w (w.alloc (.cells #[.string (P x), .int .i64 (K x), .string (D x)] 41)) := (Below.refl _ _).alloc (Nat.le_refl _) _
  have hX : Blk (w.alloc (.cells #[.string (P x), .int .i64 (K x), .string (D x)] 41)) w.heap.size 41 [.string (P x), .int .i64 (K x), .string (D x)] := Blk.new w _ _
  have eg : ∀ args w, (callFunc 62 args).run Tryz.prog w = .ok (.enter 62 args) w := fun _ _ => by kernel_rfl
  have ho1 := Kd.R_below (Kd.R_mono (Kd.R_bound ho) (fun k hk => ⟨hk.1, hk.2.2.1⟩) : Own3 P K D w w0.heap.size (fun k => S k ∧ k < w.heap.size) v xs) hb0
  have hidx : Calls Tryz.prog 46 #[v, .func (.func 62) #[] #[.pointer (some ⟨w.heap.size, 0, none⟩)]] (w.alloc (.cells #[.string (P x), .int .i64 (K x), .string (D x)] 41)) fun e w' => e = .returned (.int .i64 (idx3 (lessQ P (P x)) xs)) ∧ Below (w.alloc (.cells #[.string (P x), .int .i64 (K x), .string (D x)] 41)).heap.size (w.alloc (.cells #[.string (P x), .int .i64 (K x), .string (D x)] 41)) w' :=
    indexFunc3 P K D _ v xs _ _ (lessQ P (P x)) w0 _ eg ho1 (by omega) (fun W hW y _ => mput1_any P K D y (P x) (D x) (K x) w.heap.size W (hX.below hW))
  have HI := Aside0.mk hidx
  have HO := Aside0.mk ho
  have HB := Aside0.mk hB
  have HB0 := Aside0.mk hb0
  have HL := Aside0.mk hl
  clear hidx hX ho ho1 hB hb0 hl eg
  have hput : ∀ (res : Nat) (w2 : World) (A : Option Addr) (c : Nat), v = .slice A xs.length c → res ≤ xs.length → Below w.heap.size w w2 → Calls Tryz.prog 63 #[.slice A xs.length c, .int .i64 (res : Nat), .slice (some ⟨w2.heap.size, 0, none⟩) 1 1] (w2.alloc (.cells #[.string (P x), .int .i64 (K x), .string (D x)] 41)) (InsEnd P K D w0 w S (xs.take res ++ x :: xs.drop res)) := by
    rintro res w2 A c rfl hle hbw
    have hbl : Below w.heap.size w (w2.alloc (.cells #[.string (P x), .int .i64 (K x), .string (D x)] 41)) := hbw.alloc hbw.size _
    have hi3 := insert3 P K D (fun k => S k ∧ k < w.heap.size) (.slice A xs.length c) xs res hle x w2.heap.size 1 w0 _ (HB.out.trans (hbl.mono HB.out.size))
      (Kd.R_below (Kd.R_mono (Kd.R_bound HO.out) (fun k hk => ⟨hk.1, hk.2.2.1⟩)) hbl) (Blk.new w2 _ _) (fun h => by have := hbw.size; omega) HL.out
    refine hi3.mono ?_
    intro e w3 h3
    exact InsEnd.monoS P K D (fun k hk => hk.1) (InsEnd.lift P K D hbl h3)
  have HPUT := Aside0.mk hput
  clear hput
  obtain ⟨A, c, rfl⟩ := Kd.R_slice HO.out
  unfold mputG
  cases hf : xs.findIdx? (lessQ P (P x)) with
  | none =>
    have hi : idx3 (lessQ P (P x)) xs = -1 := by unfold idx3; rw [hf]
    rw [hi] at HI
    rw [Option.getD_none]
    clear hi hf
    go_enter Tryz.func50, Tryz.ntmps50
    go_wp2_with (go_at_call 46; refine hold ?_)
    unfold Hold
    refine HI.out.mono ?_
    rintro e w2 ⟨rfl, hb2⟩
    obtain ⟨b0, b1, b2⟩ := box3 hb2
    have HP := Aside0.mk (HPUT.out xs.length w2 A c rfl (Nat.le_refl _) (HB0.out.trans (hb2.mono HB0.out.size)))
    clear hb2
    go_wp2_with (go_at_call 63; refine hold ?_)
    unfold Hold
    refine HP.out.mono ?_
    rintro e w3 h3
    have HE := Aside0.mk h3
    obtain ⟨v3, rfl, _⟩ := h3
    go_wp2
    go_ret
    exact HE.out
  | some i =>
    have hi : idx3 (lessQ P (P x)) xs = (i : Int) := by unfold idx3; rw [hf]
    have hle : i ≤ xs.length := Nat.le_of_lt (List.findIdx?_eq_some_iff_getElem.1 hf).1
    rw [hi] at HI
    rw [Option.getD_some]
    clear hi hf
    have hi0 : ¬ (i : Int) < 0 := by omega
    go_enter Tryz.func50, Tryz.ntmps50
    go_wp2_with (go_at_call 46; refine hold ?_)
    unfold Hold
    refine HI.out.mono ?_
    rintro e w2 ⟨rfl, hb2⟩
    obtain ⟨b0, b1, b2⟩ := box3 hb2
    have HP := Aside0.mk (HPUT.out i w2 A c rfl hle (HB0.out.trans (hb2.mono HB0.out.size)))
    clear hb2
    go_wp2_with (go_at_call 63; refine hold ?_)
    unfold Hold
    refine HP.out.mono ?_
    rintro e w3 h3
    have HE := Aside0.mk h3
    obtain ⟨v3, rfl, _⟩ := h3
    go_wp2
    go_ret
    exact HE.out
def sameQ (a : ByteArray) (x : α) : Bool := (P x).toList == a.toList
set_option maxHeartbeats 4000000 in
theorem mone1_any (x : α) (a d : ByteArray) (k : Int) (b : Nat) (w : World) (hb : Blk w b 41 [.string a, .int .i64 k, .string d]) :
    Calls Tryz.prog 47 #[.agg #[.string (P x), .int .i64 (K x), .string (D x)], .pointer (some ⟨b, 0, none⟩)] w fun e w' => e = .returned (.bool (sameQ P a x)) ∧ Below w.heap.size w w' := by
  have hb0 : Below w.heap.size w (w.alloc (.cells #[.string (P x), .int .i64 (K x), .string (D x)] 41)) := (Below.refl _ _).alloc (Nat.le_refl _) _
  have x0 := (hb.below hb0).cell (j := 0) rfl
  have HB := Aside0.mk hb0
  clear hb hb0
  unfold sameQ
  go_enter Tryz.func47, Tryz.ntmps47
  go_wp2
  go_ret
  exact ⟨rfl, HB.out⟩
variable (UF : ByteArray → ByteArray → Option Bool)
set_option maxHeartbeats 4000000 in
theorem mone2_any (hU : UnderOk UF) (x : α) (a d : ByteArray) (k : Int) (b : Nat) (w : World) (hb : Blk w b 41 [.string a, .int .i64 k, .string d]) (hx : (P x).toList ≠ a.toList → (UF (P x) a).isSome = true) :
    Calls Tryz.prog 48 #[.agg #[.string (P x), .int .i64 (K x), .string (D x)], .pointer (some ⟨b, 0, none⟩)] w fun e w' => e = .returned (.bool (goesQ P UF a x)) ∧ Below w.heap.size w w' := by
  have hb0 : Below w.heap.size w (w.alloc (.cells #[.string (P x), .int .i64 (K x), .string (D x)] 41)) := (Below.refl _ _).alloc (Nat.le_refl _) _
  have x0 := (hb.below hb0).cell (j := 0) rfl
  have HB := Aside0.mk hb0
  clear hb hb0
  unfold goesQ
  cases he : ((P x).toList == a.toList) with
  | true =>
    clear hx
    rw [Bool.true_or]
    go_enter Tryz.func48, Tryz.ntmps48
    go_wp2
    go_ret
    exact ⟨rfl, HB.out⟩
  | false =>
    rw [Bool.false_or]
    obtain ⟨r, hr⟩ := Option.isSome_iff_exists.1 (hx (by simpa using he))
    rw [hr, Option.getD_some]
    have HC := Aside0.mk (hU (P x) a r (w.alloc (.cells #[.string (P x), .int .i64 (K x), .string (D x)] 41)) hr)
    clear hx hr
    go_enter Tryz.func48, Tryz.ntmps48
    go_wp2_with (go_at_call 49; refine HC.out.mono ?_; rintro e w' ⟨rfl, hb'⟩)
    go_ret
    exact ⟨rfl, HB.out.trans (hb'.mono HB.out.size)⟩
variable (mk : ByteArray → Int → ByteArray → α)
/-- Go's steps: an entry laid over a layer. -/
def moneG (xs : List α) (a : ByteArray) (k : Int) (d : ByteArray) : List α :=
  if k = 2 then match xs.findIdx? (sameQ P a) with
    | none => mputG P xs (mk a 2 d)
    | some i => if (kindAt K xs i == 2 || kindAt K xs i == 4) = true then xs else xs.set i (mk a 4 ⟨#[]⟩)
  else mputG P (xs.filter fun x => !goesQ P UF a x) (mk a k d)
/-- What comes of merge.One: a row of the call's own. -/
def OwnEnd (w : World) (ys : List α) (e : Ending) (w' : World) : Prop := ∃ v : Value, e = .returned v ∧ Own3 P K D w' w.heap.size (fun _ => True) v ys ∧ Below w.heap.size w w'
theorem InsEnd.own {w w3 : World} {S : Nat → Prop} {ys : List α} {e : Ending} {w' : World} (h : InsEnd P K D w w3 S ys e w') : OwnEnd P K D w ys e w' := by
  obtain ⟨v, rfl, h1, h2, _⟩ := h
  exact ⟨v, rfl, Kd.R_mono h1 (fun _ _ => trivial), h2⟩
set_option maxHeartbeats 16000000 in
set_option maxRecDepth 100000 in
theorem mergeOne3 (hU : UnderOk UF) (hmP : ∀ a k d, P (mk a k d) = a) (hmK : ∀ a k d, K (mk a k d) = k) (hmD : ∀ a k d, D (mk a k d) = d) (A0 : Option Addr) (c0 : Nat) (xs : List α) (a d : ByteArray) (k : Int) (w : World) (hr0 : Kd.C (kd3 P K D) w A0 xs.length xs) (hc0 : xs.length ≤ c0)
    (hl : (xs.length + 1) * 40 ≤ 140737488355328) (hx : k ≠ 2 → ∀ x ∈ xs, (P x).toList ≠ a.toList → (UF (P x) a).isSome = true) :
    Calls Tryz.prog 32 #[.slice A0 xs.length c0, .agg #[.string a, .int .i64 k, .string d]] w (OwnEnd P K D w (moneG P K UF mk xs a k d)) := by
  have e1 : ∀ args w, (callFunc 47 args).run Tryz.prog w = .ok (.enter 47 args) w := fun _ _ => by kernel_rfl
  have e2 : ∀ args w, (callFunc 48 args).run Tryz.prog w = .ok (.enter 48 args) w := fun _ _ => by kernel_rfl
  obtain ⟨w1, hw1⟩ : ∃ w1, w1 = w.alloc (.cells #[.string a, .int .i64 k, .string d] 41) := ⟨_, rfl⟩
  have hb0 : Below w.heap.size w w1 := by rw [hw1]; exact (Below.refl _ _).alloc (Nat.le_refl _) _
  have hX : Blk w1 w.heap.size 41 [.string a, .int .i64 k, .string d] := by rw [hw1]; exact Blk.new w _ _
  have hs1 : w1.heap.size = w.heap.size + 1 := by rw [hw1]; simp
  -- the copy; the search
  have hclone : Calls Tryz.prog 28 #[.slice A0 xs.length c0] w1 fun e w2 => ∃ v : Value, e = .returned v ∧ Own3 P K D w2 w.heap.size (fun j => w1.heap.size ≤ j) v xs ∧ Below w1.heap.size w1 w2 :=
    (clone3 P K D A0 c0 xs w1 (Kd.C_below hr0 hb0) hc0 (by omega)).mono fun e w2 h => by
      obtain ⟨v, rfl, ho, hb⟩ := h
      exact ⟨v, rfl, own_base P K D ho (by omega) (fun j hj _ => hj), hb⟩
  have hidx : ∀ (v : Value) (w2 : World), Own3 P K D w2 w.heap.size (fun j => w1.heap.size ≤ j) v xs → Below w1.heap.size w1 w2 → Calls Tryz.prog 46 #[v, .func (.func 47) #[] #[.pointer (some ⟨w.heap.size, 0, none⟩)]] w2 fun e w' => e = .returned (.int .i64 (idx3 (sameQ P a) xs)) ∧ Below w2.heap.size w2 w' := fun v w2 ho hb =>
    indexFunc3 P K D _ v xs _ _ (sameQ P a) w w2 e1 ho (by omega) (fun W hW y _ => mone1_any P K D y a d k w.heap.size W ((hX.below hb).below hW))
  have hbox : ∀ W, Below w1.heap.size w1 W → Blk W w.heap.size 41 [.string a, .int .i64 k, .string d] := fun W hW => hX.below hW
  have hput : ∀ (ys : List α) (v : Value) (w2 : World) (S : Nat → Prop) (k' : Int), ys.length ≤ xs.length → Own3 P K D w2 w.heap.size S v ys → Below w.heap.size w w2 → Calls Tryz.prog 50 #[v, .agg #[.string a, .int .i64 k', .string d]] w2 (OwnEnd P K D w (mputG P ys (mk a k' d))) := fun ys v w2 S k' hy ho hb => by
    have hp := mergePut3 P K D S v ys (mk a k' d) w w2 hb ho (by omega)
    rw [hmP, hmK, hmD] at hp
    exact hp.mono fun e w' h => h.own
  have hdel : k ≠ 2 → ∀ (v : Value) (w2 : World), Own3 P K D w2 w.heap.size (fun j => w1.heap.size ≤ j) v xs → Below w1.heap.size w1 w2 → Calls Tryz.prog 44 #[v, .func (.func 48) #[] #[.pointer (some ⟨w.heap.size, 0, none⟩)]] w2 fun e w3 => ∃ v3 : Value, e = .returned v3 ∧ Own3 P K D w3 w.heap.size (fun _ => True) v3 (xs.filter fun x => !goesQ P UF a x) ∧ Below w.heap.size w w3 ∧ Blk w3 w.heap.size 41 [.string a, .int .i64 k, .string d] := fun h2 v w2 ho hb => by
    have hbx := hX.below hb
    refine (deleteFunc3 P K D (fun j => w1.heap.size ≤ j) v xs 48 #[.pointer (some ⟨w.heap.size, 0, none⟩)] (goesQ P UF a) w w2 e2 (hb0.trans (hb.mono hb0.size)) ho (by omega) (fun W hk x hxm => mone2_any P K D UF hU x a d k w.heap.size W (hbx.kept hk (fun h => by omega)) (hx h2 x hxm))).mono ?_
    rintro e w3 ⟨v3, rfl, h1, h3, h4⟩
    exact ⟨v3, rfl, Kd.R_mono h1 (fun _ _ => trivial), h3, hbx.kept h4 (fun h => by omega)⟩
  have HCL := Aside0.mk hclone
  have HIX := Aside0.mk hidx
  have HBX := Aside0.mk hbox
  have HPUT := Aside0.mk hput
  have HDEL := Aside0.mk hdel
  have HB0 := Aside0.mk hb0
  have HM := Aside0.mk (And.intro hmP (And.intro hmK hmD))
  have HL := Aside0.mk hl
  have HS1 := Aside0.mk hs1
  clear hclone hidx hbox hput hdel hb0 hX hmP hmK hmD hr0 hx hl hc0 hU hs1
  subst hw1
  by_cases h2 : k = 2
  · subst h2
    unfold moneG
    rw [if_pos rfl]
    clear HDEL
    cases hf : xs.findIdx? (sameQ P a) with
    | none =>
      have hi : idx3 (sameQ P a) xs = -1 := by unfold idx3; rw [hf]
      rw [hi] at HIX
      clear hi hf
      dsimp only
      go_enter Tryz.func32, Tryz.ntmps32
      go_wp2_with (go_at_call 28; refine hold ?_)
      unfold Hold
      refine HCL.out.mono ?_
      rintro e w2 ⟨v2, rfl, o2, b2⟩
      have HI := Aside0.mk (HIX.out v2 w2 o2 b2)
      have HO := Aside0.mk o2
      have HB2 := Aside0.mk b2
      clear o2 b2
      go_wp2_with (go_at_call 46; refine hold ?_)
      unfold Hold
      refine HI.out.mono ?_
      rintro e w3 ⟨rfl, b3⟩
      have hb3 := HB2.out.trans (b3.mono HB2.out.size)
      have hx2 := HBX.out w3 hb3
      have x0 := hx2.cell (j := 0) rfl
      have x1 := hx2.cell (j := 1) rfl
      have x2 := hx2.cell (j := 2) rfl
      have HP := Aside0.mk (HPUT.out xs v2 w3 _ 2 (Nat.le_refl _) (Kd.R_below HO.out b3) (HB0.out.trans (hb3.mono HB0.out.size)))
      clear b3 hb3 hx2
      go_wp2_with (go_at_call 50; refine hold ?_)
      unfold Hold
      refine HP.out.mono ?_
      rintro e w4 h4
      have HE := Aside0.mk h4
      obtain ⟨v4, rfl, _⟩ := h4
      go_wp2
      go_ret
      exact HE.out
    | some i =>
      have hi : idx3 (sameQ P a) xs = (i : Int) := by unfold idx3; rw [hf]
      have hlt : i < xs.length := (List.findIdx?_eq_some_iff_getElem.1 hf).1
      rw [hi] at HIX
      clear hi hf
      dsimp only
      have hxi : xs[i]? = some xs[i] := List.getElem?_eq_getElem hlt
      have hki : kindAt K xs i = K xs[i] := by unfold kindAt; rw [hxi]; rfl
      rw [hki]
      generalize xs[i] = x at hxi hki ⊢
      have HX := Aside0.mk hxi
      clear hxi hki
      have hho : ∀ w3, Calls Tryz.prog 26 #[.agg #[.string (P x), .int .i64 (K x), .string (D x)]] w3 fun e w' => e = .returned (.bool (K x == 2 || K x == 4)) ∧ Below w3.heap.size w3 w' := fun w3 => mholds3 (P x) (K x) (D x) w3
      generalize (K x == 2 || K x == 4) = hh at hho ⊢
      have HHO := Aside0.mk hho
      clear hho
      have hset : ∀ (g cap : Nat) (cur : List Value) (w5 : World), w.heap.size ≤ g → Blk w5 g 41 (splice cur (i * 3) [.string a, .int .i64 4, .string ⟨#[]⟩]) → xs.length ≤ cap → cap ≤ 9223372036854775807 → cur.length = cap * 3 → cur.take (xs.length * 3) = c3 P K D xs → Below w.heap.size w w5 → OwnEnd P K D w (xs.set i (mk a 4 ⟨#[]⟩)) (.returned (.slice (some ⟨g, 0, none⟩) xs.length cap)) w5 := fun g cap cur w5 hge hg5 hnc hcm hcs ht hb5 => by
        have he3 : e3 P K D (mk a 4 ⟨#[]⟩) = [.string a, .int .i64 4, .string ⟨#[]⟩] := by unfold e3; rw [HM.out.1, HM.out.2.1, HM.out.2.2]
        rw [← he3] at hg5
        have hsl : i * 3 + (e3 P K D (mk a 4 ⟨#[]⟩)).length ≤ cur.length := by rw [hcs]; simp [e3]; omega
        refine ⟨_, rfl, R_shut (flat3 P K D) hge trivial hg5 (by rw [List.length_set]) (by rw [List.length_set]; exact hnc) hcm (by rw [length_splice _ _ _ hsl]; exact hcs) ?_, hb5⟩
        rw [List.length_set, sz3]
        have e1 : xs.length * 3 = (i * 3 + (e3 P K D (mk a 4 ⟨#[]⟩)).length) + (xs.length - (i + 1)) * 3 := by simp [e3]; omega
        have e2 : i * 3 + (e3 P K D (mk a 4 ⟨#[]⟩)).length = (i + 1) * 3 := by simp [e3]; omega
        show List.take _ _ = c3 P K D (xs.set i (mk a 4 ⟨#[]⟩))
        rw [c3_set P K D xs i (mk a 4 ⟨#[]⟩) hlt, ← ht, e1, List.take_add, splice_take2 hsl, splice_drop hsl, List.take_take, Nat.min_eq_left (by omega), e2, List.drop_take]
        congr 2
        omega
      have HSET := Aside0.mk hset
      clear hset HPUT HM
      have hneg : ¬ (i : Int) < 0 := by omega
      have hi0 : (0 : Int) ≤ (i : Int) := by omega
      have hi1 : (i : Int) < (xs.length : Int) := by omega
      have HLT := Aside0.mk hlt
      clear hlt
      cases hh with
      | true =>
        rw [if_pos rfl]
        clear HSET
        go_enter Tryz.func32, Tryz.ntmps32
        go_wp2_with (go_at_call 28; refine hold ?_)
        unfold Hold
        refine HCL.out.mono ?_
        rintro e w2 ⟨v2, rfl, o2, b2⟩
        have HI := Aside0.mk (HIX.out v2 w2 o2 b2)
        have HO := Aside0.mk o2
        have HB2 := Aside0.mk b2
        clear o2 b2
        go_wp2_with (go_at_call 46; refine hold ?_)
        unfold Hold
        refine HI.out.mono ?_
        rintro e w3 ⟨rfl, b3⟩
        have hb3 := HB2.out.trans (b3.mono HB2.out.size)
        have hx2 := HBX.out w3 hb3
        have x0 := hx2.cell (j := 0) rfl
        have x1 := hx2.cell (j := 1) rfl
        have x2 := hx2.cell (j := 2) rfl
        have HO3 := Aside0.mk (Kd.R_below HO.out b3)
        have HB3 := Aside0.mk hb3
        have HH := Aside0.mk (HHO.out w3)
        clear b3 hb3 hx2 HO HI HIX HCL HHO
        obtain ⟨g, cap, cur, rfl, hge, hok, hg, hnc, hcm, hcs, ht⟩ : ∃ (g cap : Nat) (cur : List Value), v2 = .slice (some ⟨g, 0, none⟩) xs.length cap ∧ w.heap.size ≤ g ∧ True ∧ Blk w3 g 41 cur ∧ xs.length ≤ cap ∧ cap ≤ 9223372036854775807 ∧ cur.length = cap * 3 ∧ cur.take (xs.length * 3) = c3 P K D xs := by
          rcases R_raw3 P K D HO3.out with ⟨rfl, rfl⟩ | ⟨g, cap, cur, h1, h2, h3, h4⟩
          · exact absurd HLT.out (by simp)
          · exact ⟨g, cap, cur, h1, h2, trivial, h4⟩
        have hcell : ∀ m u, m < 3 → (e3 P K D x)[m]? = some u → w3.cell? ⟨g, i * 3 + m, none⟩ = some u := fun m u hm hu => by
          refine hg.cell ?_
          rw [← hu, ← c3_get P K D HX.out m hm, ← ht, List.getElem?_take, if_pos (by have := HLT.out; omega)]
        have cc0 := hcell 0 _ (by omega) rfl
        have cc1 := hcell 1 _ (by omega) rfl
        have cc2 := hcell 2 _ (by omega) rfl
        rw [Nat.add_zero] at cc0
        have HG := Aside0.mk hg
        have HC := Aside0.mk hcs
        have HT := Aside0.mk ht
        clear hcell hg hcs ht
        go_wp2_with (go_at_call 26; refine hold ?_)
        unfold Hold
        refine HH.out.mono ?_
        rintro e w4 ⟨rfl, b4⟩
        have HE := Aside0.mk (⟨_, rfl, Kd.R_mono (Kd.R_below HO3.out b4) (fun _ _ => trivial), (HB0.out.trans (HB3.out.mono HB0.out.size)).trans (b4.mono (HB0.out.trans (HB3.out.mono HB0.out.size)).size)⟩ : OwnEnd P K D w xs (.returned (.slice (some ⟨g, 0, none⟩) xs.length cap)) w4)
        clear b4
        go_wp2
        go_ret
        exact HE.out
      | false =>
        rw [if_neg (by decide)]
        go_enter Tryz.func32, Tryz.ntmps32
        go_wp2_with (go_at_call 28; refine hold ?_)
        unfold Hold
        refine HCL.out.mono ?_
        rintro e w2 ⟨v2, rfl, o2, b2⟩
        have HI := Aside0.mk (HIX.out v2 w2 o2 b2)
        have HO := Aside0.mk o2
        have HB2 := Aside0.mk b2
        clear o2 b2
        go_wp2_with (go_at_call 46; refine hold ?_)
        unfold Hold
        refine HI.out.mono ?_
        rintro e w3 ⟨rfl, b3⟩
        have hb3 := HB2.out.trans (b3.mono HB2.out.size)
        have hx2 := HBX.out w3 hb3
        have x0 := hx2.cell (j := 0) rfl
        have x1 := hx2.cell (j := 1) rfl
        have x2 := hx2.cell (j := 2) rfl
        have HO3 := Aside0.mk (Kd.R_below HO.out b3)
        have HB3 := Aside0.mk hb3
        have HH := Aside0.mk (HHO.out w3)
        clear b3 hb3 hx2 HO HI HIX HCL HHO
        obtain ⟨g, cap, cur, rfl, hge, hok, hg, hnc, hcm, hcs, ht⟩ : ∃ (g cap : Nat) (cur : List Value), v2 = .slice (some ⟨g, 0, none⟩) xs.length cap ∧ w.heap.size ≤ g ∧ True ∧ Blk w3 g 41 cur ∧ xs.length ≤ cap ∧ cap ≤ 9223372036854775807 ∧ cur.length = cap * 3 ∧ cur.take (xs.length * 3) = c3 P K D xs := by
          rcases R_raw3 P K D HO3.out with ⟨rfl, rfl⟩ | ⟨g, cap, cur, h1, h2, h3, h4⟩
          · exact absurd HLT.out (by simp)
          · exact ⟨g, cap, cur, h1, h2, trivial, h4⟩
        have hcell : ∀ m u, m < 3 → (e3 P K D x)[m]? = some u → w3.cell? ⟨g, i * 3 + m, none⟩ = some u := fun m u hm hu => by
          refine hg.cell ?_
          rw [← hu, ← c3_get P K D HX.out m hm, ← ht, List.getElem?_take, if_pos (by have := HLT.out; omega)]
        have cc0 := hcell 0 _ (by omega) rfl
        have cc1 := hcell 1 _ (by omega) rfl
        have cc2 := hcell 2 _ (by omega) rfl
        rw [Nat.add_zero] at cc0
        have HG := Aside0.mk hg
        have HC := Aside0.mk hcs
        have HT := Aside0.mk ht
        clear hcell hg hcs ht
        go_wp2_with (go_at_call 26; refine hold ?_)
        unfold Hold
        refine HH.out.mono ?_
        rintro e w4 ⟨rfl, b4⟩
        have y0 := b4.cell (World.block_lt_of_cell? _ _ x0)
        rw [x0] at y0
        have HB4 := Aside0.mk b4
        clear b4 x0 x1 x2 cc0 cc1 cc2
        go_wp2_with (first
          | ((with_reducible refine gate_st3 (x := .tmp 40) (y := .tmp 39) rfl ?_); refine hold ?_))
        unfold Hold
        have hbw4 : Below w.heap.size w w4 := (HB0.out.trans (HB3.out.mono HB0.out.size)).trans (HB4.out.mono (HB0.out.trans (HB3.out.mono HB0.out.size)).size)
        refine wp_store_blk rfl 41 (.tmp 40) (.tmp 39) rfl 3 Tryz.size3 g (i * 3) rfl _ rfl [.string a, .int .i64 4, .string ⟨#[]⟩] rfl rfl cur 41 (HG.out.below HB4.out) ?hf (by intro u hu; simp at hu; rcases hu with rfl | rfl | rfl <;> rfl) (B := w.heap.size) (w0 := w) hbw4 hge ?_
        case hf => rw [HC.out]; have := HLT.out; simp; omega
        intro w5 hg5 hk5 hb5
        have HE := Aside0.mk (HSET.out g cap cur w5 hge hg5.out hnc hcm HC.out HT.out hb5.out)
        clear hg5 hk5 hb5
        go_wp2
        go_ret
        exact HE.out
  · unfold moneG
    rw [if_neg h2]
    have k2b : (k == 2) = false := beq_eq_false_iff_ne.2 h2
    have k2n : (k != 2) = true := bne_iff_ne.2 h2
    have HDL := Aside0.mk (HDEL.out h2)
    clear h2 HDEL
    go_enter Tryz.func32, Tryz.ntmps32
    go_wp2_with (go_at_call 28; refine hold ?_)
    unfold Hold
    refine HCL.out.mono ?_
    rintro e w2 ⟨v2, rfl, o2, b2⟩
    have HI := Aside0.mk (HIX.out v2 w2 o2 b2)
    have HO := Aside0.mk o2
    have HB2 := Aside0.mk b2
    clear o2 b2
    go_wp2_with (go_at_call 46; refine hold ?_)
    unfold Hold
    refine HI.out.mono ?_
    rintro e w3 ⟨rfl, b3⟩
    have hb3 := HB2.out.trans (b3.mono HB2.out.size)
    have hx2 := HBX.out w3 hb3
    have x1 := hx2.cell (j := 1) rfl
    have HD3 := Aside0.mk (HDL.out v2 w3 (Kd.R_below HO.out b3) hb3)
    clear b3 hb3 hx2
    go_wp2_with (go_at_call 44; refine hold ?_)
    unfold Hold
    refine HD3.out.mono ?_
    rintro e w4 ⟨v4, rfl, o4, b4, hx4⟩
    have y0 := hx4.cell (j := 0) rfl
    have y1 := hx4.cell (j := 1) rfl
    have y2 := hx4.cell (j := 2) rfl
    have HP := Aside0.mk (HPUT.out _ v4 w4 _ k (List.length_filter_le _ _) o4 b4)
    clear o4 b4 hx4 x1
    go_wp2_with (go_at_call 50; refine hold ?_)
    unfold Hold
    refine HP.out.mono ?_
    rintro e w5 h5
    have HE := Aside0.mk h5
    obtain ⟨v5, rfl, _⟩ := h5
    go_wp2
    go_ret
    exact HE.out
end
end Go.Proofs.YtjlflmjimibciaaGreatDoor.Print
end

section
namespace Go.Proofs.YtjlflmjimibciaaGreatDoor.Print
open Go Go.RowKit Go.Proofs.YtjlflmjimibciaaGreatDoorW.PrintWords Go.Proofs.YtjlflmjimibciaaGreatDoorW.PrintLast Go.Proofs.YtjlflmjimibciaaGreatDoorW.PrintMore
set_option linter.unusedVariables false
set_option linter.unusedSimpArgs false
theorem Tryz.sizeI3 : (Tryz.prog.info? 3).map (·.size) = some 1 := by kernel_rfl
section
variable {α : Type} (P : α → ByteArray) (K : α → Int) (D : α → ByteArray)
set_option maxHeartbeats 4000000 in
theorem mbot1_any (x : α) (w : World) :
    Calls Tryz.prog 45 #[.agg #[.string (P x), .int .i64 (K x), .string (D x)]] w fun e w' => e = .returned (.bool (K x == 3)) ∧ Below w.heap.size w w' := by
  have HB := Aside0.mk (show Below w.heap.size w (w.alloc (.cells #[.string (P x), .int .i64 (K x), .string (D x)] 41)) from (Below.refl _ _).alloc (Nat.le_refl _) _)
  go_enter Tryz.func45, Tryz.ntmps45
  go_wp2
  go_ret
  exact ⟨rfl, HB.out⟩
variable (mk : ByteArray → Int → ByteArray → α)
def bot1 (x : α) : α := if K x = 4 then mk (P x) 2 (D x) else x
/-- Go's steps: whiteouts go, opaque directories become plain ones. -/
def botG (xs : List α) : List α := (xs.filter fun x => !(K x == 3)).map (bot1 P K D mk)
/-- The list behind so many rounds. -/
def botN (ys : List α) (i : Nat) : List α := (ys.take i).map (bot1 P K D mk) ++ ys.drop i
theorem botN_len (ys : List α) (i : Nat) : (botN P K D mk ys i).length = ys.length := by
  unfold botN; rw [List.length_append, List.length_map, List.length_take, List.length_drop]; omega
theorem botN_get (ys : List α) (i : Nat) (h : i < ys.length) : (botN P K D mk ys i)[i]? = some ys[i] := by
  unfold botN
  rw [List.getElem?_append_right (by rw [List.length_map, List.length_take]; omega), List.length_map, List.length_take, Nat.min_eq_left (by omega), Nat.sub_self, List.getElem?_drop, Nat.add_zero, List.getElem?_eq_getElem h]
theorem botN_succ (ys : List α) (i : Nat) (h : i < ys.length) : botN P K D mk ys (i + 1) = (botN P K D mk ys i).set i (bot1 P K D mk ys[i]) := by
  have hl : ((ys.take i).map (bot1 P K D mk)).length = i := by rw [List.length_map, List.length_take]; omega
  unfold botN
  rw [List.set_append_right _ _ (by omega), hl, Nat.sub_self, List.drop_eq_getElem_cons h, List.set_cons_zero, List.take_succ_eq_append_getElem h, List.map_append, List.map_singleton, List.append_assoc, List.singleton_append]
theorem botN_id (ys : List α) (i : Nat) (h : i < ys.length) (hk : K ys[i] ≠ 4) : botN P K D mk ys (i + 1) = botN P K D mk ys i := by
  rw [botN_succ P K D mk ys i h]
  have : bot1 P K D mk ys[i] = ys[i] := by unfold bot1; rw [if_neg hk]
  rw [this]
  have hl : i < (botN P K D mk ys i).length := by rw [botN_len]; exact h
  have hg := botN_get P K D mk ys i h
  rw [List.getElem?_eq_getElem hl] at hg
  rw [← Option.some.inj hg, List.set_getElem_self]
/-- One cell of a row is written: an entry's kind. -/
theorem c3_kind (xs : List α) (i : Nat) (x y : α) (hx : xs[i]? = some x) (hP : P y = P x) (hD : D y = D x) (cur : List Value) (ht : cur.take (xs.length * 3) = c3 P K D xs) (hc : xs.length * 3 ≤ cur.length) :
    (splice cur (i * 3 + 1) [.int .i64 (K y)]).take (xs.length * 3) = c3 P K D (xs.set i y) := by
  obtain ⟨hl, hxe⟩ := List.getElem?_eq_some_iff.1 hx
  refine List.ext_getElem? fun n => ?_
  by_cases hn : n < xs.length * 3
  · rw [List.getElem?_take, if_pos hn]
    have hsp : (splice cur (i * 3 + 1) [.int .i64 (K y)])[n]? = if n = i * 3 + 1 then some (.int .i64 (K y)) else cur[n]? := by
      unfold splice
      by_cases e : n = i * 3 + 1
      · rw [if_pos e, e]
        rw [List.getElem?_append_right (by rw [List.length_take]; omega), List.length_take, Nat.min_eq_left (by omega), Nat.sub_self]; rfl
      · rw [if_neg e]
        by_cases h2 : n < i * 3 + 1
        · rw [List.getElem?_append_left (by rw [List.length_take]; omega), List.getElem?_take, if_pos h2]
        · rw [List.getElem?_append_right (by rw [List.length_take]; omega), List.length_take, Nat.min_eq_left (by omega), List.getElem?_append_right (by rw [List.length_singleton]; omega), List.getElem?_drop, List.length_singleton]
          congr 1
          omega
    rw [hsp]
    obtain ⟨q, r, hr, hq⟩ : ∃ q r, r < 3 ∧ n = q * 3 + r := ⟨n / 3, n % 3, by omega, by omega⟩
    have hql : q < xs.length := by omega
    have hc0 : ∀ (m : Nat) (z : α), xs[q]? = some z → m < 3 → cur[q * 3 + m]? = (e3 P K D z)[m]? := fun m z hz hm => by
      rw [← c3_get P K D hz m hm, ← ht, List.getElem?_take, if_pos (by omega)]
    subst hq
    by_cases e : q = i
    · subst e
      have hy : (xs.set q y)[q]? = some y := by rw [List.getElem?_set_self hql]
      rw [c3_get P K D hy r hr]
      by_cases e1 : r = 1
      · subst e1; rw [if_pos rfl]; rfl
      · rw [if_neg (by omega), hc0 r x hx hr]
        have : r = 0 ∨ r = 2 := by omega
        rcases this with rfl | rfl
        · show some (Value.string (P x)) = some (.string (P y)); rw [hP]
        · show some (Value.string (D x)) = some (.string (D y)); rw [hD]
    · have hz : xs[q]? = some xs[q] := List.getElem?_eq_getElem hql
      have hz2 : (xs.set i y)[q]? = some xs[q] := by rw [List.getElem?_set_ne (fun k => e k.symm), hz]
      rw [if_neg (by omega), c3_get P K D hz2 r hr, hc0 r _ hz hr]
  · rw [List.getElem?_eq_none (by rw [List.length_take]; omega), List.getElem?_eq_none (by rw [c3_len, List.length_set]; omega)]
set_option maxHeartbeats 16000000 in
set_option maxRecDepth 100000 in
theorem mergeBottom3 (hmP : ∀ a k d, P (mk a k d) = a) (hmK : ∀ a k d, K (mk a k d) = k) (hmD : ∀ a k d, D (mk a k d) = d) (A0 : Option Addr) (c0 : Nat) (xs : List α) (w : World) (hr0 : Kd.C (kd3 P K D) w A0 xs.length xs) (hc0 : xs.length ≤ c0)
    (hl : xs.length * 40 ≤ 140737488355328) :
    Calls Tryz.prog 31 #[.slice A0 xs.length c0] w (OwnEnd P K D w (botG P K D mk xs)) := by
  have e1 : ∀ args w, (callFunc 45 args).run Tryz.prog w = .ok (.enter 45 args) w := fun _ _ => by kernel_rfl
  have HCL := Aside0.mk (clone3 P K D A0 c0 xs w hr0 hc0 hl)
  have hdel : ∀ (v : Value) (w2 : World), Own3 P K D w2 w.heap.size (fun _ => True) v xs → Below w.heap.size w w2 → Calls Tryz.prog 44 #[v, .func (.func 45) #[] #[]] w2 (InsEnd P K D w w2 (fun _ => True) (xs.filter fun x => !(K x == 3))) := fun v w2 ho hb =>
    deleteFunc3 P K D (fun _ => True) v xs 45 #[] (fun x => K x == 3) w w2 e1 hb ho (by omega) (fun W _ x _ => mbot1_any P K D x W)
  have HDEL := Aside0.mk hdel
  have HM := Aside0.mk (And.intro hmP (And.intro hmK hmD))
  have HL := Aside0.mk hl
  clear hdel hmP hmK hmD hr0 hc0 hl e1
  have hys : (xs.filter fun x => !(K x == 3)).length ≤ xs.length := List.length_filter_le _ _
  have hbot : botG P K D mk xs = (xs.filter fun x => !(K x == 3)).map (bot1 P K D mk) := rfl
  rw [hbot]
  generalize (xs.filter fun x => !(K x == 3)) = ys at hys HDEL ⊢
  have HYS := Aside0.mk hys
  clear hbot hys
  have hfin : ∀ (g cap : Nat) (cj : List Value) (wr : World), w.heap.size ≤ g → Blk wr g 41 cj → cj.length = cap * 3 → ys.length ≤ cap → cap ≤ 9223372036854775807 → cj.take (ys.length * 3) = c3 P K D (botN P K D mk ys ys.length) → Below w.heap.size w wr → OwnEnd P K D w (ys.map (bot1 P K D mk)) (.returned (.slice (some ⟨g, 0, none⟩) ys.length cap)) wr := fun g cap cj wr hge hg hcs hnc hcm ht hb => by
    have e : botN P K D mk ys ys.length = ys.map (bot1 P K D mk) := by unfold botN; rw [List.take_length, List.drop_length, List.append_nil]
    rw [e] at ht
    exact ⟨_, rfl, R_shut (flat3 P K D) hge trivial hg (by rw [List.length_map]) (by rw [List.length_map]; exact hnc) hcm hcs (by rw [List.length_map]; exact ht), hb⟩
  have HFIN := Aside0.mk hfin
  clear hfin
  go_enter Tryz.func31, Tryz.ntmps31
  go_wp2_with (go_at_call 28; refine hold ?_)
  unfold Hold
  refine HCL.out.mono ?_
  rintro e w2 ⟨v2, rfl, o2, b2⟩
  have HD2 := Aside0.mk (HDEL.out v2 w2 o2 b2)
  clear o2 b2 HCL HDEL
  go_wp2_with (go_at_call 44; refine hold ?_)
  unfold Hold
  refine HD2.out.mono ?_
  rintro e w3 ⟨v3, rfl, o3, b3, _⟩
  clear HD2
  rcases R_raw3 P K D o3 with ⟨rfl, rfl⟩ | ⟨g, cap, cur, rfl, hge, hok, hg, hnc, hcm, hcs, ht⟩
  · have HE := Aside0.mk (⟨_, rfl, Kd.R_nil _ _ _ _ _, b3⟩ : OwnEnd P K D w (([] : List α).map (bot1 P K D mk)) (.returned (.slice none 0 0)) w3)
    clear o3 b3
    go_wp2
    refine wp_loop_rounds 1 ?_
    rw [rounds_succ]
    go_wp2
    go_ret
    exact HE.out
  · have HB3 := Aside0.mk b3
    have HG := Aside0.mk hg
    have HC := Aside0.mk hcs
    have HT := Aside0.mk ht
    clear o3 b3 hg hcs ht hok
    generalize hlen : ys.length = n at hnc
    have HN := Aside0.mk hlen
    clear hlen
    go_wp2
    go_loopg [4, 5, 11] n (fun gg _ _ s11 wr => ∃ (i : Nat) (cj : List Value), s11 = .int .i64 i ∧ i ≤ n ∧ n - i ≤ gg ∧ Aside0 (Blk wr g 41 cj) ∧ Aside0 (Below w.heap.size w wr) ∧ Aside0 (cj.length = cap * 3) ∧ Aside0 (cj.take (n * 3) = c3 P K D (botN P K D mk ys i)))
    case atStart =>
      refine ⟨0, cur, rfl, Nat.zero_le _, by omega, HG, HB3, HC, ⟨?_⟩⟩
      have : botN P K D mk ys 0 = ys := by unfold botN; simp
      rw [this, ← HN.out]; exact HT.out
    case round =>
      obtain ⟨i, cj, rfl, hin, hgg, BL, BB, LL, TT⟩ := hrel
      by_cases hlt : i < n
      · have hltz : (i : Int) < (n : Int) := by omega
        have hi0 : (0 : Int) ≤ (i : Int) := by omega
        have hiy : i < ys.length := by rw [HN.out]; exact hlt
        have hget := botN_get P K D mk ys i hiy
        have hcell : ∀ m u, m < 3 → (e3 P K D ys[i])[m]? = some u → wr.cell? ⟨g, i * 3 + m, none⟩ = some u := fun m u hm hu => by
          refine BL.out.cell ?_
          rw [← hu, ← c3_get P K D hget m hm, ← TT.out, List.getElem?_take, if_pos (by omega)]
        have cc0 := hcell 0 _ (by omega) rfl
        have cc1 := hcell 1 _ (by omega) rfl
        have cc2 := hcell 2 _ (by omega) rfl
        rw [Nat.add_zero] at cc0
        have hnx : botN P K D mk ys (i + 1) = (botN P K D mk ys i).set i (bot1 P K D mk ys[i]) := botN_succ P K D mk ys i hiy
        have hid := botN_id P K D mk ys i hiy
        have hb1 : K ys[i] = 4 → bot1 P K D mk ys[i] = mk (P ys[i]) 2 (D ys[i]) := fun h => by unfold bot1; rw [if_pos h]
        generalize ys[i] = x at *
        have hblen := botN_len P K D mk ys i
        have HX := Aside0.mk (And.intro hget (And.intro hnx (And.intro hid (And.intro hb1 hblen))))
        clear hcell hget hnx hid hb1 hblen hiy
        have BB1 : Aside0 (Below w.heap.size w (wr.alloc (.cells #[.string (P x), .int .i64 (K x), .string (D x)] 41))) := ⟨BB.out.alloc BB.out.size _⟩
        have BL1 : Aside0 (Blk (wr.alloc (.cells #[.string (P x), .int .i64 (K x), .string (D x)] 41)) g 41 cj) := ⟨BL.out.below ((Below.refl _ _).alloc (Nat.le_refl _) _)⟩
        by_cases h4 : K x = 4
        · have k4 : (K x == 4) = true := beq_iff_eq.2 h4
          have H4 := Aside0.mk h4
          clear h4
          go_wp2_with (first
            | ((with_reducible refine gate_st3 (x := .tmp 22) (y := .const (.int .i64 2)) rfl ?_); refine hold ?_))
          unfold Hold
          refine wp_store_blk rfl 3 (.tmp 22) (.const (.int .i64 2)) rfl 1 Tryz.sizeI3 g (i * 3 + 1) rfl _ rfl [.int .i64 2] rfl rfl cj 41 BL1.out ?hf (by intro u hu; simp at hu; subst hu; rfl) (B := w.heap.size) (w0 := w) BB1.out hge ?_
          case hf => rw [LL.out]; simp; omega
          intro w5 hg5 hk5 hb5
          go_wp2
          go_roundg (n - (i + 1))
          case measure => omega
          case rel =>
            refine ⟨i + 1, splice cj (i * 3 + 1) [.int .i64 2], by go_num, by omega, by omega, hg5, hb5, ⟨?_⟩, ⟨?_⟩⟩
            · rw [length_splice _ _ _ (by rw [LL.out]; simp; omega)]; exact LL.out
            · have hy : K (mk (P x) 2 (D x)) = 2 := HM.out.2.1 _ _ _
              have := c3_kind P K D (botN P K D mk ys i) i x (mk (P x) 2 (D x)) HX.out.1 (HM.out.1 _ _ _) (HM.out.2.2 _ _ _) cj (by rw [HX.out.2.2.2.2, HN.out]; exact TT.out) (by rw [HX.out.2.2.2.2, HN.out, LL.out]; omega)
              rw [hy, HX.out.2.2.2.2, HN.out] at this
              rw [HX.out.2.1, HX.out.2.2.2.1 H4.out]
              exact this
        · have k4 : (K x == 4) = false := beq_eq_false_iff_ne.2 h4
          have H4 := Aside0.mk h4
          clear h4
          go_wp2
          go_roundg (n - (i + 1))
          case measure => omega
          case rel =>
            refine ⟨i + 1, cj, by go_num, by omega, by omega, BL1, BB1, LL, ⟨?_⟩⟩
            rw [HX.out.2.2.1 H4.out]; exact TT.out
      · have hltz : ¬ (i : Int) < (n : Int) := by omega
        obtain rfl : i = n := by omega
        have HE := Aside0.mk (HFIN.out g cap cj wr hge BL.out LL.out (by rw [HN.out]; exact hnc) hcm (by rw [HN.out]; exact TT.out) BB.out)
        rw [HN.out] at HE
        go_wp2
        go_ret
        exact HE.out
end
end Go.Proofs.YtjlflmjimibciaaGreatDoor.Print
end
