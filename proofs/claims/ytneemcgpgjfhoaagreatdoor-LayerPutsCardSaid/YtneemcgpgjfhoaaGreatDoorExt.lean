/- layer.at: slices.BinarySearchFunc at entries, by their paths: the walk. The search is told as Go's own steps (no order of the list is asked). -/
import Derived.Test.YtneemcgpgjfhoaaGreatDoorSplitP
import Derived.Defers
import Derived.WalkLawsBesides
import Derived.StillTailTactics
import Derived.BigQuiet
import Derived.Laws.BitsLemmas
import Derived.Deep.LoopGhost
import Derived.Lib.Overlaps
import Derived.Lib.AppendZeros
import Derived.Lib.AppendZerosOnto
import Derived.Laws.NewBlocks
import Derived.Laws.Externs
section
namespace Go.Proofs.YtneemcgpgjfhoaaGreatDoor.Print
open Go Go.RowKit Go.Proofs.YtneemcgpgjfhoaaGreatDoorW.PrintWords Go.Proofs.YtneemcgpgjfhoaaGreatDoorW.PrintLast Go.Proofs.YtneemcgpgjfhoaaGreatDoorW.PrintMore
set_option linter.unusedVariables false
set_option linter.unusedSimpArgs false
/-- Go's search: F the paths, from lo to hi. -/
def bsF (F : Nat → ByteArray) (p : ByteArray) : Nat → Nat → Nat → Nat
  | 0, lo, _ => lo
  | n + 1, lo, hi => if lo < hi then (if Lib.compareBytes (F ((lo + hi) / 2)).data.toList p.data.toList < 0 then bsF F p n ((lo + hi) / 2 + 1) hi else bsF F p n lo ((lo + hi) / 2)) else lo
theorem bsF_fuel (F : Nat → ByteArray) (p : ByteArray) : ∀ (n m lo hi : Nat), hi - lo ≤ n → hi - lo ≤ m → bsF F p n lo hi = bsF F p m lo hi
  | 0, 0, _, _, _, _ => rfl
  | 0, m + 1, lo, hi, h, _ => by rw [bsF, bsF, if_neg (by omega)]
  | n + 1, 0, lo, hi, _, h => by rw [bsF, bsF, if_neg (by omega)]
  | n + 1, m + 1, lo, hi, h1, h2 => by
    rw [bsF, bsF]
    by_cases hl : lo < hi
    · rw [if_pos hl, if_pos hl, bsF_fuel F p n m ((lo + hi) / 2 + 1) hi (by omega) (by omega), bsF_fuel F p n m lo ((lo + hi) / 2) (by omega) (by omega)]
    · rw [if_neg hl, if_neg hl]
theorem bsF_stop (F : Nat → ByteArray) (p : ByteArray) (n lo hi : Nat) (h : ¬ lo < hi) : bsF F p n lo hi = lo := by
  cases n with
  | zero => rfl
  | succ n => rw [bsF, if_neg h]
theorem bsF_step (F : Nat → ByteArray) (p : ByteArray) (lo hi : Nat) (h : lo < hi) : bsF F p (hi - lo) lo hi = if Lib.compareBytes (F ((lo + hi) / 2)).data.toList p.data.toList < 0 then bsF F p (hi - ((lo + hi) / 2 + 1)) ((lo + hi) / 2 + 1) hi else bsF F p ((lo + hi) / 2 - lo) lo ((lo + hi) / 2) := by
  obtain ⟨j, hj⟩ : ∃ j, hi - lo = j + 1 := ⟨hi - lo - 1, by omega⟩
  rw [hj, bsF, if_pos h, bsF_fuel F p j (hi - ((lo + hi) / 2 + 1)) ((lo + hi) / 2 + 1) hi (by omega) (by omega), bsF_fuel F p j ((lo + hi) / 2 - lo) lo ((lo + hi) / 2) (by omega) (by omega)]
set_option maxHeartbeats 4000000 in
set_option maxRecDepth 100000 in
theorem at1_any (a : ByteArray) (k : Int) (d p : ByteArray) (w : World) :
    Calls Tryz.prog 32 #[.agg #[.string a, .int .i64 k, .string d], .string p] w fun e w' => e = .returned (.int .i64 (Lib.compareBytes a.data.toList p.data.toList)) ∧ Below w.heap.size w w' := by
  have hb : Below w.heap.size w (w.alloc (.cells #[.string a, .int .i64 k, .string d] 31)) := (Below.refl _ _).alloc (Nat.le_refl _) _
  have HB := Aside0.mk hb
  clear hb
  have HC := Any.strings_Compare Tryz.lays106 a p
  go_enter Tryz.func32, Tryz.ntmps32
  go_wp2_with (first | (go_at_call 33; refine (HC _).mono ?_; rintro e w' ⟨rfl, rfl⟩))
  go_ret
  exact ⟨rfl, HB.out⟩
structure RowAt (w : World) (ad : Addr) (n : Nat) (F : Nat → ByteArray) (K : Nat → Int) (D : Nat → ByteArray) : Prop where
  here : ad.block < w.heap.size
  c0 : ∀ i, i < n → w.cell? (ad.add (i * 3)) = some (.string (F i))
  c1 : ∀ i, i < n → w.cell? ⟨(ad.add (i * 3)).block, (ad.add (i * 3)).off + 1, none⟩ = some (.int .i64 (K i))
  c2 : ∀ i, i < n → w.cell? ⟨(ad.add (i * 3)).block, (ad.add (i * 3)).off + 2, none⟩ = some (.string (D i))
theorem add_block (ad : Addr) (m : Nat) : (ad.add m).block = ad.block := by unfold Addr.add; split <;> rfl
theorem RowAt.below {w W : World} {ad : Addr} {n : Nat} {F : Nat → ByteArray} {K : Nat → Int} {D : Nat → ByteArray} (h : RowAt w ad n F K D) (hb : Below w.heap.size w W) : RowAt W ad n F K D :=
  ⟨Nat.lt_of_lt_of_le h.here hb.size, fun i hi => (hb.cell (p := ad.add (i * 3)) (by rw [add_block]; exact h.here)).trans (h.c0 i hi), fun i hi => (hb.cell (p := ⟨(ad.add (i * 3)).block, _, none⟩) (by show (ad.add (i * 3)).block < _; rw [add_block]; exact h.here)).trans (h.c1 i hi), fun i hi => (hb.cell (p := ⟨(ad.add (i * 3)).block, _, none⟩) (by show (ad.add (i * 3)).block < _; rw [add_block]; exact h.here)).trans (h.c2 i hi)⟩
set_option maxHeartbeats 8000000 in
set_option maxRecDepth 100000 in
theorem search_any (ad : Addr) (n c : Nat) (F : Nat → ByteArray) (K : Nat → Int) (D : Nat → ByteArray) (p : ByteArray) (w : World) (hn : n < 4611686018427387904) (hR : RowAt w ad n F K D) :
    Calls Tryz.prog 31 #[.slice (some ad) n c, .string p, .func (.func 32) #[] #[]] w fun e w' =>
      e = .returned (.tuple #[.int .i64 (bsF F p n 0 n : Nat), .bool (decide (bsF F p n 0 n < n) && decide (Lib.compareBytes (F (bsF F p n 0 n)).data.toList p.data.toList = 0))]) ∧ Below w.heap.size w w' := by
  have ef : ∀ args w, (callFunc 32 args).run Tryz.prog w = .ok (.enter 32 args) w := fun _ _ => by kernel_rfl
  have HR := Aside0.mk hR
  have HB := Aside0.mk (Below.refl w.heap.size w)
  have HN := Aside0.mk hn
  clear hR
  generalize hres : bsF F p n 0 n = res
  have RES := Aside0.mk hres
  clear hres
  go_enter Tryz.func31, Tryz.ntmps31
  go_wp2
  go_loopg [9, 10] n (fun kx s9 s10 wr => ∃ lo hi : Nat, s9 = .int .i64 lo ∧ s10 = .int .i64 hi ∧ lo ≤ hi ∧ hi ≤ n ∧ hi - lo ≤ kx ∧ Aside0 (Below w.heap.size w wr) ∧ Aside0 (bsF F p (hi - lo) lo hi = res))
  case atStart => exact ⟨0, n, rfl, rfl, Nat.zero_le _, Nat.le_refl _, by omega, HB, RES⟩
  case round =>
    obtain ⟨lo, hi, rfl, rfl, hlh, hin, hg, HB1, RES1⟩ := hrel
    have r1 := HR.out.below HB1.out
    by_cases hlt : lo < hi
    · have cc0 := r1.c0 ((lo + hi) / 2) (by omega)
      have cc1 := r1.c1 ((lo + hi) / 2) (by omega)
      have cc2 := r1.c2 ((lo + hi) / 2) (by omega)
      have R1 := Aside0.mk r1
      clear r1
      by_cases hyx : Lib.compareBytes (F ((lo + hi) / 2)).data.toList p.data.toList < 0
      · have hyb := decide_eq_true hyx
        go_wp2_with (go_at_call 32; refine (at1_any _ _ _ _ _).mono ?_; rintro e w' ⟨rfl, hb⟩)
        go_roundg (hi - ((lo + hi) / 2 + 1))
        case measure => omega
        case rel =>
          exact ⟨(lo + hi) / 2 + 1, hi, by first | rfl | rw [show ((lo : Int) + (hi : Int)) / 2 + 1 = (((lo + hi) / 2 + 1 : Nat) : Int) by omega], rfl, by omega, hin, Nat.le_refl _, ⟨HB1.out.trans (hb.mono HB1.out.size)⟩, ⟨by have := RES1.out; rw [bsF_step F p lo hi hlt, if_pos hyx] at this; exact this⟩⟩
      · have hyb := decide_eq_false hyx
        go_wp2_with (go_at_call 32; refine (at1_any _ _ _ _ _).mono ?_; rintro e w' ⟨rfl, hb⟩)
        go_roundg ((lo + hi) / 2 - lo)
        case measure => omega
        case rel =>
          exact ⟨lo, (lo + hi) / 2, rfl, by first | rfl | rw [show ((lo : Int) + (hi : Int)) / 2 = (((lo + hi) / 2 : Nat) : Int) by omega], by omega, by omega, Nat.le_refl _, ⟨HB1.out.trans (hb.mono HB1.out.size)⟩, ⟨by have := RES1.out; rw [bsF_step F p lo hi hlt, if_neg (Int.not_lt.2 (by first | exact hyx | omega))] at this; exact this⟩⟩
    · obtain rfl : hi = lo := by omega
      have hres : hi = res := by have := RES1.out; rw [bsF_stop F p _ hi hi hlt] at this; exact this
      subst hres
      by_cases hn2 : hi < n
      · have cc0 := r1.c0 hi hn2
        have cc1 := r1.c1 hi hn2
        have cc2 := r1.c2 hi hn2
        clear r1
        go_wp2_with (go_at_call 32; refine (at1_any _ _ _ _ _).mono ?_; rintro e w' ⟨rfl, hb⟩)
        go_ret2
        exact ⟨by simp [hn2]; rfl, HB1.out.trans (hb.mono HB1.out.size)⟩
      · clear r1
        go_wp2
        go_ret2
        exact ⟨by simp [hn2], HB1.out⟩
set_option maxHeartbeats 4000000 in
set_option maxRecDepth 100000 in
theorem search_zero (A : Option Addr) (c : Nat) (p : ByteArray) (v : Value) (w : World) :
    Calls Tryz.prog 31 #[.slice A 0 c, .string p, v] w fun e w' =>
      e = .returned (.tuple #[.int .i64 0, .bool false]) ∧ Below w.heap.size w w' := by
  have HB := Aside0.mk (Below.refl w.heap.size w)
  go_enter Tryz.func31, Tryz.ntmps31
  go_wp2
  refine wp_loop_rounds 1 ?_
  rw [rounds_succ]
  go_wp2
  go_ret2
  exact ⟨rfl, HB.out⟩
set_option maxHeartbeats 4000000 in
set_option maxRecDepth 100000 in
/-- layer.at: Go's own search; whatever the list. -/
theorem at_row (A : Option Addr) (n c : Nat) (F : Nat → ByteArray) (K : Nat → Int) (D : Nat → ByteArray) (p : ByteArray) (w : World) (hn : n < 4611686018427387904) (h : n = 0 ∨ ∃ ad, A = some ad ∧ RowAt w ad n F K D) :
    Calls Tryz.prog 17 #[.slice A n c, .string p] w fun e w' =>
      e = .returned (.tuple #[.int .i64 (bsF F p n 0 n : Nat), .bool (decide (bsF F p n 0 n < n) && decide (Lib.compareBytes (F (bsF F p n 0 n)).data.toList p.data.toList = 0))]) ∧ Below w.heap.size w w' := by
  have H : Calls Tryz.prog 31 #[.slice A n c, .string p, .func (.func 32) #[] #[]] w fun e w' =>
      e = .returned (.tuple #[.int .i64 (bsF F p n 0 n : Nat), .bool (decide (bsF F p n 0 n < n) && decide (Lib.compareBytes (F (bsF F p n 0 n)).data.toList p.data.toList = 0))]) ∧ Below w.heap.size w w' := by
    rcases h with rfl | ⟨ad, rfl, hR⟩
    · have e0 : bsF F p 0 0 0 = 0 := rfl
      rw [e0]
      exact search_zero A c p _ w
    · exact search_any ad n c F K D p w hn hR
  clear h
  go_enter Tryz.func17, Tryz.ntmps17
  go_wp2_with (go_at_call 31; refine H.mono ?_; rintro e w' ⟨rfl, hb⟩)
  go_ret2
  exact ⟨rfl, hb⟩
end Go.Proofs.YtneemcgpgjfhoaaGreatDoor.Print
end

section
namespace Go.Proofs.YtneemcgpgjfhoaaGreatDoor.Print
open Go Go.RowKit Go.Proofs.YtneemcgpgjfhoaaGreatDoorW.PrintWords Go.Proofs.YtneemcgpgjfhoaaGreatDoorW.PrintLast Go.Proofs.YtneemcgpgjfhoaaGreatDoorW.PrintMore
set_option linter.unusedVariables false
set_option linter.unusedSimpArgs false
section
variable {α : Type} (P : α → ByteArray) (K : α → Int) (D : α → ByteArray)
/-- An entry's cells. -/
def e3 (x : α) : List Value := [.string (P x), .int .i64 (K x), .string (D x)]
def kd3 : Kd α := Kd.iso (Kd.pair Kd.string (Kd.pair (Kd.int .i64) Kd.string)) (fun x => (P x, K x, D x))
theorem flat3 : Flat (kd3 P K D) (e3 P K D) where
  len := fun _ => rfl
  pos := (by show 0 < 3; omega)
  one := fun x u hu => by simp [e3] at hu; rcases hu with rfl | rfl | rfl <;> rfl
  K := fun w x cs => by
    constructor
    · rintro ⟨_, _, rfl, rfl, ⟨_, _, rfl, rfl, rfl⟩⟩; rfl
    · rintro rfl; exact ⟨[_], [_, _], rfl, rfl, ⟨[_], [_], rfl, rfl, rfl⟩⟩
  M := fun w b ok x cs => by
    constructor
    · rintro ⟨_, _, rfl, rfl, ⟨_, _, rfl, rfl, rfl⟩⟩; rfl
    · rintro rfl; exact ⟨[_], [_, _], rfl, rfl, ⟨[_], [_], rfl, rfl, rfl⟩⟩
theorem sz3 : (kd3 P K D).sz = 3 := rfl
abbrev c3 (xs : List α) : List Value := encL (e3 P K D) xs
theorem c3_len (xs : List α) : (c3 P K D xs).length = xs.length * 3 := encL_length (flat3 P K D) xs
theorem c3_take (xs : List α) (n : Nat) : (c3 P K D xs).take (n * 3) = c3 P K D (xs.take n) := encL_take (flat3 P K D) xs n
theorem c3_drop (xs : List α) (n : Nat) : (c3 P K D xs).drop (n * 3) = c3 P K D (xs.drop n) := encL_drop (flat3 P K D) xs n
theorem c3_append (xs ys : List α) : c3 P K D (xs ++ ys) = c3 P K D xs ++ c3 P K D ys := List.flatMap_append
theorem c3_cons (x : α) (ys : List α) : c3 P K D (x :: ys) = e3 P K D x ++ c3 P K D ys := rfl
theorem c3_one (xs : List α) : ∀ u ∈ c3 P K D xs, u.oneCell' = true := encL_one (flat3 P K D) xs
theorem c3_get {xs : List α} {i : Nat} {x : α} (h : xs[i]? = some x) (j : Nat) (hj : j < 3) : (c3 P K D xs)[i * 3 + j]? = (e3 P K D x)[j]? := by
  obtain ⟨hl, rfl⟩ := List.getElem?_eq_some_iff.1 h
  have e := c3_drop P K D xs i
  rw [List.drop_eq_getElem_cons hl, c3_cons] at e
  have : (c3 P K D xs)[i * 3 + j]? = ((c3 P K D xs).drop (i * 3))[j]? := by rw [List.getElem?_drop]
  rw [this, e, List.getElem?_append_left (by simpa [e3] using hj)]
/-- The cells that are read at a list's places. -/
def At3 (w : World) (ad : Addr) (xs : List α) : Prop := ∀ j u, (c3 P K D xs)[j]? = some u → w.cell? (ad.add j) = some u
theorem At3.get {w : World} {ad : Addr} {xs : List α} (h : At3 P K D w ad xs) {i : Nat} {x : α} (hx : xs[i]? = some x) :
    w.cell? (ad.add (i * 3)) = some (.string (P x)) ∧ w.cell? ⟨(ad.add (i * 3)).block, (ad.add (i * 3)).off + 1, none⟩ = some (.int .i64 (K x)) ∧ w.cell? ⟨(ad.add (i * 3)).block, (ad.add (i * 3)).off + 2, none⟩ = some (.string (D x)) := by
  refine ⟨h (i * 3) _ ?_, ?_, ?_⟩
  · have := c3_get P K D hx 0 (by omega); simpa [e3] using this
  · rw [← add_field _ _ 1 (by omega)]; exact h _ _ (by have := c3_get P K D hx 1 (by omega); simpa [e3] using this)
  · rw [← add_field _ _ 2 (by omega)]; exact h _ _ (by have := c3_get P K D hx 2 (by omega); simpa [e3] using this)
theorem At3.below {w W : World} {ad : Addr} {xs : List α} (h : At3 P K D w ad xs) (hb : Below w.heap.size w W) : At3 P K D W ad xs := fun j u hu => by
  have h0 := h j u hu
  exact (hb.cell (World.block_lt_of_cell? _ _ h0)).trans h0
theorem splice_take {cur : List Value} {o : Nat} {cs : List Value} (h : o + cs.length ≤ cur.length) : (splice cur o cs).take o = cur.take o := by
  unfold splice
  rw [List.take_append_of_le_length (by rw [List.length_take]; omega), List.take_take, Nat.min_self]
theorem splice_take2 {cur : List Value} {o : Nat} {cs : List Value} (h : o + cs.length ≤ cur.length) : (splice cur o cs).take (o + cs.length) = cur.take o ++ cs := by
  unfold splice
  rw [← List.append_assoc, List.take_append_of_le_length (by simp; omega), List.take_of_length_le (by simp; omega)]
theorem splice_drop {cur : List Value} {o : Nat} {cs : List Value} (h : o + cs.length ≤ cur.length) : (splice cur o cs).drop (o + cs.length) = cur.drop (o + cs.length) := by
  unfold splice
  rw [← List.append_assoc, List.drop_append, List.drop_eq_nil_of_le (by simp; omega), List.nil_append]
  have : o + cs.length - (cur.take o ++ cs).length = 0 := by simp; omega
  rw [this, List.drop_zero]
section
variable {Pg : Program} {ops : Array Oper} {rest : List Oper} {o : Oper} {a : Act} {Q : Exit → Act → World → Prop} {w : World}
/-- A store of a whole element into a row of one block. -/
theorem wp_store_blk (hgd : o.guard = none) (t : TypeId) (x y : Operand) (ho : o.op = .store t x y) (k : Nat) (hs : (Pg.info? t).map (·.size) = some k)
    (g off : Nat) (hx : a.eval x = .pointer (some ⟨g, off, none⟩)) (v : Value) (hy : a.eval y = v) (cs : List Value) (hv : v.cells.toList = cs) (hl : cs.length = k) (cur : List Value) (tt : TypeId) (hg : Blk w g tt cur)
    (hfit : off + cs.length ≤ cur.length) (h1 : ∀ u ∈ cs, u.oneCell' = true) {B : Nat} {w0 : World} (hb : Below B w0 w) (hBg : B ≤ g)
    (h : ∀ w', Aside0 (Blk w' g tt (splice cur off cs)) → Aside0 (KB w w' g) → Aside0 (Below B w0 w') → wpList Pg ops Q rest (a.put o.dst undef) w') : wpList Pg ops Q (o :: rest) a w := by
  refine wpList_plain hgd fun K hK => ?_
  cases hq : Pg.info? t with
  | none => simp [hq] at hs
  | some i =>
    have hi : i.size = k := by simpa [hq] using hs
    have hst := run_storeCells_at Pg g off tt cs 0 cur.toArray w hg (by simpa using hfit) h1
    have hvs : v.cells.size = k := by rw [← hl, ← hv]; simp
    unfold Oper.wp
    simp [execOp, ho, hx, hy, Instr.storeAt, Instr.sureAddr, storeVar, sizeOf, typeInfo, hq, hi, hvs, hv, hst, Result.andThen]
    exact hK _ _ (h _ ⟨hg.set _⟩ ⟨KB.setRow _ _ _⟩ ⟨below_setRow hb hBg _⟩)
end
theorem gate_st3 {Pg : Program} {ops : Array Oper} {rest : List Oper} {o : Oper} {a : Act} {Q : Exit → Act → World → Prop} {w : World} {t : TypeId} {x y : Operand} (_ho : o.op = .store t x y) (h : wpList Pg ops Q (o :: rest) a w) : wpList Pg ops Q (o :: rest) a w := h
def Hold (p : Prop) : Prop := p
theorem hold {p : Prop} (h : Hold p) : p := h
theorem Blk.below {w W : World} {g e : Nat} {cur : List Value} (h : Blk w g e cur) (hb : Below w.heap.size w W) : Blk W g e cur := (hb.block g h.lt).trans h
theorem Tryz.size3 : (Tryz.prog.info? 31).map (·.size) = some 3 := by kernel_rfl
theorem Tryz.zero3 (w : World) : (zeroValue 31).run Tryz.prog w = .ok (.agg #[.string ⟨#[]⟩, .int .i64 0, .string ⟨#[]⟩]) w := by kernel_rfl
end
end Go.Proofs.YtneemcgpgjfhoaaGreatDoor.Print
end

section
namespace Go.Proofs.YtneemcgpgjfhoaaGreatDoor.Print
open Go Go.RowKit Go.Proofs.YtneemcgpgjfhoaaGreatDoorW.PrintWords Go.Proofs.YtneemcgpgjfhoaaGreatDoorW.PrintLast Go.Proofs.YtneemcgpgjfhoaaGreatDoorW.PrintMore
set_option linter.unusedVariables false
set_option linter.unusedSimpArgs false
theorem Tryz.info3 : (Tryz.prog.info? 31).map (fun i => (i.zero, i.size, i.bytes)) = some (some (.agg #[.string ⟨#[]⟩, .int .i64 0, .string ⟨#[]⟩]), 3, 40) := by kernel_rfl
section
variable {α : Type} (P : α → ByteArray) (K : α → Int) (D : α → ByteArray)
/-- A row of the call's own: of the blocks S, or a new one. -/
abbrev Own3 (w : World) (base : Nat) (S : Nat → Prop) (v : Value) (xs : List α) : Prop := Kd.R (kd3 P K D) 31 w base S v xs
theorem reads_one (x : α) {w : World} {b : Nat} (h : Blk w b 31 (e3 P K D x)) : ReadsRow (fun (y : α) cs => cs = e3 P K D y) 3 w (some ⟨b, 0, none⟩) 1 [x] := by
  refine ⟨rfl, by omega, fun _ => ⟨_, rfl, fun j y hy => ?_⟩⟩
  cases j with
  | zero =>
    obtain rfl : x = y := by simpa using hy
    exact ⟨_, rfl, rfl, fun i u hu => by rw [addr_add]; simp only [Nat.zero_mul, Nat.zero_add]; exact h.cell hu⟩
  | succ j => simp at hy
theorem C_R3 {w : World} {A : Option Addr} {xs : List α} (h : Kd.C (kd3 P K D) w A xs.length xs) : ReadsRow (fun (y : α) cs => cs = e3 P K D y) 3 w A xs.length xs :=
  h.imp_ (Below.refl _ _) (fun x cs hx => ((flat3 P K D).K w x cs).1 hx)
set_option maxHeartbeats 8000000 in
theorem clone3 (A0 : Option Addr) (c0 : Nat) (l0 : List α) (w : World) (hr0 : Kd.C (kd3 P K D) w A0 l0.length l0) (hc0 : l0.length ≤ c0) (hl : l0.length * 40 ≤ 140737488355328) :
    Calls Tryz.prog 20 #[.slice A0 l0.length c0] w fun e w' => ∃ v : Value, e = .returned v ∧ Own3 P K D w' w.heap.size (fun _ => True) v l0 ∧ Below w.heap.size w w' := by
  cases A0 with
  | none =>
    obtain ⟨h1, h2⟩ := reads_none hr0
    subst h1
    have hnil := @Lib.run_eql_slice_nil
    go_enter Tryz.func20, Tryz.ntmps20
    go_wp2
    go_ret
    exact ⟨_, rfl, Kd.R_nil _ _ _ _ _, Below.refl _ _⟩
  | some ad =>
    have hnil := @Lib.run_eql_slice_nil
    have HR := Aside0.mk hr0
    have HL := Aside0.mk hl
    clear hr0 hl hc0
    go_enter Tryz.func20, Tryz.ntmps20
    go_wp2_with (first
      | ((with_reducible refine gate_builtin (b := .append) (xs := #[.tmp 5, .tmp 6]) rfl ?_); refine hold ?_))
    unfold Hold
    refine Kd.R_append_rows (kd3 P K D) (w0 := w) w.heap.size rfl (.tmp 5) (.tmp 6) 22 31 _ 40 rfl Tryz.underlying22 Tryz.info3 rfl (flat3 P K D).pos (by omega) _ [] l0 (some ad) l0.length c0 (fun _ => True) (fun _ => False) rfl rfl ?aF (C_R3 P K D (Kd.C_below HR.out ?aB2)) (fun x cs h => ((flat3 P K D).M _ _ _ x cs).2 h) (fun _ h => h.elim) (fun _ _ => trivial) ?aB ?aS ?aL ?_
    case aF => exact R_empty_lit _ _ _ _ (Nat.le_refl _)
    case aB2 => exact below_alloc (Below.refl _ _) _
    case aB => exact below_alloc (Below.refl _ _) _
    case aS => simp
    case aL => have := HL.out; simp; omega
    intro v1 w1 ho hb hg hat
    go_wp2
    go_ret
    exact ⟨_, rfl, by simpa using ho, hb⟩
/-- What an insertion leaves. -/
def InsEnd (w0 w : World) (S : Nat → Prop) (ys : List α) (e : Ending) (w' : World) : Prop :=
  ∃ v : Value, e = .returned v ∧ Own3 P K D w' w0.heap.size (fun k => S k ∨ w.heap.size ≤ k) v ys ∧ Below w0.heap.size w0 w' ∧ Kept w w' S
theorem grown_kept {w w' : World} {v : Value} {S : Nat → Prop} (h : w.grownBy w' v.ownBlock) (hS : ∀ k, v.ownBlock = some k → S k) (hs : w.heap.size ≤ w'.heap.size) : Kept w w' S :=
  ⟨hs, fun k hk hn => h.block k hk (fun e => hn (hS k e.symm))⟩
set_option maxHeartbeats 8000000 in
set_option maxRecDepth 100000 in
/-- At the end. -/
theorem insert_end (S : Nat → Prop) (v : Value) (xs : List α) (x : α) (vb vc : Nat) (w0 w : World) (hB : Below w0.heap.size w0 w) (ho : Own3 P K D w w0.heap.size S v xs) (hV : Blk w vb 31 (e3 P K D x)) (hl : (xs.length + 1) * 40 ≤ 140737488355328) :
    Calls Tryz.prog 21 #[v, .int .i64 (xs.length : Nat), .slice (some ⟨vb, 0, none⟩) 1 vc] w (InsEnd P K D w0 w S (xs ++ [x])) := by
  have ho1 : Own3 P K D w w0.heap.size (fun k => S k ∨ w.heap.size ≤ k) v xs := Kd.R_mono ho (fun k hk => .inl hk)
  have HO := Aside0.mk ho1
  have HS := Aside0.mk ho.1
  have HB := Aside0.mk hB
  have HR := Aside0.mk (reads_one P K D x hV)
  have HL := Aside0.mk hl
  have hres : ∀ v1 w1, Own3 P K D w1 w0.heap.size (fun k => S k ∨ w.heap.size ≤ k) v1 (xs ++ [x]) → Below w0.heap.size w0 w1 → w.grownBy w1 v.ownBlock → InsEnd P K D w0 w S (xs ++ [x]) (.returned v1) w1 :=
    fun v1 w1 h1 h2 h3 => ⟨v1, rfl, h1, h2, grown_kept h3 HS.out h3.size⟩
  have HRES := Aside0.mk hres
  have hraw := R_raw (flat3 P K D) ho
  clear hB hV hl ho ho1 hres
  rcases hraw with ⟨rfl, rfl⟩ | ⟨g, cap, cur, rfl, hge, hok, hg, hnc, hcm, hcs, ht⟩
  · have hz : ((0 : Nat) : Int) = 0 := rfl
    go_enter Tryz.func21, Tryz.ntmps21
    go_wp2_with (first
      | ((with_reducible refine gate_builtin (b := .append) (xs := #[.tmp 23, .tmp 24]) rfl ?_); refine hold ?_))
    unfold Hold
    refine Kd.R_append_rows (kd3 P K D) (w0 := w0) w0.heap.size rfl (.tmp 23) (.tmp 24) 22 31 _ 40 rfl Tryz.underlying22 Tryz.info3 rfl (flat3 P K D).pos (by omega) _ [] [x] (some ⟨vb, 0, none⟩) 1 vc (fun k => S k ∨ w.heap.size ≤ k) (fun _ => False) rfl rfl HO.out HR.out (fun x cs h => ((flat3 P K D).M _ _ _ x cs).2 h) (fun _ h => h.elim) (fun _ h => .inr h) HB.out HB.out.size HL.out ?_
    intro v1 w1 ho hb hgr hat
    have HE := Aside0.mk (HRES.out v1 w1 ho hb hgr)
    clear ho hb hgr hat
    go_wp2
    go_ret
    exact HE.out
  · clear hg hcs ht hok hge
    generalize hlen : xs.length = n at hnc HL ⊢
    have HN := Aside0.mk hlen
    rw [hlen] at HO HRES
    clear hlen
    by_cases hcn : cap = n
    all_goals
      go_enter Tryz.func21, Tryz.ntmps21
      go_wp2_with (first
        | ((with_reducible refine gate_builtin (b := .append) (xs := #[.tmp 23, .tmp 24]) rfl ?_); refine hold ?_))
      unfold Hold
      refine Kd.R_append_rows (kd3 P K D) (w0 := w0) w0.heap.size rfl (.tmp 23) (.tmp 24) 22 31 _ 40 rfl Tryz.underlying22 Tryz.info3 rfl (flat3 P K D).pos (by omega) _ xs [x] (some ⟨vb, 0, none⟩) 1 vc (fun k => S k ∨ w.heap.size ≤ k) (fun _ => False) rfl rfl HO.out HR.out (fun x cs h => ((flat3 P K D).M _ _ _ x cs).2 h) (fun _ h => h.elim) (fun _ h => .inr h) HB.out HB.out.size (by have := HL.out; have := HN.out; omega) ?_
      intro v1 w1 ho hb hgr hat
      have HE := Aside0.mk (HRES.out v1 w1 ho hb hgr)
      clear ho hb hgr hat
      go_wp2
      go_ret
      exact HE.out
theorem shape3 {w : World} {b e : Nat} {cs : List Value} (h : Blk w b e cs) : w.shape? b = some (e, cs.length) := by unfold Blk at h; simp [World.shape?, h]
theorem frozen3 {w : World} {b e : Nat} {cs : List Value} (h : Blk w b e cs) (o : Nat) : w.frozen? ⟨b, o, none⟩ = false := by unfold Blk at h; simp [World.frozen?, h]
set_option maxHeartbeats 16000000 in
set_option maxRecDepth 100000 in
/-- In the middle, there is room. -/
theorem insert_room (S : Nat → Prop) (xs : List α) (i : Nat) (hi : i < xs.length) (x : α) (g cap : Nat) (cur : List Value) (vb vc : Nat) (w0 w : World) (hB : Below w0.heap.size w0 w) (hge : w0.heap.size ≤ g) (hS : S g) (hg : Blk w g 31 cur) (hnc : xs.length + 1 ≤ cap) (hcm : cap ≤ 9223372036854775807)
    (hcs : cur.length = cap * 3) (ht : cur.take (xs.length * 3) = c3 P K D xs) (hV : Blk w vb 31 (e3 P K D x)) (hvg : vb ≠ g) :
    Calls Tryz.prog 21 #[.slice (some ⟨g, 0, none⟩) xs.length cap, .int .i64 (i : Nat), .slice (some ⟨vb, 0, none⟩) 1 vc] w (InsEnd P K D w0 w S (xs.take i ++ x :: xs.drop i)) := by
  have hov : ∀ off lb cb, (callFunc 34 #[.slice (some ⟨vb, 0, none⟩) 1 vc, .slice (some ⟨g, off, none⟩) lb cb]).run Tryz.prog w = .ok (.value (.bool false)) w := fun off lb cb => by
    rw [run_callFunc_extern Tryz.func34 (by kernel_rfl) (by kernel_rfl) (by kernel_rfl) (e := Extern.SlicesOverlaps.overlaps #[22, 22] #[4]) (by kernel_rfl),
      Lib.run_overlaps_apart w 22 4 31 Tryz.underlying22 3 (fun w => by kernel_rfl) ⟨vb, 0, none⟩ ⟨g, off, none⟩ 1 vc lb cb hvg _ _ _ _ (shape3 hV) (shape3 hg) (by rw [hcs]; omega) (frozen3 hV _) (frozen3 hV _)]
    rfl
  have hfin : ∀ (cur2 : List Value) (w2 : World), Blk w2 g 31 cur2 → cur2.length = cap * 3 → cur2.take ((xs.length + 1) * 3) = c3 P K D (xs.take i ++ x :: xs.drop i) → KB w w2 g → Below w0.heap.size w0 w2 → InsEnd P K D w0 w S (xs.take i ++ x :: xs.drop i) (.returned (.slice (some ⟨g, 0, none⟩) (xs.length + 1) cap)) w2 := by
    intro cur2 w2 h1 h2 h3 h4 h5
    have hl : (xs.take i ++ x :: xs.drop i).length = xs.length + 1 := by simp; omega
    exact ⟨_, rfl, R_shut (flat3 P K D) hge (.inl hS) h1 hl.symm (by rw [hl]; exact hnc) hcm h2 (by rw [hl]; exact h3), h5, h4.kept hS⟩
  have HFIN := Aside0.mk hfin
  have HG := Aside0.mk hg
  have HV := Aside0.mk hV
  have HB := Aside0.mk hB
  have HC := Aside0.mk hcs
  have HT := Aside0.mk ht
  clear hfin hg hV hB hcs ht
  generalize hlen : xs.length = n at hi hnc HT HFIN ⊢
  have HN := Aside0.mk hlen
  clear hlen
  have k1 : IntKind.i64.wrap ((i : Int) + 1) = (i : Int) + 1 := IntWalk.i64_in _ (by omega)
  have k2 : 0 ≤ (i : Int) + 1 := by omega
  have k3 : ((i : Int) + 1).toNat = i + 1 := by omega
  have k4 : ¬ cap = i + 1 := by omega
  have k5 : ¬ cap = i := by omega
  have k6 : (i : Int) + 1 ≤ (n : Int) + 1 := by omega
  have k7 : (i : Int) ≤ (n : Int) + 1 := by omega
  have k8 : ((i : Int) == (n : Int)) = false := beq_eq_false_iff_ne.2 (by omega)
  have k9 : ¬ ((cap : Int) < (n : Int) + 1) := by omega
  have hnB : n < 9223372036854775807 := by omega
  go_enter Tryz.func21, Tryz.ntmps21
  go_wp2_with (simp only [hov])
  go_still_tail 8, (by kernel_rfl)
  change wpList _ _ _ _ _ w.drew
  (with_reducible refine gate_builtin (b := .copy) (xs := #[.tmp 73, .tmp 76]) rfl ?_)
  refine wp_copy rfl (.tmp 73) (.tmp 76) 22 22 rfl 31 3 Tryz.underlying22 Tryz.size3 g ((i + 1) * 3) _ _ _ _ _ _ rfl rfl cur 31 (c3 P K D (xs.drop i)) HG.out.drew ?hn (fun _ => ⟨rfl, ⟨g, i * 3, none⟩, rfl, ?hp⟩) ?hf (c3_one P K D _) (below_drew1 HB.out) hge ?_
  case hn => rw [c3_len, List.length_drop, HN.out]; congr 1; simp only [Nat.min_def]; split <;> omega
  case hp =>
    intro j u hu
    rw [addr_add]
    refine HG.out.drew.cell ?_
    rw [← c3_drop, ← HT.out, List.getElem?_drop, List.getElem?_take] at hu
    split at hu
    · exact hu
    · cases hu
  case hf => rw [c3_len, List.length_drop, HN.out, HC.out]; omega
  intro w1 hg1 hk1 hb1
  have hl0 : (c3 P K D (xs.drop i)).length = (n - i) * 3 := by rw [c3_len, List.length_drop, HN.out]
  have hsl1 : (i + 1) * 3 + (c3 P K D (xs.drop i)).length ≤ cur.length := by rw [hl0, HC.out]; omega
  obtain ⟨c1, hc1⟩ : ∃ c1, c1 = splice cur ((i + 1) * 3) (c3 P K D (xs.drop i)) := ⟨_, rfl⟩
  rw [← hc1] at hg1
  have HL1 : Aside0 (c1.length = cap * 3) := ⟨by rw [hc1, length_splice _ _ _ hsl1]; exact HC.out⟩
  have HA1 : Aside0 (c1.take (i * 3) = c3 P K D (xs.take i)) := ⟨by
    have e1 : c1.take (i * 3) = (c1.take ((i + 1) * 3)).take (i * 3) := by rw [List.take_take, Nat.min_eq_left (by omega)]
    rw [e1, hc1, splice_take hsl1, List.take_take, Nat.min_eq_left (by omega), ← c3_take, ← HT.out, List.take_take, Nat.min_eq_left (by omega)]⟩
  have HB1 : Aside0 ((c1.take ((n + 1) * 3)).drop ((i + 1) * 3) = c3 P K D (xs.drop i)) := ⟨by
    have e2 : (n + 1) * 3 = (i + 1) * 3 + (c3 P K D (xs.drop i)).length := by rw [hl0]; omega
    rw [e2, hc1, splice_take2 hsl1, List.drop_append, List.drop_eq_nil_of_le (by rw [List.length_take]; omega), List.nil_append]
    have : (i + 1) * 3 - (cur.take ((i + 1) * 3)).length = 0 := by rw [List.length_take, HC.out]; omega
    rw [this, List.drop_zero]⟩
  clear hc1 hsl1 hl0
  go_wp2_with (first
    | ((with_reducible refine gate_builtin (b := .copy) (xs := #[.tmp 80, .tmp 81]) rfl ?_); refine hold ?_))
  unfold Hold
  refine wp_copy rfl (.tmp 80) (.tmp 81) 22 22 rfl 31 3 Tryz.underlying22 Tryz.size3 g (i * 3) _ _ _ _ _ _ rfl rfl c1 31 (e3 P K D x) hg1.out ?hn (fun _ => ⟨rfl, ⟨vb, 0, none⟩, rfl, ?hp⟩) ?hf ((flat3 P K D).one x) hb1.out hge ?_
  case hn => simp only [e3, List.length_cons, List.length_nil]; have : Nat.min 1 (n + 1 - i) = 1 := Nat.min_eq_left (by omega); rw [this]
  case hp =>
    intro j u hu
    rw [addr_add, Nat.zero_add]
    exact (HV.out.other ((KB.trans (b := w.drew) ⟨Nat.le_refl _, fun _ _ _ => rfl⟩ hk1.out) : KB w w1 g) hvg).cell hu
  case hf => rw [HL1.out]; simp [e3]; omega
  intro w2 hg2 hk2 hb2
  have hsl2 : i * 3 + (e3 P K D x).length ≤ c1.length := by rw [HL1.out]; simp [e3]; omega
  have HE := Aside0.mk (HFIN.out _ w2 hg2.out (by rw [length_splice _ _ _ hsl2]; exact HL1.out) (by
    have e3l : (e3 P K D x).length = 3 := rfl
    have e4 : (n + 1) * 3 = (i * 3 + (e3 P K D x).length) + (n - i) * 3 := by rw [e3l]; omega
    rw [e4, List.take_add, splice_take2 hsl2, HA1.out, splice_drop hsl2, c3_append, c3_cons, List.append_assoc]
    congr 2
    have e5 : i * 3 + (e3 P K D x).length = (i + 1) * 3 := by rw [e3l]; omega
    rw [e5, ← HB1.out, List.drop_take]
    congr 1
    omega) ((KB.trans (b := w.drew) ⟨Nat.le_refl _, fun _ _ _ => rfl⟩ hk1.out).trans hk2.out) hb2.out)
  clear hg2 hk2 hb2
  go_wp2
  go_ret
  exact HE.out
theorem Blk.new (w : World) (e : Nat) (cs : Array Value) : Blk (w.alloc (.cells cs e)) w.heap.size e cs.toList := by unfold Blk; simpa using heap_alloc_new w _
set_option maxHeartbeats 16000000 in
set_option maxRecDepth 100000 in
/-- In the middle, no room: a new row. -/
theorem insert_grow (S : Nat → Prop) (xs : List α) (i : Nat) (hi : i < xs.length) (x : α) (g : Nat) (cur : List Value) (vb vc : Nat) (w0 w : World) (hB : Below w0.heap.size w0 w) (hg : Blk w g 31 cur)
    (ht : cur.take (xs.length * 3) = c3 P K D xs) (hV : Blk w vb 31 (e3 P K D x)) (hl : (xs.length + 1) * 40 ≤ 140737488355328) :
    Calls Tryz.prog 21 #[.slice (some ⟨g, 0, none⟩) xs.length xs.length, .int .i64 (i : Nat), .slice (some ⟨vb, 0, none⟩) 1 vc] w (InsEnd P K D w0 w S (xs.take i ++ x :: xs.drop i)) := by
  obtain ⟨i0, hi0, hz0, hzs, hzb⟩ := info_parts Tryz.info3
  have hgl := hg.lt
  have hvl := hV.lt
  have hhead : ∀ j u, (c3 P K D (xs.take i))[j]? = some u → w.cell? ((⟨g, 0, none⟩ : Addr).add j) = some u := fun j u hu => by
    rw [addr_add, Nat.zero_add]
    refine hg.cell ?_
    rw [← c3_take, ← ht, List.getElem?_take] at hu
    split at hu
    · rw [List.getElem?_take] at hu
      split at hu
      · exact hu
      · cases hu
    · cases hu
  have hold : (Builtin.firstCells i0.size i (.slice (some ⟨g, 0, none⟩) i xs.length)).run Tryz.prog w.drew = .ok (c3 P K D (xs.take i)).toArray w.drew := by
    rw [hzs]
    exact run_firstCells_some w.drew 3 i ⟨g, 0, none⟩ i xs.length _ (by rw [c3_len, List.length_take]; congr 1; omega) hhead
  have hrz : ∀ ty, (Builtin.append_ #[22, 3] ty #[.slice (some ⟨g, 0, none⟩) i xs.length, .int .i64 ((xs.length : Int) + 1 - (i : Int))]).run Tryz.prog w =
      .ok (.slice (some ⟨w.heap.size, 0, none⟩) (xs.length + 1) (grownCap w (xs.length + 1) xs.length 31)) (w.drew.alloc (.cells ((c3 P K D (xs.take i)).toArray ++ Builtin.zeroCells (Value.agg #[.string ⟨#[]⟩, .int .i64 0, .string ⟨#[]⟩]).cells (xs.length + 1 - i) ++ Builtin.zeroCells (Value.agg #[.string ⟨#[]⟩, .int .i64 0, .string ⟨#[]⟩]).cells (grownCap w (xs.length + 1) xs.length 31 - (xs.length + 1))) 31)) := fun ty => by
    have h := Lib.run_append_grow_zeros w 22 3 ty 31 i0 _ .i64 .i64 Tryz.underlying22 Tryz.underlying3 hi0 hz0 (some ⟨g, 0, none⟩) i xs.length (c3 P K D (xs.take i)) hold (xs.length + 1 - i) (by omega) (by omega) (by omega) (by omega) (by rw [hzb]; omega) (by rw [hzb]; exact growslice_fits (by omega) (by omega))
    have hik : i + (xs.length + 1 - i) = xs.length + 1 := by omega
    rw [hik] at h
    have hkk : (xs.length : Int) + 1 - (i : Int) = ((xs.length + 1 - i : Nat) : Int) := by omega
    rw [hkk]
    exact h
  obtain ⟨G, hG⟩ : ∃ G, G = grownCap w (xs.length + 1) xs.length 31 := ⟨_, rfl⟩
  have hGn : xs.length + 1 ≤ G := by rw [hG]; exact grownCap_ge w _ _ _
  have hG63 : G ≤ 9223372036854775807 := by
    have := grownCap_le_maxLen w (xs.length + 1) xs.length 31 (by unfold maxLen; omega)
    rw [← hG] at this
    unfold maxLen at this
    omega
  rw [← hG] at hrz
  obtain ⟨ROW, hROW⟩ : ∃ ROW : Array Value, ROW = (c3 P K D (xs.take i)).toArray ++ Builtin.zeroCells (Value.agg #[.string ⟨#[]⟩, .int .i64 0, .string ⟨#[]⟩]).cells (xs.length + 1 - i) ++ Builtin.zeroCells (Value.agg #[.string ⟨#[]⟩, .int .i64 0, .string ⟨#[]⟩]).cells (G - (xs.length + 1)) := ⟨_, rfl⟩
  rw [← hROW] at hrz
  have hl0 : (c3 P K D (xs.take i)).length = i * 3 := by rw [c3_len, List.length_take]; congr 1; omega
  have hRl : ROW.toList.length = G * 3 := by
    rw [hROW]
    simp [Builtin.zeroCells, Value.cells, hl0]
    omega
  have hRt : ROW.toList.take (i * 3) = c3 P K D (xs.take i) := by
    rw [hROW]
    simp only [Array.toList_append]
    rw [List.append_assoc, List.take_append_of_le_length (by rw [hl0]; exact Nat.le_refl _), List.take_of_length_le (by rw [hl0]; exact Nat.le_refl _)]
  have hN := Blk.new w.drew 31 ROW
  have hNb : Below w.heap.size w (w.drew.alloc (.cells ROW 31)) := below_alloc (below_drew (Below.refl _ _)) _
  obtain ⟨W1, hW1⟩ : ∃ W1, W1 = w.drew.alloc (.cells ROW 31) := ⟨_, rfl⟩
  rw [← hW1] at hrz hN hNb
  have hgW := hg.below hNb
  have hvW := hV.below hNb
  have hfin : ∀ (cur2 : List Value) (w2 : World), Blk w2 w.heap.size 31 cur2 → cur2.length = G * 3 → cur2.take ((xs.length + 1) * 3) = c3 P K D (xs.take i ++ x :: xs.drop i) → KB W1 w2 w.heap.size → Below w0.heap.size w0 w2 → InsEnd P K D w0 w S (xs.take i ++ x :: xs.drop i) (.returned (.slice (some ⟨w.heap.size, 0, none⟩) (xs.length + 1) G)) w2 := by
    intro cur2 w2 h1 h2 h3 h4 h5
    have hl : (xs.take i ++ x :: xs.drop i).length = xs.length + 1 := by simp; omega
    refine ⟨_, rfl, R_shut (flat3 P K D) hB.size (.inr (Nat.le_refl _)) h1 hl.symm (by rw [hl]; exact hGn) hG63 h2 (by rw [hl]; exact h3), h5, ?_⟩
    refine ⟨Nat.le_trans hNb.size h4.1, fun k hk _ => ?_⟩
    rw [h4.2 k (Nat.lt_of_lt_of_le hk hNb.size) (by omega)]
    exact hNb.block k hk
  have hBW : Below w0.heap.size w0 W1 := hB.trans (hNb.mono hB.size)
  have HFIN := Aside0.mk hfin
  have HG := Aside0.mk hgW
  have HV := Aside0.mk hvW
  have HN2 := Aside0.mk hN
  have HB := Aside0.mk hBW
  have HT := Aside0.mk ht
  have HRL := Aside0.mk hRl
  have HRT := Aside0.mk hRt
  have hge : w0.heap.size ≤ w.heap.size := hB.size
  have hne : g ≠ w.heap.size := by omega
  have hnv : vb ≠ w.heap.size := by omega
  clear hfin hg hV hB ht hgW hvW hN hNb hBW hW1 hROW hG hold hhead hRl hRt hl0 hgl hvl hi0 hz0 hzs hzb
  generalize hlen : xs.length = n at hi hl HT HFIN hrz hGn ⊢
  have HN := Aside0.mk hlen
  clear hlen
  have k1 : IntKind.i64.wrap ((i : Int) + 1) = (i : Int) + 1 := IntWalk.i64_in _ (by omega)
  have k2 : 0 ≤ (i : Int) + 1 := by omega
  have k3 : ((i : Int) + 1).toNat = i + 1 := by omega
  have k4 : ¬ G = i + 1 := by omega
  have k5 : ¬ G = i := by omega
  have k10 : ¬ n = i := by omega
  have k6 : (i : Int) + 1 ≤ (n : Int) + 1 := by omega
  have k7 : (i : Int) ≤ (n : Int) + 1 := by omega
  have k8 : ((i : Int) == (n : Int)) = false := beq_eq_false_iff_ne.2 (by omega)
  have k9 : ((n : Int) < (n : Int) + 1) := by omega
  have hin : i ≤ n := by omega
  go_enter Tryz.func21, Tryz.ntmps21
  go_wp2_with (first
    | (at_builtin; refine Lib.wpList_append_run _ rfl (.tmp 34) (.tmp 39) _ _ rfl _ _ rfl rfl _ _ (hrz _) ?_)
    | ((with_reducible refine gate_builtin (b := .copy) (xs := #[.tmp 43, .tmp 44]) rfl ?_); refine hold ?_))
  unfold Hold
  refine wp_copy rfl (.tmp 43) (.tmp 44) 22 22 rfl 31 3 Tryz.underlying22 Tryz.size3 w.heap.size (i * 3) _ _ _ _ _ _ rfl rfl ROW.toList 31 (e3 P K D x) HN2.out ?hn (fun _ => ⟨rfl, ⟨vb, 0, none⟩, rfl, ?hp⟩) ?hf ((flat3 P K D).one x) HB.out hge ?_
  case hn => simp only [e3, List.length_cons, List.length_nil]; have : Nat.min 1 (n + 1 - i) = 1 := Nat.min_eq_left (by omega); rw [this]
  case hp =>
    intro j u hu
    rw [addr_add, Nat.zero_add]
    exact HV.out.cell hu
  case hf => rw [HRL.out]; simp [e3]; omega
  intro w1 hg1 hk1 hb1
  have hsl1 : i * 3 + (e3 P K D x).length ≤ ROW.toList.length := by rw [HRL.out]; simp [e3]; omega
  obtain ⟨c1, hc1⟩ : ∃ c1, c1 = splice ROW.toList (i * 3) (e3 P K D x) := ⟨_, rfl⟩
  rw [← hc1] at hg1
  have HL1 : Aside0 (c1.length = G * 3) := ⟨by rw [hc1, length_splice _ _ _ hsl1]; exact HRL.out⟩
  have HA1 : Aside0 (c1.take ((i + 1) * 3) = c3 P K D (xs.take i) ++ e3 P K D x) := ⟨by
    have e1 : (i + 1) * 3 = i * 3 + (e3 P K D x).length := by simp [e3]; omega
    rw [e1, hc1, splice_take2 hsl1, HRT.out]⟩
  clear hc1 hsl1
  go_wp2
  go_still_tail 8, (by kernel_rfl)
  change wpList _ _ _ _ _ w1.drew
  (with_reducible refine gate_builtin (b := .copy) (xs := #[.tmp 50, .tmp 53]) rfl ?_)
  refine wp_copy rfl (.tmp 50) (.tmp 53) 22 22 rfl 31 3 Tryz.underlying22 Tryz.size3 w.heap.size ((i + 1) * 3) _ _ _ _ _ _ rfl rfl c1 31 (c3 P K D (xs.drop i)) hg1.out.drew ?hn (fun _ => ⟨rfl, ⟨g, i * 3, none⟩, rfl, ?hp⟩) ?hf (c3_one P K D _) (below_drew1 hb1.out) hge ?_
  case hn => rw [c3_len, List.length_drop, HN.out]; congr 1; simp only [Nat.min_def]; split <;> omega
  case hp =>
    intro j u hu
    rw [addr_add]
    refine (HG.out.other hk1.out hne).drew.cell ?_
    rw [← c3_drop, ← HT.out, List.getElem?_drop, List.getElem?_take] at hu
    split at hu
    · exact hu
    · cases hu
  case hf => rw [c3_len, List.length_drop, HN.out, HL1.out]; omega
  intro w2 hg2 hk2 hb2
  have hl0 : (c3 P K D (xs.drop i)).length = (n - i) * 3 := by rw [c3_len, List.length_drop, HN.out]
  have hsl2 : (i + 1) * 3 + (c3 P K D (xs.drop i)).length ≤ c1.length := by rw [hl0, HL1.out]; omega
  have HE := Aside0.mk (HFIN.out _ w2 hg2.out (by rw [length_splice _ _ _ hsl2]; exact HL1.out) (by
    have e4 : (n + 1) * 3 = (i + 1) * 3 + (c3 P K D (xs.drop i)).length := by rw [hl0]; omega
    rw [e4, splice_take2 hsl2, HA1.out, c3_append, c3_cons, List.append_assoc]) (hk1.out.trans (KB.trans (b := w1.drew) ⟨Nat.le_refl _, fun _ _ _ => rfl⟩ hk2.out)) hb2.out)
  clear hg2 hk2 hb2 hsl2 hl0
  go_wp2
  go_ret
  exact HE.out
/-- slices.Insert of one entry, wherever. -/
theorem insert3 (S : Nat → Prop) (v : Value) (xs : List α) (i : Nat) (hi : i ≤ xs.length) (x : α) (vb vc : Nat) (w0 w : World) (hB : Below w0.heap.size w0 w) (ho : Own3 P K D w w0.heap.size S v xs) (hV : Blk w vb 31 (e3 P K D x)) (hSv : ¬ S vb) (hl : (xs.length + 1) * 40 ≤ 140737488355328) :
    Calls Tryz.prog 21 #[v, .int .i64 (i : Nat), .slice (some ⟨vb, 0, none⟩) 1 vc] w (InsEnd P K D w0 w S (xs.take i ++ x :: xs.drop i)) := by
  rcases Nat.eq_or_lt_of_le hi with rfl | hlt
  · have := insert_end P K D S v xs x vb vc w0 w hB ho hV hl
    rw [List.take_length, List.drop_length]
    exact this
  · rcases R_raw (flat3 P K D) ho with ⟨rfl, rfl⟩ | ⟨g, cap, cur, rfl, hge, hok, hg, hnc, hcm, hcs, ht⟩
    · simp at hlt
    · rcases Nat.eq_or_lt_of_le hnc with e | hr
      · rw [← e]
        exact insert_grow P K D S xs i hlt x g cur vb vc w0 w hB hg ht hV hl
      · exact insert_room P K D S xs i hlt x g cap cur vb vc w0 w hB hge hok hg hr hcm hcs ht hV (fun h => hSv (h ▸ hok))
end
end Go.Proofs.YtneemcgpgjfhoaaGreatDoor.Print
end

section
namespace Go.Proofs.YtneemcgpgjfhoaaGreatDoor.Print
open Go Go.RowKit Go.Proofs.YtneemcgpgjfhoaaGreatDoorW.PrintWords Go.Proofs.YtneemcgpgjfhoaaGreatDoorW.PrintLast Go.Proofs.YtneemcgpgjfhoaaGreatDoorW.PrintMore
set_option linter.unusedVariables false
set_option linter.unusedSimpArgs false
section
variable {α : Type} (P : α → ByteArray) (K : α → Int) (D : α → ByteArray)
set_option maxHeartbeats 16000000 in
set_option maxRecDepth 100000 in
theorem delete_at (S : Nat → Prop) (xs : List α) (i m : Nat) (hm : xs.length = i + 1 + m) (g cap : Nat) (cur : List Value) (w0 w : World) (hB : Below w0.heap.size w0 w) (hge : w0.heap.size ≤ g) (hS : S g) (hg : Blk w g 31 cur) (hnc : xs.length ≤ cap) (hcm : cap ≤ 9223372036854775807)
    (hcs : cur.length = cap * 3) (ht : cur.take (xs.length * 3) = c3 P K D xs) :
    Calls Tryz.prog 23 #[.slice (some ⟨g, 0, none⟩) xs.length cap, .int .i64 (i : Nat), .int .i64 ((i : Int) + 1)] w (InsEnd P K D w0 w S (xs.take i ++ xs.drop (i + 1))) := by
  have hfin : ∀ (cur2 : List Value) (w2 : World), Blk w2 g 31 cur2 → cur2.length = cap * 3 → cur2.take ((i + m) * 3) = c3 P K D (xs.take i ++ xs.drop (i + 1)) → KB w w2 g → Below w0.heap.size w0 w2 → InsEnd P K D w0 w S (xs.take i ++ xs.drop (i + 1)) (.returned (.slice (some ⟨g, 0, none⟩) (i + m) cap)) w2 := by
    intro cur2 w2 h1 h2 h3 h4 h5
    have hl : (xs.take i ++ xs.drop (i + 1)).length = i + m := by simp; omega
    exact ⟨_, rfl, R_shut (flat3 P K D) hge (.inl hS) h1 hl.symm (by rw [hl]; omega) hcm h2 (by rw [hl]; exact h3), h5, h4.kept hS⟩
  have HFIN := Aside0.mk hfin
  have HG := Aside0.mk hg
  have HB := Aside0.mk hB
  have HC := Aside0.mk hcs
  have HT := Aside0.mk ht
  have HN := Aside0.mk hm
  rw [hm] at hnc HT ⊢
  clear hfin hg hB hcs ht hm
  have k1 : ((i : Int) == (i : Int) + 1) = false := by simp; omega
  have k2 : 0 ≤ (i : Int) + 1 := by omega
  have k3 : ((i : Int) + 1).toNat = i + 1 := by omega
  have k4 : (i : Int) ≤ (i : Int) + 1 := by omega
  have k5 : (i : Int) + 1 ≤ ((i + 1 + m : Nat) : Int) := by omega
  have k5' : (i : Int) + 1 ≤ (i : Int) + 1 + (m : Int) := by omega
  have k6 : i + 1 ≤ i + 1 + m := by omega
  have k7 : i ≤ cap := by omega
  have k8 : i + 1 + m ≤ cap := hnc
  have k9 : ¬ cap = i + m := by omega
  have k10 : i + 1 + m - (i + 1) = m := by omega
  have k11 : ((i : Int) + 1 + (m : Int)).toNat = i + 1 + m := by omega
  have k12 : i + 1 + m - (i + m) = 1 := by omega
  by_cases hci : cap = i + 1
  · obtain rfl : m = 0 := by omega
    subst hci
    go_enter Tryz.func23, Tryz.ntmps23
    go_wp2
    go_still_tail 6, (by kernel_rfl)
    change wpList _ _ _ _ _ w.drew
    refine wp_append_in rfl (.tmp 22) (.tmp 25) 22 31 3 rfl Tryz.underlying22 Tryz.size3 g i _ 0 _ _ rfl rfl cur 31 (c3 P K D (xs.drop (i + 1))) HG.out.drew ?hn (by omega) ?hp ?hf (c3_one P K D _) (below_drew1 HB.out) hge ?_
    case hn => rw [c3_len, List.length_drop, HN.out]; congr 1 <;> omega
    case hp => intro hp; rw [c3_len, List.length_drop, HN.out] at hp; simp at hp
    case hf => rw [c3_len, List.length_drop, HN.out, HC.out]; omega
    intro w1 hg1 hk1 hb1
    have hl0 : (c3 P K D (xs.drop (i + 1))).length = 0 * 3 := by rw [c3_len, List.length_drop, HN.out]; congr 1 <;> omega
    have hsl1 : i * 3 + (c3 P K D (xs.drop (i + 1))).length ≤ cur.length := by rw [hl0, HC.out]; omega
    obtain ⟨c1, hc1⟩ : ∃ c1, c1 = splice cur (i * 3) (c3 P K D (xs.drop (i + 1))) := ⟨_, rfl⟩
    rw [← hc1] at hg1
    have HL1 : Aside0 (c1.length = (i + 1) * 3) := ⟨by rw [hc1, length_splice _ _ _ hsl1]; exact HC.out⟩
    have HA1 : Aside0 (c1.take ((i + 0) * 3) = c3 P K D (xs.take i ++ xs.drop (i + 1))) := ⟨by
      have e1 : (i + 0) * 3 = i * 3 + (c3 P K D (xs.drop (i + 1))).length := by rw [hl0]; omega
      rw [e1, hc1, splice_take2 hsl1, c3_append, ← c3_take P K D xs i, ← HT.out, List.take_take, Nat.min_eq_left (by omega)]⟩
    clear hc1 hsl1 hl0
    go_wp2_with (first
      | ((with_reducible refine gate_builtin (b := .clear) (xs := #[.tmp 31]) rfl ?_); refine hold ?_))
    unfold Hold
    refine wp_clear rfl (.tmp 31) 22 31 3 rfl _ Tryz.underlying22 Tryz.zero3 rfl (by simp [Value.cells, Value.oneCell']) g ((i + 0) * 3) _ _ _ rfl c1 31 hg1.out (fun _ => rfl) ?hf2 hb1.out hge ?_
    case hf2 => rw [HL1.out]; omega
    intro w2 zs hz hg2 hk2 hb2
    have hsl2 : (i + 0) * 3 + zs.length ≤ c1.length := by rw [HL1.out, hz]; omega
    have HE := Aside0.mk (HFIN.out _ w2 hg2.out (by rw [length_splice _ _ _ hsl2]; exact HL1.out) (by rw [splice_take hsl2]; exact HA1.out) ((KB.trans (b := w.drew) ⟨Nat.le_refl _, fun _ _ _ => rfl⟩ hk1.out).trans hk2.out) hb2.out)
    clear hg2 hk2 hb2 hsl2 hz
    go_wp2
    go_ret
    exact HE.out
  · go_enter Tryz.func23, Tryz.ntmps23
    go_wp2
    go_still_tail 6, (by kernel_rfl)
    change wpList _ _ _ _ _ w.drew
    refine wp_append_in rfl (.tmp 22) (.tmp 25) 22 31 3 rfl Tryz.underlying22 Tryz.size3 g i _ m _ _ rfl rfl cur 31 (c3 P K D (xs.drop (i + 1))) HG.out.drew ?hnB (by omega) ?hpB ?hfB (c3_one P K D _) (below_drew1 HB.out) hge ?_
    case hnB => rw [c3_len, List.length_drop, HN.out]; congr 1 <;> omega
    case hpB =>
      intro _
      refine ⟨⟨g, (i + 1) * 3, none⟩, rfl, fun j u hu => ?_⟩
      rw [addr_add]
      refine HG.out.drew.cell ?_
      rw [← c3_drop, ← HT.out, List.getElem?_drop, List.getElem?_take] at hu
      split at hu
      · exact hu
      · cases hu
    case hfB => rw [c3_len, List.length_drop, HN.out, HC.out]; omega
    intro w1 hg1 hk1 hb1
    have hl0 : (c3 P K D (xs.drop (i + 1))).length = m * 3 := by rw [c3_len, List.length_drop, HN.out]; congr 1 <;> omega
    have hsl1 : i * 3 + (c3 P K D (xs.drop (i + 1))).length ≤ cur.length := by rw [hl0, HC.out]; omega
    obtain ⟨c1, hc1⟩ : ∃ c1, c1 = splice cur (i * 3) (c3 P K D (xs.drop (i + 1))) := ⟨_, rfl⟩
    rw [← hc1] at hg1
    have HL1 : Aside0 (c1.length = cap * 3) := ⟨by rw [hc1, length_splice _ _ _ hsl1]; exact HC.out⟩
    have HA1 : Aside0 (c1.take ((i + m) * 3) = c3 P K D (xs.take i ++ xs.drop (i + 1))) := ⟨by
      have e1 : (i + m) * 3 = i * 3 + (c3 P K D (xs.drop (i + 1))).length := by rw [hl0]; omega
      rw [e1, hc1, splice_take2 hsl1, c3_append, ← c3_take P K D xs i, ← HT.out, List.take_take, Nat.min_eq_left (by omega)]⟩
    clear hc1 hsl1 hl0
    go_wp2_with (first
      | ((with_reducible refine gate_builtin (b := .clear) (xs := #[.tmp 31]) rfl ?_); refine hold ?_))
    unfold Hold
    refine wp_clear rfl (.tmp 31) 22 31 3 rfl _ Tryz.underlying22 Tryz.zero3 rfl (by simp [Value.cells, Value.oneCell']) g ((i + m) * 3) _ _ _ rfl c1 31 hg1.out (fun _ => rfl) ?hfB2 hb1.out hge ?_
    case hfB2 => rw [HL1.out]; omega
    intro w2 zs hz hg2 hk2 hb2
    have hsl2 : (i + m) * 3 + zs.length ≤ c1.length := by rw [HL1.out, hz]; omega
    have HE := Aside0.mk (HFIN.out _ w2 hg2.out (by rw [length_splice _ _ _ hsl2]; exact HL1.out) (by rw [splice_take hsl2]; exact HA1.out) ((KB.trans (b := w.drew) ⟨Nat.le_refl _, fun _ _ _ => rfl⟩ hk1.out).trans hk2.out) hb2.out)
    clear hg2 hk2 hb2 hsl2 hz
    go_wp2
    go_ret
    exact HE.out
/-- slices.Delete of one entry. -/
theorem delete3 (S : Nat → Prop) (v : Value) (xs : List α) (i : Nat) (hi : i < xs.length) (w0 w : World) (hB : Below w0.heap.size w0 w) (ho : Own3 P K D w w0.heap.size S v xs) :
    Calls Tryz.prog 23 #[v, .int .i64 (i : Nat), .int .i64 ((i : Int) + 1)] w (InsEnd P K D w0 w S (xs.take i ++ xs.drop (i + 1))) := by
  rcases R_raw (flat3 P K D) ho with ⟨rfl, rfl⟩ | ⟨g, cap, cur, rfl, hge, hok, hg, hnc, hcm, hcs, ht⟩
  · simp at hi
  · exact delete_at P K D S xs i (xs.length - (i + 1)) (by omega) g cap cur w0 w hB hge hok hg hnc hcm hcs ht
end
end Go.Proofs.YtneemcgpgjfhoaaGreatDoor.Print
end

section
namespace Go.Proofs.YtneemcgpgjfhoaaGreatDoor.Print
open Go Go.RowKit Go.Proofs.YtneemcgpgjfhoaaGreatDoorW.PrintWords Go.Proofs.YtneemcgpgjfhoaaGreatDoorW.PrintLast Go.Proofs.YtneemcgpgjfhoaaGreatDoorW.PrintMore
set_option linter.unusedVariables false
set_option linter.unusedSimpArgs false
section
variable {α : Type} (P : α → ByteArray) (K : α → Int) (D : α → ByteArray) (EV : Value → Value) (KF : Kd Int)
variable (LF : List α → Option Bool) (RF : ByteArray → Int → ByteArray → Option Bool) (TF : List α → ByteArray → Option (Int × Bool)) (mk : ByteArray → Int → ByteArray → α)
def LRightOk : Prop := ∀ (A : Option Addr) (c : Nat) (xs : List α) (r : Bool) (w : World), LF xs = some r → Kd.C (kd3 P K D) w A xs.length xs → xs.length ≤ c → Calls Tryz.prog 7 #[.slice A xs.length c] w fun e w' => e = .returned (.bool r) ∧ Below w.heap.size w w'
def ERightOk : Prop := ∀ (a : ByteArray) (k : Int) (d : ByteArray) (r : Bool) (w : World), RF a k d = some r → Calls Tryz.prog 14 #[.agg #[.string a, .int .i64 k, .string d]] w fun e w' => e = .returned (.bool r) ∧ Below w.heap.size w w'
def LAtOk : Prop := ∀ (A : Option Addr) (c : Nat) (xs : List α) (p : ByteArray) (r1 : Int) (r2 : Bool) (w : World), TF xs p = some (r1, r2) → Kd.C (kd3 P K D) w A xs.length xs → xs.length ≤ c → Calls Tryz.prog 17 #[.slice A xs.length c, .string p] w fun e w' => e = .returned (.tuple #[.int .i64 r1, .bool r2]) ∧ Below w.heap.size w w'
def FAtOk : Prop := ∀ (a0 a1 : ByteArray) (a2 : Int) (w : World), Calls Tryz.prog 19 #[.string a0, .string a1, .iface 47 (.int .i64 a2)] w fun e w' => ∃ v0 : Value, e = .returned (EV v0) ∧ Kd.R KF 68 w' w.heap.size (fun _ => True) v0 [a2] ∧ Below w.heap.size w w'
/-- A row and an error come back. -/
def PutEnd (w : World) (ys : List α) (er : List Int) (e : Ending) (w' : World) : Prop := ∃ v0 v1 : Value, e = .returned (.tuple #[v0, EV v1]) ∧ Own3 P K D w' w.heap.size (fun _ => True) v0 ys ∧ Kd.R KF 68 w' w.heap.size (fun _ => True) v1 er ∧ Below w.heap.size w w'
def putFin (ys : List α) : Option (List α × List Int) := (LF ys).bind fun b => if b = true then some (ys, []) else some ([], [16])
def putIn (xs : List α) (a : ByteArray) (k : Int) (d : ByteArray) (i : Int) (ok : Bool) : Option (List α × List Int) :=
  if 0 ≤ i ∧ i ≤ xs.length ∧ (xs.length + 1) * 40 ≤ 140737488355328 then
    if ok = true then (if i < xs.length then putFin LF (xs.set i.toNat (mk a k d)) else none)
    else if xs.length = 64 then some ([], [9]) else putFin LF (xs.take i.toNat ++ mk a k d :: xs.drop i.toNat)
  else none
def putF (xs : List α) (a : ByteArray) (k : Int) (d : ByteArray) : Option (List α × List Int) :=
  (LF xs).bind fun b => if b = true then (RF a k d).bind fun b2 => if b2 = true then (TF xs a).bind fun t => putIn LF mk xs a k d t.1 t.2 else some ([], [1]) else some ([], [1])
theorem own_baseP {w : World} {base base' : Nat} {ok ok' : Nat → Prop} {v : Value} {xs : List α} (h : Own3 P K D w base ok v xs) (hb : base' ≤ base) (hok : ∀ k, base ≤ k → ok k → ok' k) : Own3 P K D w base' ok' v xs := by
  rcases R_raw (flat3 P K D) h with ⟨rfl, rfl⟩ | ⟨g, cap, cur, rfl, hge, hg0, hg, hnc, hcm, hcs, ht⟩
  · exact Kd.R_nil _ _ _ _ _
  · exact R_shut (flat3 P K D) (Nat.le_trans hb hge) (hok g hge hg0) hg rfl hnc hcm hcs ht
theorem blk_keptP {w W : World} {g e : Nat} {cur : List Value} {S : Nat → Prop} (h : Blk w g e cur) (hk : Kept w W S) (hn : ¬ S g) : Blk W g e cur := (hk.2 g h.lt hn).trans h
theorem c3_setP (xs : List α) (i : Nat) (x : α) (hi : i < xs.length) : c3 P K D (xs.set i x) = (c3 P K D xs).take (i * 3) ++ e3 P K D x ++ (c3 P K D xs).drop ((i + 1) * 3) := by
  rw [c3_take, c3_drop, List.set_eq_take_append_cons_drop, if_pos hi, c3_append, c3_cons, List.append_assoc]
set_option maxHeartbeats 32000000 in
set_option maxRecDepth 100000 in
theorem layerPut3 (hL : LRightOk P K D LF) (hR : ERightOk RF) (hT : LAtOk P K D TF) (hF : FAtOk EV KF) (hnil : EV (.slice none 0 0) = .nilIface) (hmP : ∀ a k d, P (mk a k d) = a) (hmK : ∀ a k d, K (mk a k d) = k) (hmD : ∀ a k d, D (mk a k d) = d)
    (A0 : Option Addr) (c0 : Nat) (xs : List α) (a d : ByteArray) (k : Int) (r : List α × List Int) (w : World) (hr0 : Kd.C (kd3 P K D) w A0 xs.length xs) (hc0 : xs.length ≤ c0) (h : putF LF RF TF mk xs a k d = some r) :
    Calls Tryz.prog 8 #[.slice A0 xs.length c0, .agg #[.string a, .int .i64 k, .string d]] w (PutEnd P K D EV KF w r.1 r.2) := by
  have hb0 : Below w.heap.size w (w.alloc (.cells #[.string a, .int .i64 k, .string d] 31)) := (Below.refl _ _).alloc (Nat.le_refl _) _
  have hX : Blk (w.alloc (.cells #[.string a, .int .i64 k, .string d] 31)) w.heap.size 31 [.string a, .int .i64 k, .string d] := Blk.new w _ _
  obtain ⟨W1, hW1⟩ : ∃ W, W = w.alloc (.cells #[.string a, .int .i64 k, .string d] 31) := ⟨_, rfl⟩
  have HW1 := Aside0.mk hW1
  rw [← hW1] at hb0 hX
  clear hW1
  have HL := Aside0.mk hL
  have HR := Aside0.mk hR
  have HT := Aside0.mk hT
  have HF := Aside0.mk hF
  have HNIL := Aside0.mk hnil
  have HM := Aside0.mk (And.intro hmP (And.intro hmK hmD))
  have HC0 := Aside0.mk hc0
  have HR0 := Aside0.mk hr0
  have HB1 := Aside0.mk hb0
  have HX1 := Aside0.mk hX
  have hcl : ∀ W, Below w.heap.size w W → xs.length * 40 ≤ 140737488355328 → Calls Tryz.prog 20 #[.slice A0 xs.length c0] W fun e w' => ∃ v : Value, e = .returned v ∧ Own3 P K D w' W.heap.size (fun _ => True) v xs ∧ Below W.heap.size W w' := fun W hW hl => clone3 P K D A0 c0 xs W (Kd.C_below HR0.out hW) HC0.out hl
  have HCL := Aside0.mk hcl
  clear hL hR hT hF hnil hmP hmK hmD hc0 hr0 hb0 hX hcl
  unfold putF at h
  obtain ⟨b, hb, h⟩ := Option.bind_eq_some_iff.1 h
  have HLR1 := Aside0.mk (HL.out A0 c0 xs b W1 hb (Kd.C_below HR0.out HB1.out) HC0.out)
  clear hb
  cases b with
  | false =>
    rw [if_neg (by decide)] at h
    obtain rfl := Option.some.inj h
    clear h
    go_enter Tryz.func8, Tryz.ntmps8
    rw [HW1.out] at HLR1
    go_wp2_with (go_at_call 7; refine hold ?_)
    unfold Hold
    refine HLR1.out.mono ?_
    rintro e w2 ⟨rfl, b2⟩
    rw [← HW1.out] at b2
    have hbw := HB1.out.trans (b2.mono HB1.out.size)
    have x0 := (HX1.out.below b2).cell (j := 0) rfl
    have HBW := Aside0.mk hbw
    clear b2 hbw
    have HFA := Aside0.mk (HF.out ⟨#[112, 117, 116]⟩ a 1 w2)
    go_wp2_with (go_at_call 19; refine hold ?_)
    unfold Hold
    refine HFA.out.mono ?_
    rintro e w7 ⟨v7, rfl, o7, b7⟩
    have HE : Aside0 (PutEnd P K D EV KF w [] [1] (.returned (.tuple #[.slice none 0 0, EV v7])) w7) := ⟨⟨.slice none 0 0, v7, rfl, Kd.R_nil _ _ _ _ _, Kd.R_lower o7 HBW.out.size, HBW.out.trans (b7.mono HBW.out.size)⟩⟩
    clear o7 b7
    go_wp2
    go_ret2
    exact HE.out
  | true =>
    rw [if_pos rfl] at h
    obtain ⟨b2, hb2, h⟩ := Option.bind_eq_some_iff.1 h
    have HRR := Aside0.mk (HR.out a k d b2 · hb2)
    clear hb2
    go_enter Tryz.func8, Tryz.ntmps8
    rw [HW1.out] at HLR1
    go_wp2_with (go_at_call 7; refine hold ?_)
    unfold Hold
    refine HLR1.out.mono ?_
    rintro e w2 ⟨rfl, c2⟩
    rw [← HW1.out] at c2
    have HBW2 := Aside0.mk (HB1.out.trans (c2.mono HB1.out.size))
    have HX2 := Aside0.mk (HX1.out.below c2)
    have x0 := HX2.out.cell (j := 0) rfl
    have x1 := HX2.out.cell (j := 1) rfl
    have x2 := HX2.out.cell (j := 2) rfl
    clear c2 HLR1
    go_wp2_with (go_at_call 14; refine hold ?_)
    unfold Hold
    refine (HRR.out _).mono ?_
    rintro e w3 ⟨rfl, c3⟩
    have HBW := Aside0.mk (HBW2.out.trans (c3.mono HBW2.out.size))
    have HX3 := Aside0.mk (HX2.out.below c3)
    clear x0 x1 x2 c3 HRR HBW2 HX2
    have x0 := HX3.out.cell (j := 0) rfl
    cases b2 with
    | false =>
      rw [if_neg (by decide)] at h
      obtain rfl := Option.some.inj h
      clear h
      have HFA := Aside0.mk (HF.out ⟨#[112, 117, 116]⟩ a 1 w3)
      go_wp2_with (go_at_call 19; refine hold ?_)
      unfold Hold
      refine HFA.out.mono ?_
      rintro e w7 ⟨v7, rfl, o7, b7⟩
      have HE : Aside0 (PutEnd P K D EV KF w [] [1] (.returned (.tuple #[.slice none 0 0, EV v7])) w7) := ⟨⟨.slice none 0 0, v7, rfl, Kd.R_nil _ _ _ _ _, Kd.R_lower o7 HBW.out.size, HBW.out.trans (b7.mono HBW.out.size)⟩⟩
      clear o7 b7
      go_wp2
      go_ret2
      exact HE.out
    | true =>
      rw [if_pos rfl] at h
      obtain ⟨⟨i0, ok⟩, ht, h⟩ := Option.bind_eq_some_iff.1 h
      unfold putIn at h
      by_cases hg : 0 ≤ i0 ∧ i0 ≤ xs.length ∧ (xs.length + 1) * 40 ≤ 140737488355328
      case neg => rw [if_neg hg] at h; cases h
      rw [if_pos hg] at h
      obtain ⟨hg0, hg1, hg2⟩ := hg
      obtain ⟨i, rfl⟩ : ∃ i : Nat, i0 = (i : Int) := ⟨i0.toNat, by omega⟩
      rw [Int.toNat_natCast] at h
      have HG2 := Aside0.mk hg2
      have HTT := Aside0.mk (HT.out A0 c0 xs a (i : Int) ok · ht)
      have HCLW := Aside0.mk (HCL.out w3 HBW.out (by omega))
      clear ht hg2 HCL x0
      go_wp2_with (go_at_call 20; refine hold ?_)
      unfold Hold
      refine HCLW.out.mono ?_
      rintro e w4 ⟨v4, rfl, o4, b4⟩
      have HBW4 := Aside0.mk (HBW.out.trans (b4.mono HBW.out.size))
      have HX4 := Aside0.mk (HX3.out.below b4)
      have HO4 := Aside0.mk (own_baseP P K D (ok' := fun j => w3.heap.size ≤ j) o4 HBW.out.size (fun j hj _ => hj))
      have hnS : ¬ w3.heap.size ≤ w.heap.size := by have := HX3.out.lt; omega
      have HNS := Aside0.mk hnS
      have x0 := HX4.out.cell (j := 0) rfl
      clear o4 b4 HCLW hnS
      go_wp2_with (go_at_call 17; refine hold ?_)
      unfold Hold
      refine (HTT.out w4 (Kd.C_below HR0.out HBW4.out) HC0.out).mono ?_
      rintro e w5 ⟨rfl, b5⟩
      have HBW5 := Aside0.mk (HBW4.out.trans (b5.mono HBW4.out.size))
      have HX5 := Aside0.mk (HX4.out.below b5)
      have HO5' := Aside0.mk (Kd.R_below HO4.out b5)
      clear x0 b5 HTT HO4 HX4 HBW4
      have x0 := HX5.out.cell (j := 0) rfl
      have x1 := HX5.out.cell (j := 1) rfl
      have x2 := HX5.out.cell (j := 2) rfl
      have hi0 : (0 : Int) ≤ (i : Int) := by omega
      cases ok with
      | true =>
        rw [if_pos rfl] at h
        by_cases hlt : (i : Int) < (xs.length : Int)
        case neg => rw [if_neg hlt] at h; cases h
        rw [if_pos hlt] at h
        unfold putFin at h
        have hltn : i < xs.length := by omega
        obtain ⟨g, cap, cur, rfl, hge, hok, hg, hnc, hcm, hcs, hct⟩ : ∃ (g cap : Nat) (cur : List Value), v4 = .slice (some ⟨g, 0, none⟩) xs.length cap ∧ w.heap.size ≤ g ∧ w3.heap.size ≤ g ∧ Blk w5 g 31 cur ∧ xs.length ≤ cap ∧ cap ≤ 9223372036854775807 ∧ cur.length = cap * 3 ∧ cur.take (xs.length * 3) = c3 P K D xs := by
          rcases R_raw (flat3 P K D) HO5'.out with ⟨rfl, rfl⟩ | ⟨g, cap, cur, h1, h2, h3, h4⟩
          · exact absurd hltn (by simp)
          · exact ⟨g, cap, cur, h1, h2, h3, h4⟩
        have hset : ∀ w6 : World, Blk w6 g 31 (splice cur (i * 3) [.string a, .int .i64 k, .string d]) → Own3 P K D w6 w.heap.size (fun _ => True) (.slice (some ⟨g, 0, none⟩) (xs.set i (mk a k d)).length cap) (xs.set i (mk a k d)) := fun w6 hg6 => by
          have he3 : e3 P K D (mk a k d) = [.string a, .int .i64 k, .string d] := by unfold e3; rw [HM.out.1, HM.out.2.1, HM.out.2.2]
          rw [← he3] at hg6
          have hsl : i * 3 + (e3 P K D (mk a k d)).length ≤ cur.length := by rw [hcs]; simp [e3]; omega
          refine R_shut (flat3 P K D) hge trivial hg6 rfl (by rw [List.length_set]; exact hnc) hcm (by rw [length_splice _ _ _ hsl]; exact hcs) ?_
          rw [List.length_set, sz3]
          have e1 : xs.length * 3 = (i * 3 + (e3 P K D (mk a k d)).length) + (xs.length - (i + 1)) * 3 := by simp [e3]; omega
          have e2 : i * 3 + (e3 P K D (mk a k d)).length = (i + 1) * 3 := by simp [e3]; omega
          show List.take _ _ = c3 P K D (xs.set i (mk a k d))
          rw [c3_setP P K D xs i (mk a k d) hltn, ← hct, e1, List.take_add, splice_take2 hsl, splice_drop hsl, List.take_take, Nat.min_eq_left (by omega), e2, List.drop_take]
          congr 2
          omega
        have HSET := Aside0.mk hset
        have HG := Aside0.mk hg
        have HC := Aside0.mk hcs
        have HLT := Aside0.mk hltn
        have hlen : xs.length = (xs.set i (mk a k d)).length := by rw [List.length_set]
        have HLEN := Aside0.mk hlen
        have HNC := Aside0.mk hnc
        have HOK := Aside0.mk hok
        clear hset hg hcs hct hltn hlen hnc hok HO5'
        go_wp2_with (first
          | ((with_reducible refine gate_st3 (x := .tmp 40) (y := .tmp 39) rfl ?_); refine hold ?_))
        unfold Hold
        refine wp_store_blk rfl 31 (.tmp 40) (.tmp 39) rfl 3 Tryz.size3 g (i * 3) rfl _ rfl [.string a, .int .i64 k, .string d] rfl rfl cur 31 HG.out ?hf (by intro u hu; simp at hu; rcases hu with rfl | rfl | rfl <;> rfl) (B := w.heap.size) (w0 := w) HBW5.out hge ?_
        case hf => rw [HC.out]; have := HLT.out; have := HNC.out; simp; omega
        intro w6 hg6 hk6 hb6
        have HO5 := Aside0.mk (HSET.out w6 hg6.out)
        have HB5 := Aside0.mk hb6.out
        have y0 := (blk_keptP HX5.out (hk6.out.kept (S := fun j => w3.heap.size ≤ j) HOK.out) HNS.out).cell (j := 0) rfl
        have HYS0 := h
        clear hg6 hk6 hb6 HSET x0 x1 x2 h
        rw [HLEN.out]
        generalize xs.set i (mk a k d) = ys at HYS0 HO5 ⊢
        obtain ⟨bz, hbz⟩ : ∃ b, LF ys = some b := by
          cases hq : LF ys with
          | none => rw [hq] at HYS0; cases HYS0
          | some b => exact ⟨b, rfl⟩
        rw [hbz, Option.bind_some] at HYS0
        obtain ⟨_, hle5, hC5⟩ := Kd.R_reads' HO5.out
        have HLR := Aside0.mk (HL.out (some ⟨g, 0, none⟩) cap ys bz w6 hbz hC5 hle5)
        clear hle5 hC5 hbz
        cases bz with
        | true =>
          rw [if_pos rfl] at HYS0
          obtain rfl := Option.some.inj HYS0
          clear HYS0
          go_wp2_with (go_at_call 7; refine hold ?_)
          unfold Hold
          refine HLR.out.mono ?_
          rintro e w6 ⟨rfl, b6⟩
          have HE : Aside0 (PutEnd P K D EV KF w ys [] (.returned (.tuple #[.slice (some ⟨g, 0, none⟩) ys.length cap, .nilIface])) w6) := ⟨⟨_, .slice none 0 0, by rw [HNIL.out], Kd.R_below HO5.out b6, Kd.R_nil _ _ _ _ _, HB5.out.trans (b6.mono HB5.out.size)⟩⟩
          clear b6
          go_wp2
          go_ret2
          exact HE.out
        | false =>
          rw [if_neg (by decide)] at HYS0
          obtain rfl := Option.some.inj HYS0
          clear HYS0
          go_wp2_with (go_at_call 7; refine hold ?_)
          unfold Hold
          refine HLR.out.mono ?_
          rintro e w6 ⟨rfl, b6⟩
          have hb6 := HB5.out.trans (b6.mono HB5.out.size)
          have x0 := pw_cell_below b6 y0
          have HFA := Aside0.mk (HF.out ⟨#[112, 117, 116]⟩ a 16 w6)
          have HB6 := Aside0.mk hb6
          clear b6 hb6 y0
          go_wp2_with (go_at_call 19; refine hold ?_)
          unfold Hold
          refine HFA.out.mono ?_
          rintro e w7 ⟨v7, rfl, o7, b7⟩
          have HE : Aside0 (PutEnd P K D EV KF w [] [16] (.returned (.tuple #[.slice none 0 0, EV v7])) w7) := ⟨⟨.slice none 0 0, v7, rfl, Kd.R_nil _ _ _ _ _, Kd.R_lower o7 HB6.out.size, HB6.out.trans (b7.mono HB6.out.size)⟩⟩
          clear o7 b7
          go_wp2
          go_ret2
          exact HE.out
      | false =>
        rw [if_neg (by decide)] at h
        by_cases h64 : xs.length = 64
        · rw [if_pos h64] at h
          obtain rfl := Option.some.inj h
          have h64z : ((xs.length : Int) == 64) = true := by rw [h64]; rfl
          have HBW := HBW5
          clear h HO5' x1 x2
          have HFA := Aside0.mk (HF.out ⟨#[112, 117, 116]⟩ a 9 w5)
          go_wp2_with (go_at_call 19; refine hold ?_)
          unfold Hold
          refine HFA.out.mono ?_
          rintro e w7 ⟨v7, rfl, o7, b7⟩
          have HE : Aside0 (PutEnd P K D EV KF w [] [9] (.returned (.tuple #[.slice none 0 0, EV v7])) w7) := ⟨⟨.slice none 0 0, v7, rfl, Kd.R_nil _ _ _ _ _, Kd.R_lower o7 HBW.out.size, HBW.out.trans (b7.mono HBW.out.size)⟩⟩
          clear o7 b7
          go_wp2
          go_ret2
          exact HE.out
        · rw [if_neg h64] at h
          unfold putFin at h
          have h64z : ((xs.length : Int) == 64) = false := beq_eq_false_iff_ne.2 (by omega)
          obtain ⟨A4, c4, rfl⟩ := Kd.R_slice HO5'.out
          have hin : Calls Tryz.prog 21 #[.slice A4 xs.length c4, .int .i64 (i : Nat), .slice (some ⟨w5.heap.size, 0, none⟩) 1 1] (w5.alloc (.cells #[.string a, .int .i64 k, .string d] 31)) fun e w' => ∃ v : Value, e = .returned v ∧ Own3 P K D w' w.heap.size (fun _ => True) v (xs.take i ++ mk a k d :: xs.drop i) ∧ Below w.heap.size w w' ∧ Blk w' w.heap.size 31 [.string a, .int .i64 k, .string d] := by
            have hbl : Below w5.heap.size w5 (w5.alloc (.cells #[.string a, .int .i64 k, .string d] 31)) := (Below.refl _ _).alloc (Nat.le_refl _) _
            have he3 : e3 P K D (mk a k d) = [.string a, .int .i64 k, .string d] := by unfold e3; rw [HM.out.1, HM.out.2.1, HM.out.2.2]
            have hi3 := insert3 P K D (fun j => w3.heap.size ≤ j ∧ j < w5.heap.size) (.slice A4 xs.length c4) xs i (by omega) (mk a k d) w5.heap.size 1 w _ (HBW5.out.trans (hbl.mono HBW5.out.size))
              (Kd.R_below (Kd.R_mono (Kd.R_bound HO5'.out) (fun j hj => ⟨hj.1, hj.2.2.1⟩)) hbl) (by rw [he3]; exact Blk.new w5 _ _) (fun hq => by omega) HG2.out
            refine hi3.mono ?_
            rintro e w' ⟨v, rfl, q1, q2, q3⟩
            exact ⟨v, rfl, Kd.R_mono q1 (fun _ _ => trivial), q2, blk_keptP (HX5.out.below hbl) q3 (fun hq => HNS.out hq.1)⟩
          have HIN := Aside0.mk hin
          have HYS := Aside0.mk h
          clear hin h HO5'
          go_wp2_with (go_at_call 21; refine hold ?_)
          unfold Hold
          refine HIN.out.mono ?_
          rintro e w6 ⟨v6, rfl, o6, b6, hx6⟩
          have HB5 := Aside0.mk b6
          have y0 := hx6.cell (j := 0) rfl
          obtain ⟨A6, c6, rfl⟩ := Kd.R_slice o6
          have HO5 := Aside0.mk o6
          have HYS0 := HYS.out
          clear o6 b6 hx6 HIN x0 x1 x2 HYS
          generalize xs.take i ++ mk a k d :: xs.drop i = ys at HYS0 HO5 ⊢
          obtain ⟨bz, hbz⟩ : ∃ b, LF ys = some b := by
            cases hq : LF ys with
            | none => rw [hq] at HYS0; cases HYS0
            | some b => exact ⟨b, rfl⟩
          rw [hbz, Option.bind_some] at HYS0
          obtain ⟨_, hle5, hC5⟩ := Kd.R_reads' HO5.out
          have HLR := Aside0.mk (HL.out A6 c6 ys bz w6 hbz hC5 hle5)
          clear hle5 hC5 hbz
          cases bz with
          | true =>
            rw [if_pos rfl] at HYS0
            obtain rfl := Option.some.inj HYS0
            clear HYS0
            go_wp2_with (go_at_call 7; refine hold ?_)
            unfold Hold
            refine HLR.out.mono ?_
            rintro e w6 ⟨rfl, b6⟩
            have HE : Aside0 (PutEnd P K D EV KF w ys [] (.returned (.tuple #[.slice A6 ys.length c6, .nilIface])) w6) := ⟨⟨_, .slice none 0 0, by rw [HNIL.out], Kd.R_below HO5.out b6, Kd.R_nil _ _ _ _ _, HB5.out.trans (b6.mono HB5.out.size)⟩⟩
            clear b6
            go_wp2
            go_ret2
            exact HE.out
          | false =>
            rw [if_neg (by decide)] at HYS0
            obtain rfl := Option.some.inj HYS0
            clear HYS0
            go_wp2_with (go_at_call 7; refine hold ?_)
            unfold Hold
            refine HLR.out.mono ?_
            rintro e w6 ⟨rfl, b6⟩
            have hb6 := HB5.out.trans (b6.mono HB5.out.size)
            have x0 := pw_cell_below b6 y0
            have HFA := Aside0.mk (HF.out ⟨#[112, 117, 116]⟩ a 16 w6)
            have HB6 := Aside0.mk hb6
            clear b6 hb6 y0
            go_wp2_with (go_at_call 19; refine hold ?_)
            unfold Hold
            refine HFA.out.mono ?_
            rintro e w7 ⟨v7, rfl, o7, b7⟩
            have HE : Aside0 (PutEnd P K D EV KF w [] [16] (.returned (.tuple #[.slice none 0 0, EV v7])) w7) := ⟨⟨.slice none 0 0, v7, rfl, Kd.R_nil _ _ _ _ _, Kd.R_lower o7 HB6.out.size, HB6.out.trans (b7.mono HB6.out.size)⟩⟩
            clear o7 b7
            go_wp2
            go_ret2
            exact HE.out
end
end Go.Proofs.YtneemcgpgjfhoaaGreatDoor.Print
end
