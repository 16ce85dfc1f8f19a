/- layer.at: slices.BinarySearchFunc at entries, by their paths: the walk. The search is told as Go's own steps (no order of the list is asked). -/
import Derived.Test.YtjlflmjimibciabGreatDoorSplitP
import Derived.Defers
import Derived.WalkLawsBesides
import Derived.StillTailTactics
import Derived.BigQuiet
import Derived.Laws.BitsLemmas
import Derived.Deep.LoopGhost
import Derived.Recover
import Derived.WalkSpells
import Derived.IntWalk
section
namespace Go.Proofs.YtjlflmjimibciabGreatDoor.Print
open Go Go.RowKit Go.Proofs.YtjlflmjimibciabGreatDoorW.PrintWords Go.Proofs.YtjlflmjimibciabGreatDoorW.PrintLast Go.Proofs.YtjlflmjimibciabGreatDoorW.PrintMore
set_option linter.unusedVariables false
set_option linter.unusedSimpArgs false
/-- Go's search: F the paths, from lo to hi. -/
def bsF (F : Nat → ByteArray) (p : ByteArray) : Nat → Nat → Nat → Nat
  | 0, lo, _ => lo
  | n + 1, lo, hi => if lo < hi then (if Lib.compareBytes (F ((lo + hi) / 2)).data.toList p.data.toList < 0 then bsF F p n ((lo + hi) / 2 + 1) hi else bsF F p n lo ((lo + hi) / 2)) else lo
theorem bsF_fuel (F : Nat → ByteArray) (p : ByteArray) : ∀ (n m lo hi : Nat), hi - lo ≤ n → hi - lo ≤ m → bsF F p n lo hi = bsF F p m lo hi
  | 0, 0, _, _, _, _ => rfl
  | 0, m + 1, lo, hi, h, _ => by rw [bsF, bsF, if_neg (by omega)]
  | n + 1, 0, lo, hi, _, h => by rw [bsF, bsF, if_neg (by omega)]
  | n + 1, m + 1, lo, hi, h1, h2 => by
    rw [bsF, bsF]
    by_cases hl : lo < hi
    · rw [if_pos hl, if_pos hl, bsF_fuel F p n m ((lo + hi) / 2 + 1) hi (by omega) (by omega), bsF_fuel F p n m lo ((lo + hi) / 2) (by omega) (by omega)]
    · rw [if_neg hl, if_neg hl]
theorem bsF_stop (F : Nat → ByteArray) (p : ByteArray) (n lo hi : Nat) (h : ¬ lo < hi) : bsF F p n lo hi = lo := by
  cases n with
  | zero => rfl
  | succ n => rw [bsF, if_neg h]
theorem bsF_step (F : Nat → ByteArray) (p : ByteArray) (lo hi : Nat) (h : lo < hi) : bsF F p (hi - lo) lo hi = if Lib.compareBytes (F ((lo + hi) / 2)).data.toList p.data.toList < 0 then bsF F p (hi - ((lo + hi) / 2 + 1)) ((lo + hi) / 2 + 1) hi else bsF F p ((lo + hi) / 2 - lo) lo ((lo + hi) / 2) := by
  obtain ⟨j, hj⟩ : ∃ j, hi - lo = j + 1 := ⟨hi - lo - 1, by omega⟩
  rw [hj, bsF, if_pos h, bsF_fuel F p j (hi - ((lo + hi) / 2 + 1)) ((lo + hi) / 2 + 1) hi (by omega) (by omega), bsF_fuel F p j ((lo + hi) / 2 - lo) lo ((lo + hi) / 2) (by omega) (by omega)]
set_option maxHeartbeats 4000000 in
set_option maxRecDepth 100000 in
theorem at1_any (a : ByteArray) (k : Int) (d p : ByteArray) (w : World) :
    Calls Tryz.prog 59 #[.agg #[.string a, .int .i64 k, .string d], .string p] w fun e w' => e = .returned (.int .i64 (Lib.compareBytes a.data.toList p.data.toList)) ∧ Below w.heap.size w w' := by
  have hb : Below w.heap.size w (w.alloc (.cells #[.string a, .int .i64 k, .string d] 39)) := (Below.refl _ _).alloc (Nat.le_refl _) _
  have HB := Aside0.mk hb
  clear hb
  have HC := Any.strings_Compare Tryz.lays106 a p
  go_enter Tryz.func59, Tryz.ntmps59
  go_wp2_with (first | (go_at_call 60; refine (HC _).mono ?_; rintro e w' ⟨rfl, rfl⟩))
  go_ret
  exact ⟨rfl, HB.out⟩
structure RowAt (w : World) (ad : Addr) (n : Nat) (F : Nat → ByteArray) (K : Nat → Int) (D : Nat → ByteArray) : Prop where
  here : ad.block < w.heap.size
  c0 : ∀ i, i < n → w.cell? (ad.add (i * 3)) = some (.string (F i))
  c1 : ∀ i, i < n → w.cell? ⟨(ad.add (i * 3)).block, (ad.add (i * 3)).off + 1, none⟩ = some (.int .i64 (K i))
  c2 : ∀ i, i < n → w.cell? ⟨(ad.add (i * 3)).block, (ad.add (i * 3)).off + 2, none⟩ = some (.string (D i))
theorem add_block (ad : Addr) (m : Nat) : (ad.add m).block = ad.block := by unfold Addr.add; split <;> rfl
theorem RowAt.below {w W : World} {ad : Addr} {n : Nat} {F : Nat → ByteArray} {K : Nat → Int} {D : Nat → ByteArray} (h : RowAt w ad n F K D) (hb : Below w.heap.size w W) : RowAt W ad n F K D :=
  ⟨Nat.lt_of_lt_of_le h.here hb.size, fun i hi => (hb.cell (p := ad.add (i * 3)) (by rw [add_block]; exact h.here)).trans (h.c0 i hi), fun i hi => (hb.cell (p := ⟨(ad.add (i * 3)).block, _, none⟩) (by show (ad.add (i * 3)).block < _; rw [add_block]; exact h.here)).trans (h.c1 i hi), fun i hi => (hb.cell (p := ⟨(ad.add (i * 3)).block, _, none⟩) (by show (ad.add (i * 3)).block < _; rw [add_block]; exact h.here)).trans (h.c2 i hi)⟩
set_option maxHeartbeats 8000000 in
set_option maxRecDepth 100000 in
theorem search_any (ad : Addr) (n c : Nat) (F : Nat → ByteArray) (K : Nat → Int) (D : Nat → ByteArray) (p : ByteArray) (w : World) (hn : n < 4611686018427387904) (hR : RowAt w ad n F K D) :
    Calls Tryz.prog 58 #[.slice (some ad) n c, .string p, .func (.func 59) #[] #[]] w fun e w' =>
      e = .returned (.tuple #[.int .i64 (bsF F p n 0 n : Nat), .bool (decide (bsF F p n 0 n < n) && decide (Lib.compareBytes (F (bsF F p n 0 n)).data.toList p.data.toList = 0))]) ∧ Below w.heap.size w w' := by
  have ef : ∀ args w, (callFunc 59 args).run Tryz.prog w = .ok (.enter 59 args) w := fun _ _ => by kernel_rfl
  have HR := Aside0.mk hR
  have HB := Aside0.mk (Below.refl w.heap.size w)
  have HN := Aside0.mk hn
  clear hR
  generalize hres : bsF F p n 0 n = res
  have RES := Aside0.mk hres
  clear hres
  go_enter Tryz.func58, Tryz.ntmps58
  go_wp2
  go_loopg [9, 10] n (fun kx s9 s10 wr => ∃ lo hi : Nat, s9 = .int .i64 lo ∧ s10 = .int .i64 hi ∧ lo ≤ hi ∧ hi ≤ n ∧ hi - lo ≤ kx ∧ Aside0 (Below w.heap.size w wr) ∧ Aside0 (bsF F p (hi - lo) lo hi = res))
  case atStart => exact ⟨0, n, rfl, rfl, Nat.zero_le _, Nat.le_refl _, by omega, HB, RES⟩
  case round =>
    obtain ⟨lo, hi, rfl, rfl, hlh, hin, hg, HB1, RES1⟩ := hrel
    have r1 := HR.out.below HB1.out
    by_cases hlt : lo < hi
    · have cc0 := r1.c0 ((lo + hi) / 2) (by omega)
      have cc1 := r1.c1 ((lo + hi) / 2) (by omega)
      have cc2 := r1.c2 ((lo + hi) / 2) (by omega)
      have R1 := Aside0.mk r1
      clear r1
      by_cases hyx : Lib.compareBytes (F ((lo + hi) / 2)).data.toList p.data.toList < 0
      · have hyb := decide_eq_true hyx
        go_wp2_with (go_at_call 59; refine (at1_any _ _ _ _ _).mono ?_; rintro e w' ⟨rfl, hb⟩)
        go_roundg (hi - ((lo + hi) / 2 + 1))
        case measure => omega
        case rel =>
          exact ⟨(lo + hi) / 2 + 1, hi, by first | rfl | rw [show ((lo : Int) + (hi : Int)) / 2 + 1 = (((lo + hi) / 2 + 1 : Nat) : Int) by omega], rfl, by omega, hin, Nat.le_refl _, ⟨HB1.out.trans (hb.mono HB1.out.size)⟩, ⟨by have := RES1.out; rw [bsF_step F p lo hi hlt, if_pos hyx] at this; exact this⟩⟩
      · have hyb := decide_eq_false hyx
        go_wp2_with (go_at_call 59; refine (at1_any _ _ _ _ _).mono ?_; rintro e w' ⟨rfl, hb⟩)
        go_roundg ((lo + hi) / 2 - lo)
        case measure => omega
        case rel =>
          exact ⟨lo, (lo + hi) / 2, rfl, by first | rfl | rw [show ((lo : Int) + (hi : Int)) / 2 = (((lo + hi) / 2 : Nat) : Int) by omega], by omega, by omega, Nat.le_refl _, ⟨HB1.out.trans (hb.mono HB1.out.size)⟩, ⟨by have := RES1.out; rw [bsF_step F p lo hi hlt, if_neg (Int.not_lt.2 (by first | exact hyx | omega))] at this; exact this⟩⟩
    · obtain rfl : hi = lo := by omega
      have hres : hi = res := by have := RES1.out; rw [bsF_stop F p _ hi hi hlt] at this; exact this
      subst hres
      by_cases hn2 : hi < n
      · have cc0 := r1.c0 hi hn2
        have cc1 := r1.c1 hi hn2
        have cc2 := r1.c2 hi hn2
        clear r1
        go_wp2_with (go_at_call 59; refine (at1_any _ _ _ _ _).mono ?_; rintro e w' ⟨rfl, hb⟩)
        go_ret2
        exact ⟨by simp [hn2]; rfl, HB1.out.trans (hb.mono HB1.out.size)⟩
      · clear r1
        go_wp2
        go_ret2
        exact ⟨by simp [hn2], HB1.out⟩
set_option maxHeartbeats 4000000 in
set_option maxRecDepth 100000 in
theorem search_zero (A : Option Addr) (c : Nat) (p : ByteArray) (v : Value) (w : World) :
    Calls Tryz.prog 58 #[.slice A 0 c, .string p, v] w fun e w' =>
      e = .returned (.tuple #[.int .i64 0, .bool false]) ∧ Below w.heap.size w w' := by
  have HB := Aside0.mk (Below.refl w.heap.size w)
  go_enter Tryz.func58, Tryz.ntmps58
  go_wp2
  refine wp_loop_rounds 1 ?_
  rw [rounds_succ]
  go_wp2
  go_ret2
  exact ⟨rfl, HB.out⟩
set_option maxHeartbeats 4000000 in
set_option maxRecDepth 100000 in
/-- layer.at: Go's own search; whatever the list. -/
theorem at_row (A : Option Addr) (n c : Nat) (F : Nat → ByteArray) (K : Nat → Int) (D : Nat → ByteArray) (p : ByteArray) (w : World) (hn : n < 4611686018427387904) (h : n = 0 ∨ ∃ ad, A = some ad ∧ RowAt w ad n F K D) :
    Calls Tryz.prog 33 #[.slice A n c, .string p] w fun e w' =>
      e = .returned (.tuple #[.int .i64 (bsF F p n 0 n : Nat), .bool (decide (bsF F p n 0 n < n) && decide (Lib.compareBytes (F (bsF F p n 0 n)).data.toList p.data.toList = 0))]) ∧ Below w.heap.size w w' := by
  have H : Calls Tryz.prog 58 #[.slice A n c, .string p, .func (.func 59) #[] #[]] w fun e w' =>
      e = .returned (.tuple #[.int .i64 (bsF F p n 0 n : Nat), .bool (decide (bsF F p n 0 n < n) && decide (Lib.compareBytes (F (bsF F p n 0 n)).data.toList p.data.toList = 0))]) ∧ Below w.heap.size w w' := by
    rcases h with rfl | ⟨ad, rfl, hR⟩
    · have e0 : bsF F p 0 0 0 = 0 := rfl
      rw [e0]
      exact search_zero A c p _ w
    · exact search_any ad n c F K D p w hn hR
  clear h
  go_enter Tryz.func33, Tryz.ntmps33
  go_wp2_with (go_at_call 58; refine H.mono ?_; rintro e w' ⟨rfl, hb⟩)
  go_ret2
  exact ⟨rfl, hb⟩
end Go.Proofs.YtjlflmjimibciabGreatDoor.Print
end

section
namespace Go.Proofs.YtjlflmjimibciabGreatDoor.Print
open Go Go.RowKit Go.Proofs.YtjlflmjimibciabGreatDoorW.PrintWords Go.Proofs.YtjlflmjimibciabGreatDoorW.PrintLast Go.Proofs.YtjlflmjimibciabGreatDoorW.PrintMore
set_option linter.unusedVariables false
set_option linter.unusedSimpArgs false
/-- The panic of bytes that are none of the form. -/
def formPanic : List PanicEntry := [{ v := .iface 52 (.int .i64 13), recovered := false }]
theorem must_yes (w : World) : Calls Tryz.prog 64 #[.bool true] w fun e w' => e = .returned (.tuple #[]) ∧ w' = w := by
  go_enter Tryz.func64, Tryz.ntmps64
  go_wp2
  go_end0
  exact ⟨rfl, rfl⟩
theorem must_no (w : World) : Calls Tryz.prog 64 #[.bool false] w fun e w' => e = .panicked formPanic ∧ w' = w := by
  go_enter Tryz.func64, Tryz.ntmps64
  go_wp2
  exact ⟨rfl, rfl, rfl⟩
/-- The reader's block. -/
def RdAt (W : World) (g : Nat) (s : ByteArray) (a : Int) : Prop := W.heap[g]? = some (.cells #[.string s, .int .i64 a] 101 (0, 0))
theorem RdAt.c0 {W : World} {g : Nat} {s : ByteArray} {a : Int} (h : RdAt W g s a) : W.cell? ⟨g, 0, none⟩ = some (.string s) := by unfold RdAt at h; simp [World.cell?, h]
theorem RdAt.c1 {W : World} {g : Nat} {s : ByteArray} {a : Int} (h : RdAt W g s a) : W.cell? ⟨g, 1, none⟩ = some (.int .i64 a) := by unfold RdAt at h; simp [World.cell?, h]
theorem RdAt.f1 {W : World} {g : Nat} {s : ByteArray} {a : Int} (h : RdAt W g s a) : W.frozen? ⟨g, 1, none⟩ = false := by unfold RdAt at h; simp [World.frozen?, h]
theorem RdAt.set {W : World} {g : Nat} {s : ByteArray} {a : Int} (h : RdAt W g s a) (b : Int) : RdAt (W.setCell ⟨g, 1, none⟩ (.int .i64 b)) g s b := by
  unfold RdAt at h ⊢
  simpa using blk_set h 1 (.int .i64 b)
theorem RdAt.drewN {W : World} {g : Nat} {s : ByteArray} {a : Int} (h : RdAt W g s a) (n : Nat) : RdAt (W.drewN n) g s a := h
theorem RdAt.drew {W : World} {g : Nat} {s : ByteArray} {a : Int} (h : RdAt W g s a) : RdAt W.drew g s a := h
theorem RdAt.below {W W1 : World} {g : Nat} {s : ByteArray} {a : Int} (h : RdAt W g s a) (hb : Below W.heap.size W W1) : RdAt W1 g s a := by
  unfold RdAt at h ⊢
  exact (hb.block g (Array.getElem?_eq_some_iff.1 h).1).trans h
theorem RdAt.far {W : World} {g : Nat} {s : ByteArray} {a : Int} (h : RdAt W g s a) {p : Addr} (hp : g ≠ p.block) (u : Value) : RdAt (W.setCell p u) g s a := by
  unfold RdAt at h ⊢
  exact blk_far h hp u
/-- A digit more, as the walk spells it. -/
def orD (v : Int) (b : UInt8) (k : Nat) : Int := bits BinOp.or IntKind.i64 v (wrap64 (bits BinOp.and IntKind.i64 (b.toNat : Int) 127 * 2 ^ (7 * k)))
/-- The number at the head of bytes, and how many bytes it takes. -/
def numL : Nat → Nat → Int → List UInt8 → Option (Int × Nat)
  | 0, _, _, _ => none
  | _ + 1, _, _, [] => none
  | m + 1, k, v, b :: l => if b.toNat < 128 then (if (0 < b.toNat ∨ k = 0) ∧ orD v b k ≤ 4611686018427387904 then some (orD v b k, k + 1) else none) else numL m (k + 1) (orD v b k) l
/-- What the walk of a number leaves. -/
def NumEnd (s : ByteArray) (a g : Nat) (w0 w : World) (o : Option (Int × Nat)) (e : Ending) (w' : World) : Prop :=
  (match o with
    | some (n, c) => e = .returned (.int .i64 n) ∧ RdAt w' g s ((a + c : Nat) : Int)
    | none => e = .panicked formPanic ∧ ∃ a', RdAt w' g s a') ∧ KeepBut w w' g none ∧ Below w0.heap.size w0 w'
theorem RdAt.eq {W : World} {g : Nat} {s : ByteArray} {a b : Int} (h : RdAt W g s a) (e : a = b) : RdAt W g s b := e ▸ h
set_option maxHeartbeats 16000000 in
set_option maxRecDepth 100000 in
theorem number_any (s : ByteArray) (a g : Nat) (w0 w : World) (hs : s.size ≤ 9223372036854775000) (ha : a ≤ s.size) (hR : RdAt w g s a) (hg : w0.heap.size ≤ g) (hB : Below w0.heap.size w0 w) :
    Calls Tryz.prog 63 #[.pointer (some ⟨g, 0, none⟩)] w (NumEnd s a g w0 w (numL 9 0 0 (s.data.toList.drop a))) := by
  have HB := Aside0.mk hB
  have HR := Aside0.mk hR
  have hlen : s.data.toList.length = s.size := rfl
  have HL := Aside0.mk hlen
  clear hB hR hlen
  go_enter Tryz.func63, Tryz.ntmps63
  go_wp2
  go_loopw [3, 6] (fun n i wr => ∃ k q : Nat, ∃ v : Int, k ≤ 9 ∧ q ≤ s.size ∧ i = .int .i64 k ∧ n = .int .i64 v ∧ Aside0 (q = a + k) ∧ Aside0 (RdAt wr g s (q : Int)) ∧ Aside0 (KeepBut w wr g none) ∧ Aside0 (Below w0.heap.size w0 wr) ∧ Aside0 (numL 9 0 0 (s.data.toList.drop a) = numL (9 - k) k v (s.data.toList.drop q))) (fun _ i _ => 9 - (intOf i).toNat)
  case atStart => exact ⟨0, a, 0, by omega, ha, rfl, rfl, ⟨rfl⟩, HR, ⟨KeepBut.refl _ _ _⟩, HB, ⟨rfl⟩⟩
  case round =>
    obtain ⟨k, q, v, hk, hak, rfl, rfl, Q, R, K, B, E⟩ := hrel
    clear HR HB
    by_cases hk9 : k < 9
    · have hltz : (k : Int) < 9 := by omega
      have c0 := R.out.c0
      have c1 := R.out.c1
      have cf := R.out.f1
      by_cases hin : q < s.size
      · have hiz : (q : Int) < (s.size : Int) := by omega
        have hi0 : (0 : Int) ≤ (q : Int) := by omega
        have hd : s.data.toList.drop q = s[q] :: s.data.toList.drop (q + 1) := by
          rw [List.drop_eq_getElem_cons (show q < s.data.toList.length from hin)]; rfl
        have hbl : (s[q]).toNat < 256 := UInt8.toNat_lt _
        have hwb : wrap64 ((s[q]).toNat : Int) = ((s[q]).toNat : Int) := by unfold wrap64; omega
        obtain ⟨m, hm⟩ : ∃ m, 9 - k = m + 1 := ⟨8 - k, by omega⟩
        have E1 : numL 9 0 0 (s.data.toList.drop a) = if (s[q]).toNat < 128 then (if (0 < (s[q]).toNat ∨ k = 0) ∧ orD v s[q] k ≤ 4611686018427387904 then some (orD v s[q] k, k + 1) else none) else numL m (k + 1) (orD v s[q] k) (s.data.toList.drop (q + 1)) := by rw [E.out, hd, hm]; rfl
        have HM := Aside0.mk hm
        have HW := Aside0.mk hwb
        clear hd hm hwb
        have hw1 : wrap64 ((q : Int) + 1) = (q : Int) + 1 := by unfold wrap64; omega
        by_cases h128 : (s[q]).toNat < 128
        · have g128 : ((s[q]).toNat : Int) < 128 := by clear hw1; omega
          rw [if_pos h128] at E1
          by_cases hok : (0 < (s[q]).toNat ∨ k = 0) ∧ orD v s[q] k ≤ 4611686018427387904
          · rw [if_pos hok] at E1
            have E2 := Aside0.mk E1
            obtain ⟨h0, hle⟩ := hok
            unfold orD at hle
            have hlb := decide_eq_true hle
            clear E1
            by_cases hpos : 0 < (s[q]).toNat
            · have g0 : 0 < ((s[q]).toNat : Int) := by clear hw1; omega
              go_wp2
              go_quiet ((go_at_call 64; exact Calls.quiet_of_same (must_yes _)))
              go_wp2
              go_quiet (fail)
              go_wp2_with (first | (go_at_call 64; refine (must_yes _).mono ?_; rintro e w' ⟨rfl, rfl⟩))
              go_ret
              unfold NumEnd; rw [E2.out]
              exact ⟨⟨rfl, RdAt.eq (a := (q : Int) + 1) (by repeat (first | exact R.out | refine RdAt.drewN ?_ _ | refine RdAt.drew ?_ | refine RdAt.set (a := (q : Int)) ?_ _)) (by have := Q.out; clear hw1; omega)⟩, (by repeat (first | exact K.out | apply KeepBut.set_ | apply keep_drewN | apply keep_drew | apply keep_alloc)), (by repeat (first | exact B.out | apply below_alloc | apply pw_below_drewN | apply below_drew1 | refine below_set ?_ hg))⟩
            · have g0 : ¬ 0 < ((s[q]).toNat : Int) := by clear hw1; omega
              have hkz : ((k : Int) == 0) = true := by
                rcases h0 with h | h
                · exact absurd h hpos
                · rw [h]; rfl
              clear h0
              go_wp2
              go_quiet ((go_at_call 64; exact Calls.quiet_of_same (must_yes _)))
              go_wp2
              go_quiet (fail)
              go_wp2_with (first | (go_at_call 64; refine (must_yes _).mono ?_; rintro e w' ⟨rfl, rfl⟩))
              go_ret
              unfold NumEnd; rw [E2.out]
              exact ⟨⟨rfl, RdAt.eq (a := (q : Int) + 1) (by repeat (first | exact R.out | refine RdAt.drewN ?_ _ | refine RdAt.drew ?_ | refine RdAt.set (a := (q : Int)) ?_ _)) (by have := Q.out; clear hw1; omega)⟩, (by repeat (first | exact K.out | apply KeepBut.set_ | apply keep_drewN | apply keep_drew | apply keep_alloc)), (by repeat (first | exact B.out | apply below_alloc | apply pw_below_drewN | apply below_drew1 | refine below_set ?_ hg))⟩
          · rw [if_neg hok] at E1
            have E2 := Aside0.mk E1
            clear E1
            by_cases hpos : 0 < (s[q]).toNat
            · have g0 : 0 < ((s[q]).toNat : Int) := by clear hw1; omega
              have hle : ¬ orD v s[q] k ≤ 4611686018427387904 := fun h => hok ⟨.inl hpos, h⟩
              unfold orD at hle
              have hlb := decide_eq_false hle
              clear hok
              go_wp2
              go_quiet ((go_at_call 64; exact Calls.quiet_of_same (must_yes _)))
              go_wp2
              go_quiet (fail)
              go_wp2_with (first | (go_at_call 64; refine (must_no _).mono ?_; rintro e w' ⟨rfl, rfl⟩))
              refine ⟨rfl, ?_⟩
              unfold NumEnd; rw [E2.out]
              exact ⟨⟨rfl, _, (by repeat (first | exact R.out | refine RdAt.drewN ?_ _ | refine RdAt.drew ?_ | refine RdAt.set (a := (q : Int)) ?_ _))⟩, (by repeat (first | exact K.out | apply KeepBut.set_ | apply keep_drewN | apply keep_drew | apply keep_alloc)), (by repeat (first | exact B.out | apply below_alloc | apply pw_below_drewN | apply below_drew1 | refine below_set ?_ hg))⟩
            · have g0 : ¬ 0 < ((s[q]).toNat : Int) := by clear hw1; omega
              by_cases hk0 : k = 0
              · have hkz : ((k : Int) == 0) = true := by rw [hk0]; rfl
                have hle : ¬ orD v s[q] k ≤ 4611686018427387904 := fun h => hok ⟨.inr hk0, h⟩
                clear hk0
                unfold orD at hle
                have hlb := decide_eq_false hle
                clear hok
                go_wp2
                go_quiet ((go_at_call 64; exact Calls.quiet_of_same (must_yes _)))
                go_wp2
                go_quiet (fail)
                go_wp2_with (first | (go_at_call 64; refine (must_no _).mono ?_; rintro e w' ⟨rfl, rfl⟩))
                refine ⟨rfl, ?_⟩
                unfold NumEnd; rw [E2.out]
                exact ⟨⟨rfl, _, (by repeat (first | exact R.out | refine RdAt.drewN ?_ _ | refine RdAt.drew ?_ | refine RdAt.set (a := (q : Int)) ?_ _))⟩, (by repeat (first | exact K.out | apply KeepBut.set_ | apply keep_drewN | apply keep_drew | apply keep_alloc)), (by repeat (first | exact B.out | apply below_alloc | apply pw_below_drewN | apply below_drew1 | refine below_set ?_ hg))⟩
              · have hkz : ((k : Int) == 0) = false := by simp; exact hk0
                clear hok
                go_wp2
                go_quiet ((go_at_call 64; exact Calls.quiet_of_same (must_yes _)))
                go_wp2
                go_quiet (fail)
                go_wp2_with (first | (go_at_call 64; refine (must_no _).mono ?_; rintro e w' ⟨rfl, rfl⟩))
                refine ⟨rfl, ?_⟩
                unfold NumEnd; rw [E2.out]
                exact ⟨⟨rfl, _, (by repeat (first | exact R.out | refine RdAt.drewN ?_ _ | refine RdAt.drew ?_ | refine RdAt.set (a := (q : Int)) ?_ _))⟩, (by repeat (first | exact K.out | apply KeepBut.set_ | apply keep_drewN | apply keep_drew | apply keep_alloc)), (by repeat (first | exact B.out | apply below_alloc | apply pw_below_drewN | apply below_drew1 | refine below_set ?_ hg))⟩
        · have g128 : ¬ ((s[q]).toNat : Int) < 128 := by clear hw1; omega
          rw [if_neg h128] at E1
          have E2 := Aside0.mk E1
          clear E1
          go_wp2
          go_quiet ((go_at_call 64; exact Calls.quiet_of_same (must_yes _)))
          go_wp2
          go_quiet (fail)
          go_wp2
          go_roundw
          case rel => clear hw1 g128 h128; exact ⟨k + 1, q + 1, orD v s[q] k, by omega, by omega, by go_num, rfl, ⟨by have := Q.out; omega⟩, ⟨RdAt.eq (a := (q : Int) + 1) (by repeat (first | exact R.out | refine RdAt.drewN ?_ _ | refine RdAt.drew ?_ | refine RdAt.set (a := (q : Int)) ?_ _)) (by omega)⟩, ⟨(by repeat (first | exact K.out | apply KeepBut.set_ | apply keep_drewN | apply keep_drew | apply keep_alloc))⟩, ⟨(by repeat (first | exact B.out | apply below_alloc | apply pw_below_drewN | apply below_drew1 | refine below_set ?_ hg))⟩, ⟨by rw [E2.out]; congr 1; have := HM.out; omega⟩⟩
          case measure => clear hw1 g128 h128; simp [intOf]; omega
      · have hiz : decide (q < s.size) = false := decide_eq_false hin
        have hd : s.data.toList.drop q = [] := List.drop_eq_nil_of_le (by rw [HL.out]; omega)
        have E2 : Aside0 (numL 9 0 0 (s.data.toList.drop a) = none) := ⟨by rw [E.out, hd]; obtain ⟨m, hm⟩ : ∃ m, 9 - k = m + 1 := ⟨8 - k, by omega⟩; rw [hm]; rfl⟩
        clear hd hin
        go_wp2
        go_still_tail 10, (by kernel_rfl)
        go_wp2_with (first | (go_at_call 64; refine (must_no _).mono ?_; rintro e w' ⟨rfl, rfl⟩))
        refine ⟨rfl, ?_⟩
        unfold NumEnd; rw [E2.out]
        exact ⟨⟨rfl, _, (by repeat (first | exact R.out | refine RdAt.drewN ?_ _ | refine RdAt.drew ?_ | refine RdAt.set (a := (q : Int)) ?_ _))⟩, (by repeat (first | exact K.out | apply KeepBut.set_ | apply keep_drewN | apply keep_drew | apply keep_alloc)), (by repeat (first | exact B.out | apply below_alloc | apply pw_below_drewN | apply below_drew1 | refine below_set ?_ hg))⟩
    · obtain rfl : k = 9 := by omega
      have E2 : Aside0 (numL 9 0 0 (s.data.toList.drop a) = none) := ⟨by rw [E.out]; rfl⟩
      go_wp2
      refine ⟨rfl, ?_⟩
      unfold NumEnd; rw [E2.out]
      exact ⟨⟨rfl, _, (by repeat (first | exact R.out | refine RdAt.drewN ?_ _ | refine RdAt.drew ?_ | refine RdAt.set (a := (q : Int)) ?_ _))⟩, (by repeat (first | exact K.out | apply KeepBut.set_ | apply keep_drewN | apply keep_drew | apply keep_alloc)), (by repeat (first | exact B.out | apply below_alloc | apply pw_below_drewN | apply below_drew1 | refine below_set ?_ hg))⟩
end Go.Proofs.YtjlflmjimibciabGreatDoor.Print
end

section
namespace Go.Proofs.YtjlflmjimibciabGreatDoor.Print
open Go Go.RowKit Go.Proofs.YtjlflmjimibciabGreatDoorW.PrintWords Go.Proofs.YtjlflmjimibciabGreatDoorW.PrintLast Go.Proofs.YtjlflmjimibciabGreatDoorW.PrintMore
set_option linter.unusedVariables false
set_option linter.unusedSimpArgs false
theorem At_any (a0 a1 : ByteArray) (a2 : Int) (w : World) :
    Calls Tryz.prog 24 #[.string a0, .string a1, .iface 52 (.int .i64 a2)] w fun e w' => e = .returned (.iface 80 (.pointer (some ⟨w.heap.size, 0, none⟩))) ∧ w' = w.alloc (.cells #[.string a0, .string a1, .iface 52 (.int .i64 a2)] 82) := by
  go_enter Tryz.func24, Tryz.ntmps24
  go_wp2
  go_ret
  exact ⟨rfl, rfl⟩
theorem ta_errno (c : Int) (w : World) : (Instr.typeAssert (.iface 52 (.int .i64 c)) 20 52 true).run Tryz.prog w = .ok (.tuple #[.int .i64 c, .bool true]) w := by kernel_rfl
theorem ta_nil (w : World) : (Instr.typeAssert .nilIface 20 52 true).run Tryz.prog w = .ok (.tuple #[.int .i64 0, .bool false]) w := by kernel_rfl
set_option maxHeartbeats 4000000 in
set_option maxRecDepth 100000 in
theorem safe1_panicking (ba br be g : Nat) (s : ByteArray) (a0 a' : Int) (ev : Value) (older : List PanicEntry) (w : World) (h0 : w.cell? ⟨ba, 0, none⟩ = some (.int .i64 a0)) (h1 : w.cell? ⟨br, 0, none⟩ = some (.pointer (some ⟨g, 0, none⟩))) (he : w.cell? ⟨be, 0, none⟩ = some ev) (hef : w.frozen? ⟨be, 0, none⟩ = false) (hR : RdAt w g s a') (hne : ¬ be = g) (hba : ¬ ba = g) (hab : ¬ ba = be) (hbe : be < w.heap.size) (hbal : ba < w.heap.size) (hbrl : br < w.heap.size) :
    CallsD Tryz.prog 79 #[.pointer (some ⟨ba, 0, none⟩), .pointer (some ⟨br, 0, none⟩), .pointer (some ⟨be, 0, none⟩)] (.panicking ({ v := .iface 52 (.int .i64 13), recovered := false } :: older)) w fun e u' w' =>
      e = .returned (.tuple #[]) ∧ u' = .panicking ({ v := .iface 52 (.int .i64 13), recovered := true } :: older) ∧ w' = (((w.setCell ⟨g, 1, none⟩ (.int .i64 a0)).setCell ⟨be, 0, none⟩ (.iface 80 (.pointer (some ⟨w.heap.size, 0, none⟩)))).alloc (.cells #[.string ⟨#[114, 101, 97, 100]⟩, .string ⟨#[]⟩, .iface 52 (.int .i64 13)] 82)).drew := by
  refine callsD_of_wpS Tryz.func79 rfl fun c₀ cs hu => ?_
  apply wpS_seq
  apply wpS_region
  simp [wpOpsS, go_sem, recoverD, hu, Tryz.ntmps79, Exit.thenS, ta_errno]
  refine wpS_of_wp ?_
  have f1 := hR.f1
  have c1 := hR.c1
  have hg : g < w.heap.size := (Array.getElem?_eq_some_iff.1 hR).1
  have HR := Aside0.mk hR
  clear hR
  go_wp2
  go_region_with (go_at_call 24; refine (At_any _ _ _ _).mono ?_; rintro e w' ⟨rfl, rfl⟩)
  all_goals exact ⟨rfl, _, rfl, _, results_none rfl _ _ _, rfl, rfl, rfl⟩
set_option maxHeartbeats 4000000 in
set_option maxRecDepth 100000 in
theorem safe1_idle (pa pr pe : Value) (w : World) :
    CallsD Tryz.prog 79 #[pa, pr, pe] .returning w fun e u' w' => e = .returned (.tuple #[]) ∧ u' = .returning ∧ w' = w := by
  refine callsD_of_wpS Tryz.func79 rfl fun c₀ cs hu => ?_
  apply wpS_seq
  apply wpS_region
  simp [wpOpsS, go_sem, recoverD, hu, Tryz.ntmps79, Exit.thenS, ta_nil]
  refine wpS_of_wp ?_
  go_wp2
  cases c₀
  simp_all [bodyPostS, results, Tryz.results79]
/-- What the work inside leaves: two blocks turned. -/
structure DoKeep (w0 W w' : World) (g bn : Nat) : Prop where
  size : W.heap.size ≤ w'.heap.size
  keep : ∀ k, k < W.heap.size → k ≠ g → k ≠ bn → w'.heap[k]? = W.heap[k]?
  below : Below w0.heap.size w0 w'
theorem DoKeep.cell {w0 W w' : World} {g bn : Nat} (h : DoKeep w0 W w' g bn) {k j : Nat} (hk : k < W.heap.size) (hg : k ≠ g) (hb : k ≠ bn) : w'.cell? ⟨k, j, none⟩ = W.cell? ⟨k, j, none⟩ := by
  unfold World.cell?; rw [h.keep k hk hg hb]
theorem DoKeep.frozen {w0 W w' : World} {g bn : Nat} (h : DoKeep w0 W w' g bn) {k j : Nat} (hk : k < W.heap.size) (hg : k ≠ g) (hb : k ≠ bn) : w'.frozen? ⟨k, j, none⟩ = W.frozen? ⟨k, j, none⟩ := by
  unfold World.frozen?; rw [h.keep k hk hg hb]
set_option maxHeartbeats 8000000 in
set_option maxRecDepth 100000 in
theorem safe_ok (f : FuncId) (lb : Array Value) (g bn : Nat) (tn : TypeId) (s : ByteArray) (a a' : Int) (val : Value) (w0 w : World) (hR : RdAt w g s a) (hg : w0.heap.size ≤ g) (hbn : w0.heap.size ≤ bn) (hbl : bn < w.heap.size) (hne : bn ≠ g) (hB : Below w0.heap.size w0 w)
    (ef : ∀ args w, (callFunc f args).run Tryz.prog w = .ok (.enter f args) w)
    (hdo : ∀ W, Below w.heap.size w W → Calls Tryz.prog f lb W fun e w' => e = .returned (.tuple #[]) ∧ DoKeep w0 W w' g bn ∧ w'.heap[bn]? = some (.cells #[val] tn (0, 0)) ∧ RdAt w' g s a') :
    Calls Tryz.prog 61 #[.pointer (some ⟨g, 0, none⟩), .func (.func f) #[] lb] w fun e w' => e = .returned .nilIface ∧ DoKeep w0 w w' g bn ∧ w'.heap[bn]? = some (.cells #[val] tn (0, 0)) ∧ RdAt w' g s a' := by
  have hmf : ∀ (fn : Fn) (first cap : Array Value) (w : World), (Instr.makeFunc fn first cap).run Tryz.prog w = .ok (.func fn first cap) w := fun _ _ _ _ => rfl
  have hgl : g < w.heap.size := (Array.getElem?_eq_some_iff.1 hR).1
  have c1 := hR.c1
  have HR := Aside0.mk hR
  have HB := Aside0.mk hB
  have HD := Aside0.mk hdo
  clear hR hB hdo
  go_enter_defers Tryz.func61, Tryz.ntmps61
  go_wp2_with fail
  have hsz : (((w.alloc (.cells #[.pointer (some ⟨g, 0, none⟩)] 66)).alloc (.cells #[.nilIface] 27)).alloc (.cells #[.int .i64 a] 3)).heap.size = w.heap.size + 3 := by simp
  have hb5 : Below w.heap.size w (((w.alloc (.cells #[.pointer (some ⟨g, 0, none⟩)] 66)).alloc (.cells #[.nilIface] 27)).alloc (.cells #[.int .i64 a] 3)) := by
    repeat' (first | exact Below.refl _ _ | refine Below.alloc ?_ (by first | exact Nat.le_refl _ | (simp only [World.size_alloc]; omega)) _)
  have x1 : Boxed (((w.alloc (.cells #[.pointer (some ⟨g, 0, none⟩)] 66)).alloc (.cells #[.nilIface] 27)).alloc (.cells #[.int .i64 a] 3)) (w.heap.size + 1) 27 .nilIface := by
    repeat' (first | exact boxed_at _ _ (by first | (simp only [World.size_alloc]; done) | (simp only [World.size_alloc]; omega) | rfl) _ _ | refine Boxed.alloc ?_ _)
  refine (HD.out _ hb5).mono ?_
  generalize (((w.alloc (.cells #[.pointer (some ⟨g, 0, none⟩)] 66)).alloc (.cells #[.nilIface] 27)).alloc (.cells #[.int .i64 a] 3)) = W5 at hsz hb5 x1
  rintro e W' ⟨rfl, hk, hv, hr⟩
  have y1 : Boxed W' (w.heap.size + 1) 27 .nilIface := (hk.keep _ (by omega) (by omega) (by omega)).trans x1
  have g1 := y1.cell
  have f1 := y1.frozen
  have HK := Aside0.mk hk
  have HV := Aside0.mk hv
  have HR2 := Aside0.mk hr
  have HX := Aside0.mk y1
  have HB5 := Aside0.mk hb5
  have HS := Aside0.mk hsz
  clear hk hv hr x1 y1 hb5 hsz
  go_wp2
  refine leaves_cons (f := 79) (args := #[.pointer (some ⟨w.heap.size + 1 + 1, 0, none⟩), .pointer (some ⟨w.heap.size, 0, none⟩), .pointer (some ⟨w.heap.size + 1, 0, none⟩)]) (by simp) (by simp [go_sem]) ?_
  refine (safe1_idle _ _ _ _).mono ?_
  rintro e u' w'' ⟨rfl, rfl, rfl⟩
  have hz := HS.out
  have hk := HK.out
  have z1 := HX.out.set .nilIface
  have c9 := z1.cell
  refine ⟨.nilIface, ?_, ?_⟩
  · simp [results, Tryz.results61, go_sem, c9]
  · refine ⟨rfl, ⟨by rw [World.size_setCell]; have := hk.size; omega, fun k h1 h2 h3 => ?_, hk.below.setCell (p := ⟨w.heap.size + 1, 0, none⟩) (by have := HB.out.size; show w0.heap.size ≤ w.heap.size + 1; omega) _⟩, heap_setCell_ne (by omega) HV.out, HR2.out.far (by show g ≠ w.heap.size + 1; omega) _⟩
    rw [Below.heap_setCell _ _ _ _ (show k ≠ w.heap.size + 1 by omega), hk.keep k (by omega) h2 h3, HB5.out.block k h1]
set_option maxHeartbeats 8000000 in
set_option maxRecDepth 100000 in
theorem safe_bad (f : FuncId) (lb : Array Value) (g bn : Nat) (s : ByteArray) (a : Int) (w0 w : World) (hR : RdAt w g s a) (hg : w0.heap.size ≤ g) (hbn : w0.heap.size ≤ bn) (hbl : bn < w.heap.size) (hne : bn ≠ g) (hB : Below w0.heap.size w0 w)
    (ef : ∀ args w, (callFunc f args).run Tryz.prog w = .ok (.enter f args) w)
    (hdo : ∀ W, Below w.heap.size w W → Calls Tryz.prog f lb W fun e w' => e = .panicked formPanic ∧ DoKeep w0 W w' g bn ∧ ∃ a', RdAt w' g s a') :
    Calls Tryz.prog 61 #[.pointer (some ⟨g, 0, none⟩), .func (.func f) #[] lb] w fun e w' => ∃ F, e = .returned (.iface 80 (.pointer (some ⟨F, 0, none⟩))) ∧ DoKeep w0 w w' g bn ∧ w.heap.size ≤ F ∧ w'.heap[F]? = some (.cells #[.string ⟨#[114, 101, 97, 100]⟩, .string ⟨#[]⟩, .iface 52 (.int .i64 13)] 82 (0, 0)) ∧ RdAt w' g s a := by
  have hmf : ∀ (fn : Fn) (first cap : Array Value) (w : World), (Instr.makeFunc fn first cap).run Tryz.prog w = .ok (.func fn first cap) w := fun _ _ _ _ => rfl
  have hgl : g < w.heap.size := (Array.getElem?_eq_some_iff.1 hR).1
  have c1 := hR.c1
  have HR := Aside0.mk hR
  have HB := Aside0.mk hB
  have HD := Aside0.mk hdo
  clear hR hB hdo
  go_enter_defers Tryz.func61, Tryz.ntmps61
  go_wp2_with fail
  have hsz : (((w.alloc (.cells #[.pointer (some ⟨g, 0, none⟩)] 66)).alloc (.cells #[.nilIface] 27)).alloc (.cells #[.int .i64 a] 3)).heap.size = w.heap.size + 3 := by simp
  have hb5 : Below w.heap.size w (((w.alloc (.cells #[.pointer (some ⟨g, 0, none⟩)] 66)).alloc (.cells #[.nilIface] 27)).alloc (.cells #[.int .i64 a] 3)) := by
    repeat' (first | exact Below.refl _ _ | refine Below.alloc ?_ (by first | exact Nat.le_refl _ | (simp only [World.size_alloc]; omega)) _)
  have x0 : Boxed (((w.alloc (.cells #[.pointer (some ⟨g, 0, none⟩)] 66)).alloc (.cells #[.nilIface] 27)).alloc (.cells #[.int .i64 a] 3)) w.heap.size 66 (.pointer (some ⟨g, 0, none⟩)) := by
    repeat' (first | exact boxed_at _ _ (by first | (simp only [World.size_alloc]; done) | (simp only [World.size_alloc]; omega) | rfl) _ _ | refine Boxed.alloc ?_ _)
  have x1 : Boxed (((w.alloc (.cells #[.pointer (some ⟨g, 0, none⟩)] 66)).alloc (.cells #[.nilIface] 27)).alloc (.cells #[.int .i64 a] 3)) (w.heap.size + 1) 27 .nilIface := by
    repeat' (first | exact boxed_at _ _ (by first | (simp only [World.size_alloc]; done) | (simp only [World.size_alloc]; omega) | rfl) _ _ | refine Boxed.alloc ?_ _)
  have x2 : Boxed (((w.alloc (.cells #[.pointer (some ⟨g, 0, none⟩)] 66)).alloc (.cells #[.nilIface] 27)).alloc (.cells #[.int .i64 a] 3)) (w.heap.size + 1 + 1) 3 (.int .i64 a) := by
    repeat' (first | exact boxed_at _ _ (by first | (simp only [World.size_alloc]; done) | (simp only [World.size_alloc]; omega) | rfl) _ _ | refine Boxed.alloc ?_ _)
  refine (HD.out _ hb5).mono ?_
  generalize (((w.alloc (.cells #[.pointer (some ⟨g, 0, none⟩)] 66)).alloc (.cells #[.nilIface] 27)).alloc (.cells #[.int .i64 a] 3)) = W5 at hsz hb5 x0 x1 x2
  rintro e W' ⟨rfl, hk, a', hr⟩
  have y0 : Boxed W' w.heap.size 66 (.pointer (some ⟨g, 0, none⟩)) := (hk.keep _ (by omega) (by omega) (by omega)).trans x0
  have y1 : Boxed W' (w.heap.size + 1) 27 .nilIface := (hk.keep _ (by omega) (by omega) (by omega)).trans x1
  have y2 : Boxed W' (w.heap.size + 1 + 1) 3 (.int .i64 a) := (hk.keep _ (by omega) (by omega) (by omega)).trans x2
  have hz := hsz
  have hks := hk.size
  refine leaves_cons (f := 79) (args := #[.pointer (some ⟨w.heap.size + 1 + 1, 0, none⟩), .pointer (some ⟨w.heap.size, 0, none⟩), .pointer (some ⟨w.heap.size + 1, 0, none⟩)]) (by simp) (by simp [go_sem]) ?_
  refine (safe1_panicking (w.heap.size + 1 + 1) w.heap.size (w.heap.size + 1) g s a a' .nilIface [] W' y2.cell y0.cell y1.cell y1.frozen hr (by omega) (by omega) (by omega) (by omega) (by omega) (by omega)).mono ?_
  rintro e u' w'' ⟨rfl, rfl, rfl⟩
  have d1 := (hk.below.setCell (p := ⟨g, 1, none⟩) hg (.int .i64 a)).setCell (p := ⟨w.heap.size + 1, 0, none⟩) (by have := HB.out.size; show w0.heap.size ≤ w.heap.size + 1; omega) (.iface 80 (.pointer (some ⟨W'.heap.size, 0, none⟩)))
  have r1 := (hr.set a).far (p := ⟨w.heap.size + 1, 0, none⟩) (by show g ≠ w.heap.size + 1; omega) (.iface 80 (.pointer (some ⟨W'.heap.size, 0, none⟩)))
  have z0 : Boxed (W'.setCell ⟨g, 1, none⟩ (.int .i64 a)) (w.heap.size + 1) 27 .nilIface := (Below.heap_setCell _ _ _ _ (show w.heap.size + 1 ≠ g by omega)).trans y1
  have z1 := z0.set (.iface 80 (.pointer (some ⟨W'.heap.size, 0, none⟩)))
  have k1 : ∀ k, k < w.heap.size → k ≠ g → k ≠ bn → ((W'.setCell ⟨g, 1, none⟩ (.int .i64 a)).setCell ⟨w.heap.size + 1, 0, none⟩ (.iface 80 (.pointer (some ⟨W'.heap.size, 0, none⟩)))).heap[k]? = w.heap[k]? := fun k h1 h2 h3 => by
    rw [Below.heap_setCell _ _ _ _ (show k ≠ w.heap.size + 1 by omega), Below.heap_setCell _ _ _ _ (show k ≠ g from h2), hk.keep k (by omega) h2 h3, hb5.block k h1]
  have s1 : ((W'.setCell ⟨g, 1, none⟩ (.int .i64 a)).setCell ⟨w.heap.size + 1, 0, none⟩ (.iface 80 (.pointer (some ⟨W'.heap.size, 0, none⟩)))).heap.size = W'.heap.size := by rw [World.size_setCell, World.size_setCell]
  generalize (W'.setCell ⟨g, 1, none⟩ (.int .i64 a)).setCell ⟨w.heap.size + 1, 0, none⟩ (.iface 80 (.pointer (some ⟨W'.heap.size, 0, none⟩))) = W6 at d1 r1 z1 k1 s1 ⊢
  have z2 := (z1.alloc (.cells #[.string ⟨#[114, 101, 97, 100]⟩, .string ⟨#[]⟩, .iface 52 (.int .i64 13)] 82)).cell
  have z3 : ((W6.alloc (.cells #[.string ⟨#[114, 101, 97, 100]⟩, .string ⟨#[]⟩, .iface 52 (.int .i64 13)] 82)).drew).cell? ⟨w.heap.size + 1, 0, none⟩ = some (.iface 80 (.pointer (some ⟨W'.heap.size, 0, none⟩))) := z2
  refine ⟨.iface 80 (.pointer (some ⟨W'.heap.size, 0, none⟩)), ?_, W'.heap.size, rfl, ⟨?_, ?_, ?_⟩, by omega, ?_, ?_⟩
  · simp [results, Tryz.results61, go_sem, z2]
  · show w.heap.size ≤ (W6.alloc _).heap.size
    rw [World.size_alloc]; omega
  · intro k h1 h2 h3
    show (W6.alloc _).heap[k]? = _
    rw [Below.heap_alloc _ _ _ (show k < W6.heap.size by omega), k1 k h1 h2 h3]
  · exact below_drew1 (d1.alloc (by rw [s1]; have := HB.out.size; omega) _)
  · show (W6.alloc _).heap[W'.heap.size]? = _
    rw [← s1]; exact World.alloc_heap_new W6 _
  · exact (r1.below (below_alloc (Below.refl _ _) _)).drew
end Go.Proofs.YtjlflmjimibciabGreatDoor.Print
end

section
namespace Go.Proofs.YtjlflmjimibciabGreatDoor.Print
open Go Go.RowKit Go.Proofs.YtjlflmjimibciabGreatDoorW.PrintWords Go.Proofs.YtjlflmjimibciabGreatDoorW.PrintLast Go.Proofs.YtjlflmjimibciabGreatDoorW.PrintMore
set_option linter.unusedVariables false
set_option linter.unusedSimpArgs false
theorem number_ok (s : ByteArray) (a g c : Nat) (n : Int) (w0 w : World) (hs : s.size ≤ 9223372036854775000) (ha : a ≤ s.size) (hR : RdAt w g s a) (hg : w0.heap.size ≤ g) (hB : Below w0.heap.size w0 w) (hn : numL 9 0 0 (s.data.toList.drop a) = some (n, c)) :
    Calls Tryz.prog 63 #[.pointer (some ⟨g, 0, none⟩)] w fun e w' => e = .returned (.int .i64 n) ∧ RdAt w' g s ((a + c : Nat) : Int) ∧ KeepBut w w' g none ∧ Below w0.heap.size w0 w' := by
  refine (number_any s a g w0 w hs ha hR hg hB).mono fun e w' h => ?_
  unfold NumEnd at h
  rw [hn] at h
  exact ⟨h.1.1, h.1.2, h.2⟩
theorem number_bad (s : ByteArray) (a g : Nat) (w0 w : World) (hs : s.size ≤ 9223372036854775000) (ha : a ≤ s.size) (hR : RdAt w g s a) (hg : w0.heap.size ≤ g) (hB : Below w0.heap.size w0 w) (hn : numL 9 0 0 (s.data.toList.drop a) = none) :
    Calls Tryz.prog 63 #[.pointer (some ⟨g, 0, none⟩)] w fun e w' => e = .panicked formPanic ∧ (∃ a', RdAt w' g s a') ∧ KeepBut w w' g none ∧ Below w0.heap.size w0 w' := by
  refine (number_any s a g w0 w hs ha hR hg hB).mono fun e w' h => ?_
  unfold NumEnd at h
  rw [hn] at h
  exact ⟨h.1.1, h.1.2, h.2⟩
theorem keep_boxed {w w' : World} {g k : Nat} {t : TypeId} {v : Value} (h : KeepBut w w' g none) (hb : Boxed w k t v) (hk : k ≠ g) : Boxed w' k t v := (h.2 k hb.lt hk (by simp)).trans hb
set_option maxHeartbeats 4000000 in
set_option maxRecDepth 100000 in
theorem num1_ok (s : ByteArray) (a g c br bm bn : Nat) (n most : Int) (v0 : Value) (w0 w : World) (hs : s.size ≤ 9223372036854775000) (ha : a ≤ s.size) (hR : RdAt w g s a) (hg : w0.heap.size ≤ g) (hB : Below w0.heap.size w0 w) (hn : numL 9 0 0 (s.data.toList.drop a) = some (n, c)) (hle : n ≤ most)
    (h1 : Boxed w br 66 (.pointer (some ⟨g, 0, none⟩))) (h2 : Boxed w bm 3 (.int .i64 most)) (h3 : Boxed w bn 3 v0) (hbn : w0.heap.size ≤ bn) (e1 : br ≠ g) (e2 : bm ≠ g) (e3 : bn ≠ g) :
    Calls Tryz.prog 62 #[.pointer (some ⟨br, 0, none⟩), .pointer (some ⟨bm, 0, none⟩), .pointer (some ⟨bn, 0, none⟩)] w fun e w' => e = .returned (.tuple #[]) ∧ DoKeep w0 w w' g bn ∧ w'.heap[bn]? = some (.cells #[.int .i64 n] 3 (0, 0)) ∧ RdAt w' g s ((a + c : Nat) : Int) := by
  have c1 := h1.cell
  have HC := number_ok s a g c n w0 w hs ha hR hg hB hn
  have H2 := Aside0.mk h2
  have H3 := Aside0.mk h3
  clear hR hB hn h1 h2 h3
  go_enter Tryz.func62, Tryz.ntmps62
  go_wp2_with fail
  refine HC.mono ?_
  rintro e w1 ⟨rfl, hr, hk, hb⟩
  have x2 := keep_boxed hk H2.out e2
  have x3 := keep_boxed hk H3.out e3
  have c2 := x2.cell
  have c3 := x3.cell
  have f3 := x3.frozen
  have HR := Aside0.mk hr
  have HK := Aside0.mk hk
  have HB := Aside0.mk hb
  have X3 := Aside0.mk x3
  clear hr hk hb x2 x3
  go_wp2_with (first | (go_at_call 64; refine (must_yes _).mono ?_; rintro e w' ⟨rfl, rfl⟩))
  go_end0
  refine ⟨rfl, ⟨by rw [World.size_setCell]; exact HK.out.1, fun k q1 q2 q3 => ?_, HB.out.setCell (p := ⟨bn, 0, none⟩) hbn _⟩, X3.out.set _, HR.out.far (by exact fun e => e3 e.symm) _⟩
  rw [Below.heap_setCell _ _ _ _ (show k ≠ bn from q3), HK.out.2 k q1 q2 (by simp)]
set_option maxHeartbeats 4000000 in
set_option maxRecDepth 100000 in
theorem num1_bad (s : ByteArray) (a g br bm bn bx : Nat) (most : Int) (w0 w : World) (hs : s.size ≤ 9223372036854775000) (ha : a ≤ s.size) (hR : RdAt w g s a) (hg : w0.heap.size ≤ g) (hB : Below w0.heap.size w0 w) (hn : ∀ n c, numL 9 0 0 (s.data.toList.drop a) = some (n, c) → ¬ n ≤ most)
    (h1 : Boxed w br 66 (.pointer (some ⟨g, 0, none⟩))) (h2 : Boxed w bm 3 (.int .i64 most)) (e1 : br ≠ g) (e2 : bm ≠ g) :
    Calls Tryz.prog 62 #[.pointer (some ⟨br, 0, none⟩), .pointer (some ⟨bm, 0, none⟩), .pointer (some ⟨bn, 0, none⟩)] w fun e w' => e = .panicked formPanic ∧ DoKeep w0 w w' g bx ∧ ∃ a', RdAt w' g s a' := by
  have c1 := h1.cell
  cases hnn : numL 9 0 0 (s.data.toList.drop a) with
  | none =>
    have HC := number_bad s a g w0 w hs ha hR hg hB hnn
    clear hR hB hn h1 h2 hnn
    go_enter Tryz.func62, Tryz.ntmps62
    go_wp2_with fail
    refine HC.mono ?_
    rintro e w1 ⟨rfl, hr, hk, hb⟩
    exact ⟨rfl, rfl, ⟨hk.1, fun k q1 q2 q3 => hk.2 k q1 q2 (by simp), hb⟩, hr⟩
  | some p =>
    obtain ⟨n, c⟩ := p
    have hle := hn n c hnn
    have hlb : decide (n ≤ most) = false := decide_eq_false hle
    have HC := number_ok s a g c n w0 w hs ha hR hg hB hnn
    have H2 := Aside0.mk h2
    clear hR hB hn h1 h2 hnn
    go_enter Tryz.func62, Tryz.ntmps62
    go_wp2_with fail
    refine HC.mono ?_
    rintro e w1 ⟨rfl, hr, hk, hb⟩
    have x2 := keep_boxed hk H2.out e2
    have c2 := x2.cell
    have HR := Aside0.mk hr
    have HK := Aside0.mk hk
    have HB := Aside0.mk hb
    clear hr hk hb x2
    go_wp2_with (first | (go_at_call 64; refine (must_no _).mono ?_; rintro e w' ⟨rfl, rfl⟩))
    exact ⟨rfl, rfl, ⟨HK.out.1, fun k q1 q2 q3 => HK.out.2 k q1 q2 (by simp), HB.out⟩, _, HR.out⟩
/-- Num, in plain words: the number, the error, where the reader stands then. -/
def numF (s : ByteArray) (a most : Int) : Option (Int × List Int × ByteArray × Int) :=
  if 0 ≤ a ∧ a ≤ s.size ∧ s.size ≤ 9223372036854775000 then some (match numL 9 0 0 (s.data.toList.drop a.toNat) with
    | some (n, c) => if n ≤ most then (n, [], s, a + c) else (0, [13], s, a)
    | none => (0, [13], s, a)) else none
theorem fault_R {w : World} {F base : Nat} {c : Int} {op p : ByteArray} (hF : w.heap[F]? = some (.cells #[.string op, .string p, .iface 52 (.int .i64 c)] 82 (0, 0))) (hb : base ≤ F) :
    Kd.R (errKd 52) 82 w base (fun _ => True) (.slice (some ⟨F, 0, none⟩) 1 1) [c] := by
  refine ⟨fun _ _ => trivial, _, ⟨rfl, .inr ⟨F, 1, _, rfl, hb, hF, Nat.le_refl 1, by decide, rfl, rfl⟩⟩, ?_⟩
  refine ⟨rfl, fun j q hj => ?_⟩
  cases j with
  | zero => simp at hj; subst hj; exact ⟨op, p, rfl⟩
  | succ j => simp at hj
set_option maxHeartbeats 8000000 in
set_option maxRecDepth 100000 in
theorem Num_any (g : Nat) (s : ByteArray) (a most : Int) (r1 : Int) (r2 : List Int) (r3 : ByteArray) (r4 : Int) (w0 w : World) (hR : RdAt w g s a) (hg : w0.heap.size ≤ g) (hB : Below w0.heap.size w0 w) (h : numF s a most = some (r1, r2, r3, r4)) :
    Calls Tryz.prog 37 #[.pointer (some ⟨g, 0, none⟩), .int .i64 most] w fun e w' => ∃ v : Value, e = .returned (.tuple #[.int .i64 r1, errVal 80 v]) ∧ Kd.R (errKd 52) 82 w' w.heap.size (fun _ => True) v r2 ∧ RdAt w' g r3 r4 ∧ Below w0.heap.size w0 w' ∧ KeepBut w w' g none := by
  unfold numF at h
  split at h
  · rename_i hc
    obtain ⟨ha0, hal, hs⟩ := hc
    obtain ⟨a, rfl⟩ := Int.eq_ofNat_of_zero_le ha0
    rw [Int.toNat_natCast] at h
    have hal' : a ≤ s.size := by omega
    have h := Option.some.inj h
    have hmf : ∀ (fn : Fn) (first cap : Array Value) (w : World), (Instr.makeFunc fn first cap).run Tryz.prog w = .ok (.func fn first cap) w := fun _ _ _ _ => rfl
    have hgl : g < w.heap.size := (Array.getElem?_eq_some_iff.1 hR).1
    have hsz : (((w.alloc (.cells #[.pointer (some ⟨g, 0, none⟩)] 66)).alloc (.cells #[.int .i64 most] 3)).alloc (.cells #[.int .i64 0] 3)).heap.size = w.heap.size + 3 := by simp
    have hb3 : Below w.heap.size w (((w.alloc (.cells #[.pointer (some ⟨g, 0, none⟩)] 66)).alloc (.cells #[.int .i64 most] 3)).alloc (.cells #[.int .i64 0] 3)) := by
      repeat' (first | exact Below.refl _ _ | refine Below.alloc ?_ (by first | exact Nat.le_refl _ | (simp only [World.size_alloc]; omega)) _)
    have x0 : Boxed (((w.alloc (.cells #[.pointer (some ⟨g, 0, none⟩)] 66)).alloc (.cells #[.int .i64 most] 3)).alloc (.cells #[.int .i64 0] 3)) w.heap.size 66 (.pointer (some ⟨g, 0, none⟩)) := by
      repeat' (first | exact boxed_at _ _ (by first | (simp only [World.size_alloc]; done) | (simp only [World.size_alloc]; omega) | rfl) _ _ | refine Boxed.alloc ?_ _)
    have x1 : Boxed (((w.alloc (.cells #[.pointer (some ⟨g, 0, none⟩)] 66)).alloc (.cells #[.int .i64 most] 3)).alloc (.cells #[.int .i64 0] 3)) (w.heap.size + 1) 3 (.int .i64 most) := by
      repeat' (first | exact boxed_at _ _ (by first | (simp only [World.size_alloc]; done) | (simp only [World.size_alloc]; omega) | rfl) _ _ | refine Boxed.alloc ?_ _)
    have x2 : Boxed (((w.alloc (.cells #[.pointer (some ⟨g, 0, none⟩)] 66)).alloc (.cells #[.int .i64 most] 3)).alloc (.cells #[.int .i64 0] 3)) (w.heap.size + 1 + 1) 3 (.int .i64 0) := by
      repeat' (first | exact boxed_at _ _ (by first | (simp only [World.size_alloc]; done) | (simp only [World.size_alloc]; omega) | rfl) _ _ | refine Boxed.alloc ?_ _)
    have hR3 := hR.below hb3
    have hBs := hB.size
    have hB3 : Below w0.heap.size w0 (((w.alloc (.cells #[.pointer (some ⟨g, 0, none⟩)] 66)).alloc (.cells #[.int .i64 most] 3)).alloc (.cells #[.int .i64 0] 3)) := hB.trans (hb3.mono hBs)
    have ef : ∀ args w, (callFunc 62 args).run Tryz.prog w = .ok (.enter 62 args) w := fun _ _ => by kernel_rfl
    -- the end of a number that is read
    have good : ∀ n c, numL 9 0 0 (s.data.toList.drop a) = some (n, c) → n ≤ most → Calls Tryz.prog 37 #[.pointer (some ⟨g, 0, none⟩), .int .i64 most] w fun e w' => e = .returned (.tuple #[.int .i64 n, .nilIface]) ∧ RdAt w' g s ((a + c : Nat) : Int) ∧ Below w0.heap.size w0 w' ∧ KeepBut w w' g none := by
      intro n c hn hle
      have HS := safe_ok 62 #[.pointer (some ⟨w.heap.size, 0, none⟩), .pointer (some ⟨w.heap.size + 1, 0, none⟩), .pointer (some ⟨w.heap.size + 1 + 1, 0, none⟩)] g (w.heap.size + 1 + 1) 3 s a ((a + c : Nat) : Int) (.int .i64 n) w0 _ hR3 hg (by omega) (by rw [hsz]; omega) (by omega) hB3 ef (fun W hW => num1_ok s a g c w.heap.size (w.heap.size + 1) (w.heap.size + 1 + 1) n most (.int .i64 0) w0 W hs hal' (hR3.below hW) hg (hB3.trans (hW.mono (by rw [hsz]; omega))) hn hle (boxed_below x0 hW) (boxed_below x1 hW) (boxed_below x2 hW) (by omega) (by omega) (by omega) (by omega))
      have HZ := Aside0.mk hsz
      have HB3 := Aside0.mk hb3
      clear hR hB hR3 hB3 x0 x1 x2 hsz hb3 h hn ef
      go_enter Tryz.func37, Tryz.ntmps37
      go_wp2_with fail
      refine HS.mono ?_
      have hz := HZ.out
      have hb3 := HB3.out
      clear HS HZ HB3
      generalize (((w.alloc (.cells #[.pointer (some ⟨g, 0, none⟩)] 66)).alloc (.cells #[.int .i64 most] 3)).alloc (.cells #[.int .i64 0] 3)) = W3 at hz hb3 ⊢
      rintro e w1 ⟨rfl, hk, hv, hr⟩
      have c2 : w1.cell? ⟨w.heap.size + 1 + 1, 0, none⟩ = some (.int .i64 n) := Boxed.cell hv
      have HK := Aside0.mk hk
      have HR := Aside0.mk hr
      have HZ := Aside0.mk hz
      have HB3 := Aside0.mk hb3
      clear hk hv hr hz hb3
      go_wp2
      go_ret2
      have hz := HZ.out
      have := HK.out.size
      exact ⟨rfl, HR.out, HK.out.below, by omega, fun k q1 q2 _ => (HK.out.keep k (by omega) q2 (by omega)).trans (HB3.out.block k q1)⟩
    have bad : (∀ n c, numL 9 0 0 (s.data.toList.drop a) = some (n, c) → ¬ n ≤ most) → Calls Tryz.prog 37 #[.pointer (some ⟨g, 0, none⟩), .int .i64 most] w fun e w' => ∃ F, e = .returned (.tuple #[.int .i64 0, .iface 80 (.pointer (some ⟨F, 0, none⟩))]) ∧ w.heap.size ≤ F ∧ w'.heap[F]? = some (.cells #[.string ⟨#[114, 101, 97, 100]⟩, .string ⟨#[]⟩, .iface 52 (.int .i64 13)] 82 (0, 0)) ∧ RdAt w' g s (a : Int) ∧ Below w0.heap.size w0 w' ∧ KeepBut w w' g none := by
      intro hn
      have HS := safe_bad 62 #[.pointer (some ⟨w.heap.size, 0, none⟩), .pointer (some ⟨w.heap.size + 1, 0, none⟩), .pointer (some ⟨w.heap.size + 1 + 1, 0, none⟩)] g w.heap.size s a w0 _ hR3 hg (by omega) (by rw [hsz]; omega) (by omega) hB3 ef (fun W hW => num1_bad s a g w.heap.size (w.heap.size + 1) (w.heap.size + 1 + 1) w.heap.size most w0 W hs hal' (hR3.below hW) hg (hB3.trans (hW.mono (by rw [hsz]; omega))) hn (boxed_below x0 hW) (boxed_below x1 hW) (by omega) (by omega))
      have HZ := Aside0.mk hsz
      have HB3 := Aside0.mk hb3
      have HX2 := Aside0.mk x2
      clear hR hB hR3 hB3 x0 x1 x2 hsz hb3 h hn ef
      go_enter Tryz.func37, Tryz.ntmps37
      go_wp2_with fail
      refine HS.mono ?_
      have hz := HZ.out
      have hb3 := HB3.out
      have x2 := HX2.out
      clear HS HZ HB3 HX2
      generalize (((w.alloc (.cells #[.pointer (some ⟨g, 0, none⟩)] 66)).alloc (.cells #[.int .i64 most] 3)).alloc (.cells #[.int .i64 0] 3)) = W3 at hz hb3 x2 ⊢
      rintro e w1 ⟨F, rfl, hk, hF1, hF2, hr⟩
      have c2 : w1.cell? ⟨w.heap.size + 1 + 1, 0, none⟩ = some (.int .i64 0) := (show Boxed w1 (w.heap.size + 1 + 1) 3 (.int .i64 0) from (hk.keep _ (by omega) (by omega) (by omega)).trans x2).cell
      have HK := Aside0.mk hk
      have HR := Aside0.mk hr
      have HZ := Aside0.mk hz
      have HB3 := Aside0.mk hb3
      have HF1 := Aside0.mk hF1
      have HF2 := Aside0.mk hF2
      clear hk hr hz hb3 x2 hF1 hF2
      go_wp2
      go_ret2
      have hz := HZ.out
      have hf := HF1.out
      have := HK.out.size
      exact ⟨F, rfl, by omega, HF2.out, HR.out, HK.out.below, by omega, fun k q1 q2 _ => (HK.out.keep k (by omega) q2 (by omega)).trans (HB3.out.block k q1)⟩
    cases hn : numL 9 0 0 (s.data.toList.drop a) with
    | none =>
      rw [hn] at h
      simp only [Prod.mk.injEq] at h
      obtain ⟨rfl, rfl, rfl, rfl⟩ := h
      refine (bad (fun n c h1 => by rw [hn] at h1; cases h1)).mono ?_
      rintro e w' ⟨F, rfl, hF1, hF2, hr, hb, hk⟩
      exact ⟨.slice (some ⟨F, 0, none⟩) 1 1, rfl, fault_R hF2 hF1, hr, hb, hk⟩
    | some p =>
      obtain ⟨n, c⟩ := p
      rw [hn] at h
      dsimp only at h
      by_cases hle : n ≤ most
      · rw [if_pos hle] at h
        simp only [Prod.mk.injEq] at h
        obtain ⟨rfl, rfl, rfl, rfl⟩ := h
        refine (good _ c hn hle).mono ?_
        rintro e w' ⟨rfl, hr, hb, hk⟩
        exact ⟨.slice none 0 0, rfl, Kd.R_nil _ _ _ _ _, RdAt.eq hr (by omega), hb, hk⟩
      · rw [if_neg hle] at h
        simp only [Prod.mk.injEq] at h
        obtain ⟨rfl, rfl, rfl, rfl⟩ := h
        refine (bad (fun n' c' h1 => by rw [hn] at h1; obtain ⟨rfl, rfl⟩ := Prod.mk.inj (Option.some.inj h1); exact hle)).mono ?_
        rintro e w' ⟨F, rfl, hF1, hF2, hr, hb, hk⟩
        exact ⟨.slice (some ⟨F, 0, none⟩) 1 1, rfl, fault_R hF2 hF1, hr, hb, hk⟩
  · cases h
end Go.Proofs.YtjlflmjimibciabGreatDoor.Print
end

section
namespace Go.Proofs.YtjlflmjimibciabGreatDoor.Print
open Go Go.RowKit Go.Proofs.YtjlflmjimibciabGreatDoorW.PrintWords Go.Proofs.YtjlflmjimibciabGreatDoorW.PrintLast Go.Proofs.YtjlflmjimibciabGreatDoorW.PrintMore
set_option linter.unusedVariables false
set_option linter.unusedSimpArgs false
theorem wraps_i64 (n : Int) (h₀ : 0 ≤ n) (h₁ : n < 2 ^ 63) : IntKind.i64.wrap n = n := by
  rw [IntKind.wrap_i64]; omega
theorem orD_eq (v k : Nat) (b : UInt8) (hk : k ≤ 8) (hv : v < 128 ^ k) : orD (v : Int) b k = ((v + b.toNat % 128 * 128 ^ k : Nat) : Int) := by
  have hb := UInt8.toNat_lt b
  have h1 : bits BinOp.and IntKind.i64 (b.toNat : Int) 127 = ((b.toNat % 128 : Nat) : Int) := by
    have := bits_mask .i64 63 (by decide) wraps_i64 7 (by decide) (b.toNat : Int) (by omega) (by omega)
    rw [show ((2 : Int) ^ 7 - 1) = 127 from by decide] at this
    rw [this]; omega
  have hm : b.toNat % 128 < 128 := Nat.mod_lt _ (by decide)
  have hp : (128 : Nat) ^ k = 2 ^ (7 * k) := by rw [Nat.pow_mul]
  have hlt : 2 ^ (7 * k) ≤ 2 ^ 56 := Nat.pow_le_pow_right (by decide) (by omega)
  have hX : b.toNat % 128 * 2 ^ (7 * k) < 2 ^ 63 := by
    calc b.toNat % 128 * 2 ^ (7 * k) ≤ 127 * 2 ^ 56 := Nat.mul_le_mul (by omega) hlt
      _ < 2 ^ 63 := by decide
  have hvl : v < 2 ^ 63 := by rw [hp] at hv; exact Nat.lt_of_lt_of_le hv (Nat.le_trans hlt (by decide))
  unfold orD
  rw [h1]
  have h2 : wrap64 (((b.toNat % 128 : Nat) : Int) * 2 ^ (7 * k)) = ((b.toNat % 128 * 2 ^ (7 * k) : Nat) : Int) := by
    have e : ((b.toNat % 128 : Nat) : Int) * 2 ^ (7 * k) = ((b.toNat % 128 * 2 ^ (7 * k) : Nat) : Int) := by push_cast; rfl
    rw [e]
    generalize b.toNat % 128 * 2 ^ (7 * k) = X at hX
    unfold wrap64; omega
  rw [h2, (bits_nat .i64 63 (by decide) wraps_i64 v _ hvl hX).2, Nat.or_comm, Nat.mul_comm, ← Nat.two_pow_add_eq_or_of_lt (by rw [hp] at hv; exact hv), hp]
  congr 1
  rw [Nat.mul_comm]; omega
theorem numL_nat : ∀ (m k v : Nat) (l : List UInt8) (n : Int) (c : Nat), k + m = 9 → v < 128 ^ k → numL m k (v : Int) l = some (n, c) → 0 ≤ n ∧ k < c ∧ c ≤ k + l.length
  | 0, _, _, _, _, _, _, _, h => by simp [numL] at h
  | m + 1, k, v, [], n, c, _, _, h => by simp [numL] at h
  | m + 1, k, v, b :: l, n, c, hkm, hv, h => by
    have ho := orD_eq v k b (by omega) hv
    rw [numL] at h
    split at h
    · split at h
      · obtain ⟨rfl, rfl⟩ := Prod.mk.inj (Option.some.inj h)
        rw [ho]
        exact ⟨Int.natCast_nonneg _, by omega, by rw [List.length_cons]; omega⟩
      · cases h
    · rw [ho] at h
      have hlt : v + b.toNat % 128 * 128 ^ k < 128 ^ (k + 1) := by
        have hm : b.toNat % 128 ≤ 127 := by omega
        have := Nat.mul_le_mul_right (128 ^ k) hm
        rw [Nat.pow_succ]; omega
      obtain ⟨h1, h2, h3⟩ := numL_nat m (k + 1) _ l n c (by omega) hlt h
      exact ⟨h1, by omega, by rw [List.length_cons]; omega⟩
set_option maxHeartbeats 4000000 in
theorem Left_any (s : ByteArray) (p g : Nat) (w : World) (hs : s.size ≤ 9223372036854775000) (hp : p ≤ s.size) (hR : RdAt w g s (p : Int)) :
    Calls Tryz.prog 39 #[.pointer (some ⟨g, 0, none⟩)] w fun e w' => e = .returned (.int .i64 ((s.size : Int) - p)) ∧ ∃ n, w' = w.drewN n := by
  have c0 := hR.c0
  have c1 := hR.c1
  have hw : IntKind.i64.wrap ((s.size : Int) - p) = (s.size : Int) - p := IntWalk.i64_in _ (by omega)
  clear hR
  go_enter Tryz.func39, Tryz.ntmps39
  go_wp2
  go_quiet (fail)
  go_wp2
  go_ret
  exact ⟨rfl, _, rfl⟩
set_option maxHeartbeats 8000000 in
set_option maxRecDepth 100000 in
theorem str1_ok (s : ByteArray) (a g c br bm bn : Nat) (n : Nat) (most : Int) (v0 : Value) (w0 w : World) (hs : s.size ≤ 9223372036854775000) (ha : a ≤ s.size) (hR : RdAt w g s a) (hg : w0.heap.size ≤ g) (hB : Below w0.heap.size w0 w) (hn : numL 9 0 0 (s.data.toList.drop a) = some ((n : Int), c)) (hle : (n : Int) ≤ most) (hfit : a + c + n ≤ s.size)
    (h1 : Boxed w br 66 (.pointer (some ⟨g, 0, none⟩))) (h2 : Boxed w bm 3 (.int .i64 most)) (h3 : Boxed w bn 9 v0) (hbn : w0.heap.size ≤ bn) (e1 : br ≠ g) (e2 : bm ≠ g) (e3 : bn ≠ g) (e4 : bn ≠ br) :
    Calls Tryz.prog 80 #[.pointer (some ⟨br, 0, none⟩), .pointer (some ⟨bm, 0, none⟩), .pointer (some ⟨bn, 0, none⟩)] w fun e w' => e = .returned (.tuple #[]) ∧ DoKeep w0 w w' g bn ∧ w'.heap[bn]? = some (.cells #[.string (s.extract (a + c) (a + c + n))] 9 (0, 0)) ∧ RdAt w' g s ((a + c + n : Nat) : Int) := by
  have c1 := h1.cell
  have HC := number_ok s a g c n w0 w hs ha hR hg hB hn
  have H1 := Aside0.mk h1
  have H2 := Aside0.mk h2
  have H3 := Aside0.mk h3
  clear hR hB hn h1 h2 h3
  obtain ⟨p, hp⟩ : ∃ p, p = a + c := ⟨_, rfl⟩
  rw [← hp] at hfit HC ⊢
  clear hp
  go_enter Tryz.func80, Tryz.ntmps80
  go_wp2_with fail
  refine HC.mono ?_
  rintro e w1 ⟨rfl, hr, hk, hb⟩
  have x1 := keep_boxed hk H1.out e1
  have x2 := keep_boxed hk H2.out e2
  have x3 := keep_boxed hk H3.out e3
  clear c1
  have c1 := x1.cell
  have c2 := x2.cell
  have c3 := x3.cell
  have f3 := x3.frozen
  have hL := Left_any s p g w1 hs (by omega) hr
  have hlf : (n : Int) ≤ (s.size : Int) - p := by omega
  have HR := Aside0.mk hr
  have HK := Aside0.mk hk
  have HB := Aside0.mk hb
  have X1 := Aside0.mk x1
  have X3 := Aside0.mk x3
  clear hr hk hb x1 x2 x3
  go_wp2_with (first | (go_at_call 39; refine hL.mono ?_; rintro e w' ⟨rfl, nq, rfl⟩) | (go_at_call 64; refine (must_yes _).mono ?_; rintro e w' ⟨rfl, rfl⟩))
  have c0 := HR.out.c0
  have r1 := HR.out.c1
  have rf := HR.out.f1
  have q1 : (0 : Int) ≤ (p : Int) := by omega
  have q2 : (p : Int) ≤ (p : Int) + (n : Int) := by omega
  have q3 : (p : Int) + (n : Int) ≤ (s.size : Int) := by omega
  have q4 : IntKind.i64.wrap ((p : Int) + (n : Int)) = (p : Int) + (n : Int) := IntWalk.i64_in _ (by omega)
  have q5 : ((p : Int) + (n : Int)).toNat = p + n := by omega
  have e5 : ¬ br = bn := fun e => e4 e.symm
  have e6 : ¬ g = bn := fun e => e3 e.symm
  go_region
  all_goals go_wp2
  all_goals go_end0
  all_goals
    refine ⟨rfl, ⟨by rw [World.size_setCell, World.size_setCell]; exact HK.out.1, fun k q1 q2 q3 => ?_, ((show Below w0.heap.size w0 (w1.drewN (nq + 1)) from pw_below_drewN HB.out _).setCell (p := ⟨bn, 0, none⟩) hbn _).setCell (p := ⟨g, 1, none⟩) hg _⟩, ?_, ?_⟩
    · rw [Below.heap_setCell _ _ _ _ (show k ≠ g from q2), Below.heap_setCell _ _ _ _ (show k ≠ bn from q3)]
      exact HK.out.2 k q1 q2 (by simp)
    · rw [Below.heap_setCell _ _ _ _ (show bn ≠ g from e3)]
      exact (show Boxed (w1.drewN (nq + 1)) bn 9 v0 from X3.out).set _
    · exact RdAt.eq ((RdAt.far (HR.out.drewN (nq + 1)) (p := ⟨bn, 0, none⟩) (by exact fun e => e3 e.symm) _).set _) (by omega)
set_option maxHeartbeats 4000000 in
set_option maxRecDepth 100000 in
theorem str1_bad (s : ByteArray) (a g br bm bn bx : Nat) (most : Int) (w0 w : World) (hs : s.size ≤ 9223372036854775000) (ha : a ≤ s.size) (hR : RdAt w g s a) (hg : w0.heap.size ≤ g) (hB : Below w0.heap.size w0 w) (hn : ∀ (n : Nat) (c : Nat), numL 9 0 0 (s.data.toList.drop a) = some ((n : Int), c) → ¬ ((n : Int) ≤ most ∧ a + c + n ≤ s.size))
    (h1 : Boxed w br 66 (.pointer (some ⟨g, 0, none⟩))) (h2 : Boxed w bm 3 (.int .i64 most)) (e1 : br ≠ g) (e2 : bm ≠ g) :
    Calls Tryz.prog 80 #[.pointer (some ⟨br, 0, none⟩), .pointer (some ⟨bm, 0, none⟩), .pointer (some ⟨bn, 0, none⟩)] w fun e w' => e = .panicked formPanic ∧ DoKeep w0 w w' g bx ∧ ∃ a', RdAt w' g s a' := by
  have c1 := h1.cell
  cases hnn : numL 9 0 0 (s.data.toList.drop a) with
  | none =>
    have HC := number_bad s a g w0 w hs ha hR hg hB hnn
    clear hR hB hn h1 h2 hnn
    go_enter Tryz.func80, Tryz.ntmps80
    go_wp2_with fail
    refine HC.mono ?_
    rintro e w1 ⟨rfl, hr, hk, hb⟩
    exact ⟨rfl, rfl, ⟨hk.1, fun k q1 q2 q3 => hk.2 k q1 q2 (by simp), hb⟩, hr⟩
  | some p =>
    obtain ⟨n, c⟩ := p
    obtain ⟨hn0, _, hcl⟩ := numL_nat 9 0 0 _ n c (by decide) (by decide) hnn
    obtain ⟨n, rfl⟩ := Int.eq_ofNat_of_zero_le hn0
    have hno := hn n c hnn
    have hpl : a + c ≤ s.size := by
      have : (s.data.toList.drop a).length = s.size - a := by rw [List.length_drop]; rfl
      omega
    have HC := number_ok s a g c n w0 w hs ha hR hg hB hnn
    have H1 := Aside0.mk h1
    have H2 := Aside0.mk h2
    clear hR hB hn h1 h2 hnn hcl
    obtain ⟨p, hp⟩ : ∃ p, p = a + c := ⟨_, rfl⟩
    rw [← hp] at hpl hno HC
    clear hp
    go_enter Tryz.func80, Tryz.ntmps80
    go_wp2_with fail
    refine HC.mono ?_
    rintro e w1 ⟨rfl, hr, hk, hb⟩
    have x1 := keep_boxed hk H1.out e1
    have x2 := keep_boxed hk H2.out e2
    clear c1
    have c1 := x1.cell
    have c2 := x2.cell
    have hL := Left_any s p g w1 hs (by omega) hr
    have HR := Aside0.mk hr
    have HK := Aside0.mk hk
    have HB := Aside0.mk hb
    clear hr hk hb x1 x2
    by_cases hle : (n : Int) ≤ most
    · have hlb : decide ((n : Int) ≤ (s.size : Int) - p) = false := decide_eq_false (by intro h; exact hno ⟨hle, by omega⟩)
      have hln : ¬ ((n : Int) ≤ (s.size : Int) - p) := by intro h; exact hno ⟨hle, by omega⟩
      clear hno
      go_wp2_with (first | (go_at_call 39; refine hL.mono ?_; rintro e w' ⟨rfl, nq, rfl⟩) | (go_at_call 64; refine (must_no _).mono ?_; rintro e w' ⟨rfl, rfl⟩))
      exact ⟨rfl, rfl, ⟨HK.out.1, fun k q1 q2 q3 => HK.out.2 k q1 q2 (by simp), pw_below_drewN HB.out _⟩, _, HR.out.drewN _⟩
    · have hlb : decide ((n : Int) ≤ most) = false := decide_eq_false hle
      clear hno
      go_wp2_with (first | (go_at_call 64; refine (must_no _).mono ?_; rintro e w' ⟨rfl, rfl⟩))
      exact ⟨rfl, rfl, ⟨HK.out.1, fun k q1 q2 q3 => HK.out.2 k q1 q2 (by simp), HB.out⟩, _, HR.out⟩
/-- Str, in plain words: the text, the error, where the reader stands then. -/
def strF (s : ByteArray) (a most : Int) : Option (ByteArray × List Int × ByteArray × Int) :=
  if 0 ≤ a ∧ a ≤ s.size ∧ s.size ≤ 9223372036854775000 then some (match numL 9 0 0 (s.data.toList.drop a.toNat) with
    | some (n, c) => if n ≤ most ∧ a.toNat + c + n.toNat ≤ s.size then (s.extract (a.toNat + c) (a.toNat + c + n.toNat), [], s, ((a.toNat + c + n.toNat : Nat) : Int)) else (⟨#[]⟩, [13], s, a)
    | none => (⟨#[]⟩, [13], s, a)) else none
set_option maxHeartbeats 8000000 in
set_option maxRecDepth 100000 in
theorem Str_any (g : Nat) (s : ByteArray) (a most : Int) (r1 : ByteArray) (r2 : List Int) (r3 : ByteArray) (r4 : Int) (w0 w : World) (hR : RdAt w g s a) (hg : w0.heap.size ≤ g) (hB : Below w0.heap.size w0 w) (h : strF s a most = some (r1, r2, r3, r4)) :
    Calls Tryz.prog 65 #[.pointer (some ⟨g, 0, none⟩), .int .i64 most] w fun e w' => ∃ v : Value, e = .returned (.tuple #[.string r1, errVal 80 v]) ∧ Kd.R (errKd 52) 82 w' w.heap.size (fun _ => True) v r2 ∧ RdAt w' g r3 r4 ∧ Below w0.heap.size w0 w' ∧ KeepBut w w' g none := by
  unfold strF at h
  split at h
  · rename_i hc
    obtain ⟨ha0, hal, hs⟩ := hc
    obtain ⟨a, rfl⟩ := Int.eq_ofNat_of_zero_le ha0
    rw [Int.toNat_natCast] at h
    have hal' : a ≤ s.size := by omega
    have h := Option.some.inj h
    have hmf : ∀ (fn : Fn) (first cap : Array Value) (w : World), (Instr.makeFunc fn first cap).run Tryz.prog w = .ok (.func fn first cap) w := fun _ _ _ _ => rfl
    have hgl : g < w.heap.size := (Array.getElem?_eq_some_iff.1 hR).1
    have hsz : (((w.alloc (.cells #[.pointer (some ⟨g, 0, none⟩)] 66)).alloc (.cells #[.int .i64 most] 3)).alloc (.cells #[.string ⟨#[]⟩] 9)).heap.size = w.heap.size + 3 := by simp
    have hb3 : Below w.heap.size w (((w.alloc (.cells #[.pointer (some ⟨g, 0, none⟩)] 66)).alloc (.cells #[.int .i64 most] 3)).alloc (.cells #[.string ⟨#[]⟩] 9)) := by
      repeat' (first | exact Below.refl _ _ | refine Below.alloc ?_ (by first | exact Nat.le_refl _ | (simp only [World.size_alloc]; omega)) _)
    have x0 : Boxed (((w.alloc (.cells #[.pointer (some ⟨g, 0, none⟩)] 66)).alloc (.cells #[.int .i64 most] 3)).alloc (.cells #[.string ⟨#[]⟩] 9)) w.heap.size 66 (.pointer (some ⟨g, 0, none⟩)) := by
      repeat' (first | exact boxed_at _ _ (by first | (simp only [World.size_alloc]; done) | (simp only [World.size_alloc]; omega) | rfl) _ _ | refine Boxed.alloc ?_ _)
    have x1 : Boxed (((w.alloc (.cells #[.pointer (some ⟨g, 0, none⟩)] 66)).alloc (.cells #[.int .i64 most] 3)).alloc (.cells #[.string ⟨#[]⟩] 9)) (w.heap.size + 1) 3 (.int .i64 most) := by
      repeat' (first | exact boxed_at _ _ (by first | (simp only [World.size_alloc]; done) | (simp only [World.size_alloc]; omega) | rfl) _ _ | refine Boxed.alloc ?_ _)
    have x2 : Boxed (((w.alloc (.cells #[.pointer (some ⟨g, 0, none⟩)] 66)).alloc (.cells #[.int .i64 most] 3)).alloc (.cells #[.string ⟨#[]⟩] 9)) (w.heap.size + 1 + 1) 9 (.string ⟨#[]⟩) := by
      repeat' (first | exact boxed_at _ _ (by first | (simp only [World.size_alloc]; done) | (simp only [World.size_alloc]; omega) | rfl) _ _ | refine Boxed.alloc ?_ _)
    have hR3 := hR.below hb3
    have hBs := hB.size
    have hB3 : Below w0.heap.size w0 (((w.alloc (.cells #[.pointer (some ⟨g, 0, none⟩)] 66)).alloc (.cells #[.int .i64 most] 3)).alloc (.cells #[.string ⟨#[]⟩] 9)) := hB.trans (hb3.mono hBs)
    have ef : ∀ args w, (callFunc 80 args).run Tryz.prog w = .ok (.enter 80 args) w := fun _ _ => by kernel_rfl
    -- the end of a number that is read
    have good : ∀ (n : Nat) (c : Nat), numL 9 0 0 (s.data.toList.drop a) = some ((n : Int), c) → (n : Int) ≤ most → a + c + n ≤ s.size → Calls Tryz.prog 65 #[.pointer (some ⟨g, 0, none⟩), .int .i64 most] w fun e w' => e = .returned (.tuple #[.string (s.extract (a + c) (a + c + n)), .nilIface]) ∧ RdAt w' g s ((a + c + n : Nat) : Int) ∧ Below w0.heap.size w0 w' ∧ KeepBut w w' g none := by
      intro n c hn hle hfit
      have HS := safe_ok 80 #[.pointer (some ⟨w.heap.size, 0, none⟩), .pointer (some ⟨w.heap.size + 1, 0, none⟩), .pointer (some ⟨w.heap.size + 1 + 1, 0, none⟩)] g (w.heap.size + 1 + 1) 9 s a ((a + c + n : Nat) : Int) (.string (s.extract (a + c) (a + c + n))) w0 _ hR3 hg (by omega) (by rw [hsz]; omega) (by omega) hB3 ef (fun W hW => str1_ok s a g c w.heap.size (w.heap.size + 1) (w.heap.size + 1 + 1) n most (.string ⟨#[]⟩) w0 W hs hal' (hR3.below hW) hg (hB3.trans (hW.mono (by rw [hsz]; omega))) hn hle hfit (boxed_below x0 hW) (boxed_below x1 hW) (boxed_below x2 hW) (by omega) (by omega) (by omega) (by omega) (by omega))
      have HZ := Aside0.mk hsz
      have HB3 := Aside0.mk hb3
      clear hR hB hR3 hB3 x0 x1 x2 hsz hb3 h hn ef
      go_enter Tryz.func65, Tryz.ntmps65
      go_wp2_with fail
      refine HS.mono ?_
      have hz := HZ.out
      have hb3 := HB3.out
      clear HS HZ HB3
      generalize (((w.alloc (.cells #[.pointer (some ⟨g, 0, none⟩)] 66)).alloc (.cells #[.int .i64 most] 3)).alloc (.cells #[.string ⟨#[]⟩] 9)) = W3 at hz hb3 ⊢
      rintro e w1 ⟨rfl, hk, hv, hr⟩
      have c2 : w1.cell? ⟨w.heap.size + 1 + 1, 0, none⟩ = some (.string (s.extract (a + c) (a + c + n))) := Boxed.cell hv
      have HK := Aside0.mk hk
      have HR := Aside0.mk hr
      have HZ := Aside0.mk hz
      have HB3 := Aside0.mk hb3
      clear hk hv hr hz hb3
      go_wp2
      go_ret2
      have hz := HZ.out
      have := HK.out.size
      exact ⟨rfl, HR.out, HK.out.below, by omega, fun k q1 q2 _ => (HK.out.keep k (by omega) q2 (by omega)).trans (HB3.out.block k q1)⟩
    have bad : (∀ (n : Nat) (c : Nat), numL 9 0 0 (s.data.toList.drop a) = some ((n : Int), c) → ¬ ((n : Int) ≤ most ∧ a + c + n ≤ s.size)) → Calls Tryz.prog 65 #[.pointer (some ⟨g, 0, none⟩), .int .i64 most] w fun e w' => ∃ F, e = .returned (.tuple #[.string ⟨#[]⟩, .iface 80 (.pointer (some ⟨F, 0, none⟩))]) ∧ w.heap.size ≤ F ∧ w'.heap[F]? = some (.cells #[.string ⟨#[114, 101, 97, 100]⟩, .string ⟨#[]⟩, .iface 52 (.int .i64 13)] 82 (0, 0)) ∧ RdAt w' g s (a : Int) ∧ Below w0.heap.size w0 w' ∧ KeepBut w w' g none := by
      intro hn
      have HS := safe_bad 80 #[.pointer (some ⟨w.heap.size, 0, none⟩), .pointer (some ⟨w.heap.size + 1, 0, none⟩), .pointer (some ⟨w.heap.size + 1 + 1, 0, none⟩)] g w.heap.size s a w0 _ hR3 hg (by omega) (by rw [hsz]; omega) (by omega) hB3 ef (fun W hW => str1_bad s a g w.heap.size (w.heap.size + 1) (w.heap.size + 1 + 1) w.heap.size most w0 W hs hal' (hR3.below hW) hg (hB3.trans (hW.mono (by rw [hsz]; omega))) hn (boxed_below x0 hW) (boxed_below x1 hW) (by omega) (by omega))
      have HZ := Aside0.mk hsz
      have HB3 := Aside0.mk hb3
      have HX2 := Aside0.mk x2
      clear hR hB hR3 hB3 x0 x1 x2 hsz hb3 h hn ef
      go_enter Tryz.func65, Tryz.ntmps65
      go_wp2_with fail
      refine HS.mono ?_
      have hz := HZ.out
      have hb3 := HB3.out
      have x2 := HX2.out
      clear HS HZ HB3 HX2
      generalize (((w.alloc (.cells #[.pointer (some ⟨g, 0, none⟩)] 66)).alloc (.cells #[.int .i64 most] 3)).alloc (.cells #[.string ⟨#[]⟩] 9)) = W3 at hz hb3 x2 ⊢
      rintro e w1 ⟨F, rfl, hk, hF1, hF2, hr⟩
      have c2 : w1.cell? ⟨w.heap.size + 1 + 1, 0, none⟩ = some (.string ⟨#[]⟩) := (show Boxed w1 (w.heap.size + 1 + 1) 9 (.string ⟨#[]⟩) from (hk.keep _ (by omega) (by omega) (by omega)).trans x2).cell
      have HK := Aside0.mk hk
      have HR := Aside0.mk hr
      have HZ := Aside0.mk hz
      have HB3 := Aside0.mk hb3
      have HF1 := Aside0.mk hF1
      have HF2 := Aside0.mk hF2
      clear hk hr hz hb3 x2 hF1 hF2
      go_wp2
      go_ret2
      have hz := HZ.out
      have hf := HF1.out
      have := HK.out.size
      exact ⟨F, rfl, by omega, HF2.out, HR.out, HK.out.below, by omega, fun k q1 q2 _ => (HK.out.keep k (by omega) q2 (by omega)).trans (HB3.out.block k q1)⟩
    cases hn : numL 9 0 0 (s.data.toList.drop a) with
    | none =>
      rw [hn] at h
      simp only [Prod.mk.injEq] at h
      obtain ⟨rfl, rfl, rfl, rfl⟩ := h
      refine (bad (fun n c h1 => by rw [hn] at h1; cases h1)).mono ?_
      rintro e w' ⟨F, rfl, hF1, hF2, hr, hb, hk⟩
      exact ⟨.slice (some ⟨F, 0, none⟩) 1 1, rfl, fault_R hF2 hF1, hr, hb, hk⟩
    | some p =>
      obtain ⟨n, c⟩ := p
      obtain ⟨hn0, _, _⟩ := numL_nat 9 0 0 _ n c (by decide) (by decide) hn
      obtain ⟨n, rfl⟩ := Int.eq_ofNat_of_zero_le hn0
      rw [hn] at h
      dsimp only at h
      rw [Int.toNat_natCast] at h
      by_cases hle : (n : Int) ≤ most ∧ a + c + n ≤ s.size
      · rw [if_pos hle] at h
        simp only [Prod.mk.injEq] at h
        obtain ⟨rfl, rfl, rfl, rfl⟩ := h
        refine (good n c hn hle.1 hle.2).mono ?_
        rintro e w' ⟨rfl, hr, hb, hk⟩
        exact ⟨.slice none 0 0, rfl, Kd.R_nil _ _ _ _ _, hr, hb, hk⟩
      · rw [if_neg hle] at h
        simp only [Prod.mk.injEq] at h
        obtain ⟨rfl, rfl, rfl, rfl⟩ := h
        refine (bad (fun n' c' h1 => by
          rw [hn] at h1
          obtain ⟨e1, e2⟩ := Prod.mk.inj (Option.some.inj h1)
          have e1' : n = n' := by omega
          subst e1'; subst e2; exact hle)).mono ?_
        rintro e w' ⟨F, rfl, hF1, hF2, hr, hb, hk⟩
        exact ⟨.slice (some ⟨F, 0, none⟩) 1 1, rfl, fault_R hF2 hF1, hr, hb, hk⟩
  · cases h
end Go.Proofs.YtjlflmjimibciabGreatDoor.Print
end
