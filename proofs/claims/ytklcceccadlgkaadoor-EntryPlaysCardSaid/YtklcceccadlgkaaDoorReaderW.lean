/- code.Reader's number, Num, Str: the walks. -/
import Derived.Test.YtklcceccadlgkaaDoorRaw
import Derived.Test.YtklcceccadlgkaaDoorErr
import Derived.Test.YtklcceccadlgkaaDoorAsW
import Derived.Defers
import Derived.Recover
import Derived.WalkLawsBesides
import Derived.StillTailTactics
import Derived.Deep.LoopGhost
import Derived.BigQuiet
import Derived.Laws.BitsLemmas
namespace Go.Proofs.YtklcceccadlgkaaDoor.Print
open Go Go.RowKit Go.Proofs.YtklcceccadlgkaaDoorW.PrintWords Go.Proofs.YtklcceccadlgkaaDoorW.PrintLast Go.Proofs.YtklcceccadlgkaaDoorW.PrintMore
set_option linter.unusedVariables false
set_option linter.unusedSimpArgs false

/-- The panic of bytes that are none of the form. -/
def formPanic : List PanicEntry := [{ v := .iface 74 (.int .i64 13), recovered := false }]
theorem must_yes (w : World) : Calls Tryd.prog 97 #[.bool true] w fun e w' => e = .returned (.tuple #[]) ∧ w' = w := by
  go_enter Tryd.func97, Tryd.ntmps97
  go_wp2
  go_end0
  exact ⟨rfl, rfl⟩
theorem must_no (w : World) : Calls Tryd.prog 97 #[.bool false] w fun e w' => e = .panicked formPanic ∧ w' = w := by
  go_enter Tryd.func97, Tryd.ntmps97
  go_wp2
  exact ⟨rfl, rfl, rfl⟩
/-- The reader's block. -/
def RdAt (W : World) (g : Nat) (s : ByteArray) (a : Int) : Prop := W.heap[g]? = some (.cells #[.string s, .int .i64 a] 89 (0, 0))
theorem RdAt.c0 {W : World} {g : Nat} {s : ByteArray} {a : Int} (h : RdAt W g s a) : W.cell? ⟨g, 0, none⟩ = some (.string s) := by unfold RdAt at h; simp [World.cell?, h]
theorem RdAt.c1 {W : World} {g : Nat} {s : ByteArray} {a : Int} (h : RdAt W g s a) : W.cell? ⟨g, 1, none⟩ = some (.int .i64 a) := by unfold RdAt at h; simp [World.cell?, h]
theorem RdAt.f1 {W : World} {g : Nat} {s : ByteArray} {a : Int} (h : RdAt W g s a) : W.frozen? ⟨g, 1, none⟩ = false := by unfold RdAt at h; simp [World.frozen?, h]
theorem RdAt.set {W : World} {g : Nat} {s : ByteArray} {a : Int} (h : RdAt W g s a) (b : Int) : RdAt (W.setCell ⟨g, 1, none⟩ (.int .i64 b)) g s b := by
  unfold RdAt at h ⊢
  simpa using blk_set h 1 (.int .i64 b)
theorem RdAt.drewN {W : World} {g : Nat} {s : ByteArray} {a : Int} (h : RdAt W g s a) (n : Nat) : RdAt (W.drewN n) g s a := h
theorem RdAt.drew {W : World} {g : Nat} {s : ByteArray} {a : Int} (h : RdAt W g s a) : RdAt W.drew g s a := h
theorem RdAt.below {W W1 : World} {g : Nat} {s : ByteArray} {a : Int} (h : RdAt W g s a) (hb : Below W.heap.size W W1) : RdAt W1 g s a := by
  unfold RdAt at h ⊢
  exact (hb.block g (Array.getElem?_eq_some_iff.1 h).1).trans h
theorem RdAt.far {W : World} {g : Nat} {s : ByteArray} {a : Int} (h : RdAt W g s a) {p : Addr} (hp : g ≠ p.block) (u : Value) : RdAt (W.setCell p u) g s a := by
  unfold RdAt at h ⊢
  exact blk_far h hp u
/-- A digit more, as the walk spells it. -/
def orD (v : Int) (b : UInt8) (k : Nat) : Int := bits BinOp.or IntKind.i64 v (wrap64 (bits BinOp.and IntKind.i64 (b.toNat : Int) 127 * 2 ^ (7 * k)))
/-- The number at the head of bytes, and how many bytes it takes. -/
def numL : Nat → Nat → Int → List UInt8 → Option (Int × Nat)
  | 0, _, _, _ => none
  | _ + 1, _, _, [] => none
  | m + 1, k, v, b :: l => if b.toNat < 128 then (if (0 < b.toNat ∨ k = 0) ∧ orD v b k ≤ 4611686018427387904 then some (orD v b k, k + 1) else none) else numL m (k + 1) (orD v b k) l
/-- What the walk of a number leaves. -/
def NumEnd (s : ByteArray) (a g : Nat) (w0 w : World) (o : Option (Int × Nat)) (e : Ending) (w' : World) : Prop :=
  (match o with
    | some (n, c) => e = .returned (.int .i64 n) ∧ RdAt w' g s ((a + c : Nat) : Int)
    | none => e = .panicked formPanic ∧ ∃ a', RdAt w' g s a') ∧ KeepBut w w' g none ∧ Below w0.heap.size w0 w'
theorem RdAt.eq {W : World} {g : Nat} {s : ByteArray} {a b : Int} (h : RdAt W g s a) (e : a = b) : RdAt W g s b := e ▸ h
set_option maxHeartbeats 16000000 in
set_option maxRecDepth 100000 in
theorem number_any (s : ByteArray) (a g : Nat) (w0 w : World) (hs : s.size ≤ 9223372036854775000) (ha : a ≤ s.size) (hR : RdAt w g s a) (hg : w0.heap.size ≤ g) (hB : Below w0.heap.size w0 w) :
    Calls Tryd.prog 96 #[.pointer (some ⟨g, 0, none⟩)] w (NumEnd s a g w0 w (numL 9 0 0 (s.data.toList.drop a))) := by
  have HB := Aside0.mk hB
  have HR := Aside0.mk hR
  have hlen : s.data.toList.length = s.size := rfl
  have HL := Aside0.mk hlen
  clear hB hR hlen
  go_enter Tryd.func96, Tryd.ntmps96
  go_wp2
  go_loopw [3, 6] (fun n i wr => ∃ k q : Nat, ∃ v : Int, k ≤ 9 ∧ q ≤ s.size ∧ i = .int .i64 k ∧ n = .int .i64 v ∧ Aside0 (q = a + k) ∧ Aside0 (RdAt wr g s (q : Int)) ∧ Aside0 (KeepBut w wr g none) ∧ Aside0 (Below w0.heap.size w0 wr) ∧ Aside0 (numL 9 0 0 (s.data.toList.drop a) = numL (9 - k) k v (s.data.toList.drop q))) (fun _ i _ => 9 - (intOf i).toNat)
  case atStart => exact ⟨0, a, 0, by omega, ha, rfl, rfl, ⟨rfl⟩, HR, ⟨KeepBut.refl _ _ _⟩, HB, ⟨rfl⟩⟩
  case round =>
    obtain ⟨k, q, v, hk, hak, rfl, rfl, Q, R, K, B, E⟩ := hrel
    clear HR HB
    by_cases hk9 : k < 9
    · have hltz : (k : Int) < 9 := by omega
      have c0 := R.out.c0
      have c1 := R.out.c1
      have cf := R.out.f1
      by_cases hin : q < s.size
      · have hiz : (q : Int) < (s.size : Int) := by omega
        have hi0 : (0 : Int) ≤ (q : Int) := by omega
        have hd : s.data.toList.drop q = s[q] :: s.data.toList.drop (q + 1) := by
          rw [List.drop_eq_getElem_cons (show q < s.data.toList.length from hin)]; rfl
        have hbl : (s[q]).toNat < 256 := UInt8.toNat_lt _
        have hwb : wrap64 ((s[q]).toNat : Int) = ((s[q]).toNat : Int) := by unfold wrap64; omega
        obtain ⟨m, hm⟩ : ∃ m, 9 - k = m + 1 := ⟨8 - k, by omega⟩
        have E1 : numL 9 0 0 (s.data.toList.drop a) = if (s[q]).toNat < 128 then (if (0 < (s[q]).toNat ∨ k = 0) ∧ orD v s[q] k ≤ 4611686018427387904 then some (orD v s[q] k, k + 1) else none) else numL m (k + 1) (orD v s[q] k) (s.data.toList.drop (q + 1)) := by rw [E.out, hd, hm]; rfl
        have HM := Aside0.mk hm
        have HW := Aside0.mk hwb
        clear hd hm hwb
        have hw1 : wrap64 ((q : Int) + 1) = (q : Int) + 1 := by unfold wrap64; omega
        by_cases h128 : (s[q]).toNat < 128
        · have g128 : ((s[q]).toNat : Int) < 128 := by clear hw1; omega
          rw [if_pos h128] at E1
          by_cases hok : (0 < (s[q]).toNat ∨ k = 0) ∧ orD v s[q] k ≤ 4611686018427387904
          · rw [if_pos hok] at E1
            have E2 := Aside0.mk E1
            obtain ⟨h0, hle⟩ := hok
            unfold orD at hle
            have hlb := decide_eq_true hle
            clear E1
            by_cases hpos : 0 < (s[q]).toNat
            · have g0 : 0 < ((s[q]).toNat : Int) := by clear hw1; omega
              go_wp2
              go_quiet ((go_at_call 97; exact Calls.quiet_of_same (must_yes _)))
              go_wp2
              go_quiet (fail)
              go_wp2_with (first | (go_at_call 97; refine (must_yes _).mono ?_; rintro e w' ⟨rfl, rfl⟩))
              go_ret
              unfold NumEnd; rw [E2.out]
              exact ⟨⟨rfl, RdAt.eq (a := (q : Int) + 1) (by repeat (first | exact R.out | refine RdAt.drewN ?_ _ | refine RdAt.drew ?_ | refine RdAt.set (a := (q : Int)) ?_ _)) (by have := Q.out; clear hw1; omega)⟩, (by repeat (first | exact K.out | apply KeepBut.set_ | apply keep_drewN | apply keep_drew | apply keep_alloc)), (by repeat (first | exact B.out | apply below_alloc | apply pw_below_drewN | apply below_drew1 | refine below_set ?_ hg))⟩
            · have g0 : ¬ 0 < ((s[q]).toNat : Int) := by clear hw1; omega
              have hkz : ((k : Int) == 0) = true := by
                rcases h0 with h | h
                · exact absurd h hpos
                · rw [h]; rfl
              clear h0
              go_wp2
              go_quiet ((go_at_call 97; exact Calls.quiet_of_same (must_yes _)))
              go_wp2
              go_quiet (fail)
              go_wp2_with (first | (go_at_call 97; refine (must_yes _).mono ?_; rintro e w' ⟨rfl, rfl⟩))
              go_ret
              unfold NumEnd; rw [E2.out]
              exact ⟨⟨rfl, RdAt.eq (a := (q : Int) + 1) (by repeat (first | exact R.out | refine RdAt.drewN ?_ _ | refine RdAt.drew ?_ | refine RdAt.set (a := (q : Int)) ?_ _)) (by have := Q.out; clear hw1; omega)⟩, (by repeat (first | exact K.out | apply KeepBut.set_ | apply keep_drewN | apply keep_drew | apply keep_alloc)), (by repeat (first | exact B.out | apply below_alloc | apply pw_below_drewN | apply below_drew1 | refine below_set ?_ hg))⟩
          · rw [if_neg hok] at E1
            have E2 := Aside0.mk E1
            clear E1
            by_cases hpos : 0 < (s[q]).toNat
            · have g0 : 0 < ((s[q]).toNat : Int) := by clear hw1; omega
              have hle : ¬ orD v s[q] k ≤ 4611686018427387904 := fun h => hok ⟨.inl hpos, h⟩
              unfold orD at hle
              have hlb := decide_eq_false hle
              clear hok
              go_wp2
              go_quiet ((go_at_call 97; exact Calls.quiet_of_same (must_yes _)))
              go_wp2
              go_quiet (fail)
              go_wp2_with (first | (go_at_call 97; refine (must_no _).mono ?_; rintro e w' ⟨rfl, rfl⟩))
              refine ⟨rfl, ?_⟩
              unfold NumEnd; rw [E2.out]
              exact ⟨⟨rfl, _, (by repeat (first | exact R.out | refine RdAt.drewN ?_ _ | refine RdAt.drew ?_ | refine RdAt.set (a := (q : Int)) ?_ _))⟩, (by repeat (first | exact K.out | apply KeepBut.set_ | apply keep_drewN | apply keep_drew | apply keep_alloc)), (by repeat (first | exact B.out | apply below_alloc | apply pw_below_drewN | apply below_drew1 | refine below_set ?_ hg))⟩
            · have g0 : ¬ 0 < ((s[q]).toNat : Int) := by clear hw1; omega
              by_cases hk0 : k = 0
              · have hkz : ((k : Int) == 0) = true := by rw [hk0]; rfl
                have hle : ¬ orD v s[q] k ≤ 4611686018427387904 := fun h => hok ⟨.inr hk0, h⟩
                clear hk0
                unfold orD at hle
                have hlb := decide_eq_false hle
                clear hok
                go_wp2
                go_quiet ((go_at_call 97; exact Calls.quiet_of_same (must_yes _)))
                go_wp2
                go_quiet (fail)
                go_wp2_with (first | (go_at_call 97; refine (must_no _).mono ?_; rintro e w' ⟨rfl, rfl⟩))
                refine ⟨rfl, ?_⟩
                unfold NumEnd; rw [E2.out]
                exact ⟨⟨rfl, _, (by repeat (first | exact R.out | refine RdAt.drewN ?_ _ | refine RdAt.drew ?_ | refine RdAt.set (a := (q : Int)) ?_ _))⟩, (by repeat (first | exact K.out | apply KeepBut.set_ | apply keep_drewN | apply keep_drew | apply keep_alloc)), (by repeat (first | exact B.out | apply below_alloc | apply pw_below_drewN | apply below_drew1 | refine below_set ?_ hg))⟩
              · have hkz : ((k : Int) == 0) = false := by simp; exact hk0
                clear hok
                go_wp2
                go_quiet ((go_at_call 97; exact Calls.quiet_of_same (must_yes _)))
                go_wp2
                go_quiet (fail)
                go_wp2_with (first | (go_at_call 97; refine (must_no _).mono ?_; rintro e w' ⟨rfl, rfl⟩))
                refine ⟨rfl, ?_⟩
                unfold NumEnd; rw [E2.out]
                exact ⟨⟨rfl, _, (by repeat (first | exact R.out | refine RdAt.drewN ?_ _ | refine RdAt.drew ?_ | refine RdAt.set (a := (q : Int)) ?_ _))⟩, (by repeat (first | exact K.out | apply KeepBut.set_ | apply keep_drewN | apply keep_drew | apply keep_alloc)), (by repeat (first | exact B.out | apply below_alloc | apply pw_below_drewN | apply below_drew1 | refine below_set ?_ hg))⟩
        · have g128 : ¬ ((s[q]).toNat : Int) < 128 := by clear hw1; omega
          rw [if_neg h128] at E1
          have E2 := Aside0.mk E1
          clear E1
          go_wp2
          go_quiet ((go_at_call 97; exact Calls.quiet_of_same (must_yes _)))
          go_wp2
          go_quiet (fail)
          go_wp2
          go_roundw
          case rel => clear hw1 g128 h128; exact ⟨k + 1, q + 1, orD v s[q] k, by omega, by omega, by go_num, rfl, ⟨by have := Q.out; omega⟩, ⟨RdAt.eq (a := (q : Int) + 1) (by repeat (first | exact R.out | refine RdAt.drewN ?_ _ | refine RdAt.drew ?_ | refine RdAt.set (a := (q : Int)) ?_ _)) (by omega)⟩, ⟨(by repeat (first | exact K.out | apply KeepBut.set_ | apply keep_drewN | apply keep_drew | apply keep_alloc))⟩, ⟨(by repeat (first | exact B.out | apply below_alloc | apply pw_below_drewN | apply below_drew1 | refine below_set ?_ hg))⟩, ⟨by rw [E2.out]; congr 1; have := HM.out; omega⟩⟩
          case measure => clear hw1 g128 h128; simp [intOf]; omega
      · have hiz : decide (q < s.size) = false := decide_eq_false hin
        have hd : s.data.toList.drop q = [] := List.drop_eq_nil_of_le (by rw [HL.out]; omega)
        have E2 : Aside0 (numL 9 0 0 (s.data.toList.drop a) = none) := ⟨by rw [E.out, hd]; obtain ⟨m, hm⟩ : ∃ m, 9 - k = m + 1 := ⟨8 - k, by omega⟩; rw [hm]; rfl⟩
        clear hd hin
        go_wp2
        go_still_tail 10, (by kernel_rfl)
        go_wp2_with (first | (go_at_call 97; refine (must_no _).mono ?_; rintro e w' ⟨rfl, rfl⟩))
        refine ⟨rfl, ?_⟩
        unfold NumEnd; rw [E2.out]
        exact ⟨⟨rfl, _, (by repeat (first | exact R.out | refine RdAt.drewN ?_ _ | refine RdAt.drew ?_ | refine RdAt.set (a := (q : Int)) ?_ _))⟩, (by repeat (first | exact K.out | apply KeepBut.set_ | apply keep_drewN | apply keep_drew | apply keep_alloc)), (by repeat (first | exact B.out | apply below_alloc | apply pw_below_drewN | apply below_drew1 | refine below_set ?_ hg))⟩
    · obtain rfl : k = 9 := by omega
      have E2 : Aside0 (numL 9 0 0 (s.data.toList.drop a) = none) := ⟨by rw [E.out]; rfl⟩
      go_wp2
      refine ⟨rfl, ?_⟩
      unfold NumEnd; rw [E2.out]
      exact ⟨⟨rfl, _, (by repeat (first | exact R.out | refine RdAt.drewN ?_ _ | refine RdAt.drew ?_ | refine RdAt.set (a := (q : Int)) ?_ _))⟩, (by repeat (first | exact K.out | apply KeepBut.set_ | apply keep_drewN | apply keep_drew | apply keep_alloc)), (by repeat (first | exact B.out | apply below_alloc | apply pw_below_drewN | apply below_drew1 | refine below_set ?_ hg))⟩
end Go.Proofs.YtklcceccadlgkaaDoor.Print
