/- code.Reader's Num: the walks. -/
import Derived.Test.YtklcceccadlgkaaDoorReaderS
namespace Go.Proofs.YtklcceccadlgkaaDoor.Print
open Go Go.RowKit Go.Proofs.YtklcceccadlgkaaDoorW.PrintWords Go.Proofs.YtklcceccadlgkaaDoorW.PrintLast Go.Proofs.YtklcceccadlgkaaDoorW.PrintMore
set_option linter.unusedVariables false
set_option linter.unusedSimpArgs false
theorem number_ok (s : ByteArray) (a g c : Nat) (n : Int) (w0 w : World) (hs : s.size ≤ 9223372036854775000) (ha : a ≤ s.size) (hR : RdAt w g s a) (hg : w0.heap.size ≤ g) (hB : Below w0.heap.size w0 w) (hn : numL 9 0 0 (s.data.toList.drop a) = some (n, c)) :
    Calls Tryd.prog 96 #[.pointer (some ⟨g, 0, none⟩)] w fun e w' => e = .returned (.int .i64 n) ∧ RdAt w' g s ((a + c : Nat) : Int) ∧ KeepBut w w' g none ∧ Below w0.heap.size w0 w' := by
  refine (number_any s a g w0 w hs ha hR hg hB).mono fun e w' h => ?_
  unfold NumEnd at h
  rw [hn] at h
  exact ⟨h.1.1, h.1.2, h.2⟩
theorem number_bad (s : ByteArray) (a g : Nat) (w0 w : World) (hs : s.size ≤ 9223372036854775000) (ha : a ≤ s.size) (hR : RdAt w g s a) (hg : w0.heap.size ≤ g) (hB : Below w0.heap.size w0 w) (hn : numL 9 0 0 (s.data.toList.drop a) = none) :
    Calls Tryd.prog 96 #[.pointer (some ⟨g, 0, none⟩)] w fun e w' => e = .panicked formPanic ∧ (∃ a', RdAt w' g s a') ∧ KeepBut w w' g none ∧ Below w0.heap.size w0 w' := by
  refine (number_any s a g w0 w hs ha hR hg hB).mono fun e w' h => ?_
  unfold NumEnd at h
  rw [hn] at h
  exact ⟨h.1.1, h.1.2, h.2⟩
theorem keep_boxed {w w' : World} {g k : Nat} {t : TypeId} {v : Value} (h : KeepBut w w' g none) (hb : Boxed w k t v) (hk : k ≠ g) : Boxed w' k t v := (h.2 k hb.lt hk (by simp)).trans hb
set_option maxHeartbeats 4000000 in
set_option maxRecDepth 100000 in
theorem num1_ok (s : ByteArray) (a g c br bm bn : Nat) (n most : Int) (v0 : Value) (w0 w : World) (hs : s.size ≤ 9223372036854775000) (ha : a ≤ s.size) (hR : RdAt w g s a) (hg : w0.heap.size ≤ g) (hB : Below w0.heap.size w0 w) (hn : numL 9 0 0 (s.data.toList.drop a) = some (n, c)) (hle : n ≤ most)
    (h1 : Boxed w br 47 (.pointer (some ⟨g, 0, none⟩))) (h2 : Boxed w bm 3 (.int .i64 most)) (h3 : Boxed w bn 3 v0) (hbn : w0.heap.size ≤ bn) (e1 : br ≠ g) (e2 : bm ≠ g) (e3 : bn ≠ g) :
    Calls Tryd.prog 95 #[.pointer (some ⟨br, 0, none⟩), .pointer (some ⟨bm, 0, none⟩), .pointer (some ⟨bn, 0, none⟩)] w fun e w' => e = .returned (.tuple #[]) ∧ DoKeep w0 w w' g bn ∧ w'.heap[bn]? = some (.cells #[.int .i64 n] 3 (0, 0)) ∧ RdAt w' g s ((a + c : Nat) : Int) := by
  have c1 := h1.cell
  have HC := number_ok s a g c n w0 w hs ha hR hg hB hn
  have H2 := Aside0.mk h2
  have H3 := Aside0.mk h3
  clear hR hB hn h1 h2 h3
  go_enter Tryd.func95, Tryd.ntmps95
  go_wp2_with fail
  refine HC.mono ?_
  rintro e w1 ⟨rfl, hr, hk, hb⟩
  have x2 := keep_boxed hk H2.out e2
  have x3 := keep_boxed hk H3.out e3
  have c2 := x2.cell
  have c3 := x3.cell
  have f3 := x3.frozen
  have HR := Aside0.mk hr
  have HK := Aside0.mk hk
  have HB := Aside0.mk hb
  have X3 := Aside0.mk x3
  clear hr hk hb x2 x3
  go_wp2_with (first | (go_at_call 97; refine (must_yes _).mono ?_; rintro e w' ⟨rfl, rfl⟩))
  go_end0
  refine ⟨rfl, ⟨by rw [World.size_setCell]; exact HK.out.1, fun k q1 q2 q3 => ?_, HB.out.setCell (p := ⟨bn, 0, none⟩) hbn _⟩, X3.out.set _, HR.out.far (by exact fun e => e3 e.symm) _⟩
  rw [Below.heap_setCell _ _ _ _ (show k ≠ bn from q3), HK.out.2 k q1 q2 (by simp)]
set_option maxHeartbeats 4000000 in
set_option maxRecDepth 100000 in
theorem num1_bad (s : ByteArray) (a g br bm bn bx : Nat) (most : Int) (w0 w : World) (hs : s.size ≤ 9223372036854775000) (ha : a ≤ s.size) (hR : RdAt w g s a) (hg : w0.heap.size ≤ g) (hB : Below w0.heap.size w0 w) (hn : ∀ n c, numL 9 0 0 (s.data.toList.drop a) = some (n, c) → ¬ n ≤ most)
    (h1 : Boxed w br 47 (.pointer (some ⟨g, 0, none⟩))) (h2 : Boxed w bm 3 (.int .i64 most)) (e1 : br ≠ g) (e2 : bm ≠ g) :
    Calls Tryd.prog 95 #[.pointer (some ⟨br, 0, none⟩), .pointer (some ⟨bm, 0, none⟩), .pointer (some ⟨bn, 0, none⟩)] w fun e w' => e = .panicked formPanic ∧ DoKeep w0 w w' g bx ∧ ∃ a', RdAt w' g s a' := by
  have c1 := h1.cell
  cases hnn : numL 9 0 0 (s.data.toList.drop a) with
  | none =>
    have HC := number_bad s a g w0 w hs ha hR hg hB hnn
    clear hR hB hn h1 h2 hnn
    go_enter Tryd.func95, Tryd.ntmps95
    go_wp2_with fail
    refine HC.mono ?_
    rintro e w1 ⟨rfl, hr, hk, hb⟩
    exact ⟨rfl, rfl, ⟨hk.1, fun k q1 q2 q3 => hk.2 k q1 q2 (by simp), hb⟩, hr⟩
  | some p =>
    obtain ⟨n, c⟩ := p
    have hle := hn n c hnn
    have hlb : decide (n ≤ most) = false := decide_eq_false hle
    have HC := number_ok s a g c n w0 w hs ha hR hg hB hnn
    have H2 := Aside0.mk h2
    clear hR hB hn h1 h2 hnn
    go_enter Tryd.func95, Tryd.ntmps95
    go_wp2_with fail
    refine HC.mono ?_
    rintro e w1 ⟨rfl, hr, hk, hb⟩
    have x2 := keep_boxed hk H2.out e2
    have c2 := x2.cell
    have HR := Aside0.mk hr
    have HK := Aside0.mk hk
    have HB := Aside0.mk hb
    clear hr hk hb x2
    go_wp2_with (first | (go_at_call 97; refine (must_no _).mono ?_; rintro e w' ⟨rfl, rfl⟩))
    exact ⟨rfl, rfl, ⟨HK.out.1, fun k q1 q2 q3 => HK.out.2 k q1 q2 (by simp), HB.out⟩, _, HR.out⟩
/-- Num, in plain words: the number, the error, where the reader stands then. -/
def numF (s : ByteArray) (a most : Int) : Option (Int × List Int × ByteArray × Int) :=
  if 0 ≤ a ∧ a ≤ s.size ∧ s.size ≤ 9223372036854775000 then some (match numL 9 0 0 (s.data.toList.drop a.toNat) with
    | some (n, c) => if n ≤ most then (n, [], s, a + c) else (0, [13], s, a)
    | none => (0, [13], s, a)) else none
theorem fault_R {w : World} {F base : Nat} {c : Int} {op p : ByteArray} (hF : w.heap[F]? = some (.cells #[.string op, .string p, .iface 74 (.int .i64 c)] 102 (0, 0))) (hb : base ≤ F) :
    Kd.R (errKd 74) 102 w base (fun _ => True) (.slice (some ⟨F, 0, none⟩) 1 1) [c] := by
  refine ⟨fun _ _ => trivial, _, ⟨rfl, .inr ⟨F, 1, _, rfl, hb, hF, Nat.le_refl 1, by decide, rfl, rfl⟩⟩, ?_⟩
  refine ⟨rfl, fun j q hj => ?_⟩
  cases j with
  | zero => simp at hj; subst hj; exact ⟨op, p, rfl⟩
  | succ j => simp at hj
set_option maxHeartbeats 8000000 in
set_option maxRecDepth 100000 in
theorem Num_any (g : Nat) (s : ByteArray) (a most : Int) (r1 : Int) (r2 : List Int) (r3 : ByteArray) (r4 : Int) (w0 w : World) (hR : RdAt w g s a) (hg : w0.heap.size ≤ g) (hB : Below w0.heap.size w0 w) (h : numF s a most = some (r1, r2, r3, r4)) :
    Calls Tryd.prog 67 #[.pointer (some ⟨g, 0, none⟩), .int .i64 most] w fun e w' => ∃ v : Value, e = .returned (.tuple #[.int .i64 r1, errVal 100 v]) ∧ Kd.R (errKd 74) 102 w' w.heap.size (fun _ => True) v r2 ∧ RdAt w' g r3 r4 ∧ Below w0.heap.size w0 w' ∧ KeepBut w w' g none := by
  unfold numF at h
  split at h
  · rename_i hc
    obtain ⟨ha0, hal, hs⟩ := hc
    obtain ⟨a, rfl⟩ := Int.eq_ofNat_of_zero_le ha0
    rw [Int.toNat_natCast] at h
    have hal' : a ≤ s.size := by omega
    have h := Option.some.inj h
    have hmf : ∀ (fn : Fn) (first cap : Array Value) (w : World), (Instr.makeFunc fn first cap).run Tryd.prog w = .ok (.func fn first cap) w := fun _ _ _ _ => rfl
    have hgl : g < w.heap.size := (Array.getElem?_eq_some_iff.1 hR).1
    have hsz : (((w.alloc (.cells #[.pointer (some ⟨g, 0, none⟩)] 47)).alloc (.cells #[.int .i64 most] 3)).alloc (.cells #[.int .i64 0] 3)).heap.size = w.heap.size + 3 := by simp
    have hb3 : Below w.heap.size w (((w.alloc (.cells #[.pointer (some ⟨g, 0, none⟩)] 47)).alloc (.cells #[.int .i64 most] 3)).alloc (.cells #[.int .i64 0] 3)) := by
      repeat' (first | exact Below.refl _ _ | refine Below.alloc ?_ (by first | exact Nat.le_refl _ | (simp only [World.size_alloc]; omega)) _)
    have x0 : Boxed (((w.alloc (.cells #[.pointer (some ⟨g, 0, none⟩)] 47)).alloc (.cells #[.int .i64 most] 3)).alloc (.cells #[.int .i64 0] 3)) w.heap.size 47 (.pointer (some ⟨g, 0, none⟩)) := by
      repeat' (first | exact boxed_at _ _ (by first | (simp only [World.size_alloc]; done) | (simp only [World.size_alloc]; omega) | rfl) _ _ | refine Boxed.alloc ?_ _)
    have x1 : Boxed (((w.alloc (.cells #[.pointer (some ⟨g, 0, none⟩)] 47)).alloc (.cells #[.int .i64 most] 3)).alloc (.cells #[.int .i64 0] 3)) (w.heap.size + 1) 3 (.int .i64 most) := by
      repeat' (first | exact boxed_at _ _ (by first | (simp only [World.size_alloc]; done) | (simp only [World.size_alloc]; omega) | rfl) _ _ | refine Boxed.alloc ?_ _)
    have x2 : Boxed (((w.alloc (.cells #[.pointer (some ⟨g, 0, none⟩)] 47)).alloc (.cells #[.int .i64 most] 3)).alloc (.cells #[.int .i64 0] 3)) (w.heap.size + 1 + 1) 3 (.int .i64 0) := by
      repeat' (first | exact boxed_at _ _ (by first | (simp only [World.size_alloc]; done) | (simp only [World.size_alloc]; omega) | rfl) _ _ | refine Boxed.alloc ?_ _)
    have hR3 := hR.below hb3
    have hBs := hB.size
    have hB3 : Below w0.heap.size w0 (((w.alloc (.cells #[.pointer (some ⟨g, 0, none⟩)] 47)).alloc (.cells #[.int .i64 most] 3)).alloc (.cells #[.int .i64 0] 3)) := hB.trans (hb3.mono hBs)
    have ef : ∀ args w, (callFunc 95 args).run Tryd.prog w = .ok (.enter 95 args) w := fun _ _ => by kernel_rfl
    -- the end of a number that is read
    have good : ∀ n c, numL 9 0 0 (s.data.toList.drop a) = some (n, c) → n ≤ most → Calls Tryd.prog 67 #[.pointer (some ⟨g, 0, none⟩), .int .i64 most] w fun e w' => e = .returned (.tuple #[.int .i64 n, .nilIface]) ∧ RdAt w' g s ((a + c : Nat) : Int) ∧ Below w0.heap.size w0 w' ∧ KeepBut w w' g none := by
      intro n c hn hle
      have HS := safe_ok 95 #[.pointer (some ⟨w.heap.size, 0, none⟩), .pointer (some ⟨w.heap.size + 1, 0, none⟩), .pointer (some ⟨w.heap.size + 1 + 1, 0, none⟩)] g (w.heap.size + 1 + 1) 3 s a ((a + c : Nat) : Int) (.int .i64 n) w0 _ hR3 hg (by omega) (by rw [hsz]; omega) (by omega) hB3 ef (fun W hW => num1_ok s a g c w.heap.size (w.heap.size + 1) (w.heap.size + 1 + 1) n most (.int .i64 0) w0 W hs hal' (hR3.below hW) hg (hB3.trans (hW.mono (by rw [hsz]; omega))) hn hle (boxed_below x0 hW) (boxed_below x1 hW) (boxed_below x2 hW) (by omega) (by omega) (by omega) (by omega))
      have HZ := Aside0.mk hsz
      have HB3 := Aside0.mk hb3
      clear hR hB hR3 hB3 x0 x1 x2 hsz hb3 h hn ef
      go_enter Tryd.func67, Tryd.ntmps67
      go_wp2_with fail
      refine HS.mono ?_
      have hz := HZ.out
      have hb3 := HB3.out
      clear HS HZ HB3
      generalize (((w.alloc (.cells #[.pointer (some ⟨g, 0, none⟩)] 47)).alloc (.cells #[.int .i64 most] 3)).alloc (.cells #[.int .i64 0] 3)) = W3 at hz hb3 ⊢
      rintro e w1 ⟨rfl, hk, hv, hr⟩
      have c2 : w1.cell? ⟨w.heap.size + 1 + 1, 0, none⟩ = some (.int .i64 n) := Boxed.cell hv
      have HK := Aside0.mk hk
      have HR := Aside0.mk hr
      have HZ := Aside0.mk hz
      have HB3 := Aside0.mk hb3
      clear hk hv hr hz hb3
      go_wp2
      go_ret2
      have hz := HZ.out
      have := HK.out.size
      exact ⟨rfl, HR.out, HK.out.below, by omega, fun k q1 q2 _ => (HK.out.keep k (by omega) q2 (by omega)).trans (HB3.out.block k q1)⟩
    have bad : (∀ n c, numL 9 0 0 (s.data.toList.drop a) = some (n, c) → ¬ n ≤ most) → Calls Tryd.prog 67 #[.pointer (some ⟨g, 0, none⟩), .int .i64 most] w fun e w' => ∃ F, e = .returned (.tuple #[.int .i64 0, .iface 100 (.pointer (some ⟨F, 0, none⟩))]) ∧ w.heap.size ≤ F ∧ w'.heap[F]? = some (.cells #[.string ⟨#[114, 101, 97, 100]⟩, .string ⟨#[]⟩, .iface 74 (.int .i64 13)] 102 (0, 0)) ∧ RdAt w' g s (a : Int) ∧ Below w0.heap.size w0 w' ∧ KeepBut w w' g none := by
      intro hn
      have HS := safe_bad 95 #[.pointer (some ⟨w.heap.size, 0, none⟩), .pointer (some ⟨w.heap.size + 1, 0, none⟩), .pointer (some ⟨w.heap.size + 1 + 1, 0, none⟩)] g w.heap.size s a w0 _ hR3 hg (by omega) (by rw [hsz]; omega) (by omega) hB3 ef (fun W hW => num1_bad s a g w.heap.size (w.heap.size + 1) (w.heap.size + 1 + 1) w.heap.size most w0 W hs hal' (hR3.below hW) hg (hB3.trans (hW.mono (by rw [hsz]; omega))) hn (boxed_below x0 hW) (boxed_below x1 hW) (by omega) (by omega))
      have HZ := Aside0.mk hsz
      have HB3 := Aside0.mk hb3
      have HX2 := Aside0.mk x2
      clear hR hB hR3 hB3 x0 x1 x2 hsz hb3 h hn ef
      go_enter Tryd.func67, Tryd.ntmps67
      go_wp2_with fail
      refine HS.mono ?_
      have hz := HZ.out
      have hb3 := HB3.out
      have x2 := HX2.out
      clear HS HZ HB3 HX2
      generalize (((w.alloc (.cells #[.pointer (some ⟨g, 0, none⟩)] 47)).alloc (.cells #[.int .i64 most] 3)).alloc (.cells #[.int .i64 0] 3)) = W3 at hz hb3 x2 ⊢
      rintro e w1 ⟨F, rfl, hk, hF1, hF2, hr⟩
      have c2 : w1.cell? ⟨w.heap.size + 1 + 1, 0, none⟩ = some (.int .i64 0) := (show Boxed w1 (w.heap.size + 1 + 1) 3 (.int .i64 0) from (hk.keep _ (by omega) (by omega) (by omega)).trans x2).cell
      have HK := Aside0.mk hk
      have HR := Aside0.mk hr
      have HZ := Aside0.mk hz
      have HB3 := Aside0.mk hb3
      have HF1 := Aside0.mk hF1
      have HF2 := Aside0.mk hF2
      clear hk hr hz hb3 x2 hF1 hF2
      go_wp2
      go_ret2
      have hz := HZ.out
      have hf := HF1.out
      have := HK.out.size
      exact ⟨F, rfl, by omega, HF2.out, HR.out, HK.out.below, by omega, fun k q1 q2 _ => (HK.out.keep k (by omega) q2 (by omega)).trans (HB3.out.block k q1)⟩
    cases hn : numL 9 0 0 (s.data.toList.drop a) with
    | none =>
      rw [hn] at h
      simp only [Prod.mk.injEq] at h
      obtain ⟨rfl, rfl, rfl, rfl⟩ := h
      refine (bad (fun n c h1 => by rw [hn] at h1; cases h1)).mono ?_
      rintro e w' ⟨F, rfl, hF1, hF2, hr, hb, hk⟩
      exact ⟨.slice (some ⟨F, 0, none⟩) 1 1, rfl, fault_R hF2 hF1, hr, hb, hk⟩
    | some p =>
      obtain ⟨n, c⟩ := p
      rw [hn] at h
      dsimp only at h
      by_cases hle : n ≤ most
      · rw [if_pos hle] at h
        simp only [Prod.mk.injEq] at h
        obtain ⟨rfl, rfl, rfl, rfl⟩ := h
        refine (good _ c hn hle).mono ?_
        rintro e w' ⟨rfl, hr, hb, hk⟩
        exact ⟨.slice none 0 0, rfl, Kd.R_nil _ _ _ _ _, RdAt.eq hr (by omega), hb, hk⟩
      · rw [if_neg hle] at h
        simp only [Prod.mk.injEq] at h
        obtain ⟨rfl, rfl, rfl, rfl⟩ := h
        refine (bad (fun n' c' h1 => by rw [hn] at h1; obtain ⟨rfl, rfl⟩ := Prod.mk.inj (Option.some.inj h1); exact hle)).mono ?_
        rintro e w' ⟨F, rfl, hF1, hF2, hr, hb, hk⟩
        exact ⟨.slice (some ⟨F, 0, none⟩) 1 1, rfl, fault_R hF2 hF1, hr, hb, hk⟩
  · cases h
end Go.Proofs.YtklcceccadlgkaaDoor.Print
