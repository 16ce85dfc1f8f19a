/- code.Reader's Str: the walks; what a number's digits come to. -/
import Derived.Test.YtklcceccadlgkaaDoorReaderN
import Derived.WalkSpells
import Derived.IntWalk
namespace Go.Proofs.YtklcceccadlgkaaDoor.Print
open Go Go.RowKit Go.Proofs.YtklcceccadlgkaaDoorW.PrintWords Go.Proofs.YtklcceccadlgkaaDoorW.PrintLast Go.Proofs.YtklcceccadlgkaaDoorW.PrintMore
set_option linter.unusedVariables false
set_option linter.unusedSimpArgs false
theorem wraps_i64 (n : Int) (h₀ : 0 ≤ n) (h₁ : n < 2 ^ 63) : IntKind.i64.wrap n = n := by
  rw [IntKind.wrap_i64]; omega
theorem orD_eq (v k : Nat) (b : UInt8) (hk : k ≤ 8) (hv : v < 128 ^ k) : orD (v : Int) b k = ((v + b.toNat % 128 * 128 ^ k : Nat) : Int) := by
  have hb := UInt8.toNat_lt b
  have h1 : bits BinOp.and IntKind.i64 (b.toNat : Int) 127 = ((b.toNat % 128 : Nat) : Int) := by
    have := bits_mask .i64 63 (by decide) wraps_i64 7 (by decide) (b.toNat : Int) (by omega) (by omega)
    rw [show ((2 : Int) ^ 7 - 1) = 127 from by decide] at this
    rw [this]; omega
  have hm : b.toNat % 128 < 128 := Nat.mod_lt _ (by decide)
  have hp : (128 : Nat) ^ k = 2 ^ (7 * k) := by rw [Nat.pow_mul]
  have hlt : 2 ^ (7 * k) ≤ 2 ^ 56 := Nat.pow_le_pow_right (by decide) (by omega)
  have hX : b.toNat % 128 * 2 ^ (7 * k) < 2 ^ 63 := by
    calc b.toNat % 128 * 2 ^ (7 * k) ≤ 127 * 2 ^ 56 := Nat.mul_le_mul (by omega) hlt
      _ < 2 ^ 63 := by decide
  have hvl : v < 2 ^ 63 := by rw [hp] at hv; exact Nat.lt_of_lt_of_le hv (Nat.le_trans hlt (by decide))
  unfold orD
  rw [h1]
  have h2 : wrap64 (((b.toNat % 128 : Nat) : Int) * 2 ^ (7 * k)) = ((b.toNat % 128 * 2 ^ (7 * k) : Nat) : Int) := by
    have e : ((b.toNat % 128 : Nat) : Int) * 2 ^ (7 * k) = ((b.toNat % 128 * 2 ^ (7 * k) : Nat) : Int) := by push_cast; rfl
    rw [e]
    generalize b.toNat % 128 * 2 ^ (7 * k) = X at hX
    unfold wrap64; omega
  rw [h2, (bits_nat .i64 63 (by decide) wraps_i64 v _ hvl hX).2, Nat.or_comm, Nat.mul_comm, ← Nat.two_pow_add_eq_or_of_lt (by rw [hp] at hv; exact hv), hp]
  congr 1
  rw [Nat.mul_comm]; omega
theorem numL_nat : ∀ (m k v : Nat) (l : List UInt8) (n : Int) (c : Nat), k + m = 9 → v < 128 ^ k → numL m k (v : Int) l = some (n, c) → 0 ≤ n ∧ k < c ∧ c ≤ k + l.length
  | 0, _, _, _, _, _, _, _, h => by simp [numL] at h
  | m + 1, k, v, [], n, c, _, _, h => by simp [numL] at h
  | m + 1, k, v, b :: l, n, c, hkm, hv, h => by
    have ho := orD_eq v k b (by omega) hv
    rw [numL] at h
    split at h
    · split at h
      · obtain ⟨rfl, rfl⟩ := Prod.mk.inj (Option.some.inj h)
        rw [ho]
        exact ⟨Int.natCast_nonneg _, by omega, by rw [List.length_cons]; omega⟩
      · cases h
    · rw [ho] at h
      have hlt : v + b.toNat % 128 * 128 ^ k < 128 ^ (k + 1) := by
        have hm : b.toNat % 128 ≤ 127 := by omega
        have := Nat.mul_le_mul_right (128 ^ k) hm
        rw [Nat.pow_succ]; omega
      obtain ⟨h1, h2, h3⟩ := numL_nat m (k + 1) _ l n c (by omega) hlt h
      exact ⟨h1, by omega, by rw [List.length_cons]; omega⟩
set_option maxHeartbeats 4000000 in
theorem Left_any (s : ByteArray) (p g : Nat) (w : World) (hs : s.size ≤ 9223372036854775000) (hp : p ≤ s.size) (hR : RdAt w g s (p : Int)) :
    Calls Tryd.prog 39 #[.pointer (some ⟨g, 0, none⟩)] w fun e w' => e = .returned (.int .i64 ((s.size : Int) - p)) ∧ ∃ n, w' = w.drewN n := by
  have c0 := hR.c0
  have c1 := hR.c1
  have hw : IntKind.i64.wrap ((s.size : Int) - p) = (s.size : Int) - p := IntWalk.i64_in _ (by omega)
  clear hR
  go_enter Tryd.func39, Tryd.ntmps39
  go_wp2
  go_quiet (fail)
  go_wp2
  go_ret
  exact ⟨rfl, _, rfl⟩
set_option maxHeartbeats 8000000 in
set_option maxRecDepth 100000 in
theorem str1_ok (s : ByteArray) (a g c br bm bn : Nat) (n : Nat) (most : Int) (v0 : Value) (w0 w : World) (hs : s.size ≤ 9223372036854775000) (ha : a ≤ s.size) (hR : RdAt w g s a) (hg : w0.heap.size ≤ g) (hB : Below w0.heap.size w0 w) (hn : numL 9 0 0 (s.data.toList.drop a) = some ((n : Int), c)) (hle : (n : Int) ≤ most) (hfit : a + c + n ≤ s.size)
    (h1 : Boxed w br 47 (.pointer (some ⟨g, 0, none⟩))) (h2 : Boxed w bm 3 (.int .i64 most)) (h3 : Boxed w bn 9 v0) (hbn : w0.heap.size ≤ bn) (e1 : br ≠ g) (e2 : bm ≠ g) (e3 : bn ≠ g) (e4 : bn ≠ br) :
    Calls Tryd.prog 98 #[.pointer (some ⟨br, 0, none⟩), .pointer (some ⟨bm, 0, none⟩), .pointer (some ⟨bn, 0, none⟩)] w fun e w' => e = .returned (.tuple #[]) ∧ DoKeep w0 w w' g bn ∧ w'.heap[bn]? = some (.cells #[.string (s.extract (a + c) (a + c + n))] 9 (0, 0)) ∧ RdAt w' g s ((a + c + n : Nat) : Int) := by
  have c1 := h1.cell
  have HC := number_ok s a g c n w0 w hs ha hR hg hB hn
  have H1 := Aside0.mk h1
  have H2 := Aside0.mk h2
  have H3 := Aside0.mk h3
  clear hR hB hn h1 h2 h3
  obtain ⟨p, hp⟩ : ∃ p, p = a + c := ⟨_, rfl⟩
  rw [← hp] at hfit HC ⊢
  clear hp
  go_enter Tryd.func98, Tryd.ntmps98
  go_wp2_with fail
  refine HC.mono ?_
  rintro e w1 ⟨rfl, hr, hk, hb⟩
  have x1 := keep_boxed hk H1.out e1
  have x2 := keep_boxed hk H2.out e2
  have x3 := keep_boxed hk H3.out e3
  clear c1
  have c1 := x1.cell
  have c2 := x2.cell
  have c3 := x3.cell
  have f3 := x3.frozen
  have hL := Left_any s p g w1 hs (by omega) hr
  have hlf : (n : Int) ≤ (s.size : Int) - p := by omega
  have HR := Aside0.mk hr
  have HK := Aside0.mk hk
  have HB := Aside0.mk hb
  have X1 := Aside0.mk x1
  have X3 := Aside0.mk x3
  clear hr hk hb x1 x2 x3
  go_wp2_with (first | (go_at_call 39; refine hL.mono ?_; rintro e w' ⟨rfl, nq, rfl⟩) | (go_at_call 97; refine (must_yes _).mono ?_; rintro e w' ⟨rfl, rfl⟩))
  have c0 := HR.out.c0
  have r1 := HR.out.c1
  have rf := HR.out.f1
  have q1 : (0 : Int) ≤ (p : Int) := by omega
  have q2 : (p : Int) ≤ (p : Int) + (n : Int) := by omega
  have q3 : (p : Int) + (n : Int) ≤ (s.size : Int) := by omega
  have q4 : IntKind.i64.wrap ((p : Int) + (n : Int)) = (p : Int) + (n : Int) := IntWalk.i64_in _ (by omega)
  have q5 : ((p : Int) + (n : Int)).toNat = p + n := by omega
  have e5 : ¬ br = bn := fun e => e4 e.symm
  have e6 : ¬ g = bn := fun e => e3 e.symm
  go_region
  all_goals go_wp2
  all_goals go_end0
  all_goals
    refine ⟨rfl, ⟨by rw [World.size_setCell, World.size_setCell]; exact HK.out.1, fun k q1 q2 q3 => ?_, ((show Below w0.heap.size w0 (w1.drewN (nq + 1)) from pw_below_drewN HB.out _).setCell (p := ⟨bn, 0, none⟩) hbn _).setCell (p := ⟨g, 1, none⟩) hg _⟩, ?_, ?_⟩
    · rw [Below.heap_setCell _ _ _ _ (show k ≠ g from q2), Below.heap_setCell _ _ _ _ (show k ≠ bn from q3)]
      exact HK.out.2 k q1 q2 (by simp)
    · rw [Below.heap_setCell _ _ _ _ (show bn ≠ g from e3)]
      exact (show Boxed (w1.drewN (nq + 1)) bn 9 v0 from X3.out).set _
    · exact RdAt.eq ((RdAt.far (HR.out.drewN (nq + 1)) (p := ⟨bn, 0, none⟩) (by exact fun e => e3 e.symm) _).set _) (by omega)
set_option maxHeartbeats 4000000 in
set_option maxRecDepth 100000 in
theorem str1_bad (s : ByteArray) (a g br bm bn bx : Nat) (most : Int) (w0 w : World) (hs : s.size ≤ 9223372036854775000) (ha : a ≤ s.size) (hR : RdAt w g s a) (hg : w0.heap.size ≤ g) (hB : Below w0.heap.size w0 w) (hn : ∀ (n : Nat) (c : Nat), numL 9 0 0 (s.data.toList.drop a) = some ((n : Int), c) → ¬ ((n : Int) ≤ most ∧ a + c + n ≤ s.size))
    (h1 : Boxed w br 47 (.pointer (some ⟨g, 0, none⟩))) (h2 : Boxed w bm 3 (.int .i64 most)) (e1 : br ≠ g) (e2 : bm ≠ g) :
    Calls Tryd.prog 98 #[.pointer (some ⟨br, 0, none⟩), .pointer (some ⟨bm, 0, none⟩), .pointer (some ⟨bn, 0, none⟩)] w fun e w' => e = .panicked formPanic ∧ DoKeep w0 w w' g bx ∧ ∃ a', RdAt w' g s a' := by
  have c1 := h1.cell
  cases hnn : numL 9 0 0 (s.data.toList.drop a) with
  | none =>
    have HC := number_bad s a g w0 w hs ha hR hg hB hnn
    clear hR hB hn h1 h2 hnn
    go_enter Tryd.func98, Tryd.ntmps98
    go_wp2_with fail
    refine HC.mono ?_
    rintro e w1 ⟨rfl, hr, hk, hb⟩
    exact ⟨rfl, rfl, ⟨hk.1, fun k q1 q2 q3 => hk.2 k q1 q2 (by simp), hb⟩, hr⟩
  | some p =>
    obtain ⟨n, c⟩ := p
    obtain ⟨hn0, _, hcl⟩ := numL_nat 9 0 0 _ n c (by decide) (by decide) hnn
    obtain ⟨n, rfl⟩ := Int.eq_ofNat_of_zero_le hn0
    have hno := hn n c hnn
    have hpl : a + c ≤ s.size := by
      have : (s.data.toList.drop a).length = s.size - a := by rw [List.length_drop]; rfl
      omega
    have HC := number_ok s a g c n w0 w hs ha hR hg hB hnn
    have H1 := Aside0.mk h1
    have H2 := Aside0.mk h2
    clear hR hB hn h1 h2 hnn hcl
    obtain ⟨p, hp⟩ : ∃ p, p = a + c := ⟨_, rfl⟩
    rw [← hp] at hpl hno HC
    clear hp
    go_enter Tryd.func98, Tryd.ntmps98
    go_wp2_with fail
    refine HC.mono ?_
    rintro e w1 ⟨rfl, hr, hk, hb⟩
    have x1 := keep_boxed hk H1.out e1
    have x2 := keep_boxed hk H2.out e2
    clear c1
    have c1 := x1.cell
    have c2 := x2.cell
    have hL := Left_any s p g w1 hs (by omega) hr
    have HR := Aside0.mk hr
    have HK := Aside0.mk hk
    have HB := Aside0.mk hb
    clear hr hk hb x1 x2
    by_cases hle : (n : Int) ≤ most
    · have hlb : decide ((n : Int) ≤ (s.size : Int) - p) = false := decide_eq_false (by intro h; exact hno ⟨hle, by omega⟩)
      have hln : ¬ ((n : Int) ≤ (s.size : Int) - p) := by intro h; exact hno ⟨hle, by omega⟩
      clear hno
      go_wp2_with (first | (go_at_call 39; refine hL.mono ?_; rintro e w' ⟨rfl, nq, rfl⟩) | (go_at_call 97; refine (must_no _).mono ?_; rintro e w' ⟨rfl, rfl⟩))
      exact ⟨rfl, rfl, ⟨HK.out.1, fun k q1 q2 q3 => HK.out.2 k q1 q2 (by simp), pw_below_drewN HB.out _⟩, _, HR.out.drewN _⟩
    · have hlb : decide ((n : Int) ≤ most) = false := decide_eq_false hle
      clear hno
      go_wp2_with (first | (go_at_call 97; refine (must_no _).mono ?_; rintro e w' ⟨rfl, rfl⟩))
      exact ⟨rfl, rfl, ⟨HK.out.1, fun k q1 q2 q3 => HK.out.2 k q1 q2 (by simp), HB.out⟩, _, HR.out⟩
/-- Str, in plain words: the text, the error, where the reader stands then. -/
def strF (s : ByteArray) (a most : Int) : Option (ByteArray × List Int × ByteArray × Int) :=
  if 0 ≤ a ∧ a ≤ s.size ∧ s.size ≤ 9223372036854775000 then some (match numL 9 0 0 (s.data.toList.drop a.toNat) with
    | some (n, c) => if n ≤ most ∧ a.toNat + c + n.toNat ≤ s.size then (s.extract (a.toNat + c) (a.toNat + c + n.toNat), [], s, ((a.toNat + c + n.toNat : Nat) : Int)) else (⟨#[]⟩, [13], s, a)
    | none => (⟨#[]⟩, [13], s, a)) else none
set_option maxHeartbeats 8000000 in
set_option maxRecDepth 100000 in
theorem Str_any (g : Nat) (s : ByteArray) (a most : Int) (r1 : ByteArray) (r2 : List Int) (r3 : ByteArray) (r4 : Int) (w0 w : World) (hR : RdAt w g s a) (hg : w0.heap.size ≤ g) (hB : Below w0.heap.size w0 w) (h : strF s a most = some (r1, r2, r3, r4)) :
    Calls Tryd.prog 68 #[.pointer (some ⟨g, 0, none⟩), .int .i64 most] w fun e w' => ∃ v : Value, e = .returned (.tuple #[.string r1, errVal 100 v]) ∧ Kd.R (errKd 74) 102 w' w.heap.size (fun _ => True) v r2 ∧ RdAt w' g r3 r4 ∧ Below w0.heap.size w0 w' ∧ KeepBut w w' g none := by
  unfold strF at h
  split at h
  · rename_i hc
    obtain ⟨ha0, hal, hs⟩ := hc
    obtain ⟨a, rfl⟩ := Int.eq_ofNat_of_zero_le ha0
    rw [Int.toNat_natCast] at h
    have hal' : a ≤ s.size := by omega
    have h := Option.some.inj h
    have hmf : ∀ (fn : Fn) (first cap : Array Value) (w : World), (Instr.makeFunc fn first cap).run Tryd.prog w = .ok (.func fn first cap) w := fun _ _ _ _ => rfl
    have hgl : g < w.heap.size := (Array.getElem?_eq_some_iff.1 hR).1
    have hsz : (((w.alloc (.cells #[.pointer (some ⟨g, 0, none⟩)] 47)).alloc (.cells #[.int .i64 most] 3)).alloc (.cells #[.string ⟨#[]⟩] 9)).heap.size = w.heap.size + 3 := by simp
    have hb3 : Below w.heap.size w (((w.alloc (.cells #[.pointer (some ⟨g, 0, none⟩)] 47)).alloc (.cells #[.int .i64 most] 3)).alloc (.cells #[.string ⟨#[]⟩] 9)) := by
      repeat' (first | exact Below.refl _ _ | refine Below.alloc ?_ (by first | exact Nat.le_refl _ | (simp only [World.size_alloc]; omega)) _)
    have x0 : Boxed (((w.alloc (.cells #[.pointer (some ⟨g, 0, none⟩)] 47)).alloc (.cells #[.int .i64 most] 3)).alloc (.cells #[.string ⟨#[]⟩] 9)) w.heap.size 47 (.pointer (some ⟨g, 0, none⟩)) := by
      repeat' (first | exact boxed_at _ _ (by first | (simp only [World.size_alloc]; done) | (simp only [World.size_alloc]; omega) | rfl) _ _ | refine Boxed.alloc ?_ _)
    have x1 : Boxed (((w.alloc (.cells #[.pointer (some ⟨g, 0, none⟩)] 47)).alloc (.cells #[.int .i64 most] 3)).alloc (.cells #[.string ⟨#[]⟩] 9)) (w.heap.size + 1) 3 (.int .i64 most) := by
      repeat' (first | exact boxed_at _ _ (by first | (simp only [World.size_alloc]; done) | (simp only [World.size_alloc]; omega) | rfl) _ _ | refine Boxed.alloc ?_ _)
    have x2 : Boxed (((w.alloc (.cells #[.pointer (some ⟨g, 0, none⟩)] 47)).alloc (.cells #[.int .i64 most] 3)).alloc (.cells #[.string ⟨#[]⟩] 9)) (w.heap.size + 1 + 1) 9 (.string ⟨#[]⟩) := by
      repeat' (first | exact boxed_at _ _ (by first | (simp only [World.size_alloc]; done) | (simp only [World.size_alloc]; omega) | rfl) _ _ | refine Boxed.alloc ?_ _)
    have hR3 := hR.below hb3
    have hBs := hB.size
    have hB3 : Below w0.heap.size w0 (((w.alloc (.cells #[.pointer (some ⟨g, 0, none⟩)] 47)).alloc (.cells #[.int .i64 most] 3)).alloc (.cells #[.string ⟨#[]⟩] 9)) := hB.trans (hb3.mono hBs)
    have ef : ∀ args w, (callFunc 98 args).run Tryd.prog w = .ok (.enter 98 args) w := fun _ _ => by kernel_rfl
    -- the end of a number that is read
    have good : ∀ (n : Nat) (c : Nat), numL 9 0 0 (s.data.toList.drop a) = some ((n : Int), c) → (n : Int) ≤ most → a + c + n ≤ s.size → Calls Tryd.prog 68 #[.pointer (some ⟨g, 0, none⟩), .int .i64 most] w fun e w' => e = .returned (.tuple #[.string (s.extract (a + c) (a + c + n)), .nilIface]) ∧ RdAt w' g s ((a + c + n : Nat) : Int) ∧ Below w0.heap.size w0 w' ∧ KeepBut w w' g none := by
      intro n c hn hle hfit
      have HS := safe_ok 98 #[.pointer (some ⟨w.heap.size, 0, none⟩), .pointer (some ⟨w.heap.size + 1, 0, none⟩), .pointer (some ⟨w.heap.size + 1 + 1, 0, none⟩)] g (w.heap.size + 1 + 1) 9 s a ((a + c + n : Nat) : Int) (.string (s.extract (a + c) (a + c + n))) w0 _ hR3 hg (by omega) (by rw [hsz]; omega) (by omega) hB3 ef (fun W hW => str1_ok s a g c w.heap.size (w.heap.size + 1) (w.heap.size + 1 + 1) n most (.string ⟨#[]⟩) w0 W hs hal' (hR3.below hW) hg (hB3.trans (hW.mono (by rw [hsz]; omega))) hn hle hfit (boxed_below x0 hW) (boxed_below x1 hW) (boxed_below x2 hW) (by omega) (by omega) (by omega) (by omega) (by omega))
      have HZ := Aside0.mk hsz
      have HB3 := Aside0.mk hb3
      clear hR hB hR3 hB3 x0 x1 x2 hsz hb3 h hn ef
      go_enter Tryd.func68, Tryd.ntmps68
      go_wp2_with fail
      refine HS.mono ?_
      have hz := HZ.out
      have hb3 := HB3.out
      clear HS HZ HB3
      generalize (((w.alloc (.cells #[.pointer (some ⟨g, 0, none⟩)] 47)).alloc (.cells #[.int .i64 most] 3)).alloc (.cells #[.string ⟨#[]⟩] 9)) = W3 at hz hb3 ⊢
      rintro e w1 ⟨rfl, hk, hv, hr⟩
      have c2 : w1.cell? ⟨w.heap.size + 1 + 1, 0, none⟩ = some (.string (s.extract (a + c) (a + c + n))) := Boxed.cell hv
      have HK := Aside0.mk hk
      have HR := Aside0.mk hr
      have HZ := Aside0.mk hz
      have HB3 := Aside0.mk hb3
      clear hk hv hr hz hb3
      go_wp2
      go_ret2
      have hz := HZ.out
      have := HK.out.size
      exact ⟨rfl, HR.out, HK.out.below, by omega, fun k q1 q2 _ => (HK.out.keep k (by omega) q2 (by omega)).trans (HB3.out.block k q1)⟩
    have bad : (∀ (n : Nat) (c : Nat), numL 9 0 0 (s.data.toList.drop a) = some ((n : Int), c) → ¬ ((n : Int) ≤ most ∧ a + c + n ≤ s.size)) → Calls Tryd.prog 68 #[.pointer (some ⟨g, 0, none⟩), .int .i64 most] w fun e w' => ∃ F, e = .returned (.tuple #[.string ⟨#[]⟩, .iface 100 (.pointer (some ⟨F, 0, none⟩))]) ∧ w.heap.size ≤ F ∧ w'.heap[F]? = some (.cells #[.string ⟨#[114, 101, 97, 100]⟩, .string ⟨#[]⟩, .iface 74 (.int .i64 13)] 102 (0, 0)) ∧ RdAt w' g s (a : Int) ∧ Below w0.heap.size w0 w' ∧ KeepBut w w' g none := by
      intro hn
      have HS := safe_bad 98 #[.pointer (some ⟨w.heap.size, 0, none⟩), .pointer (some ⟨w.heap.size + 1, 0, none⟩), .pointer (some ⟨w.heap.size + 1 + 1, 0, none⟩)] g w.heap.size s a w0 _ hR3 hg (by omega) (by rw [hsz]; omega) (by omega) hB3 ef (fun W hW => str1_bad s a g w.heap.size (w.heap.size + 1) (w.heap.size + 1 + 1) w.heap.size most w0 W hs hal' (hR3.below hW) hg (hB3.trans (hW.mono (by rw [hsz]; omega))) hn (boxed_below x0 hW) (boxed_below x1 hW) (by omega) (by omega))
      have HZ := Aside0.mk hsz
      have HB3 := Aside0.mk hb3
      have HX2 := Aside0.mk x2
      clear hR hB hR3 hB3 x0 x1 x2 hsz hb3 h hn ef
      go_enter Tryd.func68, Tryd.ntmps68
      go_wp2_with fail
      refine HS.mono ?_
      have hz := HZ.out
      have hb3 := HB3.out
      have x2 := HX2.out
      clear HS HZ HB3 HX2
      generalize (((w.alloc (.cells #[.pointer (some ⟨g, 0, none⟩)] 47)).alloc (.cells #[.int .i64 most] 3)).alloc (.cells #[.string ⟨#[]⟩] 9)) = W3 at hz hb3 x2 ⊢
      rintro e w1 ⟨F, rfl, hk, hF1, hF2, hr⟩
      have c2 : w1.cell? ⟨w.heap.size + 1 + 1, 0, none⟩ = some (.string ⟨#[]⟩) := (show Boxed w1 (w.heap.size + 1 + 1) 9 (.string ⟨#[]⟩) from (hk.keep _ (by omega) (by omega) (by omega)).trans x2).cell
      have HK := Aside0.mk hk
      have HR := Aside0.mk hr
      have HZ := Aside0.mk hz
      have HB3 := Aside0.mk hb3
      have HF1 := Aside0.mk hF1
      have HF2 := Aside0.mk hF2
      clear hk hr hz hb3 x2 hF1 hF2
      go_wp2
      go_ret2
      have hz := HZ.out
      have hf := HF1.out
      have := HK.out.size
      exact ⟨F, rfl, by omega, HF2.out, HR.out, HK.out.below, by omega, fun k q1 q2 _ => (HK.out.keep k (by omega) q2 (by omega)).trans (HB3.out.block k q1)⟩
    cases hn : numL 9 0 0 (s.data.toList.drop a) with
    | none =>
      rw [hn] at h
      simp only [Prod.mk.injEq] at h
      obtain ⟨rfl, rfl, rfl, rfl⟩ := h
      refine (bad (fun n c h1 => by rw [hn] at h1; cases h1)).mono ?_
      rintro e w' ⟨F, rfl, hF1, hF2, hr, hb, hk⟩
      exact ⟨.slice (some ⟨F, 0, none⟩) 1 1, rfl, fault_R hF2 hF1, hr, hb, hk⟩
    | some p =>
      obtain ⟨n, c⟩ := p
      obtain ⟨hn0, _, _⟩ := numL_nat 9 0 0 _ n c (by decide) (by decide) hn
      obtain ⟨n, rfl⟩ := Int.eq_ofNat_of_zero_le hn0
      rw [hn] at h
      dsimp only at h
      rw [Int.toNat_natCast] at h
      by_cases hle : (n : Int) ≤ most ∧ a + c + n ≤ s.size
      · rw [if_pos hle] at h
        simp only [Prod.mk.injEq] at h
        obtain ⟨rfl, rfl, rfl, rfl⟩ := h
        refine (good n c hn hle.1 hle.2).mono ?_
        rintro e w' ⟨rfl, hr, hb, hk⟩
        exact ⟨.slice none 0 0, rfl, Kd.R_nil _ _ _ _ _, hr, hb, hk⟩
      · rw [if_neg hle] at h
        simp only [Prod.mk.injEq] at h
        obtain ⟨rfl, rfl, rfl, rfl⟩ := h
        refine (bad (fun n' c' h1 => by
          rw [hn] at h1
          obtain ⟨e1, e2⟩ := Prod.mk.inj (Option.some.inj h1)
          have e1' : n = n' := by omega
          subst e1'; subst e2; exact hle)).mono ?_
        rintro e w' ⟨F, rfl, hF1, hF2, hr, hb, hk⟩
        exact ⟨.slice (some ⟨F, 0, none⟩) 1 1, rfl, fault_R hF2 hF1, hr, hb, hk⟩
  · cases h
end Go.Proofs.YtklcceccadlgkaaDoor.Print
