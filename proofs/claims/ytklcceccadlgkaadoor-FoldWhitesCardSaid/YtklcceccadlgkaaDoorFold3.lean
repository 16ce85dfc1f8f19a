/- fold.put, fold.one: an entry put into a tree, an entry laid over a tree: the walks. Go's own steps are told; no order of the list is asked. -/
import Derived.Test.YtklcceccadlgkaaDoorIns3
import Derived.StillTailTactics
import Derived.Deep.RegionHeld3
namespace Go.Proofs.YtklcceccadlgkaaDoor.Print
open Go Go.RowKit Go.Proofs.YtklcceccadlgkaaDoorW.PrintWords Go.Proofs.YtklcceccadlgkaaDoorW.PrintLast Go.Proofs.YtklcceccadlgkaaDoorW.PrintMore
set_option linter.unusedVariables false
set_option linter.unusedSimpArgs false
theorem cb_lt : ∀ a b : List UInt8, (Lib.compareBytes a b < 0) ↔ Op.bytesLess a b = true
  | [], [] => by simp [Lib.compareBytes, Op.bytesLess]
  | [], y :: b => by simp [Lib.compareBytes, Op.bytesLess]
  | x :: a, [] => by simp [Lib.compareBytes, Op.bytesLess]
  | x :: a, y :: b => by
    have ih := cb_lt a b
    simp only [Lib.compareBytes, Op.bytesLess]
    by_cases h : x < y
    · simp [h]
    · by_cases h2 : y < x
      · have : ¬ x = y := fun e => by subst e; exact UInt8.lt_irrefl _ h2
        simp [h, h2, this]
      · have : x = y := UInt8.le_antisymm (UInt8.not_lt.1 h2) (UInt8.not_lt.1 h)
        subst this
        simp [h, ih]
theorem cb_cases (a b : List UInt8) : Lib.compareBytes a b = if Op.bytesLess a b then -1 else if Op.bytesLess b a then 1 else 0 := by
  have h1 := cb_lt a b
  have h2 := cb_lt b a
  have hr : ∀ a b : List UInt8, (Lib.compareBytes a b = -1 ∧ Lib.compareBytes b a = 1) ∨ (Lib.compareBytes a b = 1 ∧ Lib.compareBytes b a = -1) ∨ (Lib.compareBytes a b = 0 ∧ Lib.compareBytes b a = 0) := by
    intro a
    induction a with
    | nil => intro b; cases b <;> simp [Lib.compareBytes]
    | cons x a ih =>
      intro b
      cases b with
      | nil => simp [Lib.compareBytes]
      | cons y b =>
        simp only [Lib.compareBytes]
        by_cases h : x < y
        · have : ¬ y < x := fun h2 => UInt8.lt_irrefl _ (UInt8.lt_trans h h2)
          simp [h, this]
        · by_cases h2 : y < x
          · simp [h, h2]
          · simp [h, h2]; exact ih b
  rcases hr a b with ⟨e1, e2⟩ | ⟨e1, e2⟩ | ⟨e1, e2⟩
  · rw [if_pos (h1.1 (by omega)), e1]
  · rw [if_neg (fun h => by have := h1.2 h; omega), if_pos (h2.1 (by omega)), e1]
  · rw [if_neg (fun h => by have := h1.2 h; omega), if_neg (fun h => by have := h2.2 h; omega), e1]
set_option maxHeartbeats 4000000 in
theorem less3 (a b : ByteArray) (k l : Int) (c d : ByteArray) (w : World) :
    Calls Tryd.prog 27 #[.agg #[.string a, .int .i64 k, .string c], .agg #[.string b, .int .i64 l, .string d]] w fun e w' => e = .returned (.bool (Op.bytesLess a.data.toList b.data.toList)) ∧ Below w.heap.size w w' := by
  have HB : Aside0 (Below w.heap.size w ((w.alloc (.cells #[.string a, .int .i64 k, .string c] 23)).alloc (.cells #[.string b, .int .i64 l, .string d] 23))) := ⟨((Below.refl _ _).alloc (Nat.le_refl _) _).alloc (by simp) _⟩
  go_enter Tryd.func27, Tryd.ntmps27
  go_wp2
  go_ret
  exact ⟨by rw [← Lib.toList_data, ← Lib.toList_data]; rfl, HB.out⟩
theorem boxes2 {W W' : World} {a b c x y z : Value} {t u : TypeId} (hb : Below ((W.alloc (.cells #[a, b, c] t)).alloc (.cells #[x, y, z] u)).heap.size ((W.alloc (.cells #[a, b, c] t)).alloc (.cells #[x, y, z] u)) W') :
    (W'.cell? ⟨W.heap.size, 0, none⟩ = some a ∧ W'.cell? ⟨W.heap.size, 1, none⟩ = some b ∧ W'.cell? ⟨W.heap.size, 2, none⟩ = some c) ∧ W'.cell? ⟨W.heap.size + 1, 0, none⟩ = some x ∧ W'.cell? ⟨W.heap.size + 1, 1, none⟩ = some y ∧ W'.cell? ⟨W.heap.size + 1, 2, none⟩ = some z := by
  refine ⟨⟨?_, ?_, ?_⟩, ?_, ?_, ?_⟩
  · exact (hb.cell (p := ⟨W.heap.size, 0, none⟩) (by simp; omega)).trans (by simp)
  · exact (hb.cell (p := ⟨W.heap.size, 1, none⟩) (by simp; omega)).trans (by simp)
  · exact (hb.cell (p := ⟨W.heap.size, 2, none⟩) (by simp; omega)).trans (by simp)
  · exact (hb.cell (p := ⟨W.heap.size + 1, 0, none⟩) (by simp)).trans (by simp)
  · exact (hb.cell (p := ⟨W.heap.size + 1, 1, none⟩) (by simp)).trans (by simp)
  · exact (hb.cell (p := ⟨W.heap.size + 1, 2, none⟩) (by simp)).trans (by simp)
set_option maxHeartbeats 8000000 in
theorem put1_any (a b : ByteArray) (k l : Int) (c d : ByteArray) (w : World) :
    Calls Tryd.prog 124 #[.agg #[.string a, .int .i64 k, .string c], .agg #[.string b, .int .i64 l, .string d]] w fun e w' => e = .returned (.int .i64 (Lib.compareBytes a.data.toList b.data.toList)) ∧ Below w.heap.size w w' := by
  have hb0 : Below w.heap.size w ((w.alloc (.cells #[.string a, .int .i64 k, .string c] 23)).alloc (.cells #[.string b, .int .i64 l, .string d] 23)) := ((Below.refl _ _).alloc (Nat.le_refl _) _).alloc (by simp) _
  have HB := Aside0.mk hb0
  have h1 := less3 a b k l c d
  have h2 := less3 b a l k d c
  rw [cb_cases]
  clear hb0
  cases e1 : Op.bytesLess a.data.toList b.data.toList with
  | true =>
    rw [e1] at h1
    go_enter Tryd.func124, Tryd.ntmps124
    go_wp2_with (first | (go_at_call 27; refine (h1 _).mono ?_; rintro e w' ⟨rfl, hb'⟩))
    go_ret
    exact ⟨rfl, HB.out.trans (hb'.mono (by simp; omega))⟩
  | false =>
    rw [e1] at h1
    cases e2 : Op.bytesLess b.data.toList a.data.toList with
    | true =>
      rw [e2] at h2
      go_enter Tryd.func124, Tryd.ntmps124
      go_wp2_with (go_at_call 27; refine hold ?_)
      unfold Hold
      refine (h1 _).mono ?_
      rintro e w' ⟨rfl, hb'⟩
      obtain ⟨⟨b0, b1, b2⟩, b3, b4, b5⟩ := boxes2 hb'
      have HB1 := Aside0.mk (HB.out.trans (hb'.mono (by simp; omega)))
      clear hb'
      go_wp2_with (go_at_call 27; refine hold ?_)
      unfold Hold
      refine (h2 _).mono ?_
      rintro e w2 ⟨rfl, hb2⟩
      have HB2 := Aside0.mk (HB1.out.trans (hb2.mono HB1.out.size))
      clear hb2
      go_wp2
      go_ret
      exact ⟨rfl, HB2.out⟩
    | false =>
      rw [e2] at h2
      go_enter Tryd.func124, Tryd.ntmps124
      go_wp2_with (go_at_call 27; refine hold ?_)
      unfold Hold
      refine (h1 _).mono ?_
      rintro e w' ⟨rfl, hb'⟩
      obtain ⟨⟨b0, b1, b2⟩, b3, b4, b5⟩ := boxes2 hb'
      have HB1 := Aside0.mk (HB.out.trans (hb'.mono (by simp; omega)))
      clear hb'
      go_wp2_with (go_at_call 27; refine hold ?_)
      unfold Hold
      refine (h2 _).mono ?_
      rintro e w2 ⟨rfl, hb2⟩
      have HB2 := Aside0.mk (HB1.out.trans (hb2.mono HB1.out.size))
      clear hb2
      go_wp2
      go_ret
      exact ⟨rfl, HB2.out⟩
theorem heldNext {W0 W W' : World} {a1 a2 a3 a4 a5 a6 : Addr} {v1 v2 v3 v4 v5 v6 : Value} (hb : Below W.heap.size W W') (h0 : Below W0.heap.size W0 W) (h1 : W.cell? a1 = some v1) (h2 : W.cell? a2 = some v2) (h3 : W.cell? a3 = some v3) (h4 : W.cell? a4 = some v4) (h5 : W.cell? a5 = some v5) (h6 : W.cell? a6 = some v6) :
    Below W0.heap.size W0 W' ∧ W'.cell? a1 = some v1 ∧ W'.cell? a2 = some v2 ∧ W'.cell? a3 = some v3 ∧ W'.cell? a4 = some v4 ∧ W'.cell? a5 = some v5 ∧ W'.cell? a6 = some v6 :=
  ⟨h0.trans (hb.mono h0.size), pw_cell_below hb h1, pw_cell_below hb h2, pw_cell_below hb h3, pw_cell_below hb h4, pw_cell_below hb h5, pw_cell_below hb h6⟩
set_option maxHeartbeats 8000000 in
set_option maxRecDepth 100000 in
/-- Go's search among entries, by an entry. -/
theorem searchE_any (ad : Addr) (n c : Nat) (F : Nat → ByteArray) (K : Nat → Int) (D : Nat → ByteArray) (p d : ByteArray) (k : Int) (w : World) (hn : n < 4611686018427387904) (hR : RowAt w ad n F K D) :
    Calls Tryd.prog 123 #[.slice (some ad) n c, .agg #[.string p, .int .i64 k, .string d], .func (.func 124) #[] #[]] w fun e w' =>
      e = .returned (.tuple #[.int .i64 (bsF F p n 0 n : Nat), .bool (decide (bsF F p n 0 n < n) && decide (Lib.compareBytes (F (bsF F p n 0 n)).data.toList p.data.toList = 0))]) ∧ Below w.heap.size w w' := by
  have ef : ∀ args w, (callFunc 124 args).run Tryd.prog w = .ok (.enter 124 args) w := fun _ _ => by kernel_rfl
  have hb0 : Below w.heap.size w (w.alloc (.cells #[.string p, .int .i64 k, .string d] 23)) := (Below.refl _ _).alloc (Nat.le_refl _) _
  have HR := Aside0.mk (hR.below hb0)
  have HB := Aside0.mk hb0
  have HX : Aside0 (Blk (w.alloc (.cells #[.string p, .int .i64 k, .string d] 23)) w.heap.size 23 [.string p, .int .i64 k, .string d]) := ⟨Blk.new w _ _⟩
  have HN := Aside0.mk hn
  clear hR hb0
  generalize hres : bsF F p n 0 n = res
  have RES := Aside0.mk hres
  clear hres
  go_enter Tryd.func123, Tryd.ntmps123
  go_wp2
  obtain ⟨W0, HW0⟩ : ∃ W0, Aside0 (W0 = w.alloc (.cells #[.string p, .int .i64 k, .string d] 23)) := ⟨_, ⟨rfl⟩⟩
  rw [← HW0.out] at HR HB HX
  go_loopg [9, 10] n (fun kx s9 s10 wr => ∃ lo hi : Nat, s9 = .int .i64 lo ∧ s10 = .int .i64 hi ∧ lo ≤ hi ∧ hi ≤ n ∧ hi - lo ≤ kx ∧ Aside0 (Below W0.heap.size W0 wr) ∧ Aside0 (bsF F p (hi - lo) lo hi = res))
  case atStart => exact ⟨0, n, rfl, rfl, Nat.zero_le _, Nat.le_refl _, by omega, ⟨by rw [HW0.out]; exact Below.refl _ _⟩, RES⟩
  case round =>
    obtain ⟨lo, hi, rfl, rfl, hlh, hin, hg, HB1, RES1⟩ := hrel
    have r1 := HR.out.below HB1.out
    have x1 := HX.out.below HB1.out
    by_cases hlt : lo < hi
    · have cc0 := r1.c0 ((lo + hi) / 2) (by omega)
      have cc1 := r1.c1 ((lo + hi) / 2) (by omega)
      have cc2 := r1.c2 ((lo + hi) / 2) (by omega)
      have x0 := x1.cell (j := 0) rfl
      have x2 := x1.cell (j := 1) rfl
      have x3 := x1.cell (j := 2) rfl
      have R1 := Aside0.mk r1
      clear r1 x1
      go_wp2
      have m1 : (0 : Int) ≤ ((lo : Int) + (hi : Int)) / 2 := by omega
      have m2 : ((lo : Int) + (hi : Int)) / 2 < (n : Int) := by omega
      have m3 : (((lo : Int) + (hi : Int)) / 2).toNat = (lo + hi) / 2 := by omega
      go_still_tail 6, (by kernel_rfl)
      clear m1 m2 m3
      have HBB : Aside0 (∀ W2, Below wr.drew.heap.size wr.drew W2 → Below W0.heap.size W0 W2) := ⟨fun W2 h => (below_drew HB1.out).trans (h.mono HB1.out.size)⟩
      by_cases hyx : Lib.compareBytes (F ((lo + hi) / 2)).data.toList p.data.toList < 0
      · have hyb := decide_eq_true hyx
        change wpList _ _ _ _ _ wr.drew
        go_wp2_with (go_at_fn 124; refine hold ?_)
        unfold Hold
        refine (put1_any _ _ _ _ _ _ _).mono ?_
        rintro e w' ⟨rfl, hb⟩
        go_wp2
        go_roundg (hi - ((lo + hi) / 2 + 1))
        case measure => omega
        case rel =>
          exact ⟨(lo + hi) / 2 + 1, hi, by first | rfl | rw [show ((lo : Int) + (hi : Int)) / 2 + 1 = (((lo + hi) / 2 + 1 : Nat) : Int) by omega], rfl, by omega, hin, Nat.le_refl _, ⟨HBB.out _ hb⟩, ⟨by have := RES1.out; rw [bsF_step F p lo hi hlt, if_pos hyx] at this; exact this⟩⟩
      · have hyb := decide_eq_false hyx
        change wpList _ _ _ _ _ wr.drew
        go_wp2_with (go_at_fn 124; refine hold ?_)
        unfold Hold
        refine (put1_any _ _ _ _ _ _ _).mono ?_
        rintro e w' ⟨rfl, hb⟩
        go_wp2
        go_roundg ((lo + hi) / 2 - lo)
        case measure => omega
        case rel =>
          exact ⟨lo, (lo + hi) / 2, rfl, by first | rfl | rw [show ((lo : Int) + (hi : Int)) / 2 = (((lo + hi) / 2 : Nat) : Int) by omega], by omega, by omega, Nat.le_refl _, ⟨HBB.out _ hb⟩, ⟨by have := RES1.out; rw [bsF_step F p lo hi hlt, if_neg (Int.not_lt.2 (by first | exact hyx | omega))] at this; exact this⟩⟩
    · obtain rfl : hi = lo := by omega
      have hres : hi = res := by have := RES1.out; rw [bsF_stop F p _ hi hi hlt] at this; exact this
      subst hres
      have HBB : Aside0 (∀ W2, Below wr.drew.heap.size wr.drew W2 → Below w.heap.size w W2) := ⟨fun W2 h => by
        have h0 : Below W0.heap.size W0 W2 := (below_drew HB1.out).trans (h.mono HB1.out.size)
        exact HB.out.trans (h0.mono HB.out.size)⟩
      by_cases hn2 : hi < n
      · have cc0 := r1.c0 hi hn2
        have cc1 := r1.c1 hi hn2
        have cc2 := r1.c2 hi hn2
        have x0 := x1.cell (j := 0) rfl
        have x2 := x1.cell (j := 1) rfl
        have x3 := x1.cell (j := 2) rfl
        have hd1 : decide ((hi : Int) < (n : Int)) = true := by simpa using hn2
        clear r1 x1
        go_wp2
        have hBW : Below W0.heap.size W0 wr.drew := below_drew1 HB1.out
        have hin0 : (0 : Int) ≤ (hi : Int) := by omega
        have hin1 : (hi : Int) < (n : Int) := by omega
        go_region_held3 (fun W => Below W0.heap.size W0 W ∧ W.cell? (ad.add (hi * 3)) = some (.string (F hi)) ∧ W.cell? ⟨(ad.add (hi * 3)).block, (ad.add (hi * 3)).off + 1, none⟩ = some (.int .i64 (K hi)) ∧ W.cell? ⟨(ad.add (hi * 3)).block, (ad.add (hi * 3)).off + 2, none⟩ = some (.string (D hi)) ∧ W.cell? ⟨w.heap.size, 0, none⟩ = some (.string p) ∧ W.cell? ⟨w.heap.size, 1, none⟩ = some (.int .i64 k) ∧ W.cell? ⟨w.heap.size, 2, none⟩ = some (.string d)) (first | go_keep | exact heldNext (by assumption) (by assumption) (by assumption) (by assumption) (by assumption) (by assumption) (by assumption) (by assumption))
          (first | (go_at_fn 124; refine (put1_any _ _ _ _ _ _ _).mono ?_; rintro e w' ⟨rfl, hb⟩))
        have HF : Aside0 (Below w.heap.size w w') := ⟨HBB.out _ hb⟩
        clear hb
        go_wp2
        go_ret2
        exact ⟨by simp [hn2]; rfl, HF.out⟩
      · clear r1 x1
        have hd1 : decide ((hi : Int) < (n : Int)) = false := by simpa using hn2
        go_wp2
        go_quiet (fail)
        go_wp2
        go_ret2
        exact ⟨by simp [hn2], HB.out.trans ((pw_below_drewN HB1.out _).mono HB.out.size)⟩
set_option maxHeartbeats 4000000 in
set_option maxRecDepth 100000 in
theorem searchE_zero (A : Option Addr) (c : Nat) (v0 : Value) (p d : ByteArray) (k : Int) (w : World) :
    Calls Tryd.prog 123 #[.slice A 0 c, .agg #[.string p, .int .i64 k, .string d], v0] w fun e w' =>
      e = .returned (.tuple #[.int .i64 0, .bool false]) ∧ Below w.heap.size w w' := by
  have HB := Aside0.mk (show Below w.heap.size w (w.alloc (.cells #[.string p, .int .i64 k, .string d] 23)) from (Below.refl _ _).alloc (Nat.le_refl _) _)
  go_enter Tryd.func123, Tryd.ntmps123
  go_wp2
  refine wp_loop_rounds 1 ?_
  rw [rounds_succ]
  go_wp2
  go_quiet (fail)
  go_wp2
  go_ret2
  exact ⟨rfl, pw_below_drewN HB.out _⟩
section
variable {α : Type} (P : α → ByteArray) (K : α → Int) (D : α → ByteArray)
theorem R_raw3 {w : World} {base : Nat} {ok : Nat → Prop} {v : Value} {xs : List α} (h : Own3 P K D w base ok v xs) :
    (v = .slice none 0 0 ∧ xs = []) ∨ ∃ (g cap : Nat) (cur : List Value), v = .slice (some ⟨g, 0, none⟩) xs.length cap ∧ base ≤ g ∧ ok g ∧ Blk w g 23 cur ∧ xs.length ≤ cap ∧ cap ≤ 9223372036854775807 ∧ cur.length = cap * 3 ∧ cur.take (xs.length * 3) = c3 P K D xs := R_raw (flat3 P K D) h
def pathAt (xs : List α) (i : Nat) : ByteArray := ((xs[i]?).map P).getD ⟨#[]⟩
def kindAt (xs : List α) (i : Nat) : Int := ((xs[i]?).map K).getD 0
theorem rowAt_of {w : World} {ad : Addr} {xs : List α} (h : At3 P K D w ad xs) (hlt : ad.block < w.heap.size) : RowAt w ad xs.length (pathAt P xs) (kindAt K xs) (pathAt D xs) := by
  refine ⟨hlt, fun i hi => ?_, fun i hi => ?_, fun i hi => ?_⟩
  all_goals
    have hx : xs[i]? = some xs[i] := List.getElem?_eq_getElem hi
    obtain ⟨h0, h1, h2⟩ := At3.get P K D h hx
    simp only [pathAt, kindAt, hx, Option.map_some, Option.getD_some]
    assumption
theorem InsEnd.lift {w0 w w3 : World} {S : Nat → Prop} {ys : List α} {e : Ending} {w' : World} (hb : Below w.heap.size w w3) (h : InsEnd P K D w0 w3 S ys e w') : InsEnd P K D w0 w S ys e w' := by
  obtain ⟨v, rfl, h1, h2, h3⟩ := h
  exact ⟨v, rfl, Kd.R_mono h1 (fun k hk => hk.imp id (fun h => Nat.le_trans hb.size h)), h2, Nat.le_trans hb.size h3.1, fun k hk hn => (h3.2 k (Nat.lt_of_lt_of_le hk hb.size) hn).trans (hb.block k hk)⟩
theorem InsEnd.monoS {w0 w : World} {S S' : Nat → Prop} {ys : List α} {e : Ending} {w' : World} (hs : ∀ k, S' k → S k) (h : InsEnd P K D w0 w S' ys e w') : InsEnd P K D w0 w S ys e w' := by
  obtain ⟨v, rfl, h1, h2, h3⟩ := h
  exact ⟨v, rfl, Kd.R_mono h1 (fun k hk => hk.imp (hs k) id), h2, h3.1, fun k hk hn => h3.2 k hk (fun h => hn (hs k h))⟩
/-- Go's steps: where the search says it stands, it is replaced; else it is put there. -/
def putG (xs : List α) (x : α) : List α :=
  if decide (bsF (pathAt P xs) (P x) xs.length 0 xs.length < xs.length) && decide (Lib.compareBytes (pathAt P xs (bsF (pathAt P xs) (P x) xs.length 0 xs.length)).data.toList (P x).data.toList = 0)
  then xs.set (bsF (pathAt P xs) (P x) xs.length 0 xs.length) x
  else xs.take (bsF (pathAt P xs) (P x) xs.length 0 xs.length) ++ x :: xs.drop (bsF (pathAt P xs) (P x) xs.length 0 xs.length)
theorem c3_set (xs : List α) (i : Nat) (x : α) (hi : i < xs.length) : c3 P K D (xs.set i x) = (c3 P K D xs).take (i * 3) ++ e3 P K D x ++ (c3 P K D xs).drop ((i + 1) * 3) := by
  rw [c3_take, c3_drop, List.set_eq_take_append_cons_drop, if_pos hi, c3_append, c3_cons, List.append_assoc]
set_option maxHeartbeats 16000000 in
set_option maxRecDepth 100000 in
theorem foldPut3 (S : Nat → Prop) (v : Value) (xs : List α) (x : α) (w0 w : World) (hB : Below w0.heap.size w0 w) (ho : Own3 P K D w w0.heap.size S v xs) (hl : (xs.length + 1) * 40 ≤ 140737488355328) :
    Calls Tryd.prog 103 #[v, .agg #[.string (P x), .int .i64 (K x), .string (D x)]] w (InsEnd P K D w0 w S (putG P xs x)) := by
  have hb0 : Below w.heap.size w (w.alloc (.cells #[.string (P x), .int .i64 (K x), .string (D x)] 23)) := (Below.refl _ _).alloc (Nat.le_refl _) _
  have hX : Blk (w.alloc (.cells #[.string (P x), .int .i64 (K x), .string (D x)] 23)) w.heap.size 23 [.string (P x), .int .i64 (K x), .string (D x)] := Blk.new w _ _
  obtain ⟨res, hres⟩ : ∃ res, res = bsF (pathAt P xs) (P x) xs.length 0 xs.length := ⟨_, rfl⟩
  obtain ⟨hit, hhit⟩ : ∃ hit, hit = (decide (res < xs.length) && decide (Lib.compareBytes (pathAt P xs res).data.toList (P x).data.toList = 0)) := ⟨_, rfl⟩
  have hle : res ≤ xs.length := by rw [hres]; exact (bsF_le _ _ _ _ _ (Nat.zero_le _)).2
  have hput : putG P xs x = if hit = true then xs.set res x else xs.take res ++ x :: xs.drop res := by unfold putG; rw [← hres, ← hhit]
  -- the search
  have hsearch : Calls Tryd.prog 123 #[v, .agg #[.string (P x), .int .i64 (K x), .string (D x)], .func (.func 124) #[] #[]] (w.alloc (.cells #[.string (P x), .int .i64 (K x), .string (D x)] 23)) fun e w' =>
      e = .returned (.tuple #[.int .i64 (res : Nat), .bool hit]) ∧ Below (w.alloc (.cells #[.string (P x), .int .i64 (K x), .string (D x)] 23)).heap.size (w.alloc (.cells #[.string (P x), .int .i64 (K x), .string (D x)] 23)) w' := by
    rcases R_raw3 P K D ho with ⟨rfl, rfl⟩ | ⟨g, cap, cur, rfl, hge, hok, hg, hnc, hcm, hcs, ht⟩
    · have e1 : res = 0 := by simpa using hle
      have e2 : hit = false := by rw [hhit, e1]; rfl
      rw [e1, e2]
      exact searchE_zero none 0 _ (P x) (D x) (K x) _
    · rw [hhit, hres]
      have hg1 := hg.below hb0
      exact searchE_any ⟨g, 0, none⟩ xs.length cap (pathAt P xs) (kindAt K xs) (pathAt D xs) (P x) (D x) (K x) _ (by omega) (rowAt_of P K D (hg1.at3 P K D ht) hg1.lt)
  have HSE := Aside0.mk hsearch
  have HX := Aside0.mk hX
  have HO := Aside0.mk ho
  have HB := Aside0.mk hB
  have HB0 := Aside0.mk hb0
  have HL := Aside0.mk hl
  have HLE := Aside0.mk hle
  have HHIT := Aside0.mk hhit
  rw [hput]
  clear hsearch hX ho hB hb0 hl hle hput hhit hres
  cases hit with
  | false =>
    rw [if_neg (by simp)]
    obtain ⟨A, c, rfl⟩ := Kd.R_slice HO.out
    go_enter Tryd.func103, Tryd.ntmps103
    go_wp2_with (go_at_call 123; refine hold ?_)
    unfold Hold
    refine HSE.out.mono ?_
    rintro e w2 ⟨rfl, hb2⟩
    obtain ⟨b0, b1, b2⟩ := box3 hb2
    have hbw : Below w.heap.size w w2 := HB0.out.trans (hb2.mono HB0.out.size)
    have HBW := Aside0.mk hbw
    clear hb2 hbw
    go_wp2_with (go_at_call 125; refine hold ?_)
    unfold Hold
    have hbl : Below w.heap.size w (w2.alloc (.cells #[.string (P x), .int .i64 (K x), .string (D x)] 23)) := HBW.out.alloc HBW.out.size _
    have hi3 := insert3 P K D (fun k => S k ∧ k < w.heap.size) (.slice A xs.length c) xs res HLE.out x w2.heap.size 1 w0 _ (HB.out.trans (hbl.mono HB.out.size))
      (Kd.R_below (Kd.R_mono (Kd.R_bound HO.out) (fun k hk => ⟨hk.1, hk.2.2.1⟩)) hbl) (Blk.new w2 _ _) (fun h => by have := HBW.out.size; omega) HL.out
    refine hi3.mono ?_
    rintro e w3 h3
    have HE := Aside0.mk (InsEnd.monoS P K D (fun k hk => hk.1) (InsEnd.lift P K D hbl h3) : InsEnd P K D w0 w S _ e w3)
    obtain ⟨v3, rfl, _⟩ := h3
    clear hi3 hbl
    go_wp2
    go_ret
    exact HE.out
  | true =>
    rw [if_pos rfl]
    have hlt : res < xs.length := by
      have := HHIT.out
      rw [eq_comm, Bool.and_eq_true] at this
      exact of_decide_eq_true this.1
    rcases R_raw3 P K D HO.out with ⟨rfl, rfl⟩ | ⟨g, cap, cur, rfl, hge, hok, hg, hnc, hcm, hcs, ht⟩
    · simp at hlt
    · have HG := Aside0.mk hg
      have HC := Aside0.mk hcs
      have HT := Aside0.mk ht
      have HS := Aside0.mk hok
      clear hg hcs ht hok
      have hi0 : (0 : Int) ≤ (res : Int) := by omega
      have hi1 : (res : Int) < (xs.length : Int) := by omega
      go_enter Tryd.func103, Tryd.ntmps103
      go_wp2_with (go_at_call 123; refine hold ?_)
      unfold Hold
      refine HSE.out.mono ?_
      rintro e w2 ⟨rfl, hb2⟩
      obtain ⟨b0, b1, b2⟩ := box3 hb2
      have hbw : Below w.heap.size w w2 := HB0.out.trans (hb2.mono HB0.out.size)
      have HBW := Aside0.mk hbw
      clear hb2 hbw
      go_wp2_with (first
        | ((with_reducible refine gate_st3 (x := .tmp 17) (y := .tmp 16) rfl ?_); refine hold ?_))
      unfold Hold
      refine wp_store_blk rfl 23 (.tmp 17) (.tmp 16) rfl 3 Tryd.size3 g (res * 3) rfl _ rfl (e3 P K D x) rfl rfl cur 23 (HG.out.below HBW.out) ?hf (by intro u hu; simp [e3] at hu; rcases hu with rfl | rfl | rfl <;> rfl) (B := w0.heap.size) (w0 := w0) (HB.out.trans (HBW.out.mono HB.out.size)) hge ?_
      case hf => rw [HC.out]; simp [e3]; omega
      intro w3 hg3 hk3 hb3
      have hsl : res * 3 + (e3 P K D x).length ≤ cur.length := by rw [HC.out]; simp [e3]; omega
      have HE := Aside0.mk (⟨_, rfl, R_shut (flat3 P K D) hge (.inl HS.out) hg3.out (by rw [List.length_set]) (by rw [List.length_set]; exact hnc) hcm (by rw [length_splice _ _ _ hsl]; exact HC.out) (by
        rw [List.length_set, sz3]
        have e1 : xs.length * 3 = (res * 3 + (e3 P K D x).length) + (xs.length - (res + 1)) * 3 := by simp [e3]; omega
        have e2 : res * 3 + (e3 P K D x).length = (res + 1) * 3 := by simp [e3]; omega
        show List.take _ _ = c3 P K D (xs.set res x)
        rw [c3_set P K D xs res x hlt, ← HT.out, e1, List.take_add, splice_take2 hsl, splice_drop hsl, List.take_take, Nat.min_eq_left (by omega), e2, List.drop_take]
        congr 2
        omega), hb3.out, ((KB.below HBW.out g).trans hk3.out).kept HS.out⟩ : InsEnd P K D w0 w S (xs.set res x) (.returned (.slice (some ⟨g, 0, none⟩) xs.length cap)) w3)
      clear hg3 hk3 hb3
      go_wp2
      go_ret
      exact HE.out
theorem Blk.kept {w W : World} {g e : Nat} {cur : List Value} {S : Nat → Prop} (h : Blk w g e cur) (hk : Kept w W S) (hn : ¬ S g) : Blk W g e cur := (hk.2 g h.lt hn).trans h
theorem InsEnd.after {w0 w w3 : World} {S S3 : Nat → Prop} {ys : List α} {e : Ending} {w' : World} (hk : Kept w w3 S) (hs : ∀ k, S3 k → S k ∨ w.heap.size ≤ k) (h : InsEnd P K D w0 w3 S3 ys e w') : InsEnd P K D w0 w S ys e w' := by
  obtain ⟨v, rfl, h1, h2, h3⟩ := h
  refine ⟨v, rfl, Kd.R_mono h1 (fun k h => ?_), h2, Nat.le_trans hk.1 h3.1, fun k hlt hn => ?_⟩
  · rcases h with h | h
    · exact hs k h
    · exact .inr (Nat.le_trans hk.1 h)
  · rw [h3.2 k (Nat.lt_of_lt_of_le hlt hk.1) (fun h => (hs k h).elim hn (fun h => by omega)), hk.2 k hlt hn]
set_option maxHeartbeats 4000000 in
theorem indexFunc_nil (v : Value) (w : World) :
    Calls Tryd.prog 122 #[.slice none 0 0, v] w fun e w' => e = .returned (.int .i64 (-1)) ∧ w' = w := by
  go_enter Tryd.func122, Tryd.ntmps122
  go_wp2
  refine wp_loop_rounds 1 ?_
  rw [rounds_succ]
  go_wp2
  go_ret
  exact ⟨rfl, rfl⟩
set_option maxHeartbeats 4000000 in
/-- slices.DeleteFunc on a row of the call's own. -/
theorem deleteFunc3 (S : Nat → Prop) (v : Value) (xs : List α) (G : Nat) (caps : Array Value) (q : α → Bool) (w0 w : World) (eg : ∀ args w, (callFunc G args).run Tryd.prog w = .ok (.enter G args) w)
    (hB : Below w0.heap.size w0 w) (ho : Own3 P K D w w0.heap.size S v xs) (hn : xs.length < 4611686018427387904) (hq : ∀ W, Kept w W S → Gives P K D G caps q W xs) :
    Calls Tryd.prog 102 #[v, .func (.func G) #[] caps] w (InsEnd P K D w0 w S (xs.filter fun x => !q x)) := by
  rcases R_raw3 P K D ho with ⟨rfl, rfl⟩ | ⟨g, cap, cur, rfl, hge, hok, hg, hnc, hcm, hcs, ht⟩
  · have HE := Aside0.mk (⟨_, rfl, Kd.R_nil _ _ _ _ _, hB, Kept.refl _ _⟩ : InsEnd P K D w0 w S [] (.returned (.slice none 0 0)) w)
    have h1 := indexFunc_nil (.func (.func G) #[] caps) w
    clear hB ho hq
    rw [List.filter_nil]
    go_enter Tryd.func102, Tryd.ntmps102
    go_wp2_with (go_at_call 122; refine h1.mono ?_; rintro e w' ⟨rfl, rfl⟩)
    go_ret
    exact HE.out
  · have hl := List.length_filter_le (fun x => !q x) xs
    refine (deleteFunc_blk P K D g cap cur xs G caps q w0 w eg hB hge hg hnc hcm hn hcs ht (fun W hk => hq W (hk.kept hok))).mono ?_
    rintro e w' ⟨rfl, ⟨cur', h1, h2, h3⟩, h4, h5⟩
    exact ⟨_, rfl, R_shut (flat3 P K D) hge (.inl hok) h1 rfl (by omega) hcm h2 h3, h5, h4.kept hok⟩
section
variable (UF : ByteArray → ByteArray → Option Bool)
/-- What is asked of path.Under. -/
def UnderOk : Prop := ∀ (a b : ByteArray) (r : Bool) (w : World), UF a b = some r → Calls Tryd.prog 29 #[.string a, .string b] w fun e w' => e = .returned (.bool r) ∧ Below w.heap.size w w'
def goesQ (a : ByteArray) (x : α) : Bool := ((P x).toList == a.toList) || (UF (P x) a).getD false
def hereQ (a : ByteArray) (x : α) : Bool := ((P x).toList == a.toList) && (K x == 1)
set_option maxHeartbeats 4000000 in
theorem goes1_any (hU : UnderOk UF) (x : α) (a d : ByteArray) (k : Int) (b : Nat) (w : World) (hb : Blk w b 23 [.string a, .int .i64 k, .string d]) (hx : (P x).toList ≠ a.toList → (UF (P x) a).isSome = true) :
    Calls Tryd.prog 100 #[.agg #[.string (P x), .int .i64 (K x), .string (D x)], .pointer (some ⟨b, 0, none⟩)] w fun e w' => e = .returned (.bool (goesQ P UF a x)) ∧ Below w.heap.size w w' := by
  have hb0 : Below w.heap.size w (w.alloc (.cells #[.string (P x), .int .i64 (K x), .string (D x)] 23)) := (Below.refl _ _).alloc (Nat.le_refl _) _
  have x0 := (hb.below hb0).cell (j := 0) rfl
  have HB := Aside0.mk hb0
  clear hb hb0
  unfold goesQ
  cases he : ((P x).toList == a.toList) with
  | true =>
    clear hx
    rw [Bool.true_or]
    go_enter Tryd.func100, Tryd.ntmps100
    go_wp2
    go_ret
    exact ⟨rfl, HB.out⟩
  | false =>
    rw [Bool.false_or]
    obtain ⟨r, hr⟩ := Option.isSome_iff_exists.1 (hx (by simpa using he))
    rw [hr, Option.getD_some]
    have HC := Aside0.mk (hU (P x) a r (w.alloc (.cells #[.string (P x), .int .i64 (K x), .string (D x)] 23)) hr)
    clear hx hr
    go_enter Tryd.func100, Tryd.ntmps100
    go_wp2_with (go_at_call 29; refine HC.out.mono ?_; rintro e w' ⟨rfl, hb'⟩)
    go_ret
    exact ⟨rfl, HB.out.trans (hb'.mono HB.out.size)⟩
set_option maxHeartbeats 4000000 in
theorem goes2_any (x : α) (a d : ByteArray) (k : Int) (b : Nat) (w : World) (hb : Blk w b 23 [.string a, .int .i64 k, .string d]) :
    Calls Tryd.prog 101 #[.agg #[.string (P x), .int .i64 (K x), .string (D x)], .pointer (some ⟨b, 0, none⟩)] w fun e w' => e = .returned (.bool (hereQ P K a x)) ∧ Below w.heap.size w w' := by
  have hb0 : Below w.heap.size w (w.alloc (.cells #[.string (P x), .int .i64 (K x), .string (D x)] 23)) := (Below.refl _ _).alloc (Nat.le_refl _) _
  have x0 := (hb.below hb0).cell (j := 0) rfl
  have HB := Aside0.mk hb0
  clear hb hb0
  unfold hereQ
  cases he : ((P x).toList == a.toList) with
  | true =>
    rw [Bool.true_and]
    go_enter Tryd.func101, Tryd.ntmps101
    go_wp2
    go_ret
    exact ⟨rfl, HB.out⟩
  | false =>
    rw [Bool.false_and]
    go_enter Tryd.func101, Tryd.ntmps101
    go_wp2
    go_ret
    exact ⟨rfl, HB.out⟩
variable (mk : ByteArray → Int → ByteArray → α)
def oneG (xs : List α) (a : ByteArray) (k : Int) (d : ByteArray) : List α :=
  if k = 2 then putG P (xs.filter fun x => !hereQ P K a x) (mk a 2 d)
  else if k = 3 then xs.filter fun x => !goesQ P UF a x
  else putG P (xs.filter fun x => !goesQ P UF a x) (mk a (if k = 4 then 2 else k) d)
/-- fold.one begins: the entry is boxed, what must go goes. -/
theorem Kept.of_boxes {w w1 w2 : World} {S : Nat → Prop} (h1 : Below w.heap.size w w1) (h2 : Kept w1 w2 S) : Kept w w2 S := ⟨Nat.le_trans h1.size h2.1, fun k hk hn => (h2.2 k (Nat.lt_of_lt_of_le hk h1.size) hn).trans (h1.block k hk)⟩
set_option maxHeartbeats 16000000 in
set_option maxRecDepth 100000 in
theorem foldOne3 (hU : UnderOk UF) (hmP : ∀ a k d, P (mk a k d) = a) (hmK : ∀ a k d, K (mk a k d) = k) (hmD : ∀ a k d, D (mk a k d) = d) (S : Nat → Prop) (v : Value) (xs : List α) (a d : ByteArray) (k : Int) (w0 w : World) (hB : Below w0.heap.size w0 w) (ho : Own3 P K D w w0.heap.size S v xs)
    (hl : (xs.length + 1) * 40 ≤ 140737488355328) (hx : k ≠ 2 → ∀ x ∈ xs, (P x).toList ≠ a.toList → (UF (P x) a).isSome = true) :
    Calls Tryd.prog 73 #[v, .agg #[.string a, .int .i64 k, .string d]] w (InsEnd P K D w0 w S (oneG P K UF mk xs a k d)) := by
  have e1 : ∀ args w, (callFunc 100 args).run Tryd.prog w = .ok (.enter 100 args) w := fun _ _ => by kernel_rfl
  have e2 : ∀ args w, (callFunc 101 args).run Tryd.prog w = .ok (.enter 101 args) w := fun _ _ => by kernel_rfl
  have hb0 : Below w.heap.size w (w.alloc (.cells #[.string a, .int .i64 k, .string d] 23)) := (Below.refl _ _).alloc (Nat.le_refl _) _
  have hX : Blk (w.alloc (.cells #[.string a, .int .i64 k, .string d] 23)) w.heap.size 23 [.string a, .int .i64 k, .string d] := Blk.new w _ _
  have ho1 := Kd.R_below (Kd.R_mono (Kd.R_bound ho) (fun k hk => ⟨hk.1, hk.2.2.1⟩) : Own3 P K D w w0.heap.size (fun k => S k ∧ k < w.heap.size) v xs) hb0
  have hbox : ∀ W, Kept (w.alloc (.cells #[.string a, .int .i64 k, .string d] 23)) W (fun k => S k ∧ k < w.heap.size) → Blk W w.heap.size 23 [.string a, .int .i64 k, .string d] := fun W hk => by
    exact hX.kept hk (fun h => by omega)
  have hd1 : k ≠ 2 → Calls Tryd.prog 102 #[v, .func (.func 100) #[] #[.pointer (some ⟨w.heap.size, 0, none⟩)]] (w.alloc (.cells #[.string a, .int .i64 k, .string d] 23)) (InsEnd P K D w0 (w.alloc (.cells #[.string a, .int .i64 k, .string d] 23)) (fun k => S k ∧ k < w.heap.size) (xs.filter fun x => !goesQ P UF a x)) := fun h2 =>
    deleteFunc3 P K D _ v xs _ _ (goesQ P UF a) w0 _ e1 (hB.trans (hb0.mono hB.size)) ho1 (by omega) (fun W hk x hxm => goes1_any P K D UF hU x a d k w.heap.size W (hbox W hk) (hx h2 x hxm))
  have hd2 : Calls Tryd.prog 102 #[v, .func (.func 101) #[] #[.pointer (some ⟨w.heap.size, 0, none⟩)]] (w.alloc (.cells #[.string a, .int .i64 k, .string d] 23)) (InsEnd P K D w0 (w.alloc (.cells #[.string a, .int .i64 k, .string d] 23)) (fun k => S k ∧ k < w.heap.size) (xs.filter fun x => !hereQ P K a x)) :=
    deleteFunc3 P K D _ v xs _ _ (hereQ P K a) w0 _ e2 (hB.trans (hb0.mono hB.size)) ho1 (by omega) (fun W hk x hxm => goes2_any P K D x a d k w.heap.size W (hbox W hk))
  have HD1 := Aside0.mk hd1
  have HD2 := Aside0.mk hd2
  have HB0 := Aside0.mk hb0
  have HBX := Aside0.mk hbox
  have HL := Aside0.mk hl
  have HSZ := Aside0.mk hB.size
  have HM := Aside0.mk (And.intro hmP (And.intro hmK hmD))
  clear hd1 hd2 hb0 hbox hX ho ho1 hB hx hl hmP hmK hmD
  have hend : ∀ (ys : List α) (v2 : Value) (w2 : World), Own3 P K D w2 w0.heap.size (fun j => (S j ∧ j < w.heap.size) ∨ (w.alloc (.cells #[.string a, .int .i64 k, .string d] 23)).heap.size ≤ j) v2 ys → Below w0.heap.size w0 w2 → Kept (w.alloc (.cells #[.string a, .int .i64 k, .string d] 23)) w2 (fun j => S j ∧ j < w.heap.size) → InsEnd P K D w0 w S ys (.returned v2) w2 := fun ys v2 w2 o2 b2 k2 =>
    InsEnd.monoS P K D (fun k hk => hk.1) (InsEnd.lift P K D HB0.out (⟨v2, rfl, o2, b2, k2⟩ : InsEnd P K D w0 _ _ ys (.returned v2) w2))
  have HEND := Aside0.mk hend
  clear hend
  have hput : ∀ (ys : List α) (v2 : Value) (w2 w3 : World) (k' : Int), ys.length ≤ xs.length → Own3 P K D w2 w0.heap.size (fun j => (S j ∧ j < w.heap.size) ∨ (w.alloc (.cells #[.string a, .int .i64 k, .string d] 23)).heap.size ≤ j) v2 ys → Below w0.heap.size w0 w3 → Kept (w.alloc (.cells #[.string a, .int .i64 k, .string d] 23)) w2 (fun j => S j ∧ j < w.heap.size) →
      Kept w2 w3 (fun j => j = w.heap.size) →
      Calls Tryd.prog 103 #[v2, .agg #[.string a, .int .i64 k', .string d]] w3 (InsEnd P K D w0 w S (putG P ys (mk a k' d))) := fun ys v2 w2 w3 k' hy o2 b3 k2 k3 => by
    have hs1 : (w.alloc (.cells #[.string a, .int .i64 k, .string d] 23)).heap.size = w.heap.size + 1 := by simp
    have o3 := Kd.R_kept o2 k3 (fun j hj hjb => by subst hjb; rcases hj with ⟨_, h⟩ | h <;> omega)
    have hp := foldPut3 P K D _ v2 ys (mk a k' d) w0 w3 b3 o3 (by have := HL.out; omega)
    rw [HM.out.1, HM.out.2.1, HM.out.2.2] at hp
    refine hp.mono fun e w4 h4 => InsEnd.after P K D ⟨?_, fun j hj hn => ?_⟩ (fun j hj => ?_) h4
    · exact Nat.le_trans HB0.out.size (Nat.le_trans k2.1 k3.1)
    · rw [k3.2 j (Nat.lt_of_lt_of_le hj (Nat.le_trans HB0.out.size k2.1)) (by omega), k2.2 j (Nat.lt_of_lt_of_le hj HB0.out.size) (fun h => hn h.1), HB0.out.block j hj]
    · rcases hj with h | h
      · exact .inl h.1
      · exact .inr (by omega)
  have HPUT := Aside0.mk hput
  clear hput
  by_cases h2 : k = 2
  · subst h2
    have eg : oneG P K UF mk xs a 2 d = putG P (xs.filter fun x => !hereQ P K a x) (mk a 2 d) := by unfold oneG; rw [if_pos rfl]
    rw [eg]
    clear eg HD1
    go_enter Tryd.func73, Tryd.ntmps73
    go_wp2_with (go_at_call 102; refine hold ?_)
    unfold Hold
    refine HD2.out.mono ?_
    rintro e w2 ⟨v2, rfl, o2, b2, k2⟩
    have hx2 := HBX.out w2 k2
    have x0 := hx2.cell (j := 0) rfl
    have x1 := hx2.cell (j := 1) rfl
    have x2 := hx2.cell (j := 2) rfl
    have HP := Aside0.mk (HPUT.out _ v2 w2 w2 2 (List.length_filter_le _ _) o2 b2 k2 (Kept.refl _ _))
    clear o2 b2 k2 hx2
    go_wp2_with (go_at_call 103; refine hold ?_)
    unfold Hold
    refine HP.out.mono ?_
    rintro e w3 h3
    have HE := Aside0.mk h3
    obtain ⟨v3, rfl, _⟩ := h3
    go_wp2
    go_ret
    exact HE.out
  · have HD := Aside0.mk (HD1.out h2)
    clear HD1 HD2
    by_cases h3 : k = 3
    · subst h3
      have eg : oneG P K UF mk xs a 3 d = xs.filter fun x => !goesQ P UF a x := by unfold oneG; rw [if_neg (by omega), if_pos rfl]
      rw [eg]
      clear eg h2
      go_enter Tryd.func73, Tryd.ntmps73
      go_wp2_with (go_at_call 102; refine hold ?_)
      unfold Hold
      refine HD.out.mono ?_
      rintro e w2 ⟨v2, rfl, o2, b2, k2⟩
      have hx2 := HBX.out w2 k2
      have x1 := hx2.cell (j := 1) rfl
      have HE := Aside0.mk (HEND.out _ v2 w2 o2 b2 k2)
      clear o2 b2 k2 hx2
      go_wp2
      go_ret
      exact HE.out
    · by_cases h4 : k = 4
      · subst h4
        have eg : oneG P K UF mk xs a 4 d = putG P (xs.filter fun x => !goesQ P UF a x) (mk a 2 d) := by unfold oneG; rw [if_neg (by omega), if_neg (by omega), if_pos rfl]
        rw [eg]
        clear eg h2 h3
        go_enter Tryd.func73, Tryd.ntmps73
        go_wp2_with (go_at_call 102; refine hold ?_)
        unfold Hold
        refine HD.out.mono ?_
        rintro e w2 ⟨v2, rfl, o2, b2, k2⟩
        have hx2 := HBX.out w2 k2
        have x0 := hx2.cell (j := 0) rfl
        have x1 := hx2.cell (j := 1) rfl
        have x2 := hx2.cell (j := 2) rfl
        have f1 := frozen3 hx2 1
        have hw0 : w0.heap.size ≤ w.heap.size := HSZ.out
        have HP := Aside0.mk (HPUT.out _ v2 w2 (w2.setCell ⟨w.heap.size, 1, none⟩ (.int .i64 2)) 2 (List.length_filter_le _ _) o2 (b2.setCell hw0 _) k2 ⟨by simp, fun j hj hn => Below.heap_setCell w2 ⟨w.heap.size, 1, none⟩ _ j hn⟩)
        clear o2 b2 k2 hx2
        go_wp2_with (go_at_call 103; refine hold ?_)
        unfold Hold
        refine HP.out.mono ?_
        rintro e w3 h3
        have HE := Aside0.mk h3
        obtain ⟨v3, rfl, _⟩ := h3
        go_wp2
        go_ret
        exact HE.out
      · have eg : oneG P K UF mk xs a k d = putG P (xs.filter fun x => !goesQ P UF a x) (mk a k d) := by unfold oneG; rw [if_neg h2, if_neg h3, if_neg h4]
        rw [eg]
        have k2b : (k == 2) = false := beq_eq_false_iff_ne.2 h2
        have k3b : (k == 3) = false := beq_eq_false_iff_ne.2 h3
        have k4b : (k == 4) = false := beq_eq_false_iff_ne.2 h4
        clear eg h2 h3 h4
        go_enter Tryd.func73, Tryd.ntmps73
        go_wp2_with (go_at_call 102; refine hold ?_)
        unfold Hold
        refine HD.out.mono ?_
        rintro e w2 ⟨v2, rfl, o2, b2, k2⟩
        have hx2 := HBX.out w2 k2
        have x0 := hx2.cell (j := 0) rfl
        have x1 := hx2.cell (j := 1) rfl
        have x2 := hx2.cell (j := 2) rfl
        have HP := Aside0.mk (HPUT.out _ v2 w2 w2 k (List.length_filter_le _ _) o2 b2 k2 (Kept.refl _ _))
        clear o2 b2 k2 hx2
        go_wp2_with (go_at_call 103; refine hold ?_)
        unfold Hold
        refine HP.out.mono ?_
        rintro e w3 h3
        have HE := Aside0.mk h3
        obtain ⟨v3, rfl, _⟩ := h3
        go_wp2
        go_ret
        exact HE.out
end
end
end Go.Proofs.YtklcceccadlgkaaDoor.Print
