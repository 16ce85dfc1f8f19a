/- path.Split's walk. -/
import Derived.Test.YtdmnpofodechpaaDoorSplitW
import Derived.Test.YtdmnpofodechpaaDoorRaw
namespace Go.Proofs.YtdmnpofodechpaaDoor.Print
open Go Go.Proofs Go.RowKit Go.Shelf
attribute [local go_sem] Oper.semAt_some
set_option linter.unusedVariables false
set_option linter.unusedSimpArgs false

/-- A path's names, if it is one. -/
def splitF (p : List UInt8) : Option (List (List UInt8)) :=
  if p = [47] then some [] else match p with
    | 47 :: rest => if (pieces rest).length ≤ 6 ∧ (pieces rest).all nameL = true then some (pieces rest) else none
    | _ => none
theorem split_info : (Tryd.prog.info? 9).map (fun i => (i.zero, i.size, i.bytes)) = some (some (.string ⟨#[]⟩), 1, 16) := by kernel_rfl

/-- The first bad part. -/
def badAt (pre : List ByteArray) : Prop := ∃ q x, pre = q ++ [x] ∧ (nameL x.data.toList = false ∨ q.length = 6)

theorem keep3_k : ∀ {A B C : World} {b : Nat}, Keep3 b A B → Keep3 b B C → Keep3 b A C := fun h k j h1 h2 => (k j h1 h2).trans (h j h1 h2)
theorem keep3_b {b : Nat} {w : World} (h : b + 3 ≤ w.heap.size) : ∀ (W : World) (l : Nat) (o o' : Obj), w.heap.size ≤ l → W.heap[l]? = some o → o.isCells = false → o.isWalk = false → Keep3 b W (W.putObj l o') :=
  fun W l o o' hl _ _ _ k h1 h2 => World.putObj_heap_other (by omega)
/-- The error's value and cells. -/
def FaultAt (W : World) (v : Value) (c : Int) (lo : Nat) : Prop := ∃ g op p, v = .iface 61 (.pointer (some ⟨g, 0, none⟩)) ∧ lo ≤ g ∧ W.heap[g]? = some (.cells #[.string op, .string p, .iface 47 (.int .i64 c)] 63 (0, 0))

theorem boxed_at (W : World) (k : Nat) (h : k = W.heap.size) (t : TypeId) (v : Value) : Boxed (W.alloc (.cells #[v] t)) k t v := by
  subst h; exact Boxed.new W t v
theorem boxed_below {W W1 : World} {B : Nat} {t : TypeId} {v : Value} (h : Boxed W B t v) (hb : Below W.heap.size W W1) : Boxed W1 B t v := (hb.block B h.lt).trans h
theorem row_lower {W : World} {base base' : Nat} {e : TypeId} {v : Value} {n : Nat} {xs : List Value} (h : W.ownsRow base e 1 v n xs) (hb : base' ≤ base) : W.ownsRow base' e 1 v n xs :=
  ⟨h.1, h.2.imp id fun ⟨g, cap, cur, he, hge, hr⟩ => ⟨g, cap, cur, he, Nat.le_trans hb hge, hr⟩⟩
theorem row_ge {W : World} {base : Nat} {e : TypeId} {v : Value} {n : Nat} {xs : List Value} (h : W.ownsRow base e 1 v n xs) {k : Nat} (hk : v.ownBlock = some k) : base ≤ k := by
  rcases h.2 with ⟨rfl, _⟩ | ⟨g, cap, cur, rfl, hge, _⟩
  · simp [Value.ownBlock] at hk
  · obtain rfl : g = k := by simpa [Value.ownBlock] using hk
    exact hge
theorem row_slice {W : World} {base : Nat} {e : TypeId} {v : Value} {n : Nat} {xs : List Value} (h : W.ownsRow base e 1 v n xs) : ∃ A c, v = .slice A n c := by
  rcases h.2 with ⟨rfl, rfl⟩ | ⟨g, cap, _, rfl, _⟩
  · exact ⟨_, _, rfl⟩
  · exact ⟨_, _, rfl⟩
theorem row_own {W W' : World} {base B : Nat} {e : TypeId} {v : Value} {n : Nat} {xs : List Value} {row : Option Nat} (h : W.ownsRow base e 1 v n xs) (hg : W.grownBy W' row) (hr : ∀ r, row = some r → B ≤ r ∧ ∃ o : Obj, W.heap[r]? = some o ∧ o.isCells = false) : W'.ownsRow base e 1 v n xs := by
  refine h.kept hg ?_
  rcases h.2 with ⟨rfl, _⟩ | ⟨g, cap, cur, rfl, _, hgb, _⟩
  · exact .inl rfl
  · refine .inr fun e' => ?_
    obtain ⟨_, o, ho, hc⟩ := hr g (by simpa [Value.ownBlock] using e'.symm)
    rw [hgb] at ho; cases ho; cases hc
theorem row_below {W W' : World} {base : Nat} {e : TypeId} {v : Value} {n : Nat} {xs : List Value} (h : W.ownsRow base e 1 v n xs) (hb : Below W.heap.size W W') : W'.ownsRow base e 1 v n xs := by
  refine ⟨h.1, ?_⟩
  rcases h.2 with ⟨rfl, h0⟩ | ⟨g, cap, cur, rfl, hge, hgb, rest⟩
  · exact .inl ⟨rfl, h0⟩
  · exact .inr ⟨g, cap, cur, rfl, hge, (hb.block g (Array.getElem?_eq_some_iff.1 hgb).1).trans hgb, rest⟩
theorem keeps_below {W W' : World} (hb : Below W.heap.size W W') : KeepsOthers W W' := ⟨hb.size, fun k o hk ho => (hb.block k (Array.getElem?_eq_some_iff.1 hk).1).trans hk⟩
/-- Between two rounds of Split's loop. -/
def SplitI (p : ByteArray) (S : Nat) (w : World) (pre : List ByteArray) (W : World) : Prop :=
  (∃ v, Boxed W (S + 3) 42 v ∧ W.ownsRow (S + 7) 9 1 v pre.length (pre.map .string)) ∧ Boxed W S 9 (.string p) ∧ Boxed W (S + 1) 42 (.slice none 0 0) ∧ Boxed W (S + 2) 30 .nilIface ∧ (pre.length ≤ 6 ∧ ∀ x ∈ pre, nameL x.data.toList = true) ∧ Below S w W ∧ S + 7 ≤ W.heap.size
/-- Where a round has returned. -/
def SplitX (S : Nat) (w : World) (pre : List ByteArray) (W : World) : Prop :=
  ∃ v, Boxed W (S + 1) 42 (.slice none 0 0) ∧ Boxed W (S + 2) 30 v ∧ FaultAt W v 2 (S + 7) ∧ badAt pre ∧ Below S w W
theorem SplitI.below {p : ByteArray} {S : Nat} {w : World} {pre : List ByteArray} {W W1 : World} (h : SplitI p S w pre W) (hb : Below W.heap.size W W1) : SplitI p S w pre W1 := by
  obtain ⟨⟨v, hv, hrow⟩, hP, hR1, hR2, hl, hB, hsz⟩ := h
  exact ⟨⟨v, boxed_below hv hb, row_below hrow hb⟩, boxed_below hP hb, boxed_below hR1 hb, boxed_below hR2 hb, hl, hB.trans (hb.mono (by omega)), Nat.le_trans hsz hb.size⟩
theorem SplitI.own (p : ByteArray) (S : Nat) (w : World) (hS : S ≤ w.heap.size) : OwnFrom (S + 7) (SplitI p S w) := by
  rintro pre W W' row ⟨⟨v, hv, hrow⟩, hP, hR1, hR2, hl, hB, hsz⟩ hg hr
  have hne : ∀ k, k < S + 7 → some k ≠ row := fun k hk e => by have := (hr k e.symm).1; omega
  exact ⟨⟨v, hv.kept hg (hne _ (by omega)), row_own hrow hg hr⟩, hP.kept hg (hne _ (by omega)), hR1.kept hg (hne _ (by omega)), hR2.kept hg (hne _ (by omega)), hl, hB.grown hg (Nat.le_trans hS hB.size) (fun k e => by have := (hr k e).1; omega), Nat.le_trans hsz hg.size⟩
theorem SplitI.set {p : ByteArray} {S : Nat} {w : World} (pre : List ByteArray) (W : World) (u : Value) (h : SplitI p S w pre W) : SplitI p S w pre (W.setCell ⟨S + 4, 0, none⟩ u) := by
  obtain ⟨⟨v, hv, hrow⟩, hP, hR1, hR2, hl, hB, hsz⟩ := h
  exact ⟨⟨v, hv.other (by omega) u, ownsRow_setCell_below hrow (show S + 4 < S + 7 by omega) u⟩, hP.other (by omega) u, hR1.other (by omega) u, hR2.other (by omega) u, hl, hB.setCell (p := ⟨S + 4, 0, none⟩) (show S ≤ S + 4 by omega) u, by rw [World.size_setCell]; exact hsz⟩
theorem SplitX.own (S : Nat) (w : World) (hS : S ≤ w.heap.size) : OwnFrom (S + 7) (SplitX S w) := by
  rintro pre W W' row ⟨v, hR1, hR2, ⟨g, op, q, hv, hg1, hg2⟩, hb, hB⟩ hg hr
  have hne : ∀ k, k < S + 7 → some k ≠ row := fun k hk e => by have := (hr k e.symm).1; omega
  refine ⟨v, hR1.kept hg (hne _ (by omega)), hR2.kept hg (hne _ (by omega)), ⟨g, op, q, hv, hg1, ?_⟩, hb, hB.grown hg (Nat.le_trans hS hB.size) (fun k e => by have := (hr k e).1; omega)⟩
  refine (hg.block g (Array.getElem?_eq_some_iff.1 hg2).1 fun e => ?_).trans hg2
  obtain ⟨_, o, ho, hc⟩ := hr g e.symm
  rw [hg2] at ho; cases ho; cases hc
theorem SplitX.set {S : Nat} {w : World} (pre : List ByteArray) (W : World) (u : Value) (h : SplitX S w pre W) : SplitX S w pre (W.setCell ⟨S + 4, 0, none⟩ u) := by
  obtain ⟨v, hR1, hR2, ⟨g, op, q, hv, hg1, hg2⟩, hb, hB⟩ := h
  exact ⟨v, hR1.other (by omega) u, hR2.other (by omega) u, ⟨g, op, q, hv, hg1, heap_setCell_ne (by omega) hg2⟩, hb, hB.setCell (p := ⟨S + 4, 0, none⟩) (show S ≤ S + 4 by omega) u⟩
theorem At_calls (op q : ByteArray) (c : Int) (w : World) :
    Calls Tryd.prog 15 #[.string op, .string q, .iface 47 (.int .i64 c)] w fun e w' => e = .returned (.iface 61 (.pointer (some ⟨w.heap.size, 0, none⟩))) ∧ w' = w.alloc (.cells #[.string op, .string q, .iface 47 (.int .i64 c)] 63) := by
  go_enter Tryd.func15, Tryd.ntmps15
  go_wp2
  go_ret
  exact ⟨rfl, rfl⟩

set_option maxHeartbeats 8000000 in
set_option maxRecDepth 100000 in
theorem Split_loop (p : ByteArray) (rest : ByteArray) (hrs : rest.size ≤ 9223372036854775807) (w : World) (hp1 : p.data.toList ≠ [47]) (hpre : Lib.hasPrefix p.data.toList [47] = true) (hrest : (⟨(Lib.trimPrefix p.data.toList [47]).toArray⟩ : ByteArray) = rest) :
    Calls Tryd.prog 13 #[.string p] w fun e w' => Below w.heap.size w w' ∧ (
      (∃ v, e = .returned (.tuple #[v, .nilIface]) ∧ (piecesB rest).length ≤ 6 ∧ (∀ x ∈ piecesB rest, nameL x.data.toList = true) ∧ w'.ownsRow w.heap.size 9 1 v (piecesB rest).length ((piecesB rest).map .string)) ∨
      (∃ v pre, e = .returned (.tuple #[.slice none 0 0, v]) ∧ FaultAt w' v 2 w.heap.size ∧ pre <+: piecesB rest ∧ badAt pre)) := by
  have hCut := (callsIn_wide (n := 6)).2 (Any.strings_CutPrefix Tryd.lays103 p ⟨#[47]⟩ (((w.alloc (.cells #[.string p] 9)).alloc (.cells #[.slice none 0 0] 42)).alloc (.cells #[.nilIface] 30)))
  change CallsIn Fence.wide 6 Tryd.prog 19 _ _ (fun e w' => e = .returned (.tuple #[.string ⟨(Lib.trimPrefix p.data.toList [47]).toArray⟩, .bool (Lib.hasPrefix p.data.toList [47])]) ∧ w' = _) at hCut
  rw [hpre, hrest] at hCut
  have hp2 : (p.toList == [47]) = false := by
    rw [Lib.toList_data]
    exact beq_eq_false_iff_ne.2 hp1
  have hSeq := fun W => (callsIn_wide (n := 6)).2 (SplitSeq_calls rest W)
  refine (callsIn_wide (n := 7)).1 ?_
  refine callsIn_of_wp_marks Tryd.func13 rfl trivial ?_ rfl
  simp only [Tryd.ntmps13, List.size_toArray, List.length_cons, List.length_nil, Nat.reduceAdd, Nat.reduceSub, Array.replicate_succ, Array.replicate_zero, List.push_toArray, List.append_toArray, List.nil_append, List.cons_append]
  gi_wp2_with (first | (refine ⟨trivial, ?_⟩; gi_at_call 19; refine hCut.mono ?_; rintro e w' ⟨rfl, rfl⟩) | (refine ⟨trivial, ?_⟩; gi_at_call 20; refine (hSeq _).mono ?_; rintro e w' ⟨rfl, rfl⟩))
  obtain ⟨i0, hi, hz0, hz1, hz2⟩ := info_parts split_info
  generalize hW0 : (((((((w.alloc (.cells #[.string p] 9)).alloc (.cells #[.slice none 0 0] 42)).alloc (.cells #[.nilIface] 30)).alloc (.cells #[.slice none 0 0] 42)).alloc (.cells #[.string rest] 9)).alloc (.cells #[.string ⟨#[47]⟩] 9)).alloc (.cells #[.int .i64 0] 3)) = W0
  have hsz : W0.heap.size = w.heap.size + 7 := by rw [← hW0]; simp
  have hB0 : Below w.heap.size w W0 := by
    rw [← hW0]
    repeat' (first | exact Below.refl _ _ | refine Below.alloc ?_ (by first | exact Nat.le_refl _ | (simp only [World.size_alloc]; omega)) _)
  have bx0 : Boxed W0 w.heap.size 9 (.string p) := by
    rw [← hW0]; repeat' (first | exact boxed_at _ _ (by first | (simp only [World.size_alloc]; done) | (simp only [World.size_alloc]; omega) | rfl) _ _ | refine Boxed.alloc ?_ _)
  have bx1 : Boxed W0 (w.heap.size + 1) 42 (.slice none 0 0) := by
    rw [← hW0]; repeat' (first | exact boxed_at _ _ (by first | (simp only [World.size_alloc]; done) | (simp only [World.size_alloc]; omega) | rfl) _ _ | refine Boxed.alloc ?_ _)
  have bx2 : Boxed W0 (w.heap.size + 2) 30 .nilIface := by
    rw [← hW0]; repeat' (first | exact boxed_at _ _ (by first | (simp only [World.size_alloc]; done) | (simp only [World.size_alloc]; omega) | rfl) _ _ | refine Boxed.alloc ?_ _)
  have bx3 : Boxed W0 (w.heap.size + 3) 42 (.slice none 0 0) := by
    rw [← hW0]; repeat' (first | exact boxed_at _ _ (by first | (simp only [World.size_alloc]; done) | (simp only [World.size_alloc]; omega) | rfl) _ _ | refine Boxed.alloc ?_ _)
  have bx4 : Boxed W0 (w.heap.size + 4) 9 (.string rest) := by
    rw [← hW0]; repeat' (first | exact boxed_at _ _ (by first | (simp only [World.size_alloc]; done) | (simp only [World.size_alloc]; omega) | rfl) _ _ | refine Boxed.alloc ?_ _)
  have bx5 : Boxed W0 (w.heap.size + 4 + 1) 9 (.string ⟨#[47]⟩) := by
    rw [← hW0]; repeat' (first | exact boxed_at _ _ (by first | (simp only [World.size_alloc]; done) | (simp only [World.size_alloc]; omega) | rfl) _ _ | refine Boxed.alloc ?_ _)
  have bx6 : Boxed W0 (w.heap.size + 4 + 2) 3 (.int .i64 0) := by
    rw [← hW0]; repeat' (first | exact boxed_at _ _ (by first | (simp only [World.size_alloc]; done) | (simp only [World.size_alloc]; omega) | rfl) _ _ | refine Boxed.alloc ?_ _)
  clear hW0 hCut hSeq hp2
  have hbox := splitSeq_box (7 - 1) (w.heap.size + 4) (by omega) rest hrs W0 bx5.cell bx4.cell bx4.frozen bx6.cell
  have hI0 : SplitI p w.heap.size w [] W0 := ⟨⟨_, bx3, World.ownsRow_nil _ _ _ _⟩, bx0, bx1, bx2, ⟨by simp, by simp⟩, hB0, by omega⟩
  clear bx0 bx1 bx2 bx3 bx4 bx5 bx6
  refine range_box rfl (by omega) (gf := 46) (lb := #[.pointer (some ⟨w.heap.size + 4 + 1, 0, none⟩), .pointer (some ⟨w.heap.size + 4, 0, none⟩), .pointer (some ⟨w.heap.size + 4 + 2, 0, none⟩)]) rfl trivial (enters_of Tryd.func46 (by kernel_rfl) rfl)
    hbox (by omega) keep3_k (keep3_b (by omega)) (fun _ => rfl) (SplitI p w.heap.size w) (SplitX w.heap.size w) (by rw [hsz]; exact SplitI.own _ _ _ (Nat.le_refl _)) (by rw [hsz]; exact SplitX.own _ _ (Nat.le_refl _))
    (fun pre W v h => SplitI.set pre W v h) (fun pre W v h => SplitX.set pre W v h) hI0
    (fun x => { tmps := #[.string p, .pointer (some ⟨w.heap.size, 0, none⟩), .pointer (some ⟨w.heap.size + 1, 0, none⟩), .pointer (some ⟨w.heap.size + 1 + 1, 0, none⟩), .string rest, .bool true, .pointer (some ⟨w.heap.size + 1 + 1 + 1, 0, none⟩), .string x, .string p, .bool false, .tuple #[.string rest, .bool true], .string p, .tuple #[.string rest, .bool true], .string rest, .bool true, .bool true, .bool false, undef, undef, undef, .string rest, .func (.func 46) #[] #[.pointer (some ⟨w.heap.size + 1 + 1 + 1 + 1 + 1, 0, none⟩), .pointer (some ⟨w.heap.size + 1 + 1 + 1 + 1, 0, none⟩), .pointer (some ⟨w.heap.size + 1 + 1 + 1 + 1 + 2, 0, none⟩)], .string x, undef, undef, undef, undef, undef, undef, undef, undef, undef, undef, undef, undef, undef, undef, undef, undef], defers := [] }) ?assign ?body ?done ?stop
  case assign =>
    intro l x W K hK
    gi_wp2
    exact hK
  case body =>
    rintro l pre x W hI
    have hcar : ∀ W1, Below W.heap.size W W1 → ∃ A c, W1.cell? ⟨w.heap.size, 0, none⟩ = some (.string p) ∧ Boxed W1 (w.heap.size + 1 + 1 + 1) 42 (.slice A pre.length c) ∧ W1.cell? ⟨w.heap.size + 1 + 1 + 1, 0, none⟩ = some (.slice A pre.length c) ∧ W1.ownsRow (w.heap.size + 7) 9 1 (.slice A pre.length c) pre.length (pre.map .string) ∧
        Boxed W1 w.heap.size 9 (.string p) ∧ Boxed W1 (w.heap.size + 1) 42 (.slice none 0 0) ∧ Boxed W1 (w.heap.size + 1 + 1) 30 .nilIface ∧ W1.cell? ⟨w.heap.size + 1, 0, none⟩ = some (.slice none 0 0) ∧ W1.frozen? ⟨w.heap.size + 1, 0, none⟩ = false ∧ W1.cell? ⟨w.heap.size + 1 + 1, 0, none⟩ = some .nilIface ∧ W1.frozen? ⟨w.heap.size + 1 + 1, 0, none⟩ = false ∧ Below w.heap.size w W1 ∧ w.heap.size + 7 ≤ W1.heap.size := by
      intro W1 hb
      obtain ⟨⟨v, hv, hrow⟩, hP, hR1, hR2, hl, hB, hsz⟩ := hI.below hb
      obtain ⟨A, c, rfl⟩ := row_slice hrow
      exact ⟨A, c, hP.cell, hv, hv.cell, hrow, hP, hR1, hR2, hR1.cell, hR1.frozen, hR2.cell, hR2.frozen, hB, hsz⟩
    obtain ⟨_, _, _, _, ⟨hlen, hall⟩, _, hszW⟩ := hI
    gi_wp2_with (first
      | (refine ⟨trivial, ?_⟩; gi_at_call 21; refine (CallsIn.inRound l (callsIn_wide.2 (Name_calls x _))).mono ?_; rintro e W1 ⟨rfl, hb1⟩; obtain ⟨A, c, g0, hbx, g3, hrow, hP, hR1, hR2, g1, f1, g2, f2, hB, hsz⟩ := hcar W1 hb1; clear hcar; cases hnm : nameL x.data.toList)
      | (refine ⟨trivial, ?_⟩; gi_at_call 15; refine (CallsIn.inRound l (callsIn_wide.2 (At_calls _ _ _ _))).mono ?_; rintro e W2 ⟨rfl, hW2⟩; have hb2 : Below W1.heap.size W1 W2 := by { rw [hW2]; exact (Below.refl _ _).alloc (Nat.le_refl _) _ }; have hF : W2.heap[W1.heap.size]? = some (.cells #[.string ⟨#[115, 112, 108, 105, 116]⟩, .string p, .iface 47 (.int .i64 2)] 63 (0, 0)) := by { rw [hW2]; exact World.alloc_heap_new W1 _ }; clear hW2; have h1 := boxed_below hR1 hb2; have h2 := boxed_below hR2 hb2; clear g0 g1 g2 g3 f1 f2 hR1 hR2 hbx hrow; have g1 := h1.cell; have f1 := h1.frozen; have g2 := h2.cell; have f2 := h2.frozen)
      | (gi_at_builtin; refine wpListIn_append_own _ rfl _ _ 42 rfl (w.heap.size + 7) 9 i0 (.string ⟨#[]⟩) 1 16 Tryd.underlying42 hi hz0 hz1 hz2 rfl (by decide) _ _ _ rfl (hrow.alloc _) ⟨W1.heap.size, 0, none⟩ 1 1 [.string x] rfl rfl (cell_one_new _ _ _) (by simp [Value.oneCell']) (by unfold maxLen; omega) (by omega) (by simp; omega) ?_; intro v' w1 hown' hgrow _; obtain ⟨g', cap', rfl⟩ := ownsRow_succ hown'; obtain ⟨hv1, hv2, hr2, hk2, hb3⟩ := Boxed.appended (n₀ := w.heap.size) hbx (show 42 ≠ 9 by decide) (row_lower hrow (by omega)) (by omega) (by omega) (row_lower hown' (by omega)) hgrow; have hc1 := hv1.cell; have hf1 := hv1.frozen))
    · refine ⟨((keeps_below hb1).trans (keeps_below hb2)).trans ((KeepsOthers.setCell _ _ _).trans (KeepsOthers.setCell _ _ _)), rfl, _, (h1.set _).other (by omega) _, (h2.other (by omega) _).set _, ⟨W1.heap.size, _, _, rfl, hsz, heap_setCell_ne (by omega) (heap_setCell_ne (by omega) hF)⟩, ⟨pre, x, rfl, .inl hnm⟩, ?_⟩
      exact ((hB.trans (hb2.mono (by omega))).setCell (p := ⟨w.heap.size + 1, 0, none⟩) (by simp) _).setCell (p := ⟨w.heap.size + 1 + 1, 0, none⟩) (by simp; omega) _
    · refine ⟨((keeps_below hb1).trans (keeps_below hb2)).trans ((KeepsOthers.setCell _ _ _).trans (KeepsOthers.setCell _ _ _)), rfl, _, (h1.set _).other (by omega) _, (h2.other (by omega) _).set _, ⟨W1.heap.size, _, _, rfl, hsz, heap_setCell_ne (by omega) (heap_setCell_ne (by omega) hF)⟩, ⟨pre, x, rfl, .inr (by have hq : ((pre.length : Int) == 6) = true := by { assumption }; have := eq_of_beq hq; omega)⟩, ?_⟩
      exact ((hB.trans (hb2.mono (by omega))).setCell (p := ⟨w.heap.size + 1, 0, none⟩) (by simp) _).setCell (p := ⟨w.heap.size + 1 + 1, 0, none⟩) (by simp; omega) _
    · have h60 : ((pre.length : Int) == 6) = false := by assumption
      have h6 : pre.length ≠ 6 := fun h => by simp [h] at h60
      have hne : ∀ k, k < w.heap.size + 7 → some k ≠ (Value.slice A pre.length c).ownBlock := fun k hk e => by have := row_ge hrow e.symm; omega
      refine ⟨(keeps_below hb1).trans hk2, fun k h4 h7 => ?_, ⟨_, hv2, ?_⟩, ?_, ?_, ?_, ⟨by simp; omega, ?_⟩, ?_, ?_⟩
      · rw [Below.heap_setCell _ _ _ _ (show k ≠ w.heap.size + 1 + 1 + 1 by omega), hgrow.block k (by simp; omega) (hne k (by omega)), Below.heap_alloc _ _ _ (by omega), hb1.block k (by omega)]
      · have := ownsRow_setCell_below hown' (a := ⟨w.heap.size + 1 + 1 + 1, 0, none⟩) (show w.heap.size + 1 + 1 + 1 < w.heap.size + 7 by omega) (.slice (some ⟨g', 0, none⟩) (pre.length + 1) cap')
        simpa using this
      · exact ((hP.alloc _).kept hgrow (hne _ (by omega))).other (by omega) _
      · exact ((hR1.alloc _).kept hgrow (hne _ (by omega))).other (by omega) _
      · exact ((hR2.alloc _).kept hgrow (hne _ (by omega))).other (by omega) _
      · intro y hy
        rcases List.mem_append.1 hy with h | h
        · exact hall y h
        · obtain rfl : y = x := by simpa using h
          exact hnm
      · exact hB.trans (hb3.mono (by omega))
      · have := hb3.size
        omega
  case done =>
    rintro D xs W hD hS ⟨⟨v, hv, hrow⟩, hP, hR1, hR2, ⟨hlen, hall⟩, hB, _⟩ hK
    subst hS
    obtain ⟨A, c, rfl⟩ := row_slice hrow
    have g3 : W.cell? ⟨w.heap.size + 1 + 1 + 1, 0, none⟩ = _ := hv.cell
    have g1 := hR1.cell
    have f1 := hR1.frozen
    have g2 : W.cell? ⟨w.heap.size + 1 + 1, 0, none⟩ = _ := hR2.cell
    have f2 : W.frozen? ⟨w.heap.size + 1 + 1, 0, none⟩ = _ := hR2.frozen
    gi_wp2
    have hR1' := (hR1.set (.slice A (piecesB rest).length c)).other (B' := w.heap.size + 1 + 1) (by omega) .nilIface
    have hR2' := (hR2.other (B' := w.heap.size + 1) (by omega) (.slice A (piecesB rest).length c)).set .nilIface
    have hK' := heap_setCell_ne (b := w.heap.size + 1 + 1) (v := .nilIface) (show D ≠ w.heap.size + 1 + 1 by omega) (heap_setCell_ne (b := w.heap.size + 1) (v := .slice A (piecesB rest).length c) (show D ≠ w.heap.size + 1 by omega) hK)
    have hrow' := ownsRow_setCell_below (ownsRow_setCell_below hrow (a := ⟨w.heap.size + 1, 0, none⟩) (show w.heap.size + 1 < w.heap.size + 7 by omega) (.slice A (piecesB rest).length c)) (a := ⟨w.heap.size + 1 + 1, 0, none⟩) (show w.heap.size + 1 + 1 < w.heap.size + 7 by omega) .nilIface
    have hB' := (hB.setCell (p := ⟨w.heap.size + 1, 0, none⟩) (by simp) (.slice A (piecesB rest).length c)).setCell (p := ⟨w.heap.size + 1 + 1, 0, none⟩) (by simp; omega) .nilIface
    clear g1 f1 g2 f2 g3
    generalize (W.setCell ⟨w.heap.size + 1, 0, none⟩ (.slice A (piecesB rest).length c)).setCell ⟨w.heap.size + 1 + 1, 0, none⟩ .nilIface = W' at hR1' hR2' hK' hrow' hB' ⊢
    refine ⟨by simp, .inl ⟨_, _, rfl, run_takeDeferred hK', ?_⟩⟩
    have hk5 : ∀ {k : Nat} {t : TypeId} {u : Value}, Boxed W' k t u → k < w.heap.size + 7 → Boxed (W'.putObj D (.deferred none)) k t u := fun h hk => (World.putObj_heap_other (by omega)).trans h
    have c1 := (hk5 hR1' (by omega)).cell
    have c2 : (W'.putObj D (.deferred none)).cell? ⟨w.heap.size + 1 + 1, 0, none⟩ = _ := (hk5 hR2' (by omega)).cell
    refine ⟨.tuple #[.slice A (piecesB rest).length c, .nilIface], ?_, ?_, .inl ⟨_, rfl, hlen, hall, ?_⟩⟩
    · simp [results, Tryd.f13, go_sem, c1, c2]
    · exact hB'.trans (belowK_b (w := w) (Nat.le_refl _) W' D _ _ (by omega) hK' rfl rfl)
    · exact ownsRow_putObj (row_lower hrow' (by omega)) _ hK' rfl
  case stop =>
    rintro D pre W hD hS ⟨v, hR1, hR2, hF, hbad, hB⟩ hK
    have g1 := hR1.cell
    have f1 := hR1.frozen
    have g2 : W.cell? ⟨w.heap.size + 1 + 1, 0, none⟩ = _ := hR2.cell
    have f2 : W.frozen? ⟨w.heap.size + 1 + 1, 0, none⟩ = _ := hR2.frozen
    gi_wp2
    refine ⟨by simp, .inl ⟨_, _, rfl, run_takeDeferred hK, ?_⟩⟩
    have hk5 : ∀ {k : Nat} {t : TypeId} {u : Value}, Boxed W k t u → k < w.heap.size + 7 → Boxed (W.putObj D (.deferred none)) k t u := fun h hk => (World.putObj_heap_other (by omega)).trans h
    have c1 := (hk5 hR1 (by omega)).cell
    have c2 : (W.putObj D (.deferred none)).cell? ⟨w.heap.size + 1 + 1, 0, none⟩ = _ := (hk5 hR2 (by omega)).cell
    refine ⟨.tuple #[.slice none 0 0, v], ?_, ?_, .inr ⟨v, pre, rfl, ?_, hS, hbad⟩⟩
    · simp [results, Tryd.f13, go_sem, c1, c2]
    · exact hB.trans (belowK_b (w := w) (Nat.le_refl _) W D _ _ (by omega) hK rfl rfl)
    · obtain ⟨g, op, q, e1, e2, e3⟩ := hF
      refine ⟨g, op, q, e1, by omega, (World.putObj_heap_other fun e => ?_).trans e3⟩
      subst e
      rw [hK] at e3; cases e3

theorem all_piecesB (s : ByteArray) : (∀ x ∈ piecesB s, nameL x.data.toList = true) ↔ (pieces s.data.toList).all nameL = true := by
  unfold piecesB
  rw [List.all_eq_true]
  constructor
  · intro h x hx
    exact h ⟨x.toArray⟩ (List.mem_map.2 ⟨x, hx, rfl⟩)
  · intro h x hx
    obtain ⟨y, hy, rfl⟩ := List.mem_map.1 hx
    exact h y hy
theorem bad_not (s : ByteArray) (pre : List ByteArray) (hp : pre <+: piecesB s) (hb : badAt pre) : ¬ ((pieces s.data.toList).length ≤ 6 ∧ (pieces s.data.toList).all nameL = true) := by
  rintro ⟨h1, h2⟩
  obtain ⟨q, x, rfl, hx⟩ := hb
  have hl : (piecesB s).length = (pieces s.data.toList).length := by unfold piecesB; rw [List.length_map]
  have := hp.length_le
  rw [List.length_append, hl] at this
  rcases hx with hx | hx
  · have := (all_piecesB s).2 h2 x (hp.subset (by simp))
    rw [hx] at this; cases this
  · simp at this; omega

set_option maxHeartbeats 8000000 in
set_option maxRecDepth 100000 in
theorem Split_calls (p : ByteArray) (hs : p.size ≤ 9223372036854775807) (w : World) :
    Calls Tryd.prog 13 #[.string p] w fun e w' => Below w.heap.size w w' ∧ match splitF p.data.toList with
      | some l => ∃ v, e = .returned (.tuple #[v, .nilIface]) ∧ w'.ownsRow w.heap.size 9 1 v l.length (l.map fun x => .string ⟨x.toArray⟩)
      | none => ∃ v, e = .returned (.tuple #[.slice none 0 0, v]) ∧ FaultAt w' v 2 w.heap.size := by
  by_cases h1 : p.data.toList = [47]
  · have hp2 : (p.toList == [47]) = true := by
      rw [Lib.toList_data, h1]; rfl
    rw [h1]
    change Calls Tryd.prog 13 #[.string p] w (fun e w' => Below w.heap.size w w' ∧ ∃ v, e = .returned (.tuple #[v, .nilIface]) ∧ w'.ownsRow w.heap.size 9 1 v 0 [])
    go_enter Tryd.func13, Tryd.ntmps13
    go_wp2
    refine bodyPost_ret (v := .tuple #[.slice none 0 0, .nilIface]) (by simp [results, Tryd.f13, go_sem]) rfl ?_
    refine ⟨?_, ?_⟩
    · repeat' (first | exact Below.refl _ _ | refine Below.alloc ?_ (by first | exact Nat.le_refl _ | (simp only [World.size_alloc]; omega)) _ | refine Below.setCell ?_ (by simp; try omega) _)
    · exact ⟨_, rfl, World.ownsRow_nil _ _ _ _⟩
  · have hp2 : (p.toList == [47]) = false := by
      rw [Lib.toList_data]
      exact beq_eq_false_iff_ne.2 h1
    cases hpre : Lib.hasPrefix p.data.toList [47]
    · have hn : splitF p.data.toList = none := by
        unfold splitF
        rw [if_neg h1]
        split
        · rename_i r hr
          rw [hr] at hpre
          simp [Lib.hasPrefix] at hpre
        · rfl
      rw [hn]
      change Calls Tryd.prog 13 #[.string p] w (fun e w' => Below w.heap.size w w' ∧ ∃ v, e = .returned (.tuple #[.slice none 0 0, v]) ∧ FaultAt w' v 2 w.heap.size)
      have hCut := Any.strings_CutPrefix Tryd.lays103 p ⟨#[47]⟩ (((w.alloc (.cells #[.string p] 9)).alloc (.cells #[.slice none 0 0] 42)).alloc (.cells #[.nilIface] 30))
      change Calls Tryd.prog 19 _ _ (fun e w' => e = .returned (.tuple #[.string ⟨(Lib.trimPrefix p.data.toList [47]).toArray⟩, .bool (Lib.hasPrefix p.data.toList [47])]) ∧ w' = _) at hCut
      rw [hpre] at hCut
      generalize (⟨(Lib.trimPrefix p.data.toList [47]).toArray⟩ : ByteArray) = rest at hCut
      have hsz : (((w.alloc (.cells #[.string p] 9)).alloc (.cells #[.slice none 0 0] 42)).alloc (.cells #[.nilIface] 30)).heap.size = w.heap.size + 3 := by simp
      have hB3 : Below w.heap.size w (((w.alloc (.cells #[.string p] 9)).alloc (.cells #[.slice none 0 0] 42)).alloc (.cells #[.nilIface] 30)) := by
        repeat' (first | exact Below.refl _ _ | refine Below.alloc ?_ (by first | exact Nat.le_refl _ | (simp only [World.size_alloc]; omega)) _)
      have hP0 : Boxed (((w.alloc (.cells #[.string p] 9)).alloc (.cells #[.slice none 0 0] 42)).alloc (.cells #[.nilIface] 30)) w.heap.size 9 (.string p) := by
        repeat' (first | exact boxed_at _ _ (by first | (simp only [World.size_alloc]; done) | (simp only [World.size_alloc]; omega) | rfl) _ _ | refine Boxed.alloc ?_ _)
      have g0 := hP0.cell
      clear hP0
      have hR1 : Boxed (((w.alloc (.cells #[.string p] 9)).alloc (.cells #[.slice none 0 0] 42)).alloc (.cells #[.nilIface] 30)) (w.heap.size + 1) 42 (.slice none 0 0) := by
        repeat' (first | exact boxed_at _ _ (by first | (simp only [World.size_alloc]; done) | (simp only [World.size_alloc]; omega) | rfl) _ _ | refine Boxed.alloc ?_ _)
      have hR2 : Boxed (((w.alloc (.cells #[.string p] 9)).alloc (.cells #[.slice none 0 0] 42)).alloc (.cells #[.nilIface] 30)) (w.heap.size + 1 + 1) 30 .nilIface := by
        repeat' (first | exact boxed_at _ _ (by first | (simp only [World.size_alloc]; done) | (simp only [World.size_alloc]; omega) | rfl) _ _ | refine Boxed.alloc ?_ _)
      go_enter Tryd.func13, Tryd.ntmps13
      generalize hW1 : (((w.alloc (.cells #[.string p] 9)).alloc (.cells #[.slice none 0 0] 42)).alloc (.cells #[.nilIface] 30)) = W1 at hCut hsz hB3 g0 hR1 hR2
      go_wp2_with (first | (go_at_call 19; refine hCut.mono ?_; rintro e w' ⟨rfl, rfl⟩) | (go_at_call 15; refine (At_calls _ _ _ _).mono ?_; rintro e W2 ⟨rfl, hW2⟩; have hb2 : Below w'.heap.size w' W2 := by { rw [hW2]; exact (Below.refl _ _).alloc (Nat.le_refl _) _ }; have hF : W2.heap[w'.heap.size]? = some (.cells #[.string ⟨#[115, 112, 108, 105, 116]⟩, .string p, .iface 47 (.int .i64 2)] 63 (0, 0)) := by { rw [hW2]; exact World.alloc_heap_new w' _ }; clear hW2; have h1 := boxed_below hR1 hb2; have h2 := boxed_below hR2 hb2; clear g0 hR1 hR2; have g1 := h1.cell; have f1 := h1.frozen; have g2 := h2.cell; have f2 := h2.frozen))
      have hR1' := (h1.set (.slice none 0 0)).other (B' := w.heap.size + 1 + 1) (by omega) (.iface 61 (.pointer (some ⟨w.heap.size + 3, 0, none⟩)))
      have hR2' := (h2.other (B' := w.heap.size + 1) (by omega) (.slice none 0 0)).set (.iface 61 (.pointer (some ⟨w.heap.size + 3, 0, none⟩)))
      have hB' := ((hB3.trans (hb2.mono (by omega))).setCell (p := ⟨w.heap.size + 1, 0, none⟩) (by simp) (.slice none 0 0)).setCell (p := ⟨w.heap.size + 1 + 1, 0, none⟩) (by simp; omega) (.iface 61 (.pointer (some ⟨w.heap.size + 3, 0, none⟩)))
      rw [hsz] at hF
      have hF' := heap_setCell_ne (b := w.heap.size + 1 + 1) (v := .iface 61 (.pointer (some ⟨w.heap.size + 3, 0, none⟩))) (show w.heap.size + 3 ≠ w.heap.size + 1 + 1 by omega) (heap_setCell_ne (b := w.heap.size + 1) (v := .slice none 0 0) (show w.heap.size + 3 ≠ w.heap.size + 1 by omega) hF)
      have c1 := hR1'.cell
      have c2 := hR2'.cell
      refine bodyPost_ret (v := .tuple #[.slice none 0 0, .iface 61 (.pointer (some ⟨w.heap.size + 3, 0, none⟩))]) (by simp [results, Tryd.f13, go_sem, c1, c2]) rfl ?_
      exact ⟨hB', _, rfl, w.heap.size + 3, _, _, rfl, by omega, hF'⟩
    · obtain ⟨r, hr⟩ : ∃ r, p.data.toList = 47 :: r := by
        cases hl : p.data.toList with
        | nil => rw [hl] at hpre; simp [Lib.hasPrefix] at hpre
        | cons b r =>
          rw [hl] at hpre
          simp [Lib.hasPrefix] at hpre
          exact ⟨r, by rw [← hpre]⟩
      have ht : Lib.trimPrefix p.data.toList [47] = r := by
        unfold Lib.trimPrefix
        rw [if_pos hpre, hr]; rfl
      refine (Split_loop p ⟨r.toArray⟩ ?_ w h1 hpre (by rw [ht])).mono ?_
      · have h2 : p.data.toList.length = p.size := rfl
        rw [hr] at h2
        show r.length ≤ _
        simp at h2; omega
      · rintro e w' ⟨hB, h⟩
        refine ⟨hB, ?_⟩
        have hsp : splitF p.data.toList = if (pieces r).length ≤ 6 ∧ (pieces r).all nameL = true then some (pieces r) else none := by
          unfold splitF
          rw [if_neg h1]
          rw [hr]
          rfl
        rw [hsp]
        rcases h with ⟨v, he, hl, ha, hrow⟩ | ⟨v, pre, he, hF, hp, hb⟩
        · have hl2 : (piecesB ⟨r.toArray⟩).length = (pieces r).length := by unfold piecesB; rw [List.length_map]
          rw [if_pos ⟨by rw [← hl2]; exact hl, (all_piecesB ⟨r.toArray⟩).1 ha⟩]
          refine ⟨v, he, ?_⟩
          rw [hl2] at hrow
          unfold piecesB at hrow
          rw [List.map_map] at hrow
          exact hrow
        · rw [if_neg (bad_not ⟨r.toArray⟩ pre hp hb)]
          exact ⟨v, he, hF⟩
end Go.Proofs.YtdmnpofodechpaaDoor.Print
