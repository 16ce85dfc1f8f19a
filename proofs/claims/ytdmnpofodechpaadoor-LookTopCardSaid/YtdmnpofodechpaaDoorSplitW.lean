/- strings.SplitSeq at "/": what its iterator gives. -/
import Derived.Test.YtdmnpofodechpaaDoorNameW
import Derived.Test.YtdmnpofodechpaaDoorRangeB
import Derived.Maps.AppendAt
import Derived.Sort.LoopGhostIn
namespace Go.Proofs.YtdmnpofodechpaaDoor.Print
open Go Go.Proofs Go.RowKit Go.Shelf
attribute [local go_sem] Oper.semAt_some
set_option linter.unusedVariables false
set_option linter.unusedSimpArgs false

/-- A text's parts between slashes. -/
def pieces : List UInt8 → List (List UInt8)
  | [] => [[]]
  | b :: l => if b = 47 then [] :: pieces l else match pieces l with
    | p :: ps => (b :: p) :: ps
    | [] => [[b]]
theorem indexByte_cons_hit (l : List UInt8) : Lib.indexByte (47 :: l) 47 = 0 := by simp [Lib.indexByte]
theorem indexByte_cons_miss (b : UInt8) (l : List UInt8) (h : b ≠ 47) : Lib.indexByte (b :: l) 47 = if Lib.indexByte l 47 = -1 then -1 else Lib.indexByte l 47 + 1 := by
  rw [Lib.indexByte, if_neg (by simpa using h)]
  by_cases h2 : Lib.indexByte l 47 = -1
  · rw [if_pos (by simpa using h2), if_pos h2]
  · rw [if_neg (by simpa using h2), if_neg h2]
theorem pieces_none : ∀ l : List UInt8, Lib.indexByte l 47 < 0 → pieces l = [l]
  | [], _ => rfl
  | b :: l, h => by
    by_cases hb : b = 47
    · subst hb; rw [indexByte_cons_hit] at h; omega
    · rw [indexByte_cons_miss b l hb] at h
      have hl : Lib.indexByte l 47 < 0 := by
        have := Lib.indexByte_ge l 47
        split at h <;> omega
      rw [pieces, if_neg hb, pieces_none l hl]
theorem pieces_some : ∀ (l : List UInt8) (i : Nat), Lib.indexByte l 47 = (i : Int) → pieces l = l.take i :: pieces (l.drop (i + 1))
  | [], i, h => by simp [Lib.indexByte] at h
  | b :: l, i, h => by
    by_cases hb : b = 47
    · subst hb
      rw [indexByte_cons_hit] at h
      obtain rfl : i = 0 := by omega
      rw [pieces, if_pos rfl]; simp
    · rw [indexByte_cons_miss b l hb] at h
      have hge := Lib.indexByte_ge l 47
      split at h
      · omega
      · obtain ⟨k, rfl⟩ : ∃ k, i = k + 1 := ⟨i - 1, by omega⟩
        rw [pieces, if_neg hb, pieces_some l k (by omega)]
        simp
def piecesB (s : ByteArray) : List ByteArray := (pieces s.data.toList).map fun l => ⟨l.toArray⟩
theorem piecesB_none (s : ByteArray) (h : Lib.indexByte s.data.toList 47 < 0) : piecesB s = [s] := by
  unfold piecesB
  rw [pieces_none _ h]
  rfl
theorem piecesB_some (s : ByteArray) (i : Nat) (h : Lib.indexByte s.data.toList 47 = (i : Int)) : i < s.size ∧ piecesB s = s.extract 0 i :: piecesB (s.extract (i + 1) s.size) := by
  have hi := (Lib.indexByte_some h).1
  have hlt : i < s.data.toList.length := (List.getElem?_eq_some_iff.1 hi).1
  have hlt2 : i < s.size := hlt
  refine ⟨hlt2, ?_⟩
  unfold piecesB
  rw [pieces_some _ i h, List.map_cons]
  have e1 : s.extract 0 i = ⟨(s.data.toList.take i).toArray⟩ := by
    apply ByteArray.ext
    apply Array.ext'
    simp
  have e2 : (s.extract (i + 1) s.size).data.toList = s.data.toList.drop (i + 1) := by
    simp
    exact List.take_of_length_le (by rw [List.length_drop]; exact Nat.le_refl _)
  rw [e1, e2]

/-- What a round keeps: three boxes from B on. -/
def Keep3 (B : Nat) (W W' : World) : Prop := ∀ k, B ≤ k → k < B + 3 → W'.heap[k]? = W.heap[k]?

set_option maxHeartbeats 8000000 in
set_option maxRecDepth 100000 in
theorem splitSeq_box (n B : Nat) (hn : 2 ≤ n) (s : ByteArray) (hss : s.size ≤ 9223372036854775807) (w : World) (h0 : w.cell? ⟨B + 1, 0, none⟩ = some (.string ⟨#[47]⟩)) (h1 : w.cell? ⟨B, 0, none⟩ = some (.string s)) (hf1 : w.frozen? ⟨B, 0, none⟩ = false) (h2 : w.cell? ⟨B + 2, 0, none⟩ = some (.int .i64 0)) :
    SeqBox Fence.wide n Tryd.prog 46 #[.pointer (some ⟨B + 1, 0, none⟩), .pointer (some ⟨B, 0, none⟩), .pointer (some ⟨B + 2, 0, none⟩)] B (fun x : ByteArray => #[.string x]) (Keep3 B) (fun xs => xs = piecesB s) (fun pre => pre <+: piecesB s) w := by
  intro l J Jx hJb hJxb W hW hY hJ0
  have hB2 : B + 2 < w.heap.size := by
    rcases Nat.lt_or_ge (B + 2) w.heap.size with h | h
    · exact h
    · simp [World.cell?, Array.getElem?_eq_none h] at h2
  have g0 := (hW.cell (p := ⟨B + 1, 0, none⟩) (show B + 1 < w.heap.size by omega)).trans h0
  have g1 := (hW.cell (p := ⟨B, 0, none⟩) (show B < w.heap.size by omega)).trans h1
  have g2 := (hW.cell (p := ⟨B + 2, 0, none⟩) (show B + 2 < w.heap.size by omega)).trans h2
  have gf := (hW.frozen (p := ⟨B, 0, none⟩) (show B < w.heap.size by omega)).trans hf1
  clear h0 h1 h2 hf1
  refine callsIn_of_wp Tryd.func46 rfl trivial ?_ rfl
  simp only [Tryd.ntmps46, List.size_toArray, List.length_cons, List.length_nil, Nat.reduceAdd, Nat.reduceSub, Array.replicate_succ, Array.replicate_zero, List.push_toArray, List.append_toArray, List.nil_append, List.cons_append]
  gi_wp2
  have hI0 := fun (x : ByteArray) W => (callsIn_wide (n := n - 1)).2 (Any.strings_Index_one Tryd.lays143 x 47 W)
  change ∀ (x : ByteArray) W, CallsIn Fence.wide (n - 1) Tryd.prog 48 #[.string x, .string ⟨#[47]⟩] W (fun e w' => e = .returned (.int .i64 (Lib.indexByte x.data.toList 47)) ∧ w' = W) at hI0
  gi_loopg [] (s.size) (fun gf wx => ∃ (pre : List ByteArray) (cur : ByteArray), wx.cell? ⟨B, 0, none⟩ = some (.string cur) ∧ wx.frozen? ⟨B, 0, none⟩ = false ∧ wx.cell? ⟨B + 1, 0, none⟩ = some (.string ⟨#[47]⟩) ∧ wx.cell? ⟨B + 2, 0, none⟩ = some (.int .i64 0) ∧ J pre wx ∧ piecesB s = pre ++ piecesB cur ∧ cur.size ≤ gf ∧ cur.size ≤ s.size)
  case atStart => exact ⟨[], s, g1, gf, g0, g2, hJ0, rfl, Nat.le_refl _, Nat.le_refl _⟩
  case round =>
    clear g0 g1 g2 gf hJ0
    obtain ⟨pre, cur, g1, gf, g0, g2, hJ, hp, hgk, hcs⟩ := hrel
    have hI := hI0 cur wr
    clear hI0
    rcases Int.lt_or_le (Lib.indexByte cur.data.toList 47) 0 with hneg | hpos
    · obtain ⟨fn, tmps, assign, body, hy, hR⟩ := hY pre cur wr hJ
      have hpc := piecesB_none cur hneg
      generalize Lib.indexByte cur.data.toList 47 = ii at hI hneg
      gi_wp2_with (refine ⟨trivial, fun _ => by omega, ?_⟩; gi_at_call 48; refine hI.mono ?_; rintro e w' ⟨rfl, rfl⟩)
      refine ⟨fun _ => by omega, hR.mono ?_⟩
      rintro e W' (⟨rfl, hJ', hk⟩ | ⟨rfl, hJx'⟩)
      · gi_wp2
        go_end0
        refine ⟨⟨_, rfl⟩, .inl ⟨_, ?_, hJ'⟩⟩
        rw [hp, hpc]
      · gi_wp2
        go_end0
        refine ⟨⟨_, rfl⟩, .inr ⟨_, ?_, hJx'⟩⟩
        rw [hp, hpc]
        exact List.prefix_refl _
    · obtain ⟨i, hi⟩ : ∃ i : Nat, Lib.indexByte cur.data.toList 47 = (i : Int) := ⟨(Lib.indexByte cur.data.toList 47).toNat, by omega⟩
      obtain ⟨hlt, hpc⟩ := piecesB_some cur i hi
      have hsz : cur.size ≤ 9223372036854775807 := by omega
      rw [hi] at hI
      clear hpos hi
      obtain ⟨fn, tmps, assign, body, hy, hR⟩ := hY pre (cur.extract 0 i) wr hJ
      gi_wp2_with (refine ⟨trivial, fun _ => by omega, ?_⟩; gi_at_call 48; refine hI.mono ?_; rintro e w' ⟨rfl, rfl⟩)
      refine ⟨fun _ => by omega, hR.mono ?_⟩
      rintro e W' (⟨rfl, hJ', hk⟩ | ⟨rfl, hJx'⟩)
      · replace g0 := (World.cell?_of_block (hk (B + 1) (by omega) (by omega))).trans g0
        replace g1 := (World.cell?_of_block (hk B (by omega) (by omega))).trans g1
        replace g2 := (World.cell?_of_block (hk (B + 2) (by omega) (by omega))).trans g2
        replace gf := (World.frozen?_of_block (hk B (by omega) (by omega))).trans gf
        clear hR hy hY hk
        gi_wp2
        go_roundg (gk - 1)
        case measure => omega
        case rel =>
          have hx : (cur.extract (i + 1) cur.size).size = cur.size - (i + 1) := by rw [ByteArray.size_extract]; omega
          exact ⟨pre ++ [cur.extract 0 i], cur.extract (i + 1) cur.size, World.cell?_setCell_same' _ _ _ (by rw [g1]; rfl), by rw [World.frozen?_setCell]; exact gf, by rw [World.cell?_setCell_other _ _ _ _ (by simp)]; exact g0, by rw [World.cell?_setCell_other _ _ _ _ (by simp)]; exact g2, hJb _ _ _ hJ', by rw [hp, hpc]; simp, by omega, by omega⟩
      · gi_wp2
        refine bodyPost_ret (results_none rfl _ _ _) rfl ?_
        refine ⟨⟨_, rfl⟩, .inr ⟨_, ?_, hJx'⟩⟩
        rw [hp, hpc]
        exact ⟨piecesB (cur.extract (i + 1) cur.size), by simp⟩
theorem SplitSeq_calls (s : ByteArray) (w : World) :
    Calls Tryd.prog 20 #[.string s, .string ⟨#[47]⟩] w fun e w' => e = .returned (.func (.func 46) #[] #[.pointer (some ⟨w.heap.size + 1, 0, none⟩), .pointer (some ⟨w.heap.size, 0, none⟩), .pointer (some ⟨w.heap.size + 2, 0, none⟩)]) ∧ w' = ((w.alloc (.cells #[.string s] 9)).alloc (.cells #[.string ⟨#[47]⟩] 9)).alloc (.cells #[.int .i64 0] 3) := by
  go_enter Tryd.func20, Tryd.ntmps20
  go_wp2
  go_ret
  exact ⟨rfl, rfl⟩
end Go.Proofs.YtdmnpofodechpaaDoor.Print
