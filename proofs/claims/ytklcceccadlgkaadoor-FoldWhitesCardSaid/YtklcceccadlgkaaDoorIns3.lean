/- slices.Insert and slices.Clone at entries, on rows of the call's own. -/
import Derived.Test.YtklcceccadlgkaaDoorRows3
import Derived.Lib.Overlaps
import Derived.Lib.AppendZeros
import Derived.Lib.AppendZerosOnto
import Derived.Laws.NewBlocks
import Derived.Laws.Externs
namespace Go.Proofs.YtklcceccadlgkaaDoor.Print
open Go Go.RowKit Go.Proofs.YtklcceccadlgkaaDoorW.PrintWords Go.Proofs.YtklcceccadlgkaaDoorW.PrintLast Go.Proofs.YtklcceccadlgkaaDoorW.PrintMore
set_option linter.unusedVariables false
set_option linter.unusedSimpArgs false
theorem Tryd.info3 : (Tryd.prog.info? 23).map (fun i => (i.zero, i.size, i.bytes)) = some (some (.agg #[.string ⟨#[]⟩, .int .i64 0, .string ⟨#[]⟩]), 3, 40) := by kernel_rfl
section
variable {α : Type} (P : α → ByteArray) (K : α → Int) (D : α → ByteArray)
/-- A row of the call's own: of the blocks S, or a new one. -/
abbrev Own3 (w : World) (base : Nat) (S : Nat → Prop) (v : Value) (xs : List α) : Prop := Kd.R (kd3 P K D) 23 w base S v xs
theorem reads_one (x : α) {w : World} {b : Nat} (h : Blk w b 23 (e3 P K D x)) : ReadsRow (fun (y : α) cs => cs = e3 P K D y) 3 w (some ⟨b, 0, none⟩) 1 [x] := by
  refine ⟨rfl, by omega, fun _ => ⟨_, rfl, fun j y hy => ?_⟩⟩
  cases j with
  | zero =>
    obtain rfl : x = y := by simpa using hy
    exact ⟨_, rfl, rfl, fun i u hu => by rw [addr_add]; simp only [Nat.zero_mul, Nat.zero_add]; exact h.cell hu⟩
  | succ j => simp at hy
theorem C_R3 {w : World} {A : Option Addr} {xs : List α} (h : Kd.C (kd3 P K D) w A xs.length xs) : ReadsRow (fun (y : α) cs => cs = e3 P K D y) 3 w A xs.length xs :=
  h.imp_ (Below.refl _ _) (fun x cs hx => ((flat3 P K D).K w x cs).1 hx)
set_option maxHeartbeats 8000000 in
theorem clone3 (A0 : Option Addr) (c0 : Nat) (l0 : List α) (w : World) (hr0 : Kd.C (kd3 P K D) w A0 l0.length l0) (hc0 : l0.length ≤ c0) (hl : l0.length * 40 ≤ 140737488355328) :
    Calls Tryd.prog 72 #[.slice A0 l0.length c0] w fun e w' => ∃ v : Value, e = .returned v ∧ Own3 P K D w' w.heap.size (fun _ => True) v l0 ∧ Below w.heap.size w w' := by
  cases A0 with
  | none =>
    obtain ⟨h1, h2⟩ := reads_none hr0
    subst h1
    have hnil := @Lib.run_eql_slice_nil
    go_enter Tryd.func72, Tryd.ntmps72
    go_wp2
    go_ret
    exact ⟨_, rfl, Kd.R_nil _ _ _ _ _, Below.refl _ _⟩
  | some ad =>
    have hnil := @Lib.run_eql_slice_nil
    have HR := Aside0.mk hr0
    have HL := Aside0.mk hl
    clear hr0 hl hc0
    go_enter Tryd.func72, Tryd.ntmps72
    go_wp2_with (first
      | ((with_reducible refine gate_builtin (b := .append) (xs := #[.tmp 5, .tmp 6]) rfl ?_); refine hold ?_))
    unfold Hold
    refine Kd.R_append_rows (kd3 P K D) (w0 := w) w.heap.size rfl (.tmp 5) (.tmp 6) 61 23 _ 40 rfl Tryd.underlying61 Tryd.info3 rfl (flat3 P K D).pos (by omega) _ [] l0 (some ad) l0.length c0 (fun _ => True) (fun _ => False) rfl rfl ?aF (C_R3 P K D (Kd.C_below HR.out ?aB2)) (fun x cs h => ((flat3 P K D).M _ _ _ x cs).2 h) (fun _ h => h.elim) (fun _ _ => trivial) ?aB ?aS ?aL ?_
    case aF => exact R_empty_lit _ _ _ _ (Nat.le_refl _)
    case aB2 => exact below_alloc (Below.refl _ _) _
    case aB => exact below_alloc (Below.refl _ _) _
    case aS => simp
    case aL => have := HL.out; simp; omega
    intro v1 w1 ho hb hg hat
    go_wp2
    go_ret
    exact ⟨_, rfl, by simpa using ho, hb⟩
/-- What an insertion leaves. -/
def InsEnd (w0 w : World) (S : Nat → Prop) (ys : List α) (e : Ending) (w' : World) : Prop :=
  ∃ v : Value, e = .returned v ∧ Own3 P K D w' w0.heap.size (fun k => S k ∨ w.heap.size ≤ k) v ys ∧ Below w0.heap.size w0 w' ∧ Kept w w' S
theorem grown_kept {w w' : World} {v : Value} {S : Nat → Prop} (h : w.grownBy w' v.ownBlock) (hS : ∀ k, v.ownBlock = some k → S k) (hs : w.heap.size ≤ w'.heap.size) : Kept w w' S :=
  ⟨hs, fun k hk hn => h.block k hk (fun e => hn (hS k e.symm))⟩
set_option maxHeartbeats 8000000 in
set_option maxRecDepth 100000 in
/-- At the end. -/
theorem insert_end (S : Nat → Prop) (v : Value) (xs : List α) (x : α) (vb vc : Nat) (w0 w : World) (hB : Below w0.heap.size w0 w) (ho : Own3 P K D w w0.heap.size S v xs) (hV : Blk w vb 23 (e3 P K D x)) (hl : (xs.length + 1) * 40 ≤ 140737488355328) :
    Calls Tryd.prog 125 #[v, .int .i64 (xs.length : Nat), .slice (some ⟨vb, 0, none⟩) 1 vc] w (InsEnd P K D w0 w S (xs ++ [x])) := by
  have ho1 : Own3 P K D w w0.heap.size (fun k => S k ∨ w.heap.size ≤ k) v xs := Kd.R_mono ho (fun k hk => .inl hk)
  have HO := Aside0.mk ho1
  have HS := Aside0.mk ho.1
  have HB := Aside0.mk hB
  have HR := Aside0.mk (reads_one P K D x hV)
  have HL := Aside0.mk hl
  have hres : ∀ v1 w1, Own3 P K D w1 w0.heap.size (fun k => S k ∨ w.heap.size ≤ k) v1 (xs ++ [x]) → Below w0.heap.size w0 w1 → w.grownBy w1 v.ownBlock → InsEnd P K D w0 w S (xs ++ [x]) (.returned v1) w1 :=
    fun v1 w1 h1 h2 h3 => ⟨v1, rfl, h1, h2, grown_kept h3 HS.out h3.size⟩
  have HRES := Aside0.mk hres
  have hraw := R_raw (flat3 P K D) ho
  clear hB hV hl ho ho1 hres
  rcases hraw with ⟨rfl, rfl⟩ | ⟨g, cap, cur, rfl, hge, hok, hg, hnc, hcm, hcs, ht⟩
  · have hz : ((0 : Nat) : Int) = 0 := rfl
    go_enter Tryd.func125, Tryd.ntmps125
    go_wp2_with (first
      | ((with_reducible refine gate_builtin (b := .append) (xs := #[.tmp 23, .tmp 24]) rfl ?_); refine hold ?_))
    unfold Hold
    refine Kd.R_append_rows (kd3 P K D) (w0 := w0) w0.heap.size rfl (.tmp 23) (.tmp 24) 61 23 _ 40 rfl Tryd.underlying61 Tryd.info3 rfl (flat3 P K D).pos (by omega) _ [] [x] (some ⟨vb, 0, none⟩) 1 vc (fun k => S k ∨ w.heap.size ≤ k) (fun _ => False) rfl rfl HO.out HR.out (fun x cs h => ((flat3 P K D).M _ _ _ x cs).2 h) (fun _ h => h.elim) (fun _ h => .inr h) HB.out HB.out.size HL.out ?_
    intro v1 w1 ho hb hgr hat
    have HE := Aside0.mk (HRES.out v1 w1 ho hb hgr)
    clear ho hb hgr hat
    go_wp2
    go_ret
    exact HE.out
  · clear hg hcs ht hok hge
    generalize hlen : xs.length = n at hnc HL ⊢
    have HN := Aside0.mk hlen
    rw [hlen] at HO HRES
    clear hlen
    by_cases hcn : cap = n
    all_goals
      go_enter Tryd.func125, Tryd.ntmps125
      go_wp2_with (first
        | ((with_reducible refine gate_builtin (b := .append) (xs := #[.tmp 23, .tmp 24]) rfl ?_); refine hold ?_))
      unfold Hold
      refine Kd.R_append_rows (kd3 P K D) (w0 := w0) w0.heap.size rfl (.tmp 23) (.tmp 24) 61 23 _ 40 rfl Tryd.underlying61 Tryd.info3 rfl (flat3 P K D).pos (by omega) _ xs [x] (some ⟨vb, 0, none⟩) 1 vc (fun k => S k ∨ w.heap.size ≤ k) (fun _ => False) rfl rfl HO.out HR.out (fun x cs h => ((flat3 P K D).M _ _ _ x cs).2 h) (fun _ h => h.elim) (fun _ h => .inr h) HB.out HB.out.size (by have := HL.out; have := HN.out; omega) ?_
      intro v1 w1 ho hb hgr hat
      have HE := Aside0.mk (HRES.out v1 w1 ho hb hgr)
      clear ho hb hgr hat
      go_wp2
      go_ret
      exact HE.out
theorem shape3 {w : World} {b e : Nat} {cs : List Value} (h : Blk w b e cs) : w.shape? b = some (e, cs.length) := by unfold Blk at h; simp [World.shape?, h]
theorem frozen3 {w : World} {b e : Nat} {cs : List Value} (h : Blk w b e cs) (o : Nat) : w.frozen? ⟨b, o, none⟩ = false := by unfold Blk at h; simp [World.frozen?, h]
set_option maxHeartbeats 16000000 in
set_option maxRecDepth 100000 in
/-- In the middle, there is room. -/
theorem insert_room (S : Nat → Prop) (xs : List α) (i : Nat) (hi : i < xs.length) (x : α) (g cap : Nat) (cur : List Value) (vb vc : Nat) (w0 w : World) (hB : Below w0.heap.size w0 w) (hge : w0.heap.size ≤ g) (hS : S g) (hg : Blk w g 23 cur) (hnc : xs.length + 1 ≤ cap) (hcm : cap ≤ 9223372036854775807)
    (hcs : cur.length = cap * 3) (ht : cur.take (xs.length * 3) = c3 P K D xs) (hV : Blk w vb 23 (e3 P K D x)) (hvg : vb ≠ g) :
    Calls Tryd.prog 125 #[.slice (some ⟨g, 0, none⟩) xs.length cap, .int .i64 (i : Nat), .slice (some ⟨vb, 0, none⟩) 1 vc] w (InsEnd P K D w0 w S (xs.take i ++ x :: xs.drop i)) := by
  have hov : ∀ off lb cb, (callFunc 136 #[.slice (some ⟨vb, 0, none⟩) 1 vc, .slice (some ⟨g, off, none⟩) lb cb]).run Tryd.prog w = .ok (.value (.bool false)) w := fun off lb cb => by
    rw [run_callFunc_extern Tryd.func136 (by kernel_rfl) (by kernel_rfl) (by kernel_rfl) (e := Extern.SlicesOverlaps.overlaps #[61, 61] #[4]) (by kernel_rfl),
      Lib.run_overlaps_apart w 61 4 23 Tryd.underlying61 3 (fun w => by kernel_rfl) ⟨vb, 0, none⟩ ⟨g, off, none⟩ 1 vc lb cb hvg _ _ _ _ (shape3 hV) (shape3 hg) (by rw [hcs]; omega) (frozen3 hV _) (frozen3 hV _)]
    rfl
  have hfin : ∀ (cur2 : List Value) (w2 : World), Blk w2 g 23 cur2 → cur2.length = cap * 3 → cur2.take ((xs.length + 1) * 3) = c3 P K D (xs.take i ++ x :: xs.drop i) → KB w w2 g → Below w0.heap.size w0 w2 → InsEnd P K D w0 w S (xs.take i ++ x :: xs.drop i) (.returned (.slice (some ⟨g, 0, none⟩) (xs.length + 1) cap)) w2 := by
    intro cur2 w2 h1 h2 h3 h4 h5
    have hl : (xs.take i ++ x :: xs.drop i).length = xs.length + 1 := by simp; omega
    exact ⟨_, rfl, R_shut (flat3 P K D) hge (.inl hS) h1 hl.symm (by rw [hl]; exact hnc) hcm h2 (by rw [hl]; exact h3), h5, h4.kept hS⟩
  have HFIN := Aside0.mk hfin
  have HG := Aside0.mk hg
  have HV := Aside0.mk hV
  have HB := Aside0.mk hB
  have HC := Aside0.mk hcs
  have HT := Aside0.mk ht
  clear hfin hg hV hB hcs ht
  generalize hlen : xs.length = n at hi hnc HT HFIN ⊢
  have HN := Aside0.mk hlen
  clear hlen
  have k1 : IntKind.i64.wrap ((i : Int) + 1) = (i : Int) + 1 := IntWalk.i64_in _ (by omega)
  have k2 : 0 ≤ (i : Int) + 1 := by omega
  have k3 : ((i : Int) + 1).toNat = i + 1 := by omega
  have k4 : ¬ cap = i + 1 := by omega
  have k5 : ¬ cap = i := by omega
  have k6 : (i : Int) + 1 ≤ (n : Int) + 1 := by omega
  have k7 : (i : Int) ≤ (n : Int) + 1 := by omega
  have k8 : ((i : Int) == (n : Int)) = false := beq_eq_false_iff_ne.2 (by omega)
  have k9 : ¬ ((cap : Int) < (n : Int) + 1) := by omega
  have hnB : n < 9223372036854775807 := by omega
  go_enter Tryd.func125, Tryd.ntmps125
  go_wp2_with (simp only [hov])
  go_still_tail 8, (by kernel_rfl)
  change wpList _ _ _ _ _ w.drew
  (with_reducible refine gate_builtin (b := .copy) (xs := #[.tmp 73, .tmp 76]) rfl ?_)
  refine wp_copy rfl (.tmp 73) (.tmp 76) 61 61 rfl 23 3 Tryd.underlying61 Tryd.size3 g ((i + 1) * 3) _ _ _ _ _ _ rfl rfl cur 23 (c3 P K D (xs.drop i)) HG.out.drew ?hn (fun _ => ⟨rfl, ⟨g, i * 3, none⟩, rfl, ?hp⟩) ?hf (c3_one P K D _) (below_drew1 HB.out) hge ?_
  case hn => rw [c3_len, List.length_drop, HN.out]; congr 1; simp only [Nat.min_def]; split <;> omega
  case hp =>
    intro j u hu
    rw [addr_add]
    refine HG.out.drew.cell ?_
    rw [← c3_drop, ← HT.out, List.getElem?_drop, List.getElem?_take] at hu
    split at hu
    · exact hu
    · cases hu
  case hf => rw [c3_len, List.length_drop, HN.out, HC.out]; omega
  intro w1 hg1 hk1 hb1
  have hl0 : (c3 P K D (xs.drop i)).length = (n - i) * 3 := by rw [c3_len, List.length_drop, HN.out]
  have hsl1 : (i + 1) * 3 + (c3 P K D (xs.drop i)).length ≤ cur.length := by rw [hl0, HC.out]; omega
  obtain ⟨c1, hc1⟩ : ∃ c1, c1 = splice cur ((i + 1) * 3) (c3 P K D (xs.drop i)) := ⟨_, rfl⟩
  rw [← hc1] at hg1
  have HL1 : Aside0 (c1.length = cap * 3) := ⟨by rw [hc1, length_splice _ _ _ hsl1]; exact HC.out⟩
  have HA1 : Aside0 (c1.take (i * 3) = c3 P K D (xs.take i)) := ⟨by
    have e1 : c1.take (i * 3) = (c1.take ((i + 1) * 3)).take (i * 3) := by rw [List.take_take, Nat.min_eq_left (by omega)]
    rw [e1, hc1, splice_take hsl1, List.take_take, Nat.min_eq_left (by omega), ← c3_take, ← HT.out, List.take_take, Nat.min_eq_left (by omega)]⟩
  have HB1 : Aside0 ((c1.take ((n + 1) * 3)).drop ((i + 1) * 3) = c3 P K D (xs.drop i)) := ⟨by
    have e2 : (n + 1) * 3 = (i + 1) * 3 + (c3 P K D (xs.drop i)).length := by rw [hl0]; omega
    rw [e2, hc1, splice_take2 hsl1, List.drop_append, List.drop_eq_nil_of_le (by rw [List.length_take]; omega), List.nil_append]
    have : (i + 1) * 3 - (cur.take ((i + 1) * 3)).length = 0 := by rw [List.length_take, HC.out]; omega
    rw [this, List.drop_zero]⟩
  clear hc1 hsl1 hl0
  go_wp2_with (first
    | ((with_reducible refine gate_builtin (b := .copy) (xs := #[.tmp 80, .tmp 81]) rfl ?_); refine hold ?_))
  unfold Hold
  refine wp_copy rfl (.tmp 80) (.tmp 81) 61 61 rfl 23 3 Tryd.underlying61 Tryd.size3 g (i * 3) _ _ _ _ _ _ rfl rfl c1 23 (e3 P K D x) hg1.out ?hn (fun _ => ⟨rfl, ⟨vb, 0, none⟩, rfl, ?hp⟩) ?hf ((flat3 P K D).one x) hb1.out hge ?_
  case hn => simp only [e3, List.length_cons, List.length_nil]; have : Nat.min 1 (n + 1 - i) = 1 := Nat.min_eq_left (by omega); rw [this]
  case hp =>
    intro j u hu
    rw [addr_add, Nat.zero_add]
    exact (HV.out.other ((KB.trans (b := w.drew) ⟨Nat.le_refl _, fun _ _ _ => rfl⟩ hk1.out) : KB w w1 g) hvg).cell hu
  case hf => rw [HL1.out]; simp [e3]; omega
  intro w2 hg2 hk2 hb2
  have hsl2 : i * 3 + (e3 P K D x).length ≤ c1.length := by rw [HL1.out]; simp [e3]; omega
  have HE := Aside0.mk (HFIN.out _ w2 hg2.out (by rw [length_splice _ _ _ hsl2]; exact HL1.out) (by
    have e3l : (e3 P K D x).length = 3 := rfl
    have e4 : (n + 1) * 3 = (i * 3 + (e3 P K D x).length) + (n - i) * 3 := by rw [e3l]; omega
    rw [e4, List.take_add, splice_take2 hsl2, HA1.out, splice_drop hsl2, c3_append, c3_cons, List.append_assoc]
    congr 2
    have e5 : i * 3 + (e3 P K D x).length = (i + 1) * 3 := by rw [e3l]; omega
    rw [e5, ← HB1.out, List.drop_take]
    congr 1
    omega) ((KB.trans (b := w.drew) ⟨Nat.le_refl _, fun _ _ _ => rfl⟩ hk1.out).trans hk2.out) hb2.out)
  clear hg2 hk2 hb2
  go_wp2
  go_ret
  exact HE.out
theorem Blk.new (w : World) (e : Nat) (cs : Array Value) : Blk (w.alloc (.cells cs e)) w.heap.size e cs.toList := by unfold Blk; simpa using heap_alloc_new w _
set_option maxHeartbeats 16000000 in
set_option maxRecDepth 100000 in
/-- In the middle, no room: a new row. -/
theorem insert_grow (S : Nat → Prop) (xs : List α) (i : Nat) (hi : i < xs.length) (x : α) (g : Nat) (cur : List Value) (vb vc : Nat) (w0 w : World) (hB : Below w0.heap.size w0 w) (hg : Blk w g 23 cur)
    (ht : cur.take (xs.length * 3) = c3 P K D xs) (hV : Blk w vb 23 (e3 P K D x)) (hl : (xs.length + 1) * 40 ≤ 140737488355328) :
    Calls Tryd.prog 125 #[.slice (some ⟨g, 0, none⟩) xs.length xs.length, .int .i64 (i : Nat), .slice (some ⟨vb, 0, none⟩) 1 vc] w (InsEnd P K D w0 w S (xs.take i ++ x :: xs.drop i)) := by
  obtain ⟨i0, hi0, hz0, hzs, hzb⟩ := info_parts Tryd.info3
  have hgl := hg.lt
  have hvl := hV.lt
  have hhead : ∀ j u, (c3 P K D (xs.take i))[j]? = some u → w.cell? ((⟨g, 0, none⟩ : Addr).add j) = some u := fun j u hu => by
    rw [addr_add, Nat.zero_add]
    refine hg.cell ?_
    rw [← c3_take, ← ht, List.getElem?_take] at hu
    split at hu
    · rw [List.getElem?_take] at hu
      split at hu
      · exact hu
      · cases hu
    · cases hu
  have hold : (Builtin.firstCells i0.size i (.slice (some ⟨g, 0, none⟩) i xs.length)).run Tryd.prog w.drew = .ok (c3 P K D (xs.take i)).toArray w.drew := by
    rw [hzs]
    exact run_firstCells_some w.drew 3 i ⟨g, 0, none⟩ i xs.length _ (by rw [c3_len, List.length_take]; congr 1; omega) hhead
  have hrz : ∀ ty, (Builtin.append_ #[61, 3] ty #[.slice (some ⟨g, 0, none⟩) i xs.length, .int .i64 ((xs.length : Int) + 1 - (i : Int))]).run Tryd.prog w =
      .ok (.slice (some ⟨w.heap.size, 0, none⟩) (xs.length + 1) (grownCap w (xs.length + 1) xs.length 23)) (w.drew.alloc (.cells ((c3 P K D (xs.take i)).toArray ++ Builtin.zeroCells (Value.agg #[.string ⟨#[]⟩, .int .i64 0, .string ⟨#[]⟩]).cells (xs.length + 1 - i) ++ Builtin.zeroCells (Value.agg #[.string ⟨#[]⟩, .int .i64 0, .string ⟨#[]⟩]).cells (grownCap w (xs.length + 1) xs.length 23 - (xs.length + 1))) 23)) := fun ty => by
    have h := Lib.run_append_grow_zeros w 61 3 ty 23 i0 _ .i64 .i64 Tryd.underlying61 Tryd.underlying3 hi0 hz0 (some ⟨g, 0, none⟩) i xs.length (c3 P K D (xs.take i)) hold (xs.length + 1 - i) (by omega) (by omega) (by omega) (by omega) (by rw [hzb]; omega) (by rw [hzb]; exact growslice_fits (by omega) (by omega))
    have hik : i + (xs.length + 1 - i) = xs.length + 1 := by omega
    rw [hik] at h
    have hkk : (xs.length : Int) + 1 - (i : Int) = ((xs.length + 1 - i : Nat) : Int) := by omega
    rw [hkk]
    exact h
  obtain ⟨G, hG⟩ : ∃ G, G = grownCap w (xs.length + 1) xs.length 23 := ⟨_, rfl⟩
  have hGn : xs.length + 1 ≤ G := by rw [hG]; exact grownCap_ge w _ _ _
  have hG63 : G ≤ 9223372036854775807 := by
    have := grownCap_le_maxLen w (xs.length + 1) xs.length 23 (by unfold maxLen; omega)
    rw [← hG] at this
    unfold maxLen at this
    omega
  rw [← hG] at hrz
  obtain ⟨ROW, hROW⟩ : ∃ ROW : Array Value, ROW = (c3 P K D (xs.take i)).toArray ++ Builtin.zeroCells (Value.agg #[.string ⟨#[]⟩, .int .i64 0, .string ⟨#[]⟩]).cells (xs.length + 1 - i) ++ Builtin.zeroCells (Value.agg #[.string ⟨#[]⟩, .int .i64 0, .string ⟨#[]⟩]).cells (G - (xs.length + 1)) := ⟨_, rfl⟩
  rw [← hROW] at hrz
  have hl0 : (c3 P K D (xs.take i)).length = i * 3 := by rw [c3_len, List.length_take]; congr 1; omega
  have hRl : ROW.toList.length = G * 3 := by
    rw [hROW]
    simp [Builtin.zeroCells, Value.cells, hl0]
    omega
  have hRt : ROW.toList.take (i * 3) = c3 P K D (xs.take i) := by
    rw [hROW]
    simp only [Array.toList_append]
    rw [List.append_assoc, List.take_append_of_le_length (by rw [hl0]; exact Nat.le_refl _), List.take_of_length_le (by rw [hl0]; exact Nat.le_refl _)]
  have hN := Blk.new w.drew 23 ROW
  have hNb : Below w.heap.size w (w.drew.alloc (.cells ROW 23)) := below_alloc (below_drew (Below.refl _ _)) _
  obtain ⟨W1, hW1⟩ : ∃ W1, W1 = w.drew.alloc (.cells ROW 23) := ⟨_, rfl⟩
  rw [← hW1] at hrz hN hNb
  have hgW := hg.below hNb
  have hvW := hV.below hNb
  have hfin : ∀ (cur2 : List Value) (w2 : World), Blk w2 w.heap.size 23 cur2 → cur2.length = G * 3 → cur2.take ((xs.length + 1) * 3) = c3 P K D (xs.take i ++ x :: xs.drop i) → KB W1 w2 w.heap.size → Below w0.heap.size w0 w2 → InsEnd P K D w0 w S (xs.take i ++ x :: xs.drop i) (.returned (.slice (some ⟨w.heap.size, 0, none⟩) (xs.length + 1) G)) w2 := by
    intro cur2 w2 h1 h2 h3 h4 h5
    have hl : (xs.take i ++ x :: xs.drop i).length = xs.length + 1 := by simp; omega
    refine ⟨_, rfl, R_shut (flat3 P K D) hB.size (.inr (Nat.le_refl _)) h1 hl.symm (by rw [hl]; exact hGn) hG63 h2 (by rw [hl]; exact h3), h5, ?_⟩
    refine ⟨Nat.le_trans hNb.size h4.1, fun k hk _ => ?_⟩
    rw [h4.2 k (Nat.lt_of_lt_of_le hk hNb.size) (by omega)]
    exact hNb.block k hk
  have hBW : Below w0.heap.size w0 W1 := hB.trans (hNb.mono hB.size)
  have HFIN := Aside0.mk hfin
  have HG := Aside0.mk hgW
  have HV := Aside0.mk hvW
  have HN2 := Aside0.mk hN
  have HB := Aside0.mk hBW
  have HT := Aside0.mk ht
  have HRL := Aside0.mk hRl
  have HRT := Aside0.mk hRt
  have hge : w0.heap.size ≤ w.heap.size := hB.size
  have hne : g ≠ w.heap.size := by omega
  have hnv : vb ≠ w.heap.size := by omega
  clear hfin hg hV hB ht hgW hvW hN hNb hBW hW1 hROW hG hold hhead hRl hRt hl0 hgl hvl hi0 hz0 hzs hzb
  generalize hlen : xs.length = n at hi hl HT HFIN hrz hGn ⊢
  have HN := Aside0.mk hlen
  clear hlen
  have k1 : IntKind.i64.wrap ((i : Int) + 1) = (i : Int) + 1 := IntWalk.i64_in _ (by omega)
  have k2 : 0 ≤ (i : Int) + 1 := by omega
  have k3 : ((i : Int) + 1).toNat = i + 1 := by omega
  have k4 : ¬ G = i + 1 := by omega
  have k5 : ¬ G = i := by omega
  have k10 : ¬ n = i := by omega
  have k6 : (i : Int) + 1 ≤ (n : Int) + 1 := by omega
  have k7 : (i : Int) ≤ (n : Int) + 1 := by omega
  have k8 : ((i : Int) == (n : Int)) = false := beq_eq_false_iff_ne.2 (by omega)
  have k9 : ((n : Int) < (n : Int) + 1) := by omega
  have hin : i ≤ n := by omega
  go_enter Tryd.func125, Tryd.ntmps125
  go_wp2_with (first
    | (at_builtin; refine Lib.wpList_append_run _ rfl (.tmp 34) (.tmp 39) _ _ rfl _ _ rfl rfl _ _ (hrz _) ?_)
    | ((with_reducible refine gate_builtin (b := .copy) (xs := #[.tmp 43, .tmp 44]) rfl ?_); refine hold ?_))
  unfold Hold
  refine wp_copy rfl (.tmp 43) (.tmp 44) 61 61 rfl 23 3 Tryd.underlying61 Tryd.size3 w.heap.size (i * 3) _ _ _ _ _ _ rfl rfl ROW.toList 23 (e3 P K D x) HN2.out ?hn (fun _ => ⟨rfl, ⟨vb, 0, none⟩, rfl, ?hp⟩) ?hf ((flat3 P K D).one x) HB.out hge ?_
  case hn => simp only [e3, List.length_cons, List.length_nil]; have : Nat.min 1 (n + 1 - i) = 1 := Nat.min_eq_left (by omega); rw [this]
  case hp =>
    intro j u hu
    rw [addr_add, Nat.zero_add]
    exact HV.out.cell hu
  case hf => rw [HRL.out]; simp [e3]; omega
  intro w1 hg1 hk1 hb1
  have hsl1 : i * 3 + (e3 P K D x).length ≤ ROW.toList.length := by rw [HRL.out]; simp [e3]; omega
  obtain ⟨c1, hc1⟩ : ∃ c1, c1 = splice ROW.toList (i * 3) (e3 P K D x) := ⟨_, rfl⟩
  rw [← hc1] at hg1
  have HL1 : Aside0 (c1.length = G * 3) := ⟨by rw [hc1, length_splice _ _ _ hsl1]; exact HRL.out⟩
  have HA1 : Aside0 (c1.take ((i + 1) * 3) = c3 P K D (xs.take i) ++ e3 P K D x) := ⟨by
    have e1 : (i + 1) * 3 = i * 3 + (e3 P K D x).length := by simp [e3]; omega
    rw [e1, hc1, splice_take2 hsl1, HRT.out]⟩
  clear hc1 hsl1
  go_wp2
  go_still_tail 8, (by kernel_rfl)
  change wpList _ _ _ _ _ w1.drew
  (with_reducible refine gate_builtin (b := .copy) (xs := #[.tmp 50, .tmp 53]) rfl ?_)
  refine wp_copy rfl (.tmp 50) (.tmp 53) 61 61 rfl 23 3 Tryd.underlying61 Tryd.size3 w.heap.size ((i + 1) * 3) _ _ _ _ _ _ rfl rfl c1 23 (c3 P K D (xs.drop i)) hg1.out.drew ?hn (fun _ => ⟨rfl, ⟨g, i * 3, none⟩, rfl, ?hp⟩) ?hf (c3_one P K D _) (below_drew1 hb1.out) hge ?_
  case hn => rw [c3_len, List.length_drop, HN.out]; congr 1; simp only [Nat.min_def]; split <;> omega
  case hp =>
    intro j u hu
    rw [addr_add]
    refine (HG.out.other hk1.out hne).drew.cell ?_
    rw [← c3_drop, ← HT.out, List.getElem?_drop, List.getElem?_take] at hu
    split at hu
    · exact hu
    · cases hu
  case hf => rw [c3_len, List.length_drop, HN.out, HL1.out]; omega
  intro w2 hg2 hk2 hb2
  have hl0 : (c3 P K D (xs.drop i)).length = (n - i) * 3 := by rw [c3_len, List.length_drop, HN.out]
  have hsl2 : (i + 1) * 3 + (c3 P K D (xs.drop i)).length ≤ c1.length := by rw [hl0, HL1.out]; omega
  have HE := Aside0.mk (HFIN.out _ w2 hg2.out (by rw [length_splice _ _ _ hsl2]; exact HL1.out) (by
    have e4 : (n + 1) * 3 = (i + 1) * 3 + (c3 P K D (xs.drop i)).length := by rw [hl0]; omega
    rw [e4, splice_take2 hsl2, HA1.out, c3_append, c3_cons, List.append_assoc]) (hk1.out.trans (KB.trans (b := w1.drew) ⟨Nat.le_refl _, fun _ _ _ => rfl⟩ hk2.out)) hb2.out)
  clear hg2 hk2 hb2 hsl2 hl0
  go_wp2
  go_ret
  exact HE.out
/-- slices.Insert of one entry, wherever. -/
theorem insert3 (S : Nat → Prop) (v : Value) (xs : List α) (i : Nat) (hi : i ≤ xs.length) (x : α) (vb vc : Nat) (w0 w : World) (hB : Below w0.heap.size w0 w) (ho : Own3 P K D w w0.heap.size S v xs) (hV : Blk w vb 23 (e3 P K D x)) (hSv : ¬ S vb) (hl : (xs.length + 1) * 40 ≤ 140737488355328) :
    Calls Tryd.prog 125 #[v, .int .i64 (i : Nat), .slice (some ⟨vb, 0, none⟩) 1 vc] w (InsEnd P K D w0 w S (xs.take i ++ x :: xs.drop i)) := by
  rcases Nat.eq_or_lt_of_le hi with rfl | hlt
  · have := insert_end P K D S v xs x vb vc w0 w hB ho hV hl
    rw [List.take_length, List.drop_length]
    exact this
  · rcases R_raw (flat3 P K D) ho with ⟨rfl, rfl⟩ | ⟨g, cap, cur, rfl, hge, hok, hg, hnc, hcm, hcs, ht⟩
    · simp at hlt
    · rcases Nat.eq_or_lt_of_le hnc with e | hr
      · rw [← e]
        exact insert_grow P K D S xs i hlt x g cur vb vc w0 w hB hg ht hV hl
      · exact insert_room P K D S xs i hlt x g cap cur vb vc w0 w hB hge hok hg hr hcm hcs ht hV (fun h => hSv (h ▸ hok))
end
end Go.Proofs.YtklcceccadlgkaaDoor.Print
