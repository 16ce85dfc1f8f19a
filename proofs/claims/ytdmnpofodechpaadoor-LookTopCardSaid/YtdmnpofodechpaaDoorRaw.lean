/- Laws on rows in memory for functions of Go's library that write in place: copy, clear, append within the capacity, at elements of any number of cells; own rows of flat elements laid open and shut. -/
import Derived.Test.YtdmnpofodechpaaDoorWWords
import Derived.Test.YtdmnpofodechpaaDoorWLast
import Derived.Test.YtdmnpofodechpaaDoorWTab
import Derived.Test.YtdmnpofodechpaaDoorWQPut
import Derived.Test.YtdmnpofodechpaaDoorWApart
import Derived.Test.YtdmnpofodechpaaDoorWArr
import Derived.Test.YtdmnpofodechpaaDoorWZeros
import Derived.Test.YtdmnpofodechpaaDoorWFoot
import Derived.Test.YtdmnpofodechpaaDoorWKept
import Derived.Test.YtdmnpofodechpaaDoorWShare
import Derived.Test.YtdmnpofodechpaaDoorWN
import Derived.Test.YtdmnpofodechpaaDoorWFootNe
import Derived.Test.YtdmnpofodechpaaDoorWEqStruct
import Derived.Test.YtdmnpofodechpaaDoorWRepsOne
import Derived.Test.YtdmnpofodechpaaDoorWNEv
import Derived.Test.YtdmnpofodechpaaDoorWMore
import Derived.Test.YtdmnpofodechpaaDoorProg
import Derived.IntWalk
import Derived.StillTailTactics
import Derived.Deep.RegionLaw
import Derived.WalkKit
import Derived.KernelRfl
import Derived.WalkSpells
import Derived.Laws.CopyOwn
import Derived.Lib.SliceRun
namespace Go.Proofs.YtdmnpofodechpaaDoor.Print
open Go.RowKit Go.Proofs.YtdmnpofodechpaaDoorW.PrintWords Go.Proofs.YtdmnpofodechpaaDoorW.PrintLast Go.Proofs.YtdmnpofodechpaaDoorW.PrintMore
set_option linter.unusedVariables false
set_option linter.unusedSimpArgs false

theorem reads_none {α : Type} {R : α → List Value → Prop} {sz n : Nat} {w : World} {ps : List α} (h : ReadsRow R sz w none n ps) : ps = [] ∧ n = 0 := by
  have h0 : n = 0 := by
    rcases Nat.eq_zero_or_pos n with h0 | h0
    · exact h0
    · obtain ⟨ad, h, _⟩ := h.2.2 h0
      cases h
  exact ⟨List.eq_nil_of_length_eq_zero (h.1.trans h0), h0⟩
theorem reads_cast {α : Type} {R : α → List Value → Prop} {sz n m : Nat} {w : World} {A : Option Addr} {ps : List α} (e : n = m) (h : ReadsRow R sz w A n ps) : ReadsRow R sz w A m ps := e ▸ h
theorem R_empty_lit {α : Type} (d : Kd α) (e base : Nat) (W : World) (hb : base ≤ W.heap.size) : Kd.R d e (W.alloc (.cells #[] e)) base (fun _ => True) (.slice (some ⟨W.heap.size, 0, none⟩) 0 0) ([] : List α) :=
  ⟨fun _ _ => trivial, OwnRow.lit W base (inner := []) (ps := []) ⟨by simp, fun j p h => by simp at h⟩ hb (by simp)⟩

/-! ### rows of one block -/
/-- Block g of w is a row of the cells cur. -/
def Blk (w : World) (g e : Nat) (cur : List Value) : Prop := w.heap[g]? = some (.cells cur.toArray e (0, 0))
/-- Only block g was turned (and blocks may have been added). -/
def KB (w w' : World) (g : Nat) : Prop := w.heap.size ≤ w'.heap.size ∧ ∀ k, k < w.heap.size → k ≠ g → w'.heap[k]? = w.heap[k]?
theorem KB.refl (w : World) (g : Nat) : KB w w g := ⟨Nat.le_refl _, fun _ _ _ => rfl⟩
theorem KB.trans {a b c : World} {g : Nat} (h : KB a b g) (k : KB b c g) : KB a c g := ⟨Nat.le_trans h.1 k.1, fun i hi hg => (k.2 i (Nat.lt_of_lt_of_le hi h.1) hg).trans (h.2 i hi hg)⟩
theorem KB.setRow (w : World) (g : Nat) (cs : Array Value) : KB w (w.setRow g cs) g := ⟨by simp [World.setRow], fun k _ hk => setRow_other w g k cs hk⟩
theorem KB.below {w w' : World} (h : Below w.heap.size w w') (g : Nat) : KB w w' g := ⟨h.size, fun k hk _ => h.block k hk⟩
theorem KB.kept {w w' : World} {g : Nat} {S : Nat → Prop} (h : KB w w' g) (hS : S g) : Kept w w' S := ⟨h.1, fun k hk hs => h.2 k hk (fun e => hs (e ▸ hS))⟩
theorem Blk.cell {w : World} {g e : Nat} {cur : List Value} (h : Blk w g e cur) {j : Nat} {u : Value} (hu : cur[j]? = some u) : w.cell? ⟨g, j, none⟩ = some u := by
  unfold Blk at h
  simp [World.cell?, h, hu]
theorem Blk.other {w w' : World} {g e k : Nat} {cur : List Value} (h : Blk w k e cur) (hk : KB w w' g) (hne : k ≠ g) : Blk w' k e cur := by
  unfold Blk at h ⊢
  have hlt : k < w.heap.size := (Array.getElem?_eq_some_iff.1 h).1
  rw [hk.2 k hlt hne]
  exact h
theorem Blk.lt {w : World} {g e : Nat} {cur : List Value} (h : Blk w g e cur) : g < w.heap.size := (Array.getElem?_eq_some_iff.1 h).1
theorem Blk.set {w : World} {g e : Nat} {cur : List Value} (h : Blk w g e cur) (cs : List Value) : Blk (w.setRow g cs.toArray) g e cs := setRow_heap w g _ _ e _ h
theorem Blk.drew {w : World} {g e : Nat} {cur : List Value} (h : Blk w g e cur) : Blk w.drew g e cur := h
theorem addr_add (g o j : Nat) : (⟨g, o, none⟩ : Addr).add j = ⟨g, o + j, none⟩ := by
  unfold Addr.add
  split
  · subst_vars; rfl
  · rfl

theorem run_copy_raw {P : Program} (w : World) (dT sT ty elem k g o dLen dCap : Nat) (dp sp : Option Addr) (sLen sCap : Nat) (cur : List Value) (t : TypeId) (cs : List Value)
    (hu : P.underlying dT = some (.slice elem)) (hs : (P.info? elem).map (·.size) = some k) (hg : Blk w g t cur) (hn : cs.length = Nat.min sLen dLen * k)
    (hpos : 0 < cs.length → dp = some ⟨g, o, none⟩ ∧ ∃ ad, sp = some ad ∧ ∀ j v, cs[j]? = some v → w.cell? (ad.add j) = some v)
    (hfit : o + cs.length ≤ cur.length) (h1 : ∀ v ∈ cs, v.oneCell' = true) :
    (Builtin.copy_ #[dT, sT] ty #[.slice dp dLen dCap, .slice sp sLen sCap]).run P w = .ok (goInt (Nat.min sLen dLen)) (w.setRow g (splice cur o cs).toArray) := by
  cases hq : P.info? elem with
  | none => simp [hq] at hs
  | some i =>
    have hi : i.size = k := by simpa [hq] using hs
    by_cases h0 : cs.length = 0
    · obtain rfl : cs = [] := List.eq_nil_of_length_eq_zero h0
      have e : w.setRow g (splice cur o ([] : List Value)).toArray = w := by
        have := setRow_self w g cur.toArray t (0, 0) hg
        simpa [splice] using this
      have hz : Nat.min sLen dLen * k = 0 := by simpa using hn.symm
      rw [e]
      cases dp <;> cases sp <;> simp [Builtin.copy_, run_underlying hu, Builtin.lenOf, Builtin.firstCells, sizeOf, typeInfo, hq, hi, hz, loadCells, loadCellsFrom, storeCells]
    · obtain ⟨rfl, ad, rfl, hsrc⟩ := hpos (by omega)
      have hl := run_loadCells_list (P := P) w ad cs hsrc
      have hst := run_storeCells_at P g o t cs 0 cur.toArray w hg (by simpa using hfit) h1
      simp [Builtin.copy_, run_underlying hu, Builtin.lenOf, Builtin.firstCells, sizeOf, typeInfo, hq, hi, ← hn, hl, hst, splice]

section
variable {P : Program} {ops : Array Oper} {rest : List Oper} {o : Oper} {a : Act} {Q : Exit → Act → World → Prop} {w : World}
theorem wp_copy (hgd : o.guard = none) (d s : Operand) (dT sT : TypeId) (ho : o.op = .call { callee := .builtin .copy, args := #[d, s], argTypes := #[dT, sT] })
    (elem k : Nat) (hu : P.underlying dT = some (.slice elem)) (hs : (P.info? elem).map (·.size) = some k) (g off dLen dCap : Nat) (dp sp : Option Addr) (sLen sCap : Nat) (hd : a.eval d = .slice dp dLen dCap) (hsv : a.eval s = .slice sp sLen sCap)
    (cur : List Value) (t : TypeId) (cs : List Value) (hg : Blk w g t cur) (hn : cs.length = Nat.min sLen dLen * k)
    (hpos : 0 < cs.length → dp = some ⟨g, off, none⟩ ∧ ∃ ad, sp = some ad ∧ ∀ j v, cs[j]? = some v → w.cell? (ad.add j) = some v)
    (hfit : off + cs.length ≤ cur.length) (h1 : ∀ v ∈ cs, v.oneCell' = true) {B : Nat} {w0 : World} (hb : Below B w0 w) (hBg : B ≤ g)
    (h : ∀ w', Aside0 (Blk w' g t (splice cur off cs)) → Aside0 (KB w w' g) → Aside0 (Below B w0 w') → wpList P ops Q rest (a.put o.dst (goInt (Nat.min sLen dLen))) w') : wpList P ops Q (o :: rest) a w := by
  refine wpList_plain hgd fun K hK => ?_
  have hrun := run_copy_raw (P := P) w dT sT o.type elem k g off dLen dCap dp sp sLen sCap cur t cs hu hs hg hn hpos hfit h1
  unfold Oper.wp
  simp [execOp, ho, resolve, invoke, builtin, hd, hsv, hrun, Result.andThen]
  exact hK _ _ (h _ ⟨hg.set _⟩ ⟨KB.setRow _ _ _⟩ ⟨below_setRow hb hBg _⟩)
theorem step_copy {K : Act → World → Prop} {E : Prop} (hgd : o.guard = none) (d s : Operand) (dT sT : TypeId) (ho : o.op = .call { callee := .builtin .copy, args := #[d, s], argTypes := #[dT, sT] })
    (elem k : Nat) (hu : P.underlying dT = some (.slice elem)) (hs : (P.info? elem).map (·.size) = some k) (g off dLen dCap : Nat) (dp sp : Option Addr) (sLen sCap : Nat) (hd : a.eval d = .slice dp dLen dCap) (hsv : a.eval s = .slice sp sLen sCap)
    (cur : List Value) (t : TypeId) (cs : List Value) (hg : Blk w g t cur) (hn : cs.length = Nat.min sLen dLen * k)
    (hpos : 0 < cs.length → dp = some ⟨g, off, none⟩ ∧ ∃ ad, sp = some ad ∧ ∀ j v, cs[j]? = some v → w.cell? (ad.add j) = some v)
    (hfit : off + cs.length ≤ cur.length) (h1 : ∀ v ∈ cs, v.oneCell' = true) {B : Nat} {w0 : World} (hb : Below B w0 w) (hBg : B ≤ g)
    (h : ∀ w', Aside0 (Blk w' g t (splice cur off cs)) → Aside0 (KB w w' g) → Aside0 (Below B w0 w') → K (a.put o.dst (goInt (Nat.min sLen dLen))) w') :
    if Region.wanted o (yielded ops a.tmps) = true then Oper.wp P o a w K Q else E := by
  have hrun := run_copy_raw (P := P) w dT sT o.type elem k g off dLen dCap dp sp sLen sCap cur t cs hu hs hg hn hpos hfit h1
  rw [if_pos (by simp [Region.wanted, hgd])]
  unfold Oper.wp
  simp [execOp, ho, resolve, invoke, builtin, hd, hsv, hrun, Result.andThen]
  exact h _ ⟨hg.set _⟩ ⟨KB.setRow _ _ _⟩ ⟨below_setRow hb hBg _⟩
end

theorem run_clear_raw {P : Program} (w : World) (t e ty k : Nat) (z : Value) (hu : P.underlying t = some (.slice e)) (hv : ∀ w, (zeroValue e).run P w = .ok z w) (hz : z.cells.size = k) (h1 : ∀ u ∈ z.cells.toList, u.oneCell' = true)
    (g o n c : Nat) (sp : Option Addr) (cur : List Value) (tt : TypeId) (hg : Blk w g tt cur) (hpos : 0 < n → sp = some ⟨g, o, none⟩) (hfit : o + n * k ≤ cur.length) :
    ∃ zs : List Value, zs.length = n * k ∧ (∀ u ∈ zs, u.oneCell' = true) ∧ (Builtin.clear_ #[t] ty #[.slice sp n c]).run P w = .ok (.tuple #[]) (w.setRow g (splice cur o zs).toArray) := by
  refine ⟨(Builtin.zeroCells z.cells n).toList, by simp [Builtin.zeroCells, hz], ?_, ?_⟩
  · intro u hu
    simp [Builtin.zeroCells] at hu
    obtain ⟨i, hi, rfl⟩ := hu
    have hk : i % z.cells.size < z.cells.size := Nat.mod_lt _ (by
      rcases Nat.eq_zero_or_pos z.cells.size with h0 | h0
      · rw [h0] at hi; simp at hi
      · exact h0)
    apply h1
    rw [getElem!_pos z.cells _ hk]
    simp
  · by_cases h0 : n = 0
    · subst h0
      have e : w.setRow g (splice cur o (Builtin.zeroCells z.cells 0).toList).toArray = w := by
        have := setRow_self w g cur.toArray tt (0, 0) hg
        simpa [splice, Builtin.zeroCells] using this
      rw [e]
      cases sp <;> simp [Builtin.clear_, run_underlying hu]
    · obtain rfl := hpos (by omega)
      have hst := run_storeCells_at P g o tt (Builtin.zeroCells z.cells n).toList 0 cur.toArray w hg (by simpa [Builtin.zeroCells, hz] using hfit) (by
        intro u hu
        simp [Builtin.zeroCells] at hu
        obtain ⟨i, hi, rfl⟩ := hu
        have hk : i % z.cells.size < z.cells.size := Nat.mod_lt _ (by
          rcases Nat.eq_zero_or_pos z.cells.size with h0 | h0
          · rw [h0] at hi; simp at hi
          · exact h0)
        apply h1
        rw [getElem!_pos z.cells _ hk]
        simp)
      obtain ⟨m, rfl⟩ : ∃ m, n = m + 1 := ⟨n - 1, by omega⟩
      simp [Builtin.clear_, run_underlying hu, hv, hst, splice]
theorem run_append_raw {P : Program} (w : World) (t ty e k g sLen sCap n c : Nat) (sp : Option Addr) (cur : List Value) (tt : TypeId) (cs : List Value)
    (hu : P.underlying t = some (.slice e)) (hs : (P.info? e).map (·.size) = some k) (hg : Blk w g tt cur) (hn : cs.length = n * k) (hroom : sLen + n ≤ sCap)
    (hpos : 0 < cs.length → ∃ ad, sp = some ad ∧ ∀ j v, cs[j]? = some v → w.cell? (ad.add j) = some v)
    (hfit : sLen * k + cs.length ≤ cur.length) (h1 : ∀ v ∈ cs, v.oneCell' = true) :
    (Builtin.append_ #[t, t] ty #[.slice (some ⟨g, 0, none⟩) sLen sCap, .slice sp n c]).run P w = .ok (.slice (some ⟨g, 0, none⟩) (sLen + n) sCap) (w.setRow g (splice cur (sLen * k) cs).toArray) := by
  cases hq : P.info? e with
  | none => simp [hq] at hs
  | some i =>
    have hi : i.size = k := by simpa [hq] using hs
    have hst := run_storeCells_at P g (sLen * k) tt cs 0 cur.toArray w hg (by simpa using hfit) h1
    have hfc : (Builtin.firstCells k n (.slice sp n c)).run P w = .ok cs.toArray w := by
      by_cases h0 : cs.length = 0
      · obtain rfl : cs = [] := List.eq_nil_of_length_eq_zero h0
        have hz : n * k = 0 := by simpa using hn.symm
        cases sp <;> simp [Builtin.firstCells, hz, loadCells, loadCellsFrom]
      · obtain ⟨ad, rfl, hsrc⟩ := hpos (by omega)
        have hl := run_loadCells_list (P := P) w ad cs hsrc
        simp [Builtin.firstCells, ← hn, hl]
    simp [Builtin.append_, run_underlying hu, Builtin.lenOf, sizeOf, typeInfo, hq, hi, hroom, hfc, addr_add, hst, splice]
section
variable {P : Program} {ops : Array Oper} {rest : List Oper} {o : Oper} {a : Act} {Q : Exit → Act → World → Prop} {w : World}
theorem wp_clear (hgd : o.guard = none) (s : Operand) (t e k : TypeId) (ho : o.op = .call { callee := .builtin .clear, args := #[s], argTypes := #[t] })
    (z : Value) (hu : P.underlying t = some (.slice e)) (hv : ∀ w, (zeroValue e).run P w = .ok z w) (hz : z.cells.size = k) (h1 : ∀ u ∈ z.cells.toList, u.oneCell' = true)
    (g off n c : Nat) (sp : Option Addr) (hsv : a.eval s = .slice sp n c) (cur : List Value) (tt : TypeId) (hg : Blk w g tt cur) (hpos : 0 < n → sp = some ⟨g, off, none⟩) (hfit : off + n * k ≤ cur.length)
    {B : Nat} {w0 : World} (hb : Below B w0 w) (hBg : B ≤ g)
    (h : ∀ w' zs, zs.length = n * k → Aside0 (Blk w' g tt (splice cur off zs)) → Aside0 (KB w w' g) → Aside0 (Below B w0 w') → wpList P ops Q rest (a.put o.dst (.tuple #[])) w') : wpList P ops Q (o :: rest) a w := by
  obtain ⟨zs, hzl, hz1, hrun⟩ := run_clear_raw (P := P) w t e o.type k z hu hv hz h1 g off n c sp cur tt hg hpos hfit
  refine wpList_plain hgd fun K hK => ?_
  unfold Oper.wp
  simp [execOp, ho, resolve, invoke, builtin, hsv, hrun, Result.andThen]
  exact hK _ _ (h _ zs hzl ⟨hg.set _⟩ ⟨KB.setRow _ _ _⟩ ⟨below_setRow hb hBg _⟩)
theorem wp_append_in (hgd : o.guard = none) (s x : Operand) (t e k : TypeId) (ho : o.op = .call { callee := .builtin .append, args := #[s, x], argTypes := #[t, t] })
    (hu : P.underlying t = some (.slice e)) (hs : (P.info? e).map (·.size) = some k) (g sLen sCap n c : Nat) (sp : Option Addr) (hsv : a.eval s = .slice (some ⟨g, 0, none⟩) sLen sCap) (hxv : a.eval x = .slice sp n c)
    (cur : List Value) (tt : TypeId) (cs : List Value) (hg : Blk w g tt cur) (hn : cs.length = n * k) (hroom : sLen + n ≤ sCap)
    (hpos : 0 < cs.length → ∃ ad, sp = some ad ∧ ∀ j v, cs[j]? = some v → w.cell? (ad.add j) = some v)
    (hfit : sLen * k + cs.length ≤ cur.length) (h1 : ∀ v ∈ cs, v.oneCell' = true) {B : Nat} {w0 : World} (hb : Below B w0 w) (hBg : B ≤ g)
    (h : ∀ w', Aside0 (Blk w' g tt (splice cur (sLen * k) cs)) → Aside0 (KB w w' g) → Aside0 (Below B w0 w') → wpList P ops Q rest (a.put o.dst (.slice (some ⟨g, 0, none⟩) (sLen + n) sCap)) w') : wpList P ops Q (o :: rest) a w := by
  have hrun := run_append_raw (P := P) w t o.type e k g sLen sCap n c sp cur tt cs hu hs hg hn hroom hpos hfit h1
  refine wpList_plain hgd fun K hK => ?_
  unfold Oper.wp
  simp [execOp, ho, resolve, invoke, builtin, hsv, hxv, hrun, Result.andThen]
  exact hK _ _ (h _ ⟨hg.set _⟩ ⟨KB.setRow _ _ _⟩ ⟨below_setRow hb hBg _⟩)
end

/-! ### own rows of flat elements -/
/-- An element is its cells, wherever it lies. -/
structure Flat {α : Type} (d : Kd α) (enc : α → List Value) : Prop where
  len : ∀ x, (enc x).length = d.sz
  pos : 0 < d.sz
  one : ∀ x, ∀ u ∈ enc x, u.oneCell' = true
  K : ∀ w x cs, d.K w x cs ↔ cs = enc x
  M : ∀ w b ok x cs, d.M w b ok x cs ↔ cs = enc x
theorem Flat.scalar {α : Type} (enc : α → Value) (h1 : ∀ x, (enc x).oneCell' = true) : Flat (Kd.scalar enc h1) (fun x => [enc x]) :=
  ⟨fun _ => rfl, (show 0 < 1 by omega), fun x u hu => by rw [List.mem_singleton.1 hu]; exact h1 x, fun _ _ _ => Iff.rfl, fun _ _ _ _ _ => Iff.rfl⟩
theorem Flat.int (k : IntKind) : Flat (Kd.int k) (fun x => [.int k x]) := Flat.scalar _ _
/-- A list's cells, one behind the other. -/
def encL {α : Type} (enc : α → List Value) (xs : List α) : List Value := xs.flatMap enc
section
variable {α : Type} {d : Kd α} {enc : α → List Value} (F : Flat d enc)
include F
theorem encL_length (xs : List α) : (encL enc xs).length = xs.length * d.sz := by
  unfold encL
  induction xs with
  | nil => simp
  | cons x xs ih => rw [List.flatMap_cons, List.length_append, ih, F.len, List.length_cons, Nat.succ_mul]; omega
theorem encL_one (xs : List α) : ∀ u ∈ encL enc xs, u.oneCell' = true := by
  intro u hu
  obtain ⟨x, _, h⟩ := List.mem_flatMap.1 hu
  exact F.one x u h
theorem encL_take (xs : List α) (n : Nat) : (encL enc xs).take (n * d.sz) = encL enc (xs.take n) := by
  unfold encL
  induction xs generalizing n with
  | nil => simp
  | cons x xs ih =>
    cases n with
    | zero => simp
    | succ n =>
      rw [List.take_succ_cons, List.flatMap_cons, List.flatMap_cons, List.take_append, F.len, ← ih]
      have e1 : (n + 1) * d.sz - d.sz = n * d.sz := by rw [Nat.succ_mul]; omega
      have e2 : (enc x).take ((n + 1) * d.sz) = enc x := List.take_of_length_le (by rw [F.len, Nat.succ_mul]; omega)
      rw [e1, e2]
theorem encL_drop (xs : List α) (n : Nat) : (encL enc xs).drop (n * d.sz) = encL enc (xs.drop n) := by
  unfold encL
  induction xs generalizing n with
  | nil => simp
  | cons x xs ih =>
    cases n with
    | zero => simp
    | succ n =>
      rw [List.drop_succ_cons, List.flatMap_cons, List.drop_append, F.len, ← ih]
      have e1 : (n + 1) * d.sz - d.sz = n * d.sz := by rw [Nat.succ_mul]; omega
      have e2 : (enc x).drop ((n + 1) * d.sz) = [] := List.drop_eq_nil_of_le (by rw [F.len, Nat.succ_mul]; omega)
      rw [e1, e2, List.nil_append]
theorem reps_iff (ps : List α) (cs : List Value) (R : α → List Value → Prop) (hR : ∀ x c, R x c ↔ c = enc x) : Reps R d.sz ps cs ↔ cs = encL enc ps := by
  constructor
  · intro h
    induction ps generalizing cs with
    | nil => exact List.eq_nil_of_length_eq_zero (by simpa using h.1)
    | cons p ps ih =>
      have h0 := (hR _ _).1 (h.2 0 p rfl)
      simp only [Nat.zero_mul, List.drop_zero] at h0
      have ht := ih (cs.drop d.sz) ⟨by rw [List.length_drop, h.1, List.length_cons, Nat.succ_mul]; omega, fun j q hj => by
        have := h.2 (j + 1) q hj
        rw [List.drop_drop]
        rwa [show d.sz + j * d.sz = (j + 1) * d.sz by rw [Nat.succ_mul]; omega]⟩
      unfold encL at ht ⊢
      rw [List.flatMap_cons, ← ht, ← h0, List.take_append_drop]
  · rintro rfl
    refine ⟨encL_length F ps, fun j p hj => (hR _ _).2 ?_⟩
    rw [encL_drop F]
    obtain ⟨hjl, hp⟩ := List.getElem?_eq_some_iff.1 hj
    rw [List.drop_eq_getElem_cons hjl, hp]
    unfold encL
    rw [List.flatMap_cons, List.take_append_of_le_length (by rw [F.len]; omega), List.take_of_length_le (by rw [F.len]; omega)]
/-- An own row laid open. -/
theorem R_raw {e base : Nat} {w : World} {ok : Nat → Prop} {v : Value} {xs : List α} (h : Kd.R d e w base ok v xs) :
    (v = .slice none 0 0 ∧ xs = []) ∨ ∃ g cap cur, v = .slice (some ⟨g, 0, none⟩) xs.length cap ∧ base ≤ g ∧ ok g ∧ Blk w g e cur ∧ xs.length ≤ cap ∧ cap ≤ 9223372036854775807 ∧ cur.length = cap * d.sz ∧ cur.take (xs.length * d.sz) = encL enc xs := by
  obtain ⟨hok, inner, hown, hr⟩ := h
  rcases hown.2 with ⟨rfl, hn⟩ | ⟨g, cap, cur, rfl, hb, hh, hnc, hcm, hcs, ht⟩
  · exact .inl ⟨rfl, List.eq_nil_of_length_eq_zero hn⟩
  · have hi := (reps_iff F xs inner _ (fun x c => F.M w base _ x c)).1 hr
    exact .inr ⟨g, cap, cur.toList, rfl, hb, hok g rfl, hh, hnc, hcm, by simpa using hcs, by rw [ht, hi]⟩
/-- .. and shut. -/
theorem R_shut {e base : Nat} {w : World} {ok : Nat → Prop} {xs : List α} {g cap n : Nat} {cur : List Value} (hb : base ≤ g) (hok : ok g) (hg : Blk w g e cur) (hn : n = xs.length) (hnc : xs.length ≤ cap) (hcm : cap ≤ 9223372036854775807) (hcs : cur.length = cap * d.sz) (ht : cur.take (xs.length * d.sz) = encL enc xs) :
    Kd.R d e w base ok (.slice (some ⟨g, 0, none⟩) n cap) xs := by
  subst hn
  refine ⟨fun k hk => ?_, encL enc xs, ⟨encL_length F xs, .inr ⟨g, cap, cur.toArray, rfl, hb, hg, hnc, hcm, by simpa using hcs, by simpa using ht⟩⟩, (reps_iff F xs _ _ (fun x c => F.M w base _ x c)).2 rfl⟩
  have : g = k := by simpa [Value.ownBlock] using hk
  exact this ▸ hok
/-- What a read row's cells are. -/
theorem C_cells {w : World} {A : Option Addr} {n : Nat} {xs : List α} (h : Kd.C d w A n xs) : 0 < xs.length → ∃ ad, A = some ad ∧ ∀ j u, (encL enc xs)[j]? = some u → w.cell? (ad.add j) = some u := by
  intro hp
  obtain ⟨ad, rfl, hc⟩ := h.2.2 (by have := h.1; omega)
  refine ⟨ad, rfl, fun j u hu => ?_⟩
  have hs := F.pos
  have hjl : j < xs.length * d.sz := by rw [← encL_length F xs]; exact (List.getElem?_eq_some_iff.1 hu).1
  have hq : j / d.sz < xs.length := by rw [Nat.div_lt_iff_lt_mul hs]; exact hjl
  obtain ⟨c, hcl, hcr, hcc⟩ := hc (j / d.sz) _ (List.getElem?_eq_getElem hq)
  obtain rfl := (F.K _ _ _).1 hcr
  have hj : j = j / d.sz * d.sz + j % d.sz := by rw [Nat.mul_comm]; exact (Nat.div_add_mod j d.sz).symm
  have hm : j % d.sz < d.sz := Nat.mod_lt _ hs
  have hu2 : (enc xs[j / d.sz])[j % d.sz]? = some u := by
    have e1 : (encL enc xs)[j]? = ((encL enc xs).drop (j / d.sz * d.sz))[j % d.sz]? := by rw [List.getElem?_drop, ← hj]
    rw [← hu, e1, encL_drop F, List.drop_eq_getElem_cons hq]
    unfold encL
    rw [List.flatMap_cons, List.getElem?_append_left (by rw [F.len]; exact hm)]
  have := hcc _ u hu2
  rwa [← hj] at this
end
theorem beq_nil_e (l : List UInt8) : (l == ([] : List UInt8)) = l.isEmpty := by cases l <;> rfl

/-! ### '<=' of strings, as the walk asks it -/
theorem leq_bl : ∀ a b : List UInt8, (Op.bytesLess a b || a == b) = !Op.bytesLess b a
  | [], [] => rfl
  | [], y :: b => by simp [Op.bytesLess]
  | x :: a, [] => by simp [Op.bytesLess]
  | x :: a, y :: b => by
    have ih := leq_bl a b
    simp only [Op.bytesLess]
    by_cases h : x = y
    · subst h
      have hx : ¬ x < x := UInt8.lt_irrefl x
      simp only [hx, decide_false, beq_self_eq_true, Bool.true_and, Bool.false_or]
      rw [← ih]
      simp
    · have h1 : (x == y) = false := beq_eq_false_iff_ne.2 h
      have h2 : (y == x) = false := beq_eq_false_iff_ne.2 (Ne.symm h)
      have h3 : ((x :: a) == (y :: b)) = false := by simp [h]
      rw [h1, h2, h3]
      simp only [Bool.false_and, Bool.or_false]
      rw [Bool.eq_iff_iff]
      simp only [decide_eq_true_eq, Bool.not_eq_true', decide_eq_false_iff_not]
      rw [UInt8.not_lt]
      exact ⟨UInt8.le_of_lt, fun h3 => UInt8.lt_of_le_of_ne h3 h⟩
theorem leq_f {a b : List UInt8} (h : Op.bytesLess b a = true) : (Op.bytesLess a b || a == b) = false := by rw [leq_bl, h]; rfl
theorem leq_t {a b : List UInt8} (h : Op.bytesLess b a = false) : (Op.bytesLess a b || a == b) = true := by rw [leq_bl, h]; rfl
end Go.Proofs.YtdmnpofodechpaaDoor.Print
