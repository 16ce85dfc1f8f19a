/- Laws on rows in memory for functions of Go's library that write in place: copy, clear, append within the capacity, at elements of any number of cells; own rows of flat elements laid open and shut. -/
import Derived.Test.YtjlflmjimibciabGreatDoorWWords
import Derived.Test.YtjlflmjimibciabGreatDoorProg
import Derived.IntWalk
import Derived.StillTailTactics
import Derived.Deep.RegionLaw
import Derived.WalkKit
import Derived.KernelRfl
import Derived.WalkSpells
import Derived.Laws.CopyOwn
import Derived.Lib.SliceRun
import Derived.LaidEql
import Derived.Stop.Asserts
import Derived.RowKitTokens
import Derived.Shelf.Strings.SlTrimAscii
import Derived.Shelf.Strings.FuncGrows
import Derived.Shelf.Small.Wraps
import Derived.Shelf.Strings.OnBuilder
import Derived.Shelf.Strings.Search3
import Derived.Shelf.Abstract
import Derived.Laws.RangeString
import Derived.Laws.Runes
import Derived.RangeFuncNested
import Derived.RangeFuncBound
import Derived.RangeFuncCalls
import Derived.RangeFuncLeaves
import Derived.RangeFuncFrom
import Derived.Shelf.RegionOpen
import Derived.OwnWalkIn
import Derived.TacticsInMore
import Derived.LoopNIn
import Derived.LoopIn
import Derived.Maps.AppendAt
import Derived.Sort.LoopGhostIn
import Derived.Shelf.Small.Strs
section
namespace Go.Proofs.YtjlflmjimibciabGreatDoor.Print
open Go.RowKit Go.Proofs.YtjlflmjimibciabGreatDoorW.PrintWords Go.Proofs.YtjlflmjimibciabGreatDoorW.PrintLast Go.Proofs.YtjlflmjimibciabGreatDoorW.PrintMore
set_option linter.unusedVariables false
set_option linter.unusedSimpArgs false
/-- Block g of w is a row of the cells cur. -/
def Blk (w : World) (g e : Nat) (cur : List Value) : Prop := w.heap[g]? = some (.cells cur.toArray e (0, 0))
/-- Only block g was turned (and blocks may have been added). -/
def KB (w w' : World) (g : Nat) : Prop := w.heap.size ≤ w'.heap.size ∧ ∀ k, k < w.heap.size → k ≠ g → w'.heap[k]? = w.heap[k]?
theorem KB.refl (w : World) (g : Nat) : KB w w g := ⟨Nat.le_refl _, fun _ _ _ => rfl⟩
theorem KB.trans {a b c : World} {g : Nat} (h : KB a b g) (k : KB b c g) : KB a c g := ⟨Nat.le_trans h.1 k.1, fun i hi hg => (k.2 i (Nat.lt_of_lt_of_le hi h.1) hg).trans (h.2 i hi hg)⟩
theorem KB.setRow (w : World) (g : Nat) (cs : Array Value) : KB w (w.setRow g cs) g := ⟨by simp [World.setRow], fun k _ hk => setRow_other w g k cs hk⟩
theorem KB.below {w w' : World} (h : Below w.heap.size w w') (g : Nat) : KB w w' g := ⟨h.size, fun k hk _ => h.block k hk⟩
theorem KB.kept {w w' : World} {g : Nat} {S : Nat → Prop} (h : KB w w' g) (hS : S g) : Kept w w' S := ⟨h.1, fun k hk hs => h.2 k hk (fun e => hs (e ▸ hS))⟩
theorem Blk.cell {w : World} {g e : Nat} {cur : List Value} (h : Blk w g e cur) {j : Nat} {u : Value} (hu : cur[j]? = some u) : w.cell? ⟨g, j, none⟩ = some u := by
  unfold Blk at h
  simp [World.cell?, h, hu]
theorem Blk.other {w w' : World} {g e k : Nat} {cur : List Value} (h : Blk w k e cur) (hk : KB w w' g) (hne : k ≠ g) : Blk w' k e cur := by
  unfold Blk at h ⊢
  have hlt : k < w.heap.size := (Array.getElem?_eq_some_iff.1 h).1
  rw [hk.2 k hlt hne]
  exact h
theorem Blk.lt {w : World} {g e : Nat} {cur : List Value} (h : Blk w g e cur) : g < w.heap.size := (Array.getElem?_eq_some_iff.1 h).1
theorem Blk.set {w : World} {g e : Nat} {cur : List Value} (h : Blk w g e cur) (cs : List Value) : Blk (w.setRow g cs.toArray) g e cs := setRow_heap w g _ _ e _ h
theorem Blk.drew {w : World} {g e : Nat} {cur : List Value} (h : Blk w g e cur) : Blk w.drew g e cur := h
theorem addr_add (g o j : Nat) : (⟨g, o, none⟩ : Addr).add j = ⟨g, o + j, none⟩ := by
  unfold Addr.add
  split
  · subst_vars; rfl
  · rfl

section
variable {P : Program} {ops : Array Oper} {rest : List Oper} {o : Oper} {a : Act} {Q : Exit → Act → World → Prop} {w : World}
end
section
variable {P : Program} {ops : Array Oper} {rest : List Oper} {o : Oper} {a : Act} {Q : Exit → Act → World → Prop} {w : World}
end
/-- An element is its cells, wherever it lies. -/
structure Flat {α : Type} (d : Kd α) (enc : α → List Value) : Prop where
  len : ∀ x, (enc x).length = d.sz
  pos : 0 < d.sz
  one : ∀ x, ∀ u ∈ enc x, u.oneCell' = true
  K : ∀ w x cs, d.K w x cs ↔ cs = enc x
  M : ∀ w b ok x cs, d.M w b ok x cs ↔ cs = enc x
theorem Flat.scalar {α : Type} (enc : α → Value) (h1 : ∀ x, (enc x).oneCell' = true) : Flat (Kd.scalar enc h1) (fun x => [enc x]) :=
  ⟨fun _ => rfl, (show 0 < 1 by omega), fun x u hu => by rw [List.mem_singleton.1 hu]; exact h1 x, fun _ _ _ => Iff.rfl, fun _ _ _ _ _ => Iff.rfl⟩
theorem Flat.int (k : IntKind) : Flat (Kd.int k) (fun x => [.int k x]) := Flat.scalar _ _
/-- A list's cells, one behind the other. -/
def encL {α : Type} (enc : α → List Value) (xs : List α) : List Value := xs.flatMap enc
section
variable {α : Type} {d : Kd α} {enc : α → List Value} (F : Flat d enc)
include F
theorem encL_length (xs : List α) : (encL enc xs).length = xs.length * d.sz := by
  unfold encL
  induction xs with
  | nil => simp
  | cons x xs ih => rw [List.flatMap_cons, List.length_append, ih, F.len, List.length_cons, Nat.succ_mul]; omega
theorem encL_drop (xs : List α) (n : Nat) : (encL enc xs).drop (n * d.sz) = encL enc (xs.drop n) := by
  unfold encL
  induction xs generalizing n with
  | nil => simp
  | cons x xs ih =>
    cases n with
    | zero => simp
    | succ n =>
      rw [List.drop_succ_cons, List.flatMap_cons, List.drop_append, F.len, ← ih]
      have e1 : (n + 1) * d.sz - d.sz = n * d.sz := by rw [Nat.succ_mul]; omega
      have e2 : (enc x).drop ((n + 1) * d.sz) = [] := List.drop_eq_nil_of_le (by rw [F.len, Nat.succ_mul]; omega)
      rw [e1, e2, List.nil_append]
theorem reps_iff (ps : List α) (cs : List Value) (R : α → List Value → Prop) (hR : ∀ x c, R x c ↔ c = enc x) : Reps R d.sz ps cs ↔ cs = encL enc ps := by
  constructor
  · intro h
    induction ps generalizing cs with
    | nil => exact List.eq_nil_of_length_eq_zero (by simpa using h.1)
    | cons p ps ih =>
      have h0 := (hR _ _).1 (h.2 0 p rfl)
      simp only [Nat.zero_mul, List.drop_zero] at h0
      have ht := ih (cs.drop d.sz) ⟨by rw [List.length_drop, h.1, List.length_cons, Nat.succ_mul]; omega, fun j q hj => by
        have := h.2 (j + 1) q hj
        rw [List.drop_drop]
        rwa [show d.sz + j * d.sz = (j + 1) * d.sz by rw [Nat.succ_mul]; omega]⟩
      unfold encL at ht ⊢
      rw [List.flatMap_cons, ← ht, ← h0, List.take_append_drop]
  · rintro rfl
    refine ⟨encL_length F ps, fun j p hj => (hR _ _).2 ?_⟩
    rw [encL_drop F]
    obtain ⟨hjl, hp⟩ := List.getElem?_eq_some_iff.1 hj
    rw [List.drop_eq_getElem_cons hjl, hp]
    unfold encL
    rw [List.flatMap_cons, List.take_append_of_le_length (by rw [F.len]; omega), List.take_of_length_le (by rw [F.len]; omega)]
/-- What a read row's cells are. -/
theorem C_cells {w : World} {A : Option Addr} {n : Nat} {xs : List α} (h : Kd.C d w A n xs) : 0 < xs.length → ∃ ad, A = some ad ∧ ∀ j u, (encL enc xs)[j]? = some u → w.cell? (ad.add j) = some u := by
  intro hp
  obtain ⟨ad, rfl, hc⟩ := h.2.2 (by have := h.1; omega)
  refine ⟨ad, rfl, fun j u hu => ?_⟩
  have hs := F.pos
  have hjl : j < xs.length * d.sz := by rw [← encL_length F xs]; exact (List.getElem?_eq_some_iff.1 hu).1
  have hq : j / d.sz < xs.length := by rw [Nat.div_lt_iff_lt_mul hs]; exact hjl
  obtain ⟨c, hcl, hcr, hcc⟩ := hc (j / d.sz) _ (List.getElem?_eq_getElem hq)
  obtain rfl := (F.K _ _ _).1 hcr
  have hj : j = j / d.sz * d.sz + j % d.sz := by rw [Nat.mul_comm]; exact (Nat.div_add_mod j d.sz).symm
  have hm : j % d.sz < d.sz := Nat.mod_lt _ hs
  have hu2 : (enc xs[j / d.sz])[j % d.sz]? = some u := by
    have e1 : (encL enc xs)[j]? = ((encL enc xs).drop (j / d.sz * d.sz))[j % d.sz]? := by rw [List.getElem?_drop, ← hj]
    rw [← hu, e1, encL_drop F, List.drop_eq_getElem_cons hq]
    unfold encL
    rw [List.flatMap_cons, List.getElem?_append_left (by rw [F.len]; exact hm)]
  have := hcc _ u hu2
  rwa [← hj] at this
end
end Go.Proofs.YtjlflmjimibciabGreatDoor.Print
end

section
namespace Go.Proofs.YtjlflmjimibciabGreatDoor.Print
open Go.RowKit Go.Proofs.YtjlflmjimibciabGreatDoorW.PrintWords Go.Proofs.YtjlflmjimibciabGreatDoorW.PrintLast Go.Proofs.YtjlflmjimibciabGreatDoorW.PrintMore
set_option linter.unusedVariables false
set_option linter.unusedSimpArgs false
/-- The error that a row of Faults stands for: none, or the pointer to the first. -/
def errVal (PT : Nat) : Value → Value
  | .slice (some a) (_ + 1) _ => .iface PT (.pointer (some a))
  | _ => .nilIface
/-- Is it nil? -/
def errNil : Value → Bool
  | .slice (some _) (_ + 1) _ => false
  | _ => true
/-- A Fault: what was done, where, and an error's number. -/
def errKd (NT : Nat) : Kd Int where
  sz := 3
  E := []
  K := fun _ c cs => ∃ op p, cs = [.string op, .string p, .iface NT (.int .i64 c)]
  M := fun _ _ _ c cs => ∃ op p, cs = [.string op, .string p, .iface NT (.int .i64 c)]
  K_len := by
    rintro w x cs ⟨op, p, rfl⟩
    rfl
  K_one := by
    rintro w x cs ⟨op, p, rfl⟩ u hu
    simp at hu
    rcases hu with rfl | rfl | rfl <;> rfl
  K_below := fun _ h => h
  K_of_M := fun h => h
  M_mono := fun _ h => h
  M_bound := fun h => h
  M_move := fun _ h => h
  M_lower := fun _ h => h
theorem errNil_of {NT e : Nat} {w : World} {base : Nat} {ok : Nat → Prop} {v : Value} {xs : List Int} (h : Kd.R (errKd NT) e w base ok v xs) : errNil v = xs.isEmpty := by
  obtain ⟨_, inner, hown, _⟩ := h
  rcases hown.2 with ⟨rfl, hn⟩ | ⟨g, cap, cur, rfl, _⟩
  · rw [List.eq_nil_of_length_eq_zero hn]; rfl
  · cases xs <;> rfl
theorem errVal_eql {P : Program} (t PT : Nat) (h : ∀ (a : Addr) (W : World), (binOp .eql t (.iface PT (.pointer (some a))) .nilIface).run P W = .ok (.bool false) W) (h0 : ∀ W : World, (binOp .eql t .nilIface .nilIface).run P W = .ok (.bool true) W) (v : Value) (W : World) :
    (binOp .eql t (errVal PT v) .nilIface).run P W = .ok (.bool (errNil v)) W := by
  unfold errVal errNil
  split
  · exact h _ _
  · exact h0 W
theorem errVal_neq {P : Program} (t PT : Nat) (h : ∀ (a : Addr) (W : World), (binOp .neq t (.iface PT (.pointer (some a))) .nilIface).run P W = .ok (.bool true) W) (h0 : ∀ W : World, (binOp .neq t .nilIface .nilIface).run P W = .ok (.bool false) W) (v : Value) (W : World) :
    (binOp .neq t (errVal PT v) .nilIface).run P W = .ok (.bool (!errNil v)) W := by
  unfold errVal errNil
  split
  · exact h _ _
  · exact h0 W
theorem errGuard_eql (t PT : Nat) (x : Operand) (v : Value) : eqGuard .eql t x (.const .nilIface) (errVal PT v) .nilIface = pure () := by
  unfold errVal
  split
  · rfl
  · cases x <;> rfl
theorem errGuard_neq (t PT : Nat) (x : Operand) (v : Value) : eqGuard .neq t x (.const .nilIface) (errVal PT v) .nilIface = pure () := by
  unfold errVal
  split
  · rfl
  · cases x <;> rfl
end Go.Proofs.YtjlflmjimibciabGreatDoor.Print
end

section
namespace Go.Proofs.YtjlflmjimibciabGreatDoor.Print
open Go Go.RowKit Go.Extern.Stop Go.Stop Go.Extern
set_option linter.unusedVariables false
set_option linter.unusedSimpArgs false
/-- errors.errorType holds the type error's handle. -/
def Gl (w : World) : Prop := w.cell? ⟨0, 0, none⟩ = some (.iface 116 (.agg #[.pointer (some ⟨4, 27, none⟩)]))
theorem Gl.lt {w : World} (h : Gl w) : 0 < w.heap.size := by
  rcases Nat.lt_or_ge 0 w.heap.size with h0 | h0
  · exact h0
  · simp [Gl, World.cell?, Array.getElem?_eq_none h0] at h
theorem Gl.below {w W : World} (h : Gl w) (hb : Below w.heap.size w W) : Gl W := (hb.cell (p := ⟨0, 0, none⟩) h.lt).trans h
theorem Gl.alloc {w : World} (h : Gl w) (o : Obj) : Gl (w.alloc o) := h.below ((Below.refl _ _).alloc (Nat.le_refl _) o)

namespace As
theorem valueOfPE (t : Addr) (w : World) : (ReflectliteValue.unpack (.iface 59 (.pointer (some t)))).run Tryz.prog w
    = .ok (.agg #[.pointer (some ⟨4, 59, none⟩), .pointer (some ⟨w.heap.size, 0, none⟩), .int .u64 150]) (w.alloc (.cells #[.pointer (some t)] 59)) := by kernel_rfl
theorem typePE (a : Addr) (w : World) : (ReflectliteValue.methodAny (ReflectliteValue.valueError "reflectlite.Value.Type" 0) (fun t _ _ _ => ReflectliteType.toType t) #[.agg #[.pointer (some ⟨4, 59, none⟩), .pointer (some a), .int .u64 150]]).run Tryz.prog w
    = .ok (.iface 116 (.agg #[.pointer (some ⟨4, 59, none⟩)])) w := by kernel_rfl
theorem methodKind (h : Value) (w : World) : (Go.method 293 116 (.agg #[h]) "Kind").run Tryz.prog w = .ok (141, h) w := by kernel_rfl
theorem kindPE (w : World) : ((ReflectliteType.abiMethod fun t => (fun a : Nat => Value.int IntKind.u8 (a : Int)) <$> Rtype.kind t) #[.pointer (some ⟨4, 59, none⟩)]).run Tryz.prog w = .ok (.int .u8 22) w := by kernel_rfl
theorem kindEN (w : World) : ((ReflectliteType.abiMethod fun t => (fun a : Nat => Value.int IntKind.u8 (a : Int)) <$> Rtype.kind t) #[.pointer (some ⟨4, 52, none⟩)]).run Tryz.prog w = .ok (.int .u8 2) w := by kernel_rfl
theorem rlm (z : Sem Value) (f : TypeId → Addr → Nat → Nat → Sem Value) (v : Value) :
    ReflectliteValue.method z f #[v] = (do match ← ReflectliteValue.parts v with | none => z | some (t, a, fl) => f t a fl (fl % 32)) := rfl
theorem partsPE (a : Addr) (w : World) : (ReflectliteValue.parts (.agg #[.pointer (some ⟨4, 59, none⟩), .pointer (some a), .int .u64 150])).run Tryz.prog w = .ok (some (59, a, 150)) w := by kernel_rfl
theorem isNilPE (a p : Addr) (W : World) (ha : W.cell? a = some (.pointer (some p))) :
    (ReflectliteValue.method (ReflectliteValue.valueError "reflectlite.Value.IsNil" 0) ReflectliteValue.isNil #[.agg #[.pointer (some ⟨4, 59, none⟩), .pointer (some a), .int .u64 150]]).run Tryz.prog W = .ok (.bool false) W := by
  rw [rlm]
  simp only [Sem.run_bind, partsPE, Result.andThen]
  simp [ReflectliteValue.isNil, loadVar, isAgg, underlying, Tryz.underlying59, ha, Result.andThen]
theorem methodElem (h : Value) (w : World) : (Go.method 293 116 (.agg #[h]) "Elem").run Tryz.prog w = .ok (153, .agg #[h]) w := by kernel_rfl
theorem methodImplements (h : Value) (w : World) : (Go.method 293 116 (.agg #[h]) "Implements").run Tryz.prog w = .ok (154, .agg #[h]) w := by kernel_rfl
theorem methodAssignableTo (h : Value) (w : World) : (Go.method 293 116 (.agg #[h]) "AssignableTo").run Tryz.prog w = .ok (151, .agg #[h]) w := by kernel_rfl
theorem elemPE (w : World) : (ReflectliteType.method ReflectliteType.elem #[.agg #[.pointer (some ⟨4, 59, none⟩)]]).run Tryz.prog w = .ok (.iface 116 (.agg #[.pointer (some ⟨4, 52, none⟩)])) w := by kernel_rfl
theorem implementsEN (w : World) : (ReflectliteType.relation "Implements" ReflectliteType.implements_ #[.agg #[.pointer (some ⟨4, 52, none⟩)], .iface 116 (.agg #[.pointer (some ⟨4, 27, none⟩)])]).run Tryz.prog w = .ok (.bool true) w := by kernel_rfl
theorem typeOfPF (v : Value) (w : World) : (ReflectliteType.typeOf #[.iface 80 v]).run Tryz.prog w = .ok (.iface 116 (.agg #[.pointer (some ⟨4, 80, none⟩)])) w := by kernel_rfl
theorem typeOfEN (v : Value) (w : World) : (ReflectliteType.typeOf #[.iface 52 v]).run Tryz.prog w = .ok (.iface 116 (.agg #[.pointer (some ⟨4, 52, none⟩)])) w := by kernel_rfl
theorem assignablePF (w : World) : (ReflectliteType.relation "AssignableTo" ReflectliteType.assignableTo #[.agg #[.pointer (some ⟨4, 80, none⟩)], .iface 116 (.agg #[.pointer (some ⟨4, 52, none⟩)])]).run Tryz.prog w = .ok (.bool false) w := by kernel_rfl
theorem assignableEN (w : World) : (ReflectliteType.relation "AssignableTo" ReflectliteType.assignableTo #[.agg #[.pointer (some ⟨4, 52, none⟩)], .iface 116 (.agg #[.pointer (some ⟨4, 52, none⟩)])]).run Tryz.prog w = .ok (.bool true) w := by kernel_rfl
theorem valueOfEN (c : Int) (w : World) : (ReflectliteValue.unpack (.iface 52 (.int .i64 c))).run Tryz.prog w
    = .ok (.agg #[.pointer (some ⟨4, 52, none⟩), .pointer (some ⟨w.heap.size, 0, none⟩), .int .u64 130]) (w.alloc (.cells #[.int .i64 c] 52)) := by kernel_rfl
theorem elemOfPE (w : World) : (Rtype.elem? 59).run Tryz.prog w = .ok (some 52) w := by kernel_rfl
theorem mkEN (p : Addr) (w : World) : (ReflectliteValue.mk 52 p ReflectliteValue.flagAddr).run Tryz.prog w = .ok (.agg #[.pointer (some ⟨4, 52, none⟩), .pointer (some p), .int .u64 386]) w := by kernel_rfl
theorem elemVPE (a p : Addr) (W : World) (ha : W.cell? a = some (.pointer (some p))) :
    (ReflectliteValue.method (ReflectliteValue.valueError "reflectlite.Value.Elem" 0) ReflectliteValue.elem #[.agg #[.pointer (some ⟨4, 59, none⟩), .pointer (some a), .int .u64 150]]).run Tryz.prog W
      = .ok (.agg #[.pointer (some ⟨4, 52, none⟩), .pointer (some p), .int .u64 386]) W := by
  rw [rlm]
  simp only [Sem.run_bind, partsPE, Result.andThen]
  simp [ReflectliteValue.elem, loadVar, isAgg, underlying, Tryz.underlying59, ha, Result.andThen, elemOfPE, mkEN]
theorem rls (v x : Value) : ReflectliteValue.set #[v, x] = (do
    let (some (dst, a, fl), some (src, b, _)) := (← ReflectliteValue.parts v, ← ReflectliteValue.parts x)
      | unsupported (.noEntry "extern/(internal/reflectlite.Value).Set.zeroValue")
    if fl / ReflectliteValue.flagAddr % 2 == 0 then unsupported (.noEntry "extern/(internal/reflectlite.Value).Set.unaddressable")
    let val ← loadVar src b
    if ← Rtype.directlyAssignable dst src then storeVar dst a val
    else if ← Rtype.implements dst src then
      if (← Rtype.kind src) == 20 then
        match val with
        | .nilIface => unsupported (.noEntry "extern/reflectlite: a nil value of one interface type handed on as a value of another")
        | _ => storeVar dst a val
      else storeVar dst a (.iface src val)
    else panicString ("reflectlite.Set: value of type " ++ (← Rtype.spelt src) ++ " is not assignable to type " ++ (← Rtype.spelt dst))
    pure (.tuple #[])) := rfl
theorem partsENa (a : Addr) (w : World) : (ReflectliteValue.parts (.agg #[.pointer (some ⟨4, 52, none⟩), .pointer (some a), .int .u64 386])).run Tryz.prog w = .ok (some (52, a, 386)) w := by kernel_rfl
theorem partsEN (a : Addr) (w : World) : (ReflectliteValue.parts (.agg #[.pointer (some ⟨4, 52, none⟩), .pointer (some a), .int .u64 130])).run Tryz.prog w = .ok (some (52, a, 130)) w := by kernel_rfl
theorem directEN (w : World) : (Rtype.directlyAssignable 52 52).run Tryz.prog w = .ok true w := by kernel_rfl
theorem setEN (ta b : Addr) (c : Int) (old : Value) (W : World) (hb : W.cell? b = some (.int .i64 c)) (ht : W.cell? ta = some old) (hf : W.frozen? ta = false) :
    (ReflectliteValue.set #[.agg #[.pointer (some ⟨4, 52, none⟩), .pointer (some ta), .int .u64 386], .agg #[.pointer (some ⟨4, 52, none⟩), .pointer (some b), .int .u64 130]]).run Tryz.prog W
      = .ok (.tuple #[]) (W.setCell ta (.int .i64 c)) := by
  rw [rls]
  simp only [Sem.run_bind, partsENa, partsEN, Result.andThen]
  simp [ReflectliteValue.flagAddr, loadVar, isAgg, underlying, Tryz.underlying52, hb, Result.andThen, directEN, storeVar, Value.cells, storeCells, Addr.add]
  rw [run_store Tryz.prog W ta _ _ (by rfl)]
  simp [ht, hf]
end As
end Go.Proofs.YtjlflmjimibciabGreatDoor.Print
end

section
namespace Go.Proofs.YtjlflmjimibciabGreatDoor.Print
open Go Go.RowKit Go.Extern.Stop Go.Stop Go.Extern
set_option linter.unusedVariables false
set_option linter.unusedSimpArgs false
set_option maxRecDepth 100000 in
set_option maxHeartbeats 4000000 in
theorem as_errno (c : Int) (op p : ByteArray) (g o : Nat) (t a : Addr) (old : Value) (w : World) (ht0 : w.cell? t = some old) (hf0 : w.frozen? t = false) (ha : w.cell? a = some (.pointer (some t)))
    (he0 : w.cell? ⟨g, o, none⟩ = some (.string op)) (he1 : w.cell? ⟨g, o + 1, none⟩ = some (.string p)) (he2 : w.cell? ⟨g, o + 2, none⟩ = some (.iface 52 (.int .i64 c))) :
    Calls Tryz.prog 56 #[.iface 80 (.pointer (some ⟨g, o, none⟩)), .iface 59 (.pointer (some t)), .agg #[.pointer (some ⟨4, 59, none⟩), .pointer (some a), .int .u64 150], .iface 116 (.agg #[.pointer (some ⟨4, 52, none⟩)])] w fun ev w' => ev = .returned (.bool true) ∧ w' = ((w.alloc (.cells #[.pointer (some ⟨4, 59, none⟩), .pointer (some a), .int .u64 150] 87)).alloc (.cells #[.int .i64 c] 52)).setCell t (.int .i64 c) := by
  have h107 := @run_callFunc_extern Tryz.prog 74 _ ReflectliteType.typeOf Tryz.func74 (by kernel_rfl) (by kernel_rfl) (by kernel_rfl) (by kernel_rfl)
  have h170 := @run_callFunc_extern Tryz.prog 151 _ (ReflectliteType.relation "AssignableTo" ReflectliteType.assignableTo) Tryz.func151 (by kernel_rfl) (by kernel_rfl) (by kernel_rfl) (by kernel_rfl)
  have h108 := @run_callFunc_extern Tryz.prog 75 _ (ReflectliteValue.method (ReflectliteValue.valueError "reflectlite.Value.Elem" 0) ReflectliteValue.elem) Tryz.func75 (by kernel_rfl) (by kernel_rfl) (by kernel_rfl) (by kernel_rfl)
  have h75 := @run_callFunc_extern Tryz.prog 53 _ (fun args => ReflectliteValue.unpack (args.getD 0 (.tuple #[]))) Tryz.func53 (by kernel_rfl) (by kernel_rfl) (by kernel_rfl) (by kernel_rfl)
  have h109 := @run_callFunc_extern Tryz.prog 76 _ ReflectliteValue.set Tryz.func76 (by kernel_rfl) (by kernel_rfl) (by kernel_rfl) (by kernel_rfl)
  have tF := As.typeOfPF
  have tO := As.typeOfEN
  have mA := As.methodAssignableTo
  have aF := As.assignablePF
  have aE := As.assignableEN
  have vE := As.valueOfEN
  have nA : ∀ (v : Value) (xT : TypeId) (w : World), (Instr.typeAssert (.iface 80 v) xT 121 true).run Tryz.prog w = .ok (.tuple #[.nilIface, .bool false]) w := run_typeAssert_lacksB Tryz.underlying121 (by kernel_rfl) (by kernel_rfl)
  have nU : ∀ (v : Value) (xT : TypeId) (w : World), (Instr.typeAssert (.iface 80 v) xT 124 true).run Tryz.prog w = .ok (.tuple #[.iface 80 v, .bool true]) w := run_typeAssert_hasB Tryz.underlying124 (by kernel_rfl)
  have mU : ∀ (v : Value) (w : World), (Go.method 293 80 v "Unwrap").run Tryz.prog w = .ok (146, v) w := by
    intro v w
    kernel_rfl
  have htl : t.block < w.heap.size := by
    rcases Nat.lt_or_ge t.block w.heap.size with h | h
    · exact h
    · simp [World.cell?, Array.getElem?_eq_none h] at ht0
  have hal : a.block < w.heap.size := by
    rcases Nat.lt_or_ge a.block w.heap.size with h | h
    · exact h
    · simp [World.cell?, Array.getElem?_eq_none h] at ha
  have hel : g < w.heap.size := by
    rcases Nat.lt_or_ge g w.heap.size with h | h
    · exact h
    · simp [World.cell?, Array.getElem?_eq_none h] at he0
  generalize hW1 : w.alloc (.cells #[.pointer (some ⟨4, 59, none⟩), .pointer (some a), .int .u64 150] 87) = W1
  have hb1 : Below w.heap.size w W1 := by rw [← hW1]; exact (Below.refl _ _).alloc (Nat.le_refl _) _
  have hs1 : W1.heap.size = w.heap.size + 1 := by rw [← hW1]; simp
  have el := As.elemVPE a t W1 ((hb1.cell hal).trans ha)
  have g0 := (hb1.cell (p := ⟨g, o, none⟩) hel).trans he0
  have g1 := (hb1.cell (p := ⟨g, o + 1, none⟩) hel).trans he1
  have g2 := (hb1.cell (p := ⟨g, o + 2, none⟩) hel).trans he2
  have st := As.setEN t ⟨w.heap.size + 1, 0, none⟩ c old (W1.alloc (.cells #[.int .i64 c] 52))
    (by rw [World.cell?_alloc_at _ _ _ _ (by simp [hs1])]; rfl)
    (by rw [World.cell?_alloc_lt _ _ t (by omega)]; exact (hb1.cell htl).trans ht0)
    (by rw [World.frozen?_alloc_old _ _ t (by omega), ← hW1, World.frozen?_alloc_old _ _ t (Nat.ne_of_lt htl)]; exact hf0)
  rw [← hW1] at st el g0 g1 g2 ⊢
  clear hW1 hb1 hs1
  go_enter Tryz.func56, Tryz.ntmps56
  go_wp2
  refine wp_loop_rounds 2 ?_
  rw [rounds_succ]
  go_wp2
  rw [rounds_succ]
  go_wp2
  go_ret
  exact ⟨rfl, rfl⟩

set_option maxRecDepth 100000 in
set_option maxHeartbeats 4000000 in
theorem As_errno (c : Int) (op p : ByteArray) (g o : Nat) (t : Addr) (old : Value) (w : World) (hG : Gl w) (ht0 : w.cell? t = some old) (hf0 : w.frozen? t = false)
    (he0 : w.cell? ⟨g, o, none⟩ = some (.string op)) (he1 : w.cell? ⟨g, o + 1, none⟩ = some (.string p)) (he2 : w.cell? ⟨g, o + 2, none⟩ = some (.iface 52 (.int .i64 c))) :
    Calls Tryz.prog 29 #[.iface 80 (.pointer (some ⟨g, o, none⟩)), .iface 59 (.pointer (some t))] w fun ev w' => ev = .returned (.bool true) ∧ w'.cell? t = some (.int .i64 c) ∧ ∃ W, Below w.heap.size w W ∧ w' = W.setCell t (.int .i64 c) := by
  have h6 := @run_callFunc_extern Tryz.prog 53 _ (fun args => ReflectliteValue.unpack (args.getD 0 (.tuple #[]))) Tryz.func53 (by kernel_rfl) (by kernel_rfl) (by kernel_rfl) (by kernel_rfl)
  have h7 := @run_callFunc_extern Tryz.prog 54 _ (ReflectliteValue.methodAny (ReflectliteValue.valueError "reflectlite.Value.Type" 0) (fun t _ _ _ => ReflectliteType.toType t)) Tryz.func54 (by kernel_rfl) (by kernel_rfl) (by kernel_rfl) (by kernel_rfl)
  have h8 := @run_callFunc_extern Tryz.prog 55 _ (ReflectliteValue.method (ReflectliteValue.valueError "reflectlite.Value.IsNil" 0) ReflectliteValue.isNil) Tryz.func55 (by kernel_rfl) (by kernel_rfl) (by kernel_rfl) (by kernel_rfl)
  have h27 := @run_callFunc_extern Tryz.prog 141 _ (ReflectliteType.abiMethod fun t => do pure (.int .u8 (← Rtype.kind t))) Tryz.func141 (by kernel_rfl) (by kernel_rfl) (by kernel_rfl) (by kernel_rfl)
  have h37 := @run_callFunc_extern Tryz.prog 153 _ (ReflectliteType.method ReflectliteType.elem) Tryz.func153 (by kernel_rfl) (by kernel_rfl) (by kernel_rfl) (by kernel_rfl)
  have h38 := @run_callFunc_extern Tryz.prog 154 _ (ReflectliteType.relation "Implements" ReflectliteType.implements_) Tryz.func154 (by kernel_rfl) (by kernel_rfl) (by kernel_rfl) (by kernel_rfl)
  have f6 := As.valueOfPE
  have f7 := As.typePE
  have mK := As.methodKind
  have mE := As.methodElem
  have mI := As.methodImplements
  have k27 := As.kindPE
  have k25 := As.kindEN
  have e27 := As.elemPE
  have i25 := As.implementsEN
  have hlt := hG.lt
  have htl : t.block < w.heap.size := by
    rcases Nat.lt_or_ge t.block w.heap.size with h | h
    · exact h
    · simp [World.cell?, Array.getElem?_eq_none h] at ht0
  have hel : g < w.heap.size := by
    rcases Nat.lt_or_ge g w.heap.size with h | h
    · exact h
    · simp [World.cell?, Array.getElem?_eq_none h] at he0
  generalize hW2 : ((w.alloc (.cells #[.pointer (some t)] 59)).alloc (.cells #[.pointer (some ⟨4, 59, none⟩), .pointer (some ⟨w.heap.size, 0, none⟩), .int .u64 150] 87)) = W2
  have hb2 : Below w.heap.size w W2 := by rw [← hW2]; exact ((Below.refl _ _).alloc (Nat.le_refl _) _).alloc (by simp) _
  have hs2 : W2.heap.size = w.heap.size + 1 + 1 := by rw [← hW2]; simp
  have hv2 : W2.cell? ⟨w.heap.size, 0, none⟩ = some (.pointer (some t)) := by rw [← hW2, World.cell?_alloc_lt _ _ ⟨w.heap.size, 0, none⟩ (by simp)]; simp
  have n8 := As.isNilPE ⟨w.heap.size, 0, none⟩ t W2 hv2
  have hg2 : W2.cell? ⟨0, 0, none⟩ = some (.iface 116 (.agg #[.pointer (some ⟨4, 27, none⟩)])) := hG.below hb2
  have hfr : W2.frozen? t = false := by rw [← hW2, World.frozen?_alloc_old _ _ t (by simp; omega), World.frozen?_alloc_old _ _ t (Nat.ne_of_lt htl)]; exact hf0
  have H := as_errno c op p g o t ⟨w.heap.size, 0, none⟩ old W2 ((hb2.cell htl).trans ht0) hfr hv2 ((hb2.cell (p := ⟨g, o, none⟩) hel).trans he0) ((hb2.cell (p := ⟨g, o + 1, none⟩) hel).trans he1) ((hb2.cell (p := ⟨g, o + 2, none⟩) hel).trans he2)
  have hlast : ∀ W, Below W2.heap.size W2 W → (W.setCell t (.int .i64 c)).cell? t = some (.int .i64 c) := fun W hW => World.cell?_setCell_same' _ _ _ (by rw [hW.cell (show t.block < W2.heap.size by omega), hb2.cell htl, ht0]; rfl)
  have HB := hb2
  rw [← hW2] at n8 hg2 H HB hlast
  clear hW2 hb2 hs2 hv2 hfr he0 he1 he2 ht0 hf0
  go_enter Tryz.func29, Tryz.ntmps29
  go_wp2_with (go_at_call 56; refine H.mono ?_; rintro e w' ⟨rfl, rfl⟩)
  go_ret
  refine ⟨rfl, ?_, _, ?_, rfl⟩
  · exact hlast _ (((Below.refl _ _).alloc (Nat.le_refl _) _).alloc (by simp) _)
  exact (HB.alloc (by simp; omega) _).alloc (by simp; omega) _

set_option maxRecDepth 100000 in
set_option maxHeartbeats 4000000 in
theorem Code_nil (w : World) : Calls Tryz.prog 9 #[.nilIface] w fun ev w' => ev = .returned (.int .i64 0) ∧ Below w.heap.size w w' := by
  go_enter Tryz.func9, Tryz.ntmps9
  go_wp2
  go_ret
  exact ⟨rfl, (Below.refl _ _).alloc (Nat.le_refl _) _⟩

set_option maxRecDepth 100000 in
set_option maxHeartbeats 4000000 in
theorem Code_fault (c : Int) (op p : ByteArray) (g o : Nat) (w : World) (hG : Gl w)
    (he0 : w.cell? ⟨g, o, none⟩ = some (.string op)) (he1 : w.cell? ⟨g, o + 1, none⟩ = some (.string p)) (he2 : w.cell? ⟨g, o + 2, none⟩ = some (.iface 52 (.int .i64 c))) :
    Calls Tryz.prog 9 #[.iface 80 (.pointer (some ⟨g, o, none⟩))] w fun ev w' => ev = .returned (.int .i64 c) ∧ Below w.heap.size w w' := by
  have hel : g < w.heap.size := by
    rcases Nat.lt_or_ge g w.heap.size with h | h
    · exact h
    · simp [World.cell?, Array.getElem?_eq_none h] at he0
  have hb : Below w.heap.size w (w.alloc (.cells #[.int .i64 0] 52)) := (Below.refl _ _).alloc (Nat.le_refl _) _
  have H := As_errno c op p g o ⟨w.heap.size, 0, none⟩ (.int .i64 0) (w.alloc (.cells #[.int .i64 0] 52)) (hG.below hb) (by simp) (by simp)
    ((hb.cell (p := ⟨g, o, none⟩) hel).trans he0) ((hb.cell (p := ⟨g, o + 1, none⟩) hel).trans he1) ((hb.cell (p := ⟨g, o + 2, none⟩) hel).trans he2)
  replace H : Calls Tryz.prog 29 #[.iface 80 (.pointer (some ⟨g, o, none⟩)), .iface 59 (.pointer (some ⟨w.heap.size, 0, none⟩))] (w.alloc (.cells #[.int .i64 0] 52)) fun ev w' => ev = .returned (.bool true) ∧ w'.cell? ⟨w.heap.size, 0, none⟩ = some (.int .i64 c) ∧ Below w.heap.size w w' := H.mono (by
    rintro e w' ⟨h1, h2, W, h3, rfl⟩
    exact ⟨h1, h2, ((hb.trans (h3.mono hb.size))).setCell (Nat.le_refl _) _⟩)
  clear he0 he1 he2 hG hb
  go_enter Tryz.func9, Tryz.ntmps9
  go_wp2_with (go_at_call 29; refine H.mono ?_; rintro e w' ⟨rfl, hc, hB⟩)
  go_ret
  exact ⟨rfl, hB⟩
end Go.Proofs.YtjlflmjimibciabGreatDoor.Print
end

section
namespace Go.Proofs
open Go.Shelf
def Tryz.lays160_ren : Go.Shelf.Ren := ⟨fun | 160 => 85 | 232 => 98 | 231 => 97 | 227 => 99 | 234 => 101 | 233 => 100 | 236 => 103 | 235 => 102 | 228 => 110 | 271 => 112 | 151 => 111 | 197 => 95 | 120 => 122 | 152 => 114 | 260 => 108 | 137 => 123 | 119 => 124 | 224 => 120 | 225 => 119 | 217 => 118 | 266 => 125 | n => n, fun | 9 => 9 | 4 => 4 | 3 => 3 | 5 => 5 | 117 => 147 | 116 => 146 | 0 => 0 | 124 => 150 | 21 => 21 | 105 => 142 | 46 => 83 | 119 => 160 | 139 => 163 | 138 => 162 | n => n, fun | 3 => 2 | 4 => 3 | n => n⟩
theorem Tryz.lays160 : Go.Proofs.Lays.n160 Tryz.prog Tryz.lays160_ren := {
  mixed := by kernel_rfl,
  f119 := Tryz.func124.trans (congrArg some (by kernel_rfl)),
  f120 := Tryz.func122.trans (congrArg some (by kernel_rfl)),
  f137 := Tryz.func123.trans (congrArg some (by kernel_rfl)),
  f151 := Tryz.func111.trans (congrArg some (by kernel_rfl)),
  f152 := Tryz.func114.trans (congrArg some (by kernel_rfl)),
  f160 := Tryz.func85.trans (congrArg some (by kernel_rfl)),
  f197 := Tryz.func95.trans (congrArg some (by kernel_rfl)),
  f217 := Tryz.func118.trans (congrArg some (by kernel_rfl)),
  f224 := Tryz.func120.trans (congrArg some (by kernel_rfl)),
  f225 := Tryz.func119.trans (congrArg some (by kernel_rfl)),
  f227 := Tryz.func99.trans (congrArg some (by kernel_rfl)),
  f228 := Tryz.func110.trans (congrArg some (by kernel_rfl)),
  f231 := Tryz.func97.trans (congrArg some (by kernel_rfl)),
  f232 := Tryz.func98.trans (congrArg some (by kernel_rfl)),
  f233 := Tryz.func100.trans (congrArg some (by kernel_rfl)),
  f234 := Tryz.func101.trans (congrArg some (by kernel_rfl)),
  f235 := Tryz.func102.trans (congrArg some (by kernel_rfl)),
  f236 := Tryz.func103.trans (congrArg some (by kernel_rfl)),
  f260 := Tryz.func108.trans (congrArg some (by kernel_rfl)),
  f266 := Tryz.func125.trans (congrArg some (by kernel_rfl)),
  f271 := Tryz.func112.trans (congrArg some (by kernel_rfl)),
  t0 := Tryz.underlying0,
  a0 := Tryz.isAgg0,
  z0 := Tryz.sizeOf0,
  v0 := Tryz.zeroValue0,
  t3 := Tryz.underlying3,
  a3 := Tryz.isAgg3,
  z3 := Tryz.sizeOf3,
  v3 := Tryz.zeroValue3,
  t4 := Tryz.underlying4,
  a4 := Tryz.isAgg4,
  z4 := Tryz.sizeOf4,
  v4 := Tryz.zeroValue4,
  t5 := Tryz.underlying5,
  a5 := Tryz.isAgg5,
  z5 := Tryz.sizeOf5,
  v5 := Tryz.zeroValue5,
  t9 := Tryz.underlying9,
  a9 := Tryz.isAgg9,
  z9 := Tryz.sizeOf9,
  v9 := Tryz.zeroValue9,
  t21 := Tryz.underlying21,
  a21 := Tryz.isAgg21,
  z21 := Tryz.sizeOf21,
  v21 := Tryz.zeroValue21,
  t46 := Tryz.underlying83,
  a46 := Tryz.isAgg83,
  z46 := Tryz.sizeOf83,
  v46 := Tryz.zeroValue83,
  t105 := Tryz.underlying142,
  a105 := Tryz.isAgg142,
  z105 := Tryz.sizeOf142,
  v105 := Tryz.zeroValue142,
  t116 := Tryz.underlying146,
  a116 := Tryz.isAgg146,
  z116 := Tryz.sizeOf146,
  t117 := Tryz.underlying147,
  a117 := Tryz.isAgg147,
  z117 := Tryz.sizeOf147,
  v117 := Tryz.zeroValue147,
  t119 := Tryz.underlying160,
  a119 := Tryz.isAgg160,
  z119 := Tryz.sizeOf160,
  t124 := Tryz.underlying150,
  a124 := Tryz.isAgg150,
  z124 := Tryz.sizeOf150,
  v124 := Tryz.zeroValue150,
  t138 := Tryz.underlying162,
  a138 := Tryz.isAgg162,
  z138 := Tryz.sizeOf162,
  v138 := Tryz.zeroValue162,
  t139 := Tryz.underlying163,
  a139 := Tryz.isAgg163,
  z139 := Tryz.sizeOf163,
  v139 := Tryz.zeroValue163,
  g3 := by kernel_rfl,
  g4 := by kernel_rfl }
def Tryz.lays103_ren : Go.Shelf.Ren := ⟨fun | 103 => 71 | 210 => 83 | 206 => 70 | n => n, fun | 9 => 9 | 4 => 4 | 24 => 110 | 3 => 3 | n => n, fun | n => n⟩
theorem Tryz.lays103 : Go.Proofs.Lays.n103 Tryz.prog Tryz.lays103_ren := {
  mixed := by kernel_rfl,
  f103 := Tryz.func71.trans (congrArg some (by kernel_rfl)),
  f206 := Tryz.func70.trans (congrArg some (by kernel_rfl)),
  f210 := Tryz.func83.trans (congrArg some (by kernel_rfl)),
  t3 := Tryz.underlying3,
  a3 := Tryz.isAgg3,
  z3 := Tryz.sizeOf3,
  v3 := Tryz.zeroValue3,
  t4 := Tryz.underlying4,
  a4 := Tryz.isAgg4,
  z4 := Tryz.sizeOf4,
  v4 := Tryz.zeroValue4,
  t9 := Tryz.underlying9,
  a9 := Tryz.isAgg9,
  z9 := Tryz.sizeOf9,
  v9 := Tryz.zeroValue9,
  t24 := Tryz.underlying110,
  a24 := Tryz.isAgg110,
  z24 := Tryz.sizeOf110,
  v24 := Tryz.zeroValue110 }
def Tryz.lays150_ren : Go.Shelf.Ren := ⟨fun | 150 => 88 | 153 => 105 | 152 => 114 | 226 => 115 | 227 => 99 | 228 => 110 | 137 => 123 | 119 => 124 | 224 => 120 | 225 => 119 | 217 => 118 | 266 => 125 | n => n, fun | 9 => 9 | 4 => 4 | 3 => 3 | 5 => 5 | 21 => 21 | 117 => 147 | 116 => 146 | 0 => 0 | 46 => 83 | 124 => 150 | n => n, fun | n => n⟩
theorem Tryz.lays150 : Go.Proofs.Lays.n150 Tryz.prog Tryz.lays150_ren := {
  mixed := by kernel_rfl,
  f119 := Tryz.func124.trans (congrArg some (by kernel_rfl)),
  f137 := Tryz.func123.trans (congrArg some (by kernel_rfl)),
  f150 := Tryz.func88.trans (congrArg some (by kernel_rfl)),
  f152 := Tryz.func114.trans (congrArg some (by kernel_rfl)),
  f153 := Tryz.func105.trans (congrArg some (by kernel_rfl)),
  f217 := Tryz.func118.trans (congrArg some (by kernel_rfl)),
  f224 := Tryz.func120.trans (congrArg some (by kernel_rfl)),
  f225 := Tryz.func119.trans (congrArg some (by kernel_rfl)),
  f226 := Tryz.func115.trans (congrArg some (by kernel_rfl)),
  f227 := Tryz.func99.trans (congrArg some (by kernel_rfl)),
  f228 := Tryz.func110.trans (congrArg some (by kernel_rfl)),
  f266 := Tryz.func125.trans (congrArg some (by kernel_rfl)),
  t0 := Tryz.underlying0,
  a0 := Tryz.isAgg0,
  z0 := Tryz.sizeOf0,
  v0 := Tryz.zeroValue0,
  t3 := Tryz.underlying3,
  a3 := Tryz.isAgg3,
  z3 := Tryz.sizeOf3,
  v3 := Tryz.zeroValue3,
  t4 := Tryz.underlying4,
  a4 := Tryz.isAgg4,
  z4 := Tryz.sizeOf4,
  v4 := Tryz.zeroValue4,
  t5 := Tryz.underlying5,
  a5 := Tryz.isAgg5,
  z5 := Tryz.sizeOf5,
  v5 := Tryz.zeroValue5,
  t9 := Tryz.underlying9,
  a9 := Tryz.isAgg9,
  z9 := Tryz.sizeOf9,
  v9 := Tryz.zeroValue9,
  t21 := Tryz.underlying21,
  a21 := Tryz.isAgg21,
  z21 := Tryz.sizeOf21,
  v21 := Tryz.zeroValue21,
  t46 := Tryz.underlying83,
  a46 := Tryz.isAgg83,
  z46 := Tryz.sizeOf83,
  v46 := Tryz.zeroValue83,
  t116 := Tryz.underlying146,
  a116 := Tryz.isAgg146,
  z116 := Tryz.sizeOf146,
  t117 := Tryz.underlying147,
  a117 := Tryz.isAgg147,
  z117 := Tryz.sizeOf147,
  v117 := Tryz.zeroValue147,
  t124 := Tryz.underlying150,
  a124 := Tryz.isAgg150,
  z124 := Tryz.sizeOf150,
  v124 := Tryz.zeroValue150 }
def Tryz.lays143_ren : Go.Shelf.Ren := ⟨fun | 143 => 96 | 219 => 109 | 217 => 118 | 225 => 119 | 224 => 120 | 267 => 121 | 266 => 125 | 314 => 126 | n => n, fun | 9 => 9 | 3 => 3 | 4 => 4 | 5 => 5 | 46 => 83 | 146 => 166 | 51 => 56 | n => n, fun | 1 => 1 | n => n⟩
theorem Tryz.lays143 : Go.Proofs.Lays.n143 Tryz.prog Tryz.lays143_ren := {
  mixed := by kernel_rfl,
  f143 := Tryz.func96.trans (congrArg some (by kernel_rfl)),
  f217 := Tryz.func118.trans (congrArg some (by kernel_rfl)),
  f219 := Tryz.func109.trans (congrArg some (by kernel_rfl)),
  f224 := Tryz.func120.trans (congrArg some (by kernel_rfl)),
  f225 := Tryz.func119.trans (congrArg some (by kernel_rfl)),
  f266 := Tryz.func125.trans (congrArg some (by kernel_rfl)),
  f267 := Tryz.func121.trans (congrArg some (by kernel_rfl)),
  f314 := Tryz.func126.trans (congrArg some (by kernel_rfl)),
  t3 := Tryz.underlying3,
  a3 := Tryz.isAgg3,
  z3 := Tryz.sizeOf3,
  v3 := Tryz.zeroValue3,
  t4 := Tryz.underlying4,
  a4 := Tryz.isAgg4,
  z4 := Tryz.sizeOf4,
  v4 := Tryz.zeroValue4,
  t5 := Tryz.underlying5,
  a5 := Tryz.isAgg5,
  z5 := Tryz.sizeOf5,
  v5 := Tryz.zeroValue5,
  t9 := Tryz.underlying9,
  a9 := Tryz.isAgg9,
  z9 := Tryz.sizeOf9,
  v9 := Tryz.zeroValue9,
  t46 := Tryz.underlying83,
  a46 := Tryz.isAgg83,
  z46 := Tryz.sizeOf83,
  v46 := Tryz.zeroValue83,
  t51 := Tryz.underlying56,
  a51 := Tryz.isAgg56,
  z51 := Tryz.sizeOf56,
  v51 := Tryz.zeroValue56,
  t146 := Tryz.underlying166,
  a146 := Tryz.isAgg166,
  z146 := Tryz.sizeOf166,
  v146 := Tryz.zeroValue166,
  g1 := by kernel_rfl }
end Go.Proofs
end

section
namespace Go.Proofs.YtjlflmjimibciabGreatDoor.Print
open Go.RowKit Go.Shelf
set_option linter.unusedVariables false
set_option linter.unusedSimpArgs false
/-- The signs of names. -/
def signs : List UInt8 := [97, 98, 99, 100, 101, 102, 103, 104, 105, 106, 107, 108, 109, 110, 111, 112, 113, 114, 115, 116, 117, 118, 119, 120, 121, 122, 48, 49, 50, 51, 52, 53, 54, 55, 56, 57, 45, 95]
/-- Is it a name? -/
def nameL (l : List UInt8) : Bool := decide (1 ≤ l.length) && (decide (l.length ≤ 8) && l.all signs.contains)
theorem signs_ascii : ∀ b ∈ signs, b.toNat < 128 := by decide
theorem dropWhile_nil (p : UInt8 → Bool) : ∀ l : List UInt8, l.dropWhile p = [] ↔ l.all p = true
  | [] => by simp
  | b :: l => by
    cases h : p b
    · simp [List.dropWhile_cons, h]
    · rw [List.dropWhile_cons, if_pos h, List.all_cons, h, Bool.true_and]
      exact dropWhile_nil p l
theorem dropWhile_head (p : UInt8 → Bool) (b : UInt8) (t : List UInt8) : ∀ l : List UInt8, l.dropWhile p = b :: t → p b = false
  | [], h => by simp at h
  | c :: l, h => by
    cases hc : p c
    · simp [List.dropWhile_cons, hc] at h
      rw [← h.1]; exact hc
    · simp [List.dropWhile_cons, hc] at h
      exact dropWhile_head p b t l h
theorem trim_nil (l : List UInt8) : (Lib.trimS l signs = []) ↔ l.all signs.contains = true := by
  unfold Lib.trimS Lib.trimLeftS Lib.trimRightS
  rw [dropWhile_nil]
  constructor
  · intro h
    have h1 : (l.reverse.dropWhile (signs.contains ·)) = [] := by
      cases hm : l.reverse.dropWhile (signs.contains ·) with
      | nil => rfl
      | cons b t =>
        have h1 : signs.contains b = false := dropWhile_head _ _ _ _ hm
        rw [hm] at h
        have h2 : signs.contains b = true := List.all_eq_true.1 h b (by simp)
        rw [h1] at h2; cases h2
    have := (dropWhile_nil _ _).1 h1
    rwa [List.all_reverse] at this
  · intro h
    have : l.reverse.all (signs.contains ·) = true := by rw [List.all_reverse]; exact h
    rw [(dropWhile_nil _ _).2 this]; rfl

set_option maxHeartbeats 4000000 in
set_option maxRecDepth 100000 in
theorem sign_calls (b : UInt8) (hb : b ∈ signs) (w : World) :
    Calls Tryz.prog 87 #[.int .i32 (b.toNat : Int)] w fun e w' => e = .returned (.bool false) ∧ Below w.heap.size w w' := by
  have hcon := Any.strings_ContainsAny_laid Tryz.lays150 (by kernel_rfl) ⟨#[b]⟩ ⟨signs.toArray⟩ w (by show (1 : Nat) < _; omega) (by decide) (by
    intro j c hc
    have : c = b := by cases j <;> simp at hc; exact hc.symm
    subst this
    exact signs_ascii c hb) (fun j c hc => signs_ascii c (List.mem_of_getElem? hc))
  change Calls Tryz.prog 88 _ _ (fun e w' => e = .returned (.bool (Lib.containsAny [b] signs)) ∧ Below w.heap.size w w') at hcon
  have hv : Lib.containsAny [b] signs = true := by
    unfold Lib.containsAny Lib.indexAny
    rw [if_pos (List.elem_eq_true_of_mem hb)]
    rfl
  rw [hv] at hcon
  have hb128 := signs_ascii b hb
  have hcv : (convert 21 9 (.int .i32 (b.toNat : Int))).run Tryz.prog w = .ok (.string ⟨#[b]⟩) w := by
    rw [run_convert_int_string w _ _ _ _ (by kernel_rfl) Tryz.underlying9]
    have hv : Utf8.valid (b.toNat : Int) = true := by
      unfold Utf8.valid
      simp
      omega
    have he : Utf8.encode (b.toNat : Int) = ⟨#[b]⟩ := by
      unfold Utf8.encode
      simp [hv, hb128]
    rw [he]
  go_enter Tryz.func87, Tryz.ntmps87
  go_wp2_with (go_at_call 88; refine hcon.mono ?_; rintro e w' ⟨rfl, hB⟩)
  go_ret
  exact ⟨rfl, hB⟩

set_option maxHeartbeats 4000000 in
set_option maxRecDepth 100000 in
theorem indexFunc_signs (s : ByteArray) (hs : ∀ (i : Nat) (h : i < s.size), s[i]'h ∈ signs) (w : World) :
    Calls Tryz.prog 113 #[.string s, .func (.func 87) #[] #[], .bool true] w fun e w' => e = .returned (.int .i64 (-1)) ∧ Below w.heap.size w w' := by
  go_enter Tryz.func113, Tryz.ntmps113
  go_wp2
  go_loopg [] s.size (fun gf wx => ∃ pos : Nat, wx.heap[w.heap.size]? = some (.stringIter s pos) ∧ Below w.heap.size w wx ∧ s.size ≤ pos + gf)
  case atStart => exact ⟨0, World.iter_heap w s 0, (Below.refl _ w).alloc (Nat.le_refl _) _, by omega⟩
  case round =>
    obtain ⟨pos, hit, hbw, hfu⟩ := hrel
    by_cases hps : pos < s.size
    · obtain ⟨g', rfl⟩ : ∃ g', gk = g' + 1 := ⟨gk - 1, by omega⟩
      have hnx : ∀ ty, (Instr.next (.pointer (some ⟨w.heap.size, 0, none⟩)) true ty).run Tryz.prog wr = _ := fun ty => Lib.run_next_any_at wr w.heap.size s pos ty hit hps
      have hin := hs pos hps
      rw [Go.decode_ascii s pos hps (signs_ascii _ hin)] at hnx
      have hit2 := Lib.iterAt_heap wr w.heap.size s pos (pos + 1) hit
      have hbw2 := Lib.below_iterAt hbw (k := w.heap.size) (Nat.le_refl _) s (pos + 1)
      generalize hb : s[pos] = b at hin hnx
      obtain ⟨W, hWd⟩ : ∃ W, wr.iterAt w.heap.size s (pos + 1) = W := ⟨_, rfl⟩
      rw [hWd] at hnx hit2 hbw2
      have hltW : w.heap.size < W.heap.size := (Array.getElem?_eq_some_iff.1 hit2).1
      have cS := sign_calls b hin W
      clear hs
      go_wp2_with (go_at_call 87; refine cS.mono ?_; rintro e W' ⟨rfl, hbc⟩)
      go_roundg g'
      case measure => omega
      case rel => exact ⟨pos + 1, (hbc.block _ hltW).trans hit2, (hbw2.trans (hbc.mono hbw2.size)), by omega⟩
    · have hnx : ∀ ty, (Instr.next (.pointer (some ⟨w.heap.size, 0, none⟩)) true ty).run Tryz.prog wr = _ := fun ty => Lib.run_next_end_at wr w.heap.size s pos ty hit hps
      go_wp2
      go_ret
      exact ⟨rfl, hbw⟩

set_option maxHeartbeats 4000000 in
set_option maxRecDepth 100000 in
theorem containsFunc_signs (s : ByteArray) (hs : ∀ (i : Nat) (h : i < s.size), s[i]'h ∈ signs) (w : World) :
    Calls Tryz.prog 86 #[.string s, .func (.func 87) #[] #[]] w fun e w' => e = .returned (.bool false) ∧ Below w.heap.size w w' := by
  have H := indexFunc_signs s hs w
  go_enter Tryz.func86, Tryz.ntmps86
  go_wp2_with (first | (go_at_call 113; refine H.mono ?_; rintro e w' ⟨rfl, hB⟩) | go_in)
  go_ret
  exact ⟨rfl, hB⟩

set_option maxHeartbeats 8000000 in
set_option maxRecDepth 100000 in
theorem Name_calls (s : ByteArray) (w : World) :
    Calls Tryz.prog 73 #[.string s] w fun e w' => e = .returned (.bool (nameL s.data.toList)) ∧ Below w.heap.size w w' := by
  have hT := fun hsz : s.size ≤ 9223372036854775807 => Any.strings_Trim_laid Tryz.lays160 (by kernel_rfl) s ⟨signs.toArray⟩ w hsz (by decide) (fun j c hc => signs_ascii c (List.mem_of_getElem? hc))
  change s.size ≤ 9223372036854775807 → Calls Tryz.prog 85 #[.string s, _] w (fun e w' => e = .returned (.string ⟨(Lib.trimS s.data.toList signs).toArray⟩) ∧ Below w.heap.size w w') at hT
  have hlen : s.data.toList.length = s.size := rfl
  have hR := trim_nil s.data.toList
  generalize Lib.trimS s.data.toList signs = R at hT hR
  have hsig : R = [] → ∀ (i : Nat) (h : i < s.size), s[i]'h ∈ signs := by
    intro h i hi
    have := List.all_eq_true.1 (hR.1 h) (s.data.toList[i]'hi) (List.getElem_mem _)
    have h2 : s.data.toList[i]'hi ∈ signs := by simpa using this
    rw [Array.getElem_toList] at h2
    exact h2
  have hname : nameL s.data.toList = (decide (1 ≤ (s.size : Int)) && (decide ((s.size : Int) ≤ 8) && decide (R = []))) := by
    unfold nameL
    rw [hlen]
    congr 1
    · exact decide_eq_decide.2 (by omega)
    · congr 1
      · exact decide_eq_decide.2 (by omega)
      · exact Bool.eq_iff_iff.2 (by simp only [decide_eq_true_eq]; exact hR.symm)
  rw [hname]
  clear hname hR hlen
  go_enter Tryz.func73, Tryz.ntmps73
  go_wp2_with (first | (go_at_call 85; refine (hT (by omega)).mono ?_; rintro e w' ⟨rfl, hB⟩) | (go_at_call 86; refine (containsFunc_signs s (hsig (by assumption)) _).mono ?_; rintro e w'' ⟨rfl, hB2⟩; have hB3 := hB.trans (hB2.mono hB.size); clear hB hB2; have hB := hB3; clear hB3))
  all_goals (
    go_ret
    refine ⟨?_, by first | assumption | exact Below.refl _ _⟩
    first | (simp [*]; done) | (rw [decide_eq_false (show ¬ (s.size : Int) ≤ 8 by omega)]; simp; done) | (rw [decide_eq_false (show ¬ 1 ≤ (s.size : Int) by omega)]; rfl))
end Go.Proofs.YtjlflmjimibciabGreatDoor.Print
end

section
namespace Go.Proofs.YtjlflmjimibciabGreatDoor.Print
open Go Go.Proofs Go.RowKit Go.Shelf
set_option linter.unusedVariables false
variable {P : Program} {F : Fence} {n : Nat}
/-- What an iterator gives that stores into block b. -/
def SeqBox {α : Type} (F : Fence) (n : Nat) (P : Program) (g : Nat) (lb : Array Value) (b : Nat) (encs : α → Array Value) (Kp : World → World → Prop) (S Sp : List α → Prop) (w : World) : Prop :=
  ∀ (l : Nat) (J Jx : List α → World → Prop), (∀ pre W v, J pre W → J pre (W.setCell ⟨b, 0, none⟩ v)) → (∀ pre W v, Jx pre W → Jx pre (W.setCell ⟨b, 0, none⟩ v)) →
    ∀ W, Below w.heap.size w W → (∀ pre x W1, J pre W1 → YieldAt F (n - 1) P l (encs x) W1 fun e W' =>
      (e = .returned (.bool true) ∧ J (pre ++ [x]) W' ∧ Kp W1 W') ∨ (e = .returned (.bool false) ∧ Jx (pre ++ [x]) W')) →
    J [] W →
    CallsIn F n P g (#[.func (.yield l) #[] #[]] ++ lb) W fun e W' => (∃ v, e = .returned v) ∧ ((∃ xs, S xs ∧ J xs W') ∨ (∃ pre, Sp pre ∧ Jx pre W'))

theorem heap_setCell_ne {W : World} {b k : Nat} {v : Value} {o : Obj} (h : k ≠ b) (ho : W.heap[k]? = some o) : (W.setCell ⟨b, 0, none⟩ v).heap[k]? = some o :=
  (Below.heap_setCell W ⟨b, 0, none⟩ v k h).trans ho

theorem range_box {α : Type} {g : Operand} {ps : Array Tmp} {assign body : Code} {Q : Exit → Act → World → Prop} {a : Act} {w : World}
    (hro : F.round = none) (h1 : 1 ≤ n) {gf : Nat} {lb : Array Value} (hg : a.eval g = .func (.func gf) #[] lb) (hFg : F.fn gf) (eg : ∀ args w, (callFunc gf args).run P w = .ok (.enter gf args) w)
    {b : Nat} {encs : α → Array Value} {Kp : World → World → Prop} {S Sp : List α → Prop} (hseq : SeqBox F (n - 1) P gf lb b encs Kp S Sp w) (hb : b < w.heap.size)
    (hKt : ∀ {A B C : World}, Kp A B → Kp B C → Kp A C) (hKb : ∀ (W : World) (l : Nat) (o o' : Obj), w.heap.size ≤ l → W.heap[l]? = some o → o.isCells = false → o.isWalk = false → Kp W (W.putObj l o')) (hps : ∀ x, (encs x).size = ps.size)
    (I Ix : List α → World → Prop) (hI : OwnFrom w.heap.size I) (hIx : OwnFrom w.heap.size Ix) (hIb : ∀ pre W v, I pre W → I pre (W.setCell ⟨b, 0, none⟩ v)) (hIxb : ∀ pre W v, Ix pre W → Ix pre (W.setCell ⟨b, 0, none⟩ v)) (h0 : I [] w) (a₁ : α → Act)
    (hassign : ∀ (l : Nat) (x : α) (W : World) (K : Act → World → Prop), K (a₁ x) W →
      assign.wpIn (F.inRound l) (n - 1 - 1) P (Exit.then K (fun _ _ _ => False)) { tmps := (ps.zip (encs x)).foldl (fun t (p, v) => t.setIfInBounds p v) a.tmps, defers := [] } W)
    (hbody : ∀ (l : Nat) (pre : List α) (x : α) (W : World), I pre W → body.wpIn (F.inRound l) (n - 1 - 1) P (ownPostK Kp I (fun c xs W => c = .ret ∧ Ix xs W) (pre ++ [x]) W) (a₁ x) W)
    (hdone : ∀ (D : Nat) (xs : List α) (W : World), w.heap.size ≤ D → S xs → I xs W → W.heap[D]? = some (.deferred (some [])) → Q .normal { a with defers := { target := .collected D, args := #[] } :: a.defers } W)
    (hstop : ∀ (D : Nat) (pre : List α) (W : World), w.heap.size ≤ D → Sp pre → Ix pre W → W.heap[D]? = some (.deferred (some [])) → Code.ret.wpIn F n P Q { a with defers := { target := .collected D, args := #[] } :: a.defers } W) :
    (Code.rangeFunc g ps assign body).wpIn F n P Q a w := by
  refine wpIn_rangeFunc ?_
  intro fn hfn
  rw [hro]
  obtain ⟨rec, hrec⟩ : ∃ rec : LoopState → Option Code → Loop, rec = fun st pe => { state := st, pending := pe, fn, tmps := a.tmps, params := ps, assign, body, defers := w.heap.size } := ⟨_, rfl⟩
  obtain ⟨W1, hW1⟩ : ∃ W1, (w.alloc (.deferred (some []))).alloc (.loop (rec .ready none)) = W1 := ⟨_, rfl⟩
  have hL1 : W1.heap[w.heap.size + 1]? = some (.loop (rec .ready none)) := by
    rw [← hW1]; have := World.alloc_heap_new (w.alloc (.deferred (some []))) (.loop (rec .ready none)); rwa [World.size_alloc] at this
  have hK1 : W1.heap[w.heap.size]? = some (.deferred (some [])) := by
    rw [← hW1]; exact (Below.heap_alloc _ _ _ (by simp)).trans (World.alloc_heap_new w _)
  have hI1 : I [] W1 := by rw [← hW1]; exact hI.alloc _ (hI.alloc _ h0)
  have hb1 : Below w.heap.size w W1 := by rw [← hW1]; exact ((Below.refl _ w).alloc (Nat.le_refl _) _).alloc (by simp) _
  have nD : w.heap.size ≠ b := by omega
  have nL : w.heap.size + 1 ≠ b := by omega
  refine ⟨w.heap.size + 1, [{ target := .collected w.heap.size, args := #[] }], W1, { target := .fn (.func gf) lb, args := #[.func (.yield (w.heap.size + 1)) #[] #[]] }, W1, gf,
    #[.func (.yield (w.heap.size + 1)) #[] #[]] ++ lb, W1, ?_, ?_, ?_, ?_, fun _ => h1, ?_⟩
  · rw [← hW1, hrec]; exact run_enterLoop_outer _ _ _ _ _
  · simp only [resolve, hg]
    simp [go_sem]
  · intro f' hf'; simp [Target.leads] at hf'; subst hf'; exact hFg
  · simp [invoke, go_sem, eg]
  · refine (hseq (w.heap.size + 1)
      (fun pre W => I pre W ∧ W.heap[w.heap.size + 1]? = some (.loop (rec .ready none)) ∧ W.heap[w.heap.size]? = some (.deferred (some [])))
      (fun pre W => Ix pre W ∧ W.heap[w.heap.size + 1]? = some (.loop (rec .done (some .ret))) ∧ W.heap[w.heap.size]? = some (.deferred (some [])))
      (fun pre W v h => ⟨hIb _ _ _ h.1, heap_setCell_ne nL h.2.1, heap_setCell_ne nD h.2.2⟩)
      (fun pre W v h => ⟨hIxb _ _ _ h.1, heap_setCell_ne nL h.2.1, heap_setCell_ne nD h.2.2⟩)
      W1 hb1 ?_ ⟨hI1, hL1, hK1⟩).mono ?_
    · rintro pre x W ⟨hi, hl, hk⟩
      have hlt : w.heap.size + 1 < W.heap.size := (Array.getElem?_eq_some_iff.1 hl).1
      have hy := run_yield (P := P) (args := encs x) hl (by rw [hrec]; exact hps x)
      rw [hrec] at hy
      refine ⟨fn, _, assign, body, hy, roundIn_of_wpIn hfn (hassign _ x W _ ⟨_, run_beginRound hl (by rw [hrec]), ?_⟩)⟩
      have hl2 : (W.putObj (w.heap.size + 1) (.loop { rec .ready none with state := .busy })).heap[w.heap.size + 1]? = some (.loop { rec .ready none with state := .busy }) := World.putObj_heap_same hlt
      have hk2 : (W.putObj (w.heap.size + 1) (.loop { rec .ready none with state := .busy })).heap[w.heap.size]? = some (.deferred (some [])) := (World.putObj_heap_other (by omega)).trans hk
      have hw2 : Kp W (W.putObj (w.heap.size + 1) (.loop { rec .ready none with state := .busy })) := hKb _ _ _ _ (by omega) hl rfl rfl
      refine wpIn_mono (hbody _ pre x _ (hI.putObj _ hi (by omega) hl rfl)) ?_
      have fin : ∀ (jump : Option Code) (W3 : World), KeepsOthers (W.putObj (w.heap.size + 1) (.loop { rec .ready none with state := .busy })) W3 →
          (Instr.endRound (w.heap.size + 1) jump).run P W3 = .ok (.bool jump.isNone) (W3.putObj (w.heap.size + 1) (.loop (rec (if jump.isNone then .ready else .done) jump))) ∧
          W3.heap[w.heap.size + 1]? = some (.loop { rec .ready none with state := .busy }) ∧
          (W3.putObj (w.heap.size + 1) (.loop (rec (if jump.isNone then .ready else .done) jump))).heap[w.heap.size + 1]? = some (.loop (rec (if jump.isNone then .ready else .done) jump)) ∧
          (W3.putObj (w.heap.size + 1) (.loop (rec (if jump.isNone then .ready else .done) jump))).heap[w.heap.size]? = some (.deferred (some [])) := fun jump W3 hk3 => by
        have hl3 := hk3.same _ _ hl2 rfl
        have := run_endRound (P := P) jump hl3
        rw [hrec] at this ⊢
        exact ⟨this, by rw [hrec] at hl3; exact hl3, World.putObj_heap_same (Array.getElem?_eq_some_iff.1 hl3).1, (World.putObj_heap_other (by omega)).trans (hk3.same _ _ hk2 rfl)⟩
      rintro e a3 W3 hp
      cases e with
      | normal =>
        obtain ⟨hk3, hkp3, hi3⟩ := hp
        obtain ⟨hr, hl3, hl4, hk4⟩ := fin none W3 hk3
        exact ⟨_, _, hr, .inl ⟨rfl, ⟨hI.putObj _ hi3 (by omega) hl3 rfl, hl4, hk4⟩, hKt (hKt hw2 hkp3) (hKb _ _ _ _ (by omega) hl3 rfl rfl)⟩⟩
      | ret =>
        obtain ⟨hk3, _, hi3⟩ := hp
        obtain ⟨hr, hl3, hl4, hk4⟩ := fin (some .ret) W3 hk3
        exact ⟨_, _, hr, .inr ⟨rfl, hIx.putObj _ hi3 (by omega) hl3 rfl, hl4, hk4⟩⟩
      | exit id => obtain ⟨_, h, _⟩ := hp; cases h
      | goto t => obtain ⟨_, h, _⟩ := hp; cases h
      | panic ch => exact hp.elim
      | outgrown => exact hp.elim
    · rintro e W2 ⟨⟨v, rfl⟩, (⟨xs, hS, hi, hl, hk⟩ | ⟨pre, hSp, hi, hl, hk⟩)⟩
      · exact ⟨none, _, by have := run_endLoop (P := P) hl (by rw [hrec]; simp); rw [hrec] at this; exact this, hdone _ xs _ (Nat.le_refl _) hS (hI.putObj _ hi (by omega) hl rfl) ((World.putObj_heap_other (by omega)).trans hk)⟩
      · exact ⟨some .ret, _, by have := run_endLoop (P := P) hl (by rw [hrec]; simp); rw [hrec] at this; exact this, hstop _ pre _ (Nat.le_refl _) hSp (hIx.putObj _ hi (by omega) hl rfl) ((World.putObj_heap_other (by omega)).trans hk)⟩
end Go.Proofs.YtjlflmjimibciabGreatDoor.Print
end

section
namespace Go.Proofs.YtjlflmjimibciabGreatDoor.Print
open Go Go.Proofs Go.RowKit Go.Shelf
attribute [local go_sem] Oper.semAt_some
set_option linter.unusedVariables false
set_option linter.unusedSimpArgs false
/-- A text's parts between slashes. -/
def pieces : List UInt8 → List (List UInt8)
  | [] => [[]]
  | b :: l => if b = 47 then [] :: pieces l else match pieces l with
    | p :: ps => (b :: p) :: ps
    | [] => [[b]]
theorem indexByte_cons_hit (l : List UInt8) : Lib.indexByte (47 :: l) 47 = 0 := by simp [Lib.indexByte]
theorem indexByte_cons_miss (b : UInt8) (l : List UInt8) (h : b ≠ 47) : Lib.indexByte (b :: l) 47 = if Lib.indexByte l 47 = -1 then -1 else Lib.indexByte l 47 + 1 := by
  rw [Lib.indexByte, if_neg (by simpa using h)]
  by_cases h2 : Lib.indexByte l 47 = -1
  · rw [if_pos (by simpa using h2), if_pos h2]
  · rw [if_neg (by simpa using h2), if_neg h2]
theorem pieces_none : ∀ l : List UInt8, Lib.indexByte l 47 < 0 → pieces l = [l]
  | [], _ => rfl
  | b :: l, h => by
    by_cases hb : b = 47
    · subst hb; rw [indexByte_cons_hit] at h; omega
    · rw [indexByte_cons_miss b l hb] at h
      have hl : Lib.indexByte l 47 < 0 := by
        have := Lib.indexByte_ge l 47
        split at h <;> omega
      rw [pieces, if_neg hb, pieces_none l hl]
theorem pieces_some : ∀ (l : List UInt8) (i : Nat), Lib.indexByte l 47 = (i : Int) → pieces l = l.take i :: pieces (l.drop (i + 1))
  | [], i, h => by simp [Lib.indexByte] at h
  | b :: l, i, h => by
    by_cases hb : b = 47
    · subst hb
      rw [indexByte_cons_hit] at h
      obtain rfl : i = 0 := by omega
      rw [pieces, if_pos rfl]; simp
    · rw [indexByte_cons_miss b l hb] at h
      have hge := Lib.indexByte_ge l 47
      split at h
      · omega
      · obtain ⟨k, rfl⟩ : ∃ k, i = k + 1 := ⟨i - 1, by omega⟩
        rw [pieces, if_neg hb, pieces_some l k (by omega)]
        simp
def piecesB (s : ByteArray) : List ByteArray := (pieces s.data.toList).map fun l => ⟨l.toArray⟩
theorem piecesB_none (s : ByteArray) (h : Lib.indexByte s.data.toList 47 < 0) : piecesB s = [s] := by
  unfold piecesB
  rw [pieces_none _ h]
  rfl
theorem piecesB_some (s : ByteArray) (i : Nat) (h : Lib.indexByte s.data.toList 47 = (i : Int)) : i < s.size ∧ piecesB s = s.extract 0 i :: piecesB (s.extract (i + 1) s.size) := by
  have hi := (Lib.indexByte_some h).1
  have hlt : i < s.data.toList.length := (List.getElem?_eq_some_iff.1 hi).1
  have hlt2 : i < s.size := hlt
  refine ⟨hlt2, ?_⟩
  unfold piecesB
  rw [pieces_some _ i h, List.map_cons]
  have e1 : s.extract 0 i = ⟨(s.data.toList.take i).toArray⟩ := by
    apply ByteArray.ext
    apply Array.ext'
    simp
  have e2 : (s.extract (i + 1) s.size).data.toList = s.data.toList.drop (i + 1) := by
    simp
    exact List.take_of_length_le (by rw [List.length_drop]; exact Nat.le_refl _)
  rw [e1, e2]

/-- What a round keeps: three boxes from B on. -/
def Keep3 (B : Nat) (W W' : World) : Prop := ∀ k, B ≤ k → k < B + 3 → W'.heap[k]? = W.heap[k]?

set_option maxHeartbeats 8000000 in
set_option maxRecDepth 100000 in
theorem splitSeq_box (n B : Nat) (hn : 2 ≤ n) (s : ByteArray) (hss : s.size ≤ 9223372036854775807) (w : World) (h0 : w.cell? ⟨B + 1, 0, none⟩ = some (.string ⟨#[47]⟩)) (h1 : w.cell? ⟨B, 0, none⟩ = some (.string s)) (hf1 : w.frozen? ⟨B, 0, none⟩ = false) (h2 : w.cell? ⟨B + 2, 0, none⟩ = some (.int .i64 0)) :
    SeqBox Fence.wide n Tryz.prog 94 #[.pointer (some ⟨B + 1, 0, none⟩), .pointer (some ⟨B, 0, none⟩), .pointer (some ⟨B + 2, 0, none⟩)] B (fun x : ByteArray => #[.string x]) (Keep3 B) (fun xs => xs = piecesB s) (fun pre => pre <+: piecesB s) w := by
  intro l J Jx hJb hJxb W hW hY hJ0
  have hB2 : B + 2 < w.heap.size := by
    rcases Nat.lt_or_ge (B + 2) w.heap.size with h | h
    · exact h
    · simp [World.cell?, Array.getElem?_eq_none h] at h2
  have g0 := (hW.cell (p := ⟨B + 1, 0, none⟩) (show B + 1 < w.heap.size by omega)).trans h0
  have g1 := (hW.cell (p := ⟨B, 0, none⟩) (show B < w.heap.size by omega)).trans h1
  have g2 := (hW.cell (p := ⟨B + 2, 0, none⟩) (show B + 2 < w.heap.size by omega)).trans h2
  have gf := (hW.frozen (p := ⟨B, 0, none⟩) (show B < w.heap.size by omega)).trans hf1
  clear h0 h1 h2 hf1
  refine callsIn_of_wp Tryz.func94 rfl trivial ?_ rfl
  simp only [Tryz.ntmps94, List.size_toArray, List.length_cons, List.length_nil, Nat.reduceAdd, Nat.reduceSub, Array.replicate_succ, Array.replicate_zero, List.push_toArray, List.append_toArray, List.nil_append, List.cons_append]
  gi_wp2
  have hI0 := fun (x : ByteArray) W => (callsIn_wide (n := n - 1)).2 (Any.strings_Index_one Tryz.lays143 x 47 W)
  change ∀ (x : ByteArray) W, CallsIn Fence.wide (n - 1) Tryz.prog 96 #[.string x, .string ⟨#[47]⟩] W (fun e w' => e = .returned (.int .i64 (Lib.indexByte x.data.toList 47)) ∧ w' = W) at hI0
  gi_loopg [] (s.size) (fun gf wx => ∃ (pre : List ByteArray) (cur : ByteArray), wx.cell? ⟨B, 0, none⟩ = some (.string cur) ∧ wx.frozen? ⟨B, 0, none⟩ = false ∧ wx.cell? ⟨B + 1, 0, none⟩ = some (.string ⟨#[47]⟩) ∧ wx.cell? ⟨B + 2, 0, none⟩ = some (.int .i64 0) ∧ J pre wx ∧ piecesB s = pre ++ piecesB cur ∧ cur.size ≤ gf ∧ cur.size ≤ s.size)
  case atStart => exact ⟨[], s, g1, gf, g0, g2, hJ0, rfl, Nat.le_refl _, Nat.le_refl _⟩
  case round =>
    clear g0 g1 g2 gf hJ0
    obtain ⟨pre, cur, g1, gf, g0, g2, hJ, hp, hgk, hcs⟩ := hrel
    have hI := hI0 cur wr
    clear hI0
    rcases Int.lt_or_le (Lib.indexByte cur.data.toList 47) 0 with hneg | hpos
    · obtain ⟨fn, tmps, assign, body, hy, hR⟩ := hY pre cur wr hJ
      have hpc := piecesB_none cur hneg
      generalize Lib.indexByte cur.data.toList 47 = ii at hI hneg
      gi_wp2_with (refine ⟨trivial, fun _ => by omega, ?_⟩; gi_at_call 96; refine hI.mono ?_; rintro e w' ⟨rfl, rfl⟩)
      refine ⟨fun _ => by omega, hR.mono ?_⟩
      rintro e W' (⟨rfl, hJ', hk⟩ | ⟨rfl, hJx'⟩)
      · gi_wp2
        go_end0
        refine ⟨⟨_, rfl⟩, .inl ⟨_, ?_, hJ'⟩⟩
        rw [hp, hpc]
      · gi_wp2
        go_end0
        refine ⟨⟨_, rfl⟩, .inr ⟨_, ?_, hJx'⟩⟩
        rw [hp, hpc]
        exact List.prefix_refl _
    · obtain ⟨i, hi⟩ : ∃ i : Nat, Lib.indexByte cur.data.toList 47 = (i : Int) := ⟨(Lib.indexByte cur.data.toList 47).toNat, by omega⟩
      obtain ⟨hlt, hpc⟩ := piecesB_some cur i hi
      have hsz : cur.size ≤ 9223372036854775807 := by omega
      rw [hi] at hI
      clear hpos hi
      obtain ⟨fn, tmps, assign, body, hy, hR⟩ := hY pre (cur.extract 0 i) wr hJ
      gi_wp2_with (refine ⟨trivial, fun _ => by omega, ?_⟩; gi_at_call 96; refine hI.mono ?_; rintro e w' ⟨rfl, rfl⟩)
      refine ⟨fun _ => by omega, hR.mono ?_⟩
      rintro e W' (⟨rfl, hJ', hk⟩ | ⟨rfl, hJx'⟩)
      · replace g0 := (World.cell?_of_block (hk (B + 1) (by omega) (by omega))).trans g0
        replace g1 := (World.cell?_of_block (hk B (by omega) (by omega))).trans g1
        replace g2 := (World.cell?_of_block (hk (B + 2) (by omega) (by omega))).trans g2
        replace gf := (World.frozen?_of_block (hk B (by omega) (by omega))).trans gf
        clear hR hy hY hk
        gi_wp2
        go_roundg (gk - 1)
        case measure => omega
        case rel =>
          have hx : (cur.extract (i + 1) cur.size).size = cur.size - (i + 1) := by rw [ByteArray.size_extract]; omega
          exact ⟨pre ++ [cur.extract 0 i], cur.extract (i + 1) cur.size, World.cell?_setCell_same' _ _ _ (by rw [g1]; rfl), by rw [World.frozen?_setCell]; exact gf, by rw [World.cell?_setCell_other _ _ _ _ (by simp)]; exact g0, by rw [World.cell?_setCell_other _ _ _ _ (by simp)]; exact g2, hJb _ _ _ hJ', by rw [hp, hpc]; simp, by omega, by omega⟩
      · gi_wp2
        refine bodyPost_ret (results_none rfl _ _ _) rfl ?_
        refine ⟨⟨_, rfl⟩, .inr ⟨_, ?_, hJx'⟩⟩
        rw [hp, hpc]
        exact ⟨piecesB (cur.extract (i + 1) cur.size), by simp⟩
theorem SplitSeq_calls (s : ByteArray) (w : World) :
    Calls Tryz.prog 72 #[.string s, .string ⟨#[47]⟩] w fun e w' => e = .returned (.func (.func 94) #[] #[.pointer (some ⟨w.heap.size + 1, 0, none⟩), .pointer (some ⟨w.heap.size, 0, none⟩), .pointer (some ⟨w.heap.size + 2, 0, none⟩)]) ∧ w' = ((w.alloc (.cells #[.string s] 9)).alloc (.cells #[.string ⟨#[47]⟩] 9)).alloc (.cells #[.int .i64 0] 3) := by
  go_enter Tryz.func72, Tryz.ntmps72
  go_wp2
  go_ret
  exact ⟨rfl, rfl⟩
end Go.Proofs.YtjlflmjimibciabGreatDoor.Print
end

section
namespace Go.Proofs.YtjlflmjimibciabGreatDoor.Print
open Go Go.Proofs Go.RowKit Go.Shelf
attribute [local go_sem] Oper.semAt_some
set_option linter.unusedVariables false
set_option linter.unusedSimpArgs false
/-- A path's names, if it is one. -/
def splitF (p : List UInt8) : Option (List (List UInt8)) :=
  if p = [47] then some [] else match p with
    | 47 :: rest => if (pieces rest).length ≤ 6 ∧ (pieces rest).all nameL = true then some (pieces rest) else none
    | _ => none
theorem split_info : (Tryz.prog.info? 9).map (fun i => (i.zero, i.size, i.bytes)) = some (some (.string ⟨#[]⟩), 1, 16) := by kernel_rfl

/-- The first bad part. -/
def badAt (pre : List ByteArray) : Prop := ∃ q x, pre = q ++ [x] ∧ (nameL x.data.toList = false ∨ q.length = 6)

theorem keep3_k : ∀ {A B C : World} {b : Nat}, Keep3 b A B → Keep3 b B C → Keep3 b A C := fun h k j h1 h2 => (k j h1 h2).trans (h j h1 h2)
theorem keep3_b {b : Nat} {w : World} (h : b + 3 ≤ w.heap.size) : ∀ (W : World) (l : Nat) (o o' : Obj), w.heap.size ≤ l → W.heap[l]? = some o → o.isCells = false → o.isWalk = false → Keep3 b W (W.putObj l o') :=
  fun W l o o' hl _ _ _ k h1 h2 => World.putObj_heap_other (by omega)
/-- The error's value and cells. -/
def FaultAt (W : World) (v : Value) (c : Int) (lo : Nat) : Prop := ∃ g op p, v = .iface 80 (.pointer (some ⟨g, 0, none⟩)) ∧ lo ≤ g ∧ W.heap[g]? = some (.cells #[.string op, .string p, .iface 52 (.int .i64 c)] 82 (0, 0))

theorem boxed_at (W : World) (k : Nat) (h : k = W.heap.size) (t : TypeId) (v : Value) : Boxed (W.alloc (.cells #[v] t)) k t v := by
  subst h; exact Boxed.new W t v
theorem boxed_below {W W1 : World} {B : Nat} {t : TypeId} {v : Value} (h : Boxed W B t v) (hb : Below W.heap.size W W1) : Boxed W1 B t v := (hb.block B h.lt).trans h
theorem row_lower {W : World} {base base' : Nat} {e : TypeId} {v : Value} {n : Nat} {xs : List Value} (h : W.ownsRow base e 1 v n xs) (hb : base' ≤ base) : W.ownsRow base' e 1 v n xs :=
  ⟨h.1, h.2.imp id fun ⟨g, cap, cur, he, hge, hr⟩ => ⟨g, cap, cur, he, Nat.le_trans hb hge, hr⟩⟩
theorem row_ge {W : World} {base : Nat} {e : TypeId} {v : Value} {n : Nat} {xs : List Value} (h : W.ownsRow base e 1 v n xs) {k : Nat} (hk : v.ownBlock = some k) : base ≤ k := by
  rcases h.2 with ⟨rfl, _⟩ | ⟨g, cap, cur, rfl, hge, _⟩
  · simp [Value.ownBlock] at hk
  · obtain rfl : g = k := by simpa [Value.ownBlock] using hk
    exact hge
theorem row_slice {W : World} {base : Nat} {e : TypeId} {v : Value} {n : Nat} {xs : List Value} (h : W.ownsRow base e 1 v n xs) : ∃ A c, v = .slice A n c := by
  rcases h.2 with ⟨rfl, rfl⟩ | ⟨g, cap, _, rfl, _⟩
  · exact ⟨_, _, rfl⟩
  · exact ⟨_, _, rfl⟩
theorem row_own {W W' : World} {base B : Nat} {e : TypeId} {v : Value} {n : Nat} {xs : List Value} {row : Option Nat} (h : W.ownsRow base e 1 v n xs) (hg : W.grownBy W' row) (hr : ∀ r, row = some r → B ≤ r ∧ ∃ o : Obj, W.heap[r]? = some o ∧ o.isCells = false) : W'.ownsRow base e 1 v n xs := by
  refine h.kept hg ?_
  rcases h.2 with ⟨rfl, _⟩ | ⟨g, cap, cur, rfl, _, hgb, _⟩
  · exact .inl rfl
  · refine .inr fun e' => ?_
    obtain ⟨_, o, ho, hc⟩ := hr g (by simpa [Value.ownBlock] using e'.symm)
    rw [hgb] at ho; cases ho; cases hc
theorem row_below {W W' : World} {base : Nat} {e : TypeId} {v : Value} {n : Nat} {xs : List Value} (h : W.ownsRow base e 1 v n xs) (hb : Below W.heap.size W W') : W'.ownsRow base e 1 v n xs := by
  refine ⟨h.1, ?_⟩
  rcases h.2 with ⟨rfl, h0⟩ | ⟨g, cap, cur, rfl, hge, hgb, rest⟩
  · exact .inl ⟨rfl, h0⟩
  · exact .inr ⟨g, cap, cur, rfl, hge, (hb.block g (Array.getElem?_eq_some_iff.1 hgb).1).trans hgb, rest⟩
theorem keeps_below {W W' : World} (hb : Below W.heap.size W W') : KeepsOthers W W' := ⟨hb.size, fun k o hk ho => (hb.block k (Array.getElem?_eq_some_iff.1 hk).1).trans hk⟩
/-- Between two rounds of Split's loop. -/
def SplitI (p : ByteArray) (S : Nat) (w : World) (pre : List ByteArray) (W : World) : Prop :=
  (∃ v, Boxed W (S + 3) 77 v ∧ W.ownsRow (S + 7) 9 1 v pre.length (pre.map .string)) ∧ Boxed W S 9 (.string p) ∧ Boxed W (S + 1) 77 (.slice none 0 0) ∧ Boxed W (S + 2) 27 .nilIface ∧ (pre.length ≤ 6 ∧ ∀ x ∈ pre, nameL x.data.toList = true) ∧ Below S w W ∧ S + 7 ≤ W.heap.size
/-- Where a round has returned. -/
def SplitX (S : Nat) (w : World) (pre : List ByteArray) (W : World) : Prop :=
  ∃ v, Boxed W (S + 1) 77 (.slice none 0 0) ∧ Boxed W (S + 2) 27 v ∧ FaultAt W v 2 (S + 7) ∧ badAt pre ∧ Below S w W
theorem SplitI.below {p : ByteArray} {S : Nat} {w : World} {pre : List ByteArray} {W W1 : World} (h : SplitI p S w pre W) (hb : Below W.heap.size W W1) : SplitI p S w pre W1 := by
  obtain ⟨⟨v, hv, hrow⟩, hP, hR1, hR2, hl, hB, hsz⟩ := h
  exact ⟨⟨v, boxed_below hv hb, row_below hrow hb⟩, boxed_below hP hb, boxed_below hR1 hb, boxed_below hR2 hb, hl, hB.trans (hb.mono (by omega)), Nat.le_trans hsz hb.size⟩
theorem SplitI.own (p : ByteArray) (S : Nat) (w : World) (hS : S ≤ w.heap.size) : OwnFrom (S + 7) (SplitI p S w) := by
  rintro pre W W' row ⟨⟨v, hv, hrow⟩, hP, hR1, hR2, hl, hB, hsz⟩ hg hr
  have hne : ∀ k, k < S + 7 → some k ≠ row := fun k hk e => by have := (hr k e.symm).1; omega
  exact ⟨⟨v, hv.kept hg (hne _ (by omega)), row_own hrow hg hr⟩, hP.kept hg (hne _ (by omega)), hR1.kept hg (hne _ (by omega)), hR2.kept hg (hne _ (by omega)), hl, hB.grown hg (Nat.le_trans hS hB.size) (fun k e => by have := (hr k e).1; omega), Nat.le_trans hsz hg.size⟩
theorem SplitI.set {p : ByteArray} {S : Nat} {w : World} (pre : List ByteArray) (W : World) (u : Value) (h : SplitI p S w pre W) : SplitI p S w pre (W.setCell ⟨S + 4, 0, none⟩ u) := by
  obtain ⟨⟨v, hv, hrow⟩, hP, hR1, hR2, hl, hB, hsz⟩ := h
  exact ⟨⟨v, hv.other (by omega) u, ownsRow_setCell_below hrow (show S + 4 < S + 7 by omega) u⟩, hP.other (by omega) u, hR1.other (by omega) u, hR2.other (by omega) u, hl, hB.setCell (p := ⟨S + 4, 0, none⟩) (show S ≤ S + 4 by omega) u, by rw [World.size_setCell]; exact hsz⟩
theorem SplitX.own (S : Nat) (w : World) (hS : S ≤ w.heap.size) : OwnFrom (S + 7) (SplitX S w) := by
  rintro pre W W' row ⟨v, hR1, hR2, ⟨g, op, q, hv, hg1, hg2⟩, hb, hB⟩ hg hr
  have hne : ∀ k, k < S + 7 → some k ≠ row := fun k hk e => by have := (hr k e.symm).1; omega
  refine ⟨v, hR1.kept hg (hne _ (by omega)), hR2.kept hg (hne _ (by omega)), ⟨g, op, q, hv, hg1, ?_⟩, hb, hB.grown hg (Nat.le_trans hS hB.size) (fun k e => by have := (hr k e).1; omega)⟩
  refine (hg.block g (Array.getElem?_eq_some_iff.1 hg2).1 fun e => ?_).trans hg2
  obtain ⟨_, o, ho, hc⟩ := hr g e.symm
  rw [hg2] at ho; cases ho; cases hc
theorem SplitX.set {S : Nat} {w : World} (pre : List ByteArray) (W : World) (u : Value) (h : SplitX S w pre W) : SplitX S w pre (W.setCell ⟨S + 4, 0, none⟩ u) := by
  obtain ⟨v, hR1, hR2, ⟨g, op, q, hv, hg1, hg2⟩, hb, hB⟩ := h
  exact ⟨v, hR1.other (by omega) u, hR2.other (by omega) u, ⟨g, op, q, hv, hg1, heap_setCell_ne (by omega) hg2⟩, hb, hB.setCell (p := ⟨S + 4, 0, none⟩) (show S ≤ S + 4 by omega) u⟩
theorem At_calls (op q : ByteArray) (c : Int) (w : World) :
    Calls Tryz.prog 24 #[.string op, .string q, .iface 52 (.int .i64 c)] w fun e w' => e = .returned (.iface 80 (.pointer (some ⟨w.heap.size, 0, none⟩))) ∧ w' = w.alloc (.cells #[.string op, .string q, .iface 52 (.int .i64 c)] 82) := by
  go_enter Tryz.func24, Tryz.ntmps24
  go_wp2
  go_ret
  exact ⟨rfl, rfl⟩

set_option maxHeartbeats 8000000 in
set_option maxRecDepth 100000 in
theorem Split_loop (p : ByteArray) (rest : ByteArray) (hrs : rest.size ≤ 9223372036854775807) (w : World) (hp1 : p.data.toList ≠ [47]) (hpre : Lib.hasPrefix p.data.toList [47] = true) (hrest : (⟨(Lib.trimPrefix p.data.toList [47]).toArray⟩ : ByteArray) = rest) :
    Calls Tryz.prog 51 #[.string p] w fun e w' => Below w.heap.size w w' ∧ (
      (∃ v, e = .returned (.tuple #[v, .nilIface]) ∧ (piecesB rest).length ≤ 6 ∧ (∀ x ∈ piecesB rest, nameL x.data.toList = true) ∧ w'.ownsRow w.heap.size 9 1 v (piecesB rest).length ((piecesB rest).map .string)) ∨
      (∃ v pre, e = .returned (.tuple #[.slice none 0 0, v]) ∧ FaultAt w' v 2 w.heap.size ∧ pre <+: piecesB rest ∧ badAt pre)) := by
  have hCut := (callsIn_wide (n := 6)).2 (Any.strings_CutPrefix Tryz.lays103 p ⟨#[47]⟩ (((w.alloc (.cells #[.string p] 9)).alloc (.cells #[.slice none 0 0] 77)).alloc (.cells #[.nilIface] 27)))
  change CallsIn Fence.wide 6 Tryz.prog 71 _ _ (fun e w' => e = .returned (.tuple #[.string ⟨(Lib.trimPrefix p.data.toList [47]).toArray⟩, .bool (Lib.hasPrefix p.data.toList [47])]) ∧ w' = _) at hCut
  rw [hpre, hrest] at hCut
  have hp2 : (p.toList == [47]) = false := by
    rw [Lib.toList_data]
    exact beq_eq_false_iff_ne.2 hp1
  have hSeq := fun W => (callsIn_wide (n := 6)).2 (SplitSeq_calls rest W)
  refine (callsIn_wide (n := 7)).1 ?_
  refine callsIn_of_wp_marks Tryz.func51 rfl trivial ?_ rfl
  simp only [Tryz.ntmps51, List.size_toArray, List.length_cons, List.length_nil, Nat.reduceAdd, Nat.reduceSub, Array.replicate_succ, Array.replicate_zero, List.push_toArray, List.append_toArray, List.nil_append, List.cons_append]
  gi_wp2_with (first | (refine ⟨trivial, ?_⟩; gi_at_call 71; refine hCut.mono ?_; rintro e w' ⟨rfl, rfl⟩) | (refine ⟨trivial, ?_⟩; gi_at_call 72; refine (hSeq _).mono ?_; rintro e w' ⟨rfl, rfl⟩))
  obtain ⟨i0, hi, hz0, hz1, hz2⟩ := info_parts split_info
  generalize hW0 : (((((((w.alloc (.cells #[.string p] 9)).alloc (.cells #[.slice none 0 0] 77)).alloc (.cells #[.nilIface] 27)).alloc (.cells #[.slice none 0 0] 77)).alloc (.cells #[.string rest] 9)).alloc (.cells #[.string ⟨#[47]⟩] 9)).alloc (.cells #[.int .i64 0] 3)) = W0
  have hsz : W0.heap.size = w.heap.size + 7 := by rw [← hW0]; simp
  have hB0 : Below w.heap.size w W0 := by
    rw [← hW0]
    repeat' (first | exact Below.refl _ _ | refine Below.alloc ?_ (by first | exact Nat.le_refl _ | (simp only [World.size_alloc]; omega)) _)
  have bx0 : Boxed W0 w.heap.size 9 (.string p) := by
    rw [← hW0]; repeat' (first | exact boxed_at _ _ (by first | (simp only [World.size_alloc]; done) | (simp only [World.size_alloc]; omega) | rfl) _ _ | refine Boxed.alloc ?_ _)
  have bx1 : Boxed W0 (w.heap.size + 1) 77 (.slice none 0 0) := by
    rw [← hW0]; repeat' (first | exact boxed_at _ _ (by first | (simp only [World.size_alloc]; done) | (simp only [World.size_alloc]; omega) | rfl) _ _ | refine Boxed.alloc ?_ _)
  have bx2 : Boxed W0 (w.heap.size + 2) 27 .nilIface := by
    rw [← hW0]; repeat' (first | exact boxed_at _ _ (by first | (simp only [World.size_alloc]; done) | (simp only [World.size_alloc]; omega) | rfl) _ _ | refine Boxed.alloc ?_ _)
  have bx3 : Boxed W0 (w.heap.size + 3) 77 (.slice none 0 0) := by
    rw [← hW0]; repeat' (first | exact boxed_at _ _ (by first | (simp only [World.size_alloc]; done) | (simp only [World.size_alloc]; omega) | rfl) _ _ | refine Boxed.alloc ?_ _)
  have bx4 : Boxed W0 (w.heap.size + 4) 9 (.string rest) := by
    rw [← hW0]; repeat' (first | exact boxed_at _ _ (by first | (simp only [World.size_alloc]; done) | (simp only [World.size_alloc]; omega) | rfl) _ _ | refine Boxed.alloc ?_ _)
  have bx5 : Boxed W0 (w.heap.size + 4 + 1) 9 (.string ⟨#[47]⟩) := by
    rw [← hW0]; repeat' (first | exact boxed_at _ _ (by first | (simp only [World.size_alloc]; done) | (simp only [World.size_alloc]; omega) | rfl) _ _ | refine Boxed.alloc ?_ _)
  have bx6 : Boxed W0 (w.heap.size + 4 + 2) 3 (.int .i64 0) := by
    rw [← hW0]; repeat' (first | exact boxed_at _ _ (by first | (simp only [World.size_alloc]; done) | (simp only [World.size_alloc]; omega) | rfl) _ _ | refine Boxed.alloc ?_ _)
  clear hW0 hCut hSeq hp2
  have hbox := splitSeq_box (7 - 1) (w.heap.size + 4) (by omega) rest hrs W0 bx5.cell bx4.cell bx4.frozen bx6.cell
  have hI0 : SplitI p w.heap.size w [] W0 := ⟨⟨_, bx3, World.ownsRow_nil _ _ _ _⟩, bx0, bx1, bx2, ⟨by simp, by simp⟩, hB0, by omega⟩
  clear bx0 bx1 bx2 bx3 bx4 bx5 bx6
  refine range_box rfl (by omega) (gf := 94) (lb := #[.pointer (some ⟨w.heap.size + 4 + 1, 0, none⟩), .pointer (some ⟨w.heap.size + 4, 0, none⟩), .pointer (some ⟨w.heap.size + 4 + 2, 0, none⟩)]) rfl trivial (enters_of Tryz.func94 (by kernel_rfl) rfl)
    hbox (by omega) keep3_k (keep3_b (by omega)) (fun _ => rfl) (SplitI p w.heap.size w) (SplitX w.heap.size w) (by rw [hsz]; exact SplitI.own _ _ _ (Nat.le_refl _)) (by rw [hsz]; exact SplitX.own _ _ (Nat.le_refl _))
    (fun pre W v h => SplitI.set pre W v h) (fun pre W v h => SplitX.set pre W v h) hI0
    (fun x => { tmps := #[.string p, .pointer (some ⟨w.heap.size, 0, none⟩), .pointer (some ⟨w.heap.size + 1, 0, none⟩), .pointer (some ⟨w.heap.size + 1 + 1, 0, none⟩), .string rest, .bool true, .pointer (some ⟨w.heap.size + 1 + 1 + 1, 0, none⟩), .string x, .string p, .bool false, .tuple #[.string rest, .bool true], .string p, .tuple #[.string rest, .bool true], .string rest, .bool true, .bool true, .bool false, undef, undef, undef, .string rest, .func (.func 94) #[] #[.pointer (some ⟨w.heap.size + 1 + 1 + 1 + 1 + 1, 0, none⟩), .pointer (some ⟨w.heap.size + 1 + 1 + 1 + 1, 0, none⟩), .pointer (some ⟨w.heap.size + 1 + 1 + 1 + 1 + 2, 0, none⟩)], .string x, undef, undef, undef, undef, undef, undef, undef, undef, undef, undef, undef, undef, undef, undef, undef, undef], defers := [] }) ?assign ?body ?done ?stop
  case assign =>
    intro l x W K hK
    gi_wp2
    exact hK
  case body =>
    rintro l pre x W hI
    have hcar : ∀ W1, Below W.heap.size W W1 → ∃ A c, W1.cell? ⟨w.heap.size, 0, none⟩ = some (.string p) ∧ Boxed W1 (w.heap.size + 1 + 1 + 1) 77 (.slice A pre.length c) ∧ W1.cell? ⟨w.heap.size + 1 + 1 + 1, 0, none⟩ = some (.slice A pre.length c) ∧ W1.ownsRow (w.heap.size + 7) 9 1 (.slice A pre.length c) pre.length (pre.map .string) ∧
        Boxed W1 w.heap.size 9 (.string p) ∧ Boxed W1 (w.heap.size + 1) 77 (.slice none 0 0) ∧ Boxed W1 (w.heap.size + 1 + 1) 27 .nilIface ∧ W1.cell? ⟨w.heap.size + 1, 0, none⟩ = some (.slice none 0 0) ∧ W1.frozen? ⟨w.heap.size + 1, 0, none⟩ = false ∧ W1.cell? ⟨w.heap.size + 1 + 1, 0, none⟩ = some .nilIface ∧ W1.frozen? ⟨w.heap.size + 1 + 1, 0, none⟩ = false ∧ Below w.heap.size w W1 ∧ w.heap.size + 7 ≤ W1.heap.size := by
      intro W1 hb
      obtain ⟨⟨v, hv, hrow⟩, hP, hR1, hR2, hl, hB, hsz⟩ := hI.below hb
      obtain ⟨A, c, rfl⟩ := row_slice hrow
      exact ⟨A, c, hP.cell, hv, hv.cell, hrow, hP, hR1, hR2, hR1.cell, hR1.frozen, hR2.cell, hR2.frozen, hB, hsz⟩
    obtain ⟨_, _, _, _, ⟨hlen, hall⟩, _, hszW⟩ := hI
    gi_wp2_with (first
      | (refine ⟨trivial, ?_⟩; gi_at_call 73; refine (CallsIn.inRound l (callsIn_wide.2 (Name_calls x _))).mono ?_; rintro e W1 ⟨rfl, hb1⟩; obtain ⟨A, c, g0, hbx, g3, hrow, hP, hR1, hR2, g1, f1, g2, f2, hB, hsz⟩ := hcar W1 hb1; clear hcar; cases hnm : nameL x.data.toList)
      | (refine ⟨trivial, ?_⟩; gi_at_call 24; refine (CallsIn.inRound l (callsIn_wide.2 (At_calls _ _ _ _))).mono ?_; rintro e W2 ⟨rfl, hW2⟩; have hb2 : Below W1.heap.size W1 W2 := by { rw [hW2]; exact (Below.refl _ _).alloc (Nat.le_refl _) _ }; have hF : W2.heap[W1.heap.size]? = some (.cells #[.string ⟨#[115, 112, 108, 105, 116]⟩, .string p, .iface 52 (.int .i64 2)] 82 (0, 0)) := by { rw [hW2]; exact World.alloc_heap_new W1 _ }; clear hW2; have h1 := boxed_below hR1 hb2; have h2 := boxed_below hR2 hb2; clear g0 g1 g2 g3 f1 f2 hR1 hR2 hbx hrow; have g1 := h1.cell; have f1 := h1.frozen; have g2 := h2.cell; have f2 := h2.frozen)
      | (gi_at_builtin; refine wpListIn_append_own _ rfl _ _ 77 rfl (w.heap.size + 7) 9 i0 (.string ⟨#[]⟩) 1 16 Tryz.underlying77 hi hz0 hz1 hz2 rfl (by decide) _ _ _ rfl (hrow.alloc _) ⟨W1.heap.size, 0, none⟩ 1 1 [.string x] rfl rfl (cell_one_new _ _ _) (by simp [Value.oneCell']) (by unfold maxLen; omega) (by omega) (by simp; omega) ?_; intro v' w1 hown' hgrow _; obtain ⟨g', cap', rfl⟩ := ownsRow_succ hown'; obtain ⟨hv1, hv2, hr2, hk2, hb3⟩ := Boxed.appended (n₀ := w.heap.size) hbx (show 77 ≠ 9 by decide) (row_lower hrow (by omega)) (by omega) (by omega) (row_lower hown' (by omega)) hgrow; have hc1 := hv1.cell; have hf1 := hv1.frozen))
    · refine ⟨((keeps_below hb1).trans (keeps_below hb2)).trans ((KeepsOthers.setCell _ _ _).trans (KeepsOthers.setCell _ _ _)), rfl, _, (h1.set _).other (by omega) _, (h2.other (by omega) _).set _, ⟨W1.heap.size, _, _, rfl, hsz, heap_setCell_ne (by omega) (heap_setCell_ne (by omega) hF)⟩, ⟨pre, x, rfl, .inl hnm⟩, ?_⟩
      exact ((hB.trans (hb2.mono (by omega))).setCell (p := ⟨w.heap.size + 1, 0, none⟩) (by simp) _).setCell (p := ⟨w.heap.size + 1 + 1, 0, none⟩) (by simp; omega) _
    · refine ⟨((keeps_below hb1).trans (keeps_below hb2)).trans ((KeepsOthers.setCell _ _ _).trans (KeepsOthers.setCell _ _ _)), rfl, _, (h1.set _).other (by omega) _, (h2.other (by omega) _).set _, ⟨W1.heap.size, _, _, rfl, hsz, heap_setCell_ne (by omega) (heap_setCell_ne (by omega) hF)⟩, ⟨pre, x, rfl, .inr (by have hq : ((pre.length : Int) == 6) = true := by { assumption }; have := eq_of_beq hq; omega)⟩, ?_⟩
      exact ((hB.trans (hb2.mono (by omega))).setCell (p := ⟨w.heap.size + 1, 0, none⟩) (by simp) _).setCell (p := ⟨w.heap.size + 1 + 1, 0, none⟩) (by simp; omega) _
    · have h60 : ((pre.length : Int) == 6) = false := by assumption
      have h6 : pre.length ≠ 6 := fun h => by simp [h] at h60
      have hne : ∀ k, k < w.heap.size + 7 → some k ≠ (Value.slice A pre.length c).ownBlock := fun k hk e => by have := row_ge hrow e.symm; omega
      refine ⟨(keeps_below hb1).trans hk2, fun k h4 h7 => ?_, ⟨_, hv2, ?_⟩, ?_, ?_, ?_, ⟨by simp; omega, ?_⟩, ?_, ?_⟩
      · rw [Below.heap_setCell _ _ _ _ (show k ≠ w.heap.size + 1 + 1 + 1 by omega), hgrow.block k (by simp; omega) (hne k (by omega)), Below.heap_alloc _ _ _ (by omega), hb1.block k (by omega)]
      · have := ownsRow_setCell_below hown' (a := ⟨w.heap.size + 1 + 1 + 1, 0, none⟩) (show w.heap.size + 1 + 1 + 1 < w.heap.size + 7 by omega) (.slice (some ⟨g', 0, none⟩) (pre.length + 1) cap')
        simpa using this
      · exact ((hP.alloc _).kept hgrow (hne _ (by omega))).other (by omega) _
      · exact ((hR1.alloc _).kept hgrow (hne _ (by omega))).other (by omega) _
      · exact ((hR2.alloc _).kept hgrow (hne _ (by omega))).other (by omega) _
      · intro y hy
        rcases List.mem_append.1 hy with h | h
        · exact hall y h
        · obtain rfl : y = x := by simpa using h
          exact hnm
      · exact hB.trans (hb3.mono (by omega))
      · have := hb3.size
        omega
  case done =>
    rintro D xs W hD hS ⟨⟨v, hv, hrow⟩, hP, hR1, hR2, ⟨hlen, hall⟩, hB, _⟩ hK
    subst hS
    obtain ⟨A, c, rfl⟩ := row_slice hrow
    have g3 : W.cell? ⟨w.heap.size + 1 + 1 + 1, 0, none⟩ = _ := hv.cell
    have g1 := hR1.cell
    have f1 := hR1.frozen
    have g2 : W.cell? ⟨w.heap.size + 1 + 1, 0, none⟩ = _ := hR2.cell
    have f2 : W.frozen? ⟨w.heap.size + 1 + 1, 0, none⟩ = _ := hR2.frozen
    gi_wp2
    have hR1' := (hR1.set (.slice A (piecesB rest).length c)).other (B' := w.heap.size + 1 + 1) (by omega) .nilIface
    have hR2' := (hR2.other (B' := w.heap.size + 1) (by omega) (.slice A (piecesB rest).length c)).set .nilIface
    have hK' := heap_setCell_ne (b := w.heap.size + 1 + 1) (v := .nilIface) (show D ≠ w.heap.size + 1 + 1 by omega) (heap_setCell_ne (b := w.heap.size + 1) (v := .slice A (piecesB rest).length c) (show D ≠ w.heap.size + 1 by omega) hK)
    have hrow' := ownsRow_setCell_below (ownsRow_setCell_below hrow (a := ⟨w.heap.size + 1, 0, none⟩) (show w.heap.size + 1 < w.heap.size + 7 by omega) (.slice A (piecesB rest).length c)) (a := ⟨w.heap.size + 1 + 1, 0, none⟩) (show w.heap.size + 1 + 1 < w.heap.size + 7 by omega) .nilIface
    have hB' := (hB.setCell (p := ⟨w.heap.size + 1, 0, none⟩) (by simp) (.slice A (piecesB rest).length c)).setCell (p := ⟨w.heap.size + 1 + 1, 0, none⟩) (by simp; omega) .nilIface
    clear g1 f1 g2 f2 g3
    generalize (W.setCell ⟨w.heap.size + 1, 0, none⟩ (.slice A (piecesB rest).length c)).setCell ⟨w.heap.size + 1 + 1, 0, none⟩ .nilIface = W' at hR1' hR2' hK' hrow' hB' ⊢
    refine ⟨by simp, .inl ⟨_, _, rfl, run_takeDeferred hK', ?_⟩⟩
    have hk5 : ∀ {k : Nat} {t : TypeId} {u : Value}, Boxed W' k t u → k < w.heap.size + 7 → Boxed (W'.putObj D (.deferred none)) k t u := fun h hk => (World.putObj_heap_other (by omega)).trans h
    have c1 := (hk5 hR1' (by omega)).cell
    have c2 : (W'.putObj D (.deferred none)).cell? ⟨w.heap.size + 1 + 1, 0, none⟩ = _ := (hk5 hR2' (by omega)).cell
    refine ⟨.tuple #[.slice A (piecesB rest).length c, .nilIface], ?_, ?_, .inl ⟨_, rfl, hlen, hall, ?_⟩⟩
    · simp [results, Tryz.f51, go_sem, c1, c2]
    · exact hB'.trans (belowK_b (w := w) (Nat.le_refl _) W' D _ _ (by omega) hK' rfl rfl)
    · exact ownsRow_putObj (row_lower hrow' (by omega)) _ hK' rfl
  case stop =>
    rintro D pre W hD hS ⟨v, hR1, hR2, hF, hbad, hB⟩ hK
    have g1 := hR1.cell
    have f1 := hR1.frozen
    have g2 : W.cell? ⟨w.heap.size + 1 + 1, 0, none⟩ = _ := hR2.cell
    have f2 : W.frozen? ⟨w.heap.size + 1 + 1, 0, none⟩ = _ := hR2.frozen
    gi_wp2
    refine ⟨by simp, .inl ⟨_, _, rfl, run_takeDeferred hK, ?_⟩⟩
    have hk5 : ∀ {k : Nat} {t : TypeId} {u : Value}, Boxed W k t u → k < w.heap.size + 7 → Boxed (W.putObj D (.deferred none)) k t u := fun h hk => (World.putObj_heap_other (by omega)).trans h
    have c1 := (hk5 hR1 (by omega)).cell
    have c2 : (W.putObj D (.deferred none)).cell? ⟨w.heap.size + 1 + 1, 0, none⟩ = _ := (hk5 hR2 (by omega)).cell
    refine ⟨.tuple #[.slice none 0 0, v], ?_, ?_, .inr ⟨v, pre, rfl, ?_, hS, hbad⟩⟩
    · simp [results, Tryz.f51, go_sem, c1, c2]
    · exact hB.trans (belowK_b (w := w) (Nat.le_refl _) W D _ _ (by omega) hK rfl rfl)
    · obtain ⟨g, op, q, e1, e2, e3⟩ := hF
      refine ⟨g, op, q, e1, by omega, (World.putObj_heap_other fun e => ?_).trans e3⟩
      subst e
      rw [hK] at e3; cases e3

theorem all_piecesB (s : ByteArray) : (∀ x ∈ piecesB s, nameL x.data.toList = true) ↔ (pieces s.data.toList).all nameL = true := by
  unfold piecesB
  rw [List.all_eq_true]
  constructor
  · intro h x hx
    exact h ⟨x.toArray⟩ (List.mem_map.2 ⟨x, hx, rfl⟩)
  · intro h x hx
    obtain ⟨y, hy, rfl⟩ := List.mem_map.1 hx
    exact h y hy
theorem bad_not (s : ByteArray) (pre : List ByteArray) (hp : pre <+: piecesB s) (hb : badAt pre) : ¬ ((pieces s.data.toList).length ≤ 6 ∧ (pieces s.data.toList).all nameL = true) := by
  rintro ⟨h1, h2⟩
  obtain ⟨q, x, rfl, hx⟩ := hb
  have hl : (piecesB s).length = (pieces s.data.toList).length := by unfold piecesB; rw [List.length_map]
  have := hp.length_le
  rw [List.length_append, hl] at this
  rcases hx with hx | hx
  · have := (all_piecesB s).2 h2 x (hp.subset (by simp))
    rw [hx] at this; cases this
  · simp at this; omega

set_option maxHeartbeats 8000000 in
set_option maxRecDepth 100000 in
theorem Split_calls (p : ByteArray) (hs : p.size ≤ 9223372036854775807) (w : World) :
    Calls Tryz.prog 51 #[.string p] w fun e w' => Below w.heap.size w w' ∧ match splitF p.data.toList with
      | some l => ∃ v, e = .returned (.tuple #[v, .nilIface]) ∧ w'.ownsRow w.heap.size 9 1 v l.length (l.map fun x => .string ⟨x.toArray⟩)
      | none => ∃ v, e = .returned (.tuple #[.slice none 0 0, v]) ∧ FaultAt w' v 2 w.heap.size := by
  by_cases h1 : p.data.toList = [47]
  · have hp2 : (p.toList == [47]) = true := by
      rw [Lib.toList_data, h1]; rfl
    rw [h1]
    change Calls Tryz.prog 51 #[.string p] w (fun e w' => Below w.heap.size w w' ∧ ∃ v, e = .returned (.tuple #[v, .nilIface]) ∧ w'.ownsRow w.heap.size 9 1 v 0 [])
    go_enter Tryz.func51, Tryz.ntmps51
    go_wp2
    refine bodyPost_ret (v := .tuple #[.slice none 0 0, .nilIface]) (by simp [results, Tryz.f51, go_sem]) rfl ?_
    refine ⟨?_, ?_⟩
    · repeat' (first | exact Below.refl _ _ | refine Below.alloc ?_ (by first | exact Nat.le_refl _ | (simp only [World.size_alloc]; omega)) _ | refine Below.setCell ?_ (by simp; try omega) _)
    · exact ⟨_, rfl, World.ownsRow_nil _ _ _ _⟩
  · have hp2 : (p.toList == [47]) = false := by
      rw [Lib.toList_data]
      exact beq_eq_false_iff_ne.2 h1
    cases hpre : Lib.hasPrefix p.data.toList [47]
    · have hn : splitF p.data.toList = none := by
        unfold splitF
        rw [if_neg h1]
        split
        · rename_i r hr
          rw [hr] at hpre
          simp [Lib.hasPrefix] at hpre
        · rfl
      rw [hn]
      change Calls Tryz.prog 51 #[.string p] w (fun e w' => Below w.heap.size w w' ∧ ∃ v, e = .returned (.tuple #[.slice none 0 0, v]) ∧ FaultAt w' v 2 w.heap.size)
      have hCut := Any.strings_CutPrefix Tryz.lays103 p ⟨#[47]⟩ (((w.alloc (.cells #[.string p] 9)).alloc (.cells #[.slice none 0 0] 77)).alloc (.cells #[.nilIface] 27))
      change Calls Tryz.prog 71 _ _ (fun e w' => e = .returned (.tuple #[.string ⟨(Lib.trimPrefix p.data.toList [47]).toArray⟩, .bool (Lib.hasPrefix p.data.toList [47])]) ∧ w' = _) at hCut
      rw [hpre] at hCut
      generalize (⟨(Lib.trimPrefix p.data.toList [47]).toArray⟩ : ByteArray) = rest at hCut
      have hsz : (((w.alloc (.cells #[.string p] 9)).alloc (.cells #[.slice none 0 0] 77)).alloc (.cells #[.nilIface] 27)).heap.size = w.heap.size + 3 := by simp
      have hB3 : Below w.heap.size w (((w.alloc (.cells #[.string p] 9)).alloc (.cells #[.slice none 0 0] 77)).alloc (.cells #[.nilIface] 27)) := by
        repeat' (first | exact Below.refl _ _ | refine Below.alloc ?_ (by first | exact Nat.le_refl _ | (simp only [World.size_alloc]; omega)) _)
      have hP0 : Boxed (((w.alloc (.cells #[.string p] 9)).alloc (.cells #[.slice none 0 0] 77)).alloc (.cells #[.nilIface] 27)) w.heap.size 9 (.string p) := by
        repeat' (first | exact boxed_at _ _ (by first | (simp only [World.size_alloc]; done) | (simp only [World.size_alloc]; omega) | rfl) _ _ | refine Boxed.alloc ?_ _)
      have g0 := hP0.cell
      clear hP0
      have hR1 : Boxed (((w.alloc (.cells #[.string p] 9)).alloc (.cells #[.slice none 0 0] 77)).alloc (.cells #[.nilIface] 27)) (w.heap.size + 1) 77 (.slice none 0 0) := by
        repeat' (first | exact boxed_at _ _ (by first | (simp only [World.size_alloc]; done) | (simp only [World.size_alloc]; omega) | rfl) _ _ | refine Boxed.alloc ?_ _)
      have hR2 : Boxed (((w.alloc (.cells #[.string p] 9)).alloc (.cells #[.slice none 0 0] 77)).alloc (.cells #[.nilIface] 27)) (w.heap.size + 1 + 1) 27 .nilIface := by
        repeat' (first | exact boxed_at _ _ (by first | (simp only [World.size_alloc]; done) | (simp only [World.size_alloc]; omega) | rfl) _ _ | refine Boxed.alloc ?_ _)
      go_enter Tryz.func51, Tryz.ntmps51
      generalize hW1 : (((w.alloc (.cells #[.string p] 9)).alloc (.cells #[.slice none 0 0] 77)).alloc (.cells #[.nilIface] 27)) = W1 at hCut hsz hB3 g0 hR1 hR2
      go_wp2_with (first | (go_at_call 71; refine hCut.mono ?_; rintro e w' ⟨rfl, rfl⟩) | (go_at_call 24; refine (At_calls _ _ _ _).mono ?_; rintro e W2 ⟨rfl, hW2⟩; have hb2 : Below w'.heap.size w' W2 := by { rw [hW2]; exact (Below.refl _ _).alloc (Nat.le_refl _) _ }; have hF : W2.heap[w'.heap.size]? = some (.cells #[.string ⟨#[115, 112, 108, 105, 116]⟩, .string p, .iface 52 (.int .i64 2)] 82 (0, 0)) := by { rw [hW2]; exact World.alloc_heap_new w' _ }; clear hW2; have h1 := boxed_below hR1 hb2; have h2 := boxed_below hR2 hb2; clear g0 hR1 hR2; have g1 := h1.cell; have f1 := h1.frozen; have g2 := h2.cell; have f2 := h2.frozen))
      have hR1' := (h1.set (.slice none 0 0)).other (B' := w.heap.size + 1 + 1) (by omega) (.iface 80 (.pointer (some ⟨w.heap.size + 3, 0, none⟩)))
      have hR2' := (h2.other (B' := w.heap.size + 1) (by omega) (.slice none 0 0)).set (.iface 80 (.pointer (some ⟨w.heap.size + 3, 0, none⟩)))
      have hB' := ((hB3.trans (hb2.mono (by omega))).setCell (p := ⟨w.heap.size + 1, 0, none⟩) (by simp) (.slice none 0 0)).setCell (p := ⟨w.heap.size + 1 + 1, 0, none⟩) (by simp; omega) (.iface 80 (.pointer (some ⟨w.heap.size + 3, 0, none⟩)))
      rw [hsz] at hF
      have hF' := heap_setCell_ne (b := w.heap.size + 1 + 1) (v := .iface 80 (.pointer (some ⟨w.heap.size + 3, 0, none⟩))) (show w.heap.size + 3 ≠ w.heap.size + 1 + 1 by omega) (heap_setCell_ne (b := w.heap.size + 1) (v := .slice none 0 0) (show w.heap.size + 3 ≠ w.heap.size + 1 by omega) hF)
      have c1 := hR1'.cell
      have c2 := hR2'.cell
      refine bodyPost_ret (v := .tuple #[.slice none 0 0, .iface 80 (.pointer (some ⟨w.heap.size + 3, 0, none⟩))]) (by simp [results, Tryz.f51, go_sem, c1, c2]) rfl ?_
      exact ⟨hB', _, rfl, w.heap.size + 3, _, _, rfl, by omega, hF'⟩
    · obtain ⟨r, hr⟩ : ∃ r, p.data.toList = 47 :: r := by
        cases hl : p.data.toList with
        | nil => rw [hl] at hpre; simp [Lib.hasPrefix] at hpre
        | cons b r =>
          rw [hl] at hpre
          simp [Lib.hasPrefix] at hpre
          exact ⟨r, by rw [← hpre]⟩
      have ht : Lib.trimPrefix p.data.toList [47] = r := by
        unfold Lib.trimPrefix
        rw [if_pos hpre, hr]; rfl
      refine (Split_loop p ⟨r.toArray⟩ ?_ w h1 hpre (by rw [ht])).mono ?_
      · have h2 : p.data.toList.length = p.size := rfl
        rw [hr] at h2
        show r.length ≤ _
        simp at h2; omega
      · rintro e w' ⟨hB, h⟩
        refine ⟨hB, ?_⟩
        have hsp : splitF p.data.toList = if (pieces r).length ≤ 6 ∧ (pieces r).all nameL = true then some (pieces r) else none := by
          unfold splitF
          rw [if_neg h1]
          rw [hr]
          rfl
        rw [hsp]
        rcases h with ⟨v, he, hl, ha, hrow⟩ | ⟨v, pre, he, hF, hp, hb⟩
        · have hl2 : (piecesB ⟨r.toArray⟩).length = (pieces r).length := by unfold piecesB; rw [List.length_map]
          rw [if_pos ⟨by rw [← hl2]; exact hl, (all_piecesB ⟨r.toArray⟩).1 ha⟩]
          refine ⟨v, he, ?_⟩
          rw [hl2] at hrow
          unfold piecesB at hrow
          rw [List.map_map] at hrow
          exact hrow
        · rw [if_neg (bad_not ⟨r.toArray⟩ pre hp hb)]
          exact ⟨v, he, hF⟩
end Go.Proofs.YtjlflmjimibciabGreatDoor.Print
end

section
namespace Go.Proofs
open Go.Shelf
def Tryz.lays156_ren : Go.Shelf.Ren := ⟨fun | 156 => 77 | 165 => 89 | 166 => 90 | 169 => 91 | 240 => 106 | 241 => 107 | 276 => 116 | 277 => 117 | n => n, fun | 31 => 77 | 9 => 9 | 3 => 3 | 4 => 4 | 0 => 0 | 20 => 20 | 72 => 137 | 76 => 68 | 70 => 135 | 37 => 34 | 75 => 27 | 127 => 152 | 164 => 84 | 5 => 5 | 80 => 140 | n => n, fun | n => n⟩
theorem Tryz.lays156 : Go.Proofs.Lays.n156 Tryz.prog Tryz.lays156_ren := {
  mixed := by kernel_rfl,
  f156 := Tryz.func77.trans (congrArg some (by kernel_rfl)),
  f165 := Tryz.func89.trans (congrArg some (by kernel_rfl)),
  f166 := Tryz.func90.trans (congrArg some (by kernel_rfl)),
  f169 := Tryz.func91.trans (congrArg some (by kernel_rfl)),
  f240 := Tryz.func106.trans (congrArg some (by kernel_rfl)),
  f241 := Tryz.func107.trans (congrArg some (by kernel_rfl)),
  f276 := Tryz.func116.trans (congrArg some (by kernel_rfl)),
  f277 := Tryz.func117.trans (congrArg some (by kernel_rfl)),
  t0 := Tryz.underlying0,
  a0 := Tryz.isAgg0,
  z0 := Tryz.sizeOf0,
  v0 := Tryz.zeroValue0,
  t3 := Tryz.underlying3,
  a3 := Tryz.isAgg3,
  z3 := Tryz.sizeOf3,
  v3 := Tryz.zeroValue3,
  t4 := Tryz.underlying4,
  a4 := Tryz.isAgg4,
  z4 := Tryz.sizeOf4,
  v4 := Tryz.zeroValue4,
  t9 := Tryz.underlying9,
  a9 := Tryz.isAgg9,
  z9 := Tryz.sizeOf9,
  v9 := Tryz.zeroValue9,
  t20 := Tryz.underlying20,
  a20 := Tryz.isAgg20,
  z20 := Tryz.sizeOf20,
  v20 := Tryz.zeroValue20,
  t31 := Tryz.underlying77,
  a31 := Tryz.isAgg77,
  z31 := Tryz.sizeOf77,
  v31 := Tryz.zeroValue77,
  t37 := Tryz.underlying34,
  a37 := Tryz.isAgg34,
  z37 := Tryz.sizeOf34,
  v37 := Tryz.zeroValue34,
  t70 := Tryz.underlying135,
  a70 := Tryz.isAgg135,
  z70 := Tryz.sizeOf135,
  v70 := Tryz.zeroValue135,
  t72 := Tryz.underlying137,
  a72 := Tryz.isAgg137,
  z72 := Tryz.sizeOf137,
  v72 := Tryz.zeroValue137,
  t75 := Tryz.underlying27,
  a75 := Tryz.isAgg27,
  z75 := Tryz.sizeOf27,
  v75 := Tryz.zeroValue27,
  t76 := Tryz.underlying68,
  a76 := Tryz.isAgg68,
  z76 := Tryz.sizeOf68,
  v76 := Tryz.zeroValue68,
  t127 := Tryz.underlying152,
  a127 := Tryz.isAgg152,
  z127 := Tryz.sizeOf152,
  v127 := Tryz.zeroValue152,
  t164 := Tryz.underlying84,
  a164 := Tryz.isAgg84,
  z164 := Tryz.sizeOf84,
  v164 := Tryz.zeroValue84 }
end Go.Proofs
end

section
namespace Go.Proofs.YtjlflmjimibciabGreatDoor.Print
open Go Go.Proofs Go.RowKit Go.Shelf Go.Proofs.YtjlflmjimibciabGreatDoorW.PrintWords Go.Proofs.YtjlflmjimibciabGreatDoorW.PrintLast Go.Proofs.YtjlflmjimibciabGreatDoorW.PrintMore
set_option linter.unusedVariables false
set_option linter.unusedSimpArgs false
theorem join_extra : Builder.Extra Tryz.prog Tryz.lays156_ren where
  sizeBuilder := by kernel_rfl
  liesBuilder := by kernel_rfl
  t5 := by kernel_rfl
  a5 := fun w => by kernel_rfl
  z5 := fun w => by kernel_rfl
  v5 := fun w => by kernel_rfl
  infoByte := by kernel_rfl
  cellsByte := by kernel_rfl
  sizeByte := by kernel_rfl
  neB5 := by decide
theorem Join_any (A0 : Option Addr) (c0 : Nat) (l0 : List ByteArray) (a1 : ByteArray) (w : World) (hr0 : Kd.string.C w A0 l0.length l0) (hc0 : l0.length ≤ c0) (hn : l0.length ≤ 140737488355328) (hl : (Lib.join (l0.map (·.data.toList)) a1.data.toList).length ≤ 140737488355328) :
    Calls Tryz.prog 77 #[.slice A0 l0.length c0, .string a1] w fun e w' => e = .returned (.string ⟨(Lib.join (l0.map (·.data.toList)) a1.data.toList).toArray⟩) ∧ Below w.heap.size w w' := by
  by_cases h0 : 0 < l0.length
  · obtain ⟨⟨g, o, s⟩, rfl, hc⟩ := C_cells (Flat.scalar Value.string (fun _ => rfl)) hr0 h0
    have hcell : ∀ j x, l0[j]? = some x → w.cell? ((⟨g, o, s⟩ : Addr).add j) = some (.string x) := fun j x hj => by
      refine hc j (.string x) ?_
      have : encL (fun x => [Value.string x]) l0 = l0.map Value.string := by
        clear hc hr0 hc0 hn hl h0 hj
        induction l0 with
        | nil => rfl
        | cons a l ih => unfold encL at ih ⊢; rw [List.flatMap_cons, ih]; rfl
      rw [this, List.getElem?_map, hj]; rfl
    obtain rfl : s = none := by
      cases s with
      | none => rfl
      | some s =>
        exfalso
        have := hcell 0 (l0[0]'h0) (List.getElem?_eq_getElem h0)
        unfold World.cell? at this
        have e : ((⟨g, o, some s⟩ : Addr).add 0) = ⟨g, o, some s⟩ := by unfold Addr.add; simp
        rw [e] at this
        split at this <;> simp at this
    have hcell' : ∀ j x, l0[j]? = some x → w.cell? ⟨g, o + j, none⟩ = some (.string x) := fun j x hj => by
      have := hcell j x hj
      rwa [addr_add] at this
    have hg : g < w.heap.size := by
      rcases Nat.lt_or_ge g w.heap.size with h | h
      · exact h
      · have := hcell' 0 (l0[0]'h0) (List.getElem?_eq_getElem h0)
        simp [World.cell?, Array.getElem?_eq_none h] at this
    exact Any.strings_Join Tryz.lays156 join_extra g o c0 l0 a1 w hcell' hg hn hc0 hl
  · obtain rfl : l0 = [] := List.eq_nil_of_length_eq_zero (by omega)
    exact (Any.strings_Join_none Tryz.lays156 join_extra A0 c0 a1 w).mono fun e w' ⟨he, hw⟩ => ⟨he, hw ▸ Below.refl _ _⟩
end Go.Proofs.YtjlflmjimibciabGreatDoor.Print
end

section
namespace Go.Proofs
open Go.Shelf
def Tryz.lays106_ren : Go.Shelf.Ren := ⟨fun | 106 => 60 | 213 => 78 | 265 => 92 | n => n, fun | 9 => 9 | 3 => 3 | n => n, fun | n => n⟩
theorem Tryz.lays106 : Go.Proofs.Lays.n106 Tryz.prog Tryz.lays106_ren := {
  mixed := by kernel_rfl,
  f106 := Tryz.func60.trans (congrArg some (by kernel_rfl)),
  f213 := Tryz.func78.trans (congrArg some (by kernel_rfl)),
  f265 := Tryz.func92.trans (congrArg some (by kernel_rfl)),
  t3 := Tryz.underlying3,
  a3 := Tryz.isAgg3,
  z3 := Tryz.sizeOf3,
  v3 := Tryz.zeroValue3,
  t9 := Tryz.underlying9,
  a9 := Tryz.isAgg9,
  z9 := Tryz.sizeOf9,
  v9 := Tryz.zeroValue9 }
end Go.Proofs
end
