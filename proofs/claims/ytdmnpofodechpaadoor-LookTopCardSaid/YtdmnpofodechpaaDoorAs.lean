/- errors.As at the target *Errno: a *Fault that holds an Errno: true, and the target is the number (after the kit's worked example Toyas). Gl: what errors.errorType holds. -/
import Derived.Test.YtdmnpofodechpaaDoorProg
import Derived.WalkKit
import Derived.LaidEql
import Derived.Stop.Asserts
import Derived.RowKitTokens
namespace Go.Proofs.YtdmnpofodechpaaDoor.Print
open Go Go.RowKit Go.Extern.Stop Go.Stop Go.Extern
set_option linter.unusedVariables false
set_option linter.unusedSimpArgs false

/-- errors.errorType holds the type error's handle. -/
def Gl (w : World) : Prop := w.cell? ⟨0, 0, none⟩ = some (.iface 96 (.agg #[.pointer (some ⟨4, 30, none⟩)]))
theorem Gl.lt {w : World} (h : Gl w) : 0 < w.heap.size := by
  rcases Nat.lt_or_ge 0 w.heap.size with h0 | h0
  · exact h0
  · simp [Gl, World.cell?, Array.getElem?_eq_none h0] at h
theorem Gl.below {w W : World} (h : Gl w) (hb : Below w.heap.size w W) : Gl W := (hb.cell (p := ⟨0, 0, none⟩) h.lt).trans h
theorem Gl.alloc {w : World} (h : Gl w) (o : Obj) : Gl (w.alloc o) := h.below ((Below.refl _ _).alloc (Nat.le_refl _) o)

namespace As
theorem valueOfPE (t : Addr) (w : World) : (ReflectliteValue.unpack (.iface 53 (.pointer (some t)))).run Tryd.prog w
    = .ok (.agg #[.pointer (some ⟨4, 53, none⟩), .pointer (some ⟨w.heap.size, 0, none⟩), .int .u64 150]) (w.alloc (.cells #[.pointer (some t)] 53)) := by kernel_rfl
theorem typePE (a : Addr) (w : World) : (ReflectliteValue.methodAny (ReflectliteValue.valueError "reflectlite.Value.Type" 0) (fun t _ _ _ => ReflectliteType.toType t) #[.agg #[.pointer (some ⟨4, 53, none⟩), .pointer (some a), .int .u64 150]]).run Tryd.prog w
    = .ok (.iface 96 (.agg #[.pointer (some ⟨4, 53, none⟩)])) w := by kernel_rfl
theorem methodKind (h : Value) (w : World) : (Go.method 267 96 (.agg #[h]) "Kind").run Tryd.prog w = .ok (98, h) w := by kernel_rfl
theorem kindPE (w : World) : ((ReflectliteType.abiMethod fun t => (fun a : Nat => Value.int IntKind.u8 (a : Int)) <$> Rtype.kind t) #[.pointer (some ⟨4, 53, none⟩)]).run Tryd.prog w = .ok (.int .u8 22) w := by kernel_rfl
theorem kindEN (w : World) : ((ReflectliteType.abiMethod fun t => (fun a : Nat => Value.int IntKind.u8 (a : Int)) <$> Rtype.kind t) #[.pointer (some ⟨4, 47, none⟩)]).run Tryd.prog w = .ok (.int .u8 2) w := by kernel_rfl
theorem rlm (z : Sem Value) (f : TypeId → Addr → Nat → Nat → Sem Value) (v : Value) :
    ReflectliteValue.method z f #[v] = (do match ← ReflectliteValue.parts v with | none => z | some (t, a, fl) => f t a fl (fl % 32)) := rfl
theorem partsPE (a : Addr) (w : World) : (ReflectliteValue.parts (.agg #[.pointer (some ⟨4, 53, none⟩), .pointer (some a), .int .u64 150])).run Tryd.prog w = .ok (some (53, a, 150)) w := by kernel_rfl
theorem isNilPE (a p : Addr) (W : World) (ha : W.cell? a = some (.pointer (some p))) :
    (ReflectliteValue.method (ReflectliteValue.valueError "reflectlite.Value.IsNil" 0) ReflectliteValue.isNil #[.agg #[.pointer (some ⟨4, 53, none⟩), .pointer (some a), .int .u64 150]]).run Tryd.prog W = .ok (.bool false) W := by
  rw [rlm]
  simp only [Sem.run_bind, partsPE, Result.andThen]
  simp [ReflectliteValue.isNil, loadVar, isAgg, underlying, Tryd.underlying53, ha, Result.andThen]
theorem methodElem (h : Value) (w : World) : (Go.method 267 96 (.agg #[h]) "Elem").run Tryd.prog w = .ok (111, .agg #[h]) w := by kernel_rfl
theorem methodImplements (h : Value) (w : World) : (Go.method 267 96 (.agg #[h]) "Implements").run Tryd.prog w = .ok (112, .agg #[h]) w := by kernel_rfl
theorem methodAssignableTo (h : Value) (w : World) : (Go.method 267 96 (.agg #[h]) "AssignableTo").run Tryd.prog w = .ok (109, .agg #[h]) w := by kernel_rfl
theorem elemPE (w : World) : (ReflectliteType.method ReflectliteType.elem #[.agg #[.pointer (some ⟨4, 53, none⟩)]]).run Tryd.prog w = .ok (.iface 96 (.agg #[.pointer (some ⟨4, 47, none⟩)])) w := by kernel_rfl
theorem implementsEN (w : World) : (ReflectliteType.relation "Implements" ReflectliteType.implements_ #[.agg #[.pointer (some ⟨4, 47, none⟩)], .iface 96 (.agg #[.pointer (some ⟨4, 30, none⟩)])]).run Tryd.prog w = .ok (.bool true) w := by kernel_rfl
theorem typeOfPF (v : Value) (w : World) : (ReflectliteType.typeOf #[.iface 61 v]).run Tryd.prog w = .ok (.iface 96 (.agg #[.pointer (some ⟨4, 61, none⟩)])) w := by kernel_rfl
theorem typeOfEN (v : Value) (w : World) : (ReflectliteType.typeOf #[.iface 47 v]).run Tryd.prog w = .ok (.iface 96 (.agg #[.pointer (some ⟨4, 47, none⟩)])) w := by kernel_rfl
theorem assignablePF (w : World) : (ReflectliteType.relation "AssignableTo" ReflectliteType.assignableTo #[.agg #[.pointer (some ⟨4, 61, none⟩)], .iface 96 (.agg #[.pointer (some ⟨4, 47, none⟩)])]).run Tryd.prog w = .ok (.bool false) w := by kernel_rfl
theorem assignableEN (w : World) : (ReflectliteType.relation "AssignableTo" ReflectliteType.assignableTo #[.agg #[.pointer (some ⟨4, 47, none⟩)], .iface 96 (.agg #[.pointer (some ⟨4, 47, none⟩)])]).run Tryd.prog w = .ok (.bool true) w := by kernel_rfl
theorem valueOfEN (c : Int) (w : World) : (ReflectliteValue.unpack (.iface 47 (.int .i64 c))).run Tryd.prog w
    = .ok (.agg #[.pointer (some ⟨4, 47, none⟩), .pointer (some ⟨w.heap.size, 0, none⟩), .int .u64 130]) (w.alloc (.cells #[.int .i64 c] 47)) := by kernel_rfl
theorem elemOfPE (w : World) : (Rtype.elem? 53).run Tryd.prog w = .ok (some 47) w := by kernel_rfl
theorem mkEN (p : Addr) (w : World) : (ReflectliteValue.mk 47 p ReflectliteValue.flagAddr).run Tryd.prog w = .ok (.agg #[.pointer (some ⟨4, 47, none⟩), .pointer (some p), .int .u64 386]) w := by kernel_rfl
theorem elemVPE (a p : Addr) (W : World) (ha : W.cell? a = some (.pointer (some p))) :
    (ReflectliteValue.method (ReflectliteValue.valueError "reflectlite.Value.Elem" 0) ReflectliteValue.elem #[.agg #[.pointer (some ⟨4, 53, none⟩), .pointer (some a), .int .u64 150]]).run Tryd.prog W
      = .ok (.agg #[.pointer (some ⟨4, 47, none⟩), .pointer (some p), .int .u64 386]) W := by
  rw [rlm]
  simp only [Sem.run_bind, partsPE, Result.andThen]
  simp [ReflectliteValue.elem, loadVar, isAgg, underlying, Tryd.underlying53, ha, Result.andThen, elemOfPE, mkEN]
theorem rls (v x : Value) : ReflectliteValue.set #[v, x] = (do
    let (some (dst, a, fl), some (src, b, _)) := (← ReflectliteValue.parts v, ← ReflectliteValue.parts x)
      | unsupported (.noEntry "extern/(internal/reflectlite.Value).Set.zeroValue")
    if fl / ReflectliteValue.flagAddr % 2 == 0 then unsupported (.noEntry "extern/(internal/reflectlite.Value).Set.unaddressable")
    let val ← loadVar src b
    if ← Rtype.directlyAssignable dst src then storeVar dst a val
    else if ← Rtype.implements dst src then
      if (← Rtype.kind src) == 20 then
        match val with
        | .nilIface => unsupported (.noEntry "extern/reflectlite: a nil value of one interface type handed on as a value of another")
        | _ => storeVar dst a val
      else storeVar dst a (.iface src val)
    else panicString ("reflectlite.Set: value of type " ++ (← Rtype.spelt src) ++ " is not assignable to type " ++ (← Rtype.spelt dst))
    pure (.tuple #[])) := rfl
theorem partsENa (a : Addr) (w : World) : (ReflectliteValue.parts (.agg #[.pointer (some ⟨4, 47, none⟩), .pointer (some a), .int .u64 386])).run Tryd.prog w = .ok (some (47, a, 386)) w := by kernel_rfl
theorem partsEN (a : Addr) (w : World) : (ReflectliteValue.parts (.agg #[.pointer (some ⟨4, 47, none⟩), .pointer (some a), .int .u64 130])).run Tryd.prog w = .ok (some (47, a, 130)) w := by kernel_rfl
theorem directEN (w : World) : (Rtype.directlyAssignable 47 47).run Tryd.prog w = .ok true w := by kernel_rfl
theorem sizeEN (w : World) : (sizeOf 47).run Tryd.prog w = .ok 1 w := by kernel_rfl
theorem setEN (ta b : Addr) (c : Int) (old : Value) (W : World) (hb : W.cell? b = some (.int .i64 c)) (ht : W.cell? ta = some old) (hf : W.frozen? ta = false) :
    (ReflectliteValue.set #[.agg #[.pointer (some ⟨4, 47, none⟩), .pointer (some ta), .int .u64 386], .agg #[.pointer (some ⟨4, 47, none⟩), .pointer (some b), .int .u64 130]]).run Tryd.prog W
      = .ok (.tuple #[]) (W.setCell ta (.int .i64 c)) := by
  rw [rls]
  simp only [Sem.run_bind, partsENa, partsEN, Result.andThen]
  simp [ReflectliteValue.flagAddr, loadVar, isAgg, underlying, Tryd.underlying47, hb, Result.andThen, directEN, storeVar, Value.cells, storeCells, Addr.add]
  rw [run_store Tryd.prog W ta _ _ (by rfl)]
  simp [ht, hf]
end As
end Go.Proofs.YtdmnpofodechpaaDoor.Print
