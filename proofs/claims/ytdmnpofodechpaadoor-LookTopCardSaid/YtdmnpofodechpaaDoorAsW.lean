/- errors.As at the target *Errno, and a *Fault that holds an Errno: the walk (after the kit's worked example Toyas). -/
import Derived.Test.YtdmnpofodechpaaDoorAs
namespace Go.Proofs.YtdmnpofodechpaaDoor.Print
open Go Go.RowKit Go.Extern.Stop Go.Stop Go.Extern
set_option linter.unusedVariables false
set_option linter.unusedSimpArgs false

set_option maxRecDepth 100000 in
set_option maxHeartbeats 4000000 in
theorem as_errno (c : Int) (op p : ByteArray) (g o : Nat) (t a : Addr) (old : Value) (w : World) (ht0 : w.cell? t = some old) (hf0 : w.frozen? t = false) (ha : w.cell? a = some (.pointer (some t)))
    (he0 : w.cell? ⟨g, o, none⟩ = some (.string op)) (he1 : w.cell? ⟨g, o + 1, none⟩ = some (.string p)) (he2 : w.cell? ⟨g, o + 2, none⟩ = some (.iface 47 (.int .i64 c))) :
    Calls Tryd.prog 28 #[.iface 61 (.pointer (some ⟨g, o, none⟩)), .iface 53 (.pointer (some t)), .agg #[.pointer (some ⟨4, 53, none⟩), .pointer (some a), .int .u64 150], .iface 96 (.agg #[.pointer (some ⟨4, 47, none⟩)])] w fun ev w' => ev = .returned (.bool true) ∧ w' = ((w.alloc (.cells #[.pointer (some ⟨4, 53, none⟩), .pointer (some a), .int .u64 150] 70)).alloc (.cells #[.int .i64 c] 47)).setCell t (.int .i64 c) := by
  have h107 := @run_callFunc_extern Tryd.prog 42 _ ReflectliteType.typeOf Tryd.func42 (by kernel_rfl) (by kernel_rfl) (by kernel_rfl) (by kernel_rfl)
  have h170 := @run_callFunc_extern Tryd.prog 109 _ (ReflectliteType.relation "AssignableTo" ReflectliteType.assignableTo) Tryd.func109 (by kernel_rfl) (by kernel_rfl) (by kernel_rfl) (by kernel_rfl)
  have h108 := @run_callFunc_extern Tryd.prog 43 _ (ReflectliteValue.method (ReflectliteValue.valueError "reflectlite.Value.Elem" 0) ReflectliteValue.elem) Tryd.func43 (by kernel_rfl) (by kernel_rfl) (by kernel_rfl) (by kernel_rfl)
  have h75 := @run_callFunc_extern Tryd.prog 25 _ (fun args => ReflectliteValue.unpack (args.getD 0 (.tuple #[]))) Tryd.func25 (by kernel_rfl) (by kernel_rfl) (by kernel_rfl) (by kernel_rfl)
  have h109 := @run_callFunc_extern Tryd.prog 44 _ ReflectliteValue.set Tryd.func44 (by kernel_rfl) (by kernel_rfl) (by kernel_rfl) (by kernel_rfl)
  have tF := As.typeOfPF
  have tO := As.typeOfEN
  have mA := As.methodAssignableTo
  have aF := As.assignablePF
  have aE := As.assignableEN
  have vE := As.valueOfEN
  have nA : ∀ (v : Value) (xT : TypeId) (w : World), (Instr.typeAssert (.iface 61 v) xT 101 true).run Tryd.prog w = .ok (.tuple #[.nilIface, .bool false]) w := run_typeAssert_lacksB Tryd.underlying101 (by kernel_rfl) (by kernel_rfl)
  have nU : ∀ (v : Value) (xT : TypeId) (w : World), (Instr.typeAssert (.iface 61 v) xT 104 true).run Tryd.prog w = .ok (.tuple #[.iface 61 v, .bool true]) w := run_typeAssert_hasB Tryd.underlying104 (by kernel_rfl)
  have mU : ∀ (v : Value) (w : World), (Go.method 267 61 v "Unwrap").run Tryd.prog w = .ok (103, v) w := by
    intro v w
    kernel_rfl
  have htl : t.block < w.heap.size := by
    rcases Nat.lt_or_ge t.block w.heap.size with h | h
    · exact h
    · simp [World.cell?, Array.getElem?_eq_none h] at ht0
  have hal : a.block < w.heap.size := by
    rcases Nat.lt_or_ge a.block w.heap.size with h | h
    · exact h
    · simp [World.cell?, Array.getElem?_eq_none h] at ha
  have hel : g < w.heap.size := by
    rcases Nat.lt_or_ge g w.heap.size with h | h
    · exact h
    · simp [World.cell?, Array.getElem?_eq_none h] at he0
  generalize hW1 : w.alloc (.cells #[.pointer (some ⟨4, 53, none⟩), .pointer (some a), .int .u64 150] 70) = W1
  have hb1 : Below w.heap.size w W1 := by rw [← hW1]; exact (Below.refl _ _).alloc (Nat.le_refl _) _
  have hs1 : W1.heap.size = w.heap.size + 1 := by rw [← hW1]; simp
  have el := As.elemVPE a t W1 ((hb1.cell hal).trans ha)
  have g0 := (hb1.cell (p := ⟨g, o, none⟩) hel).trans he0
  have g1 := (hb1.cell (p := ⟨g, o + 1, none⟩) hel).trans he1
  have g2 := (hb1.cell (p := ⟨g, o + 2, none⟩) hel).trans he2
  have st := As.setEN t ⟨w.heap.size + 1, 0, none⟩ c old (W1.alloc (.cells #[.int .i64 c] 47))
    (by rw [World.cell?_alloc_at _ _ _ _ (by simp [hs1])]; rfl)
    (by rw [World.cell?_alloc_lt _ _ t (by omega)]; exact (hb1.cell htl).trans ht0)
    (by rw [World.frozen?_alloc_old _ _ t (by omega), ← hW1, World.frozen?_alloc_old _ _ t (Nat.ne_of_lt htl)]; exact hf0)
  rw [← hW1] at st el g0 g1 g2 ⊢
  clear hW1 hb1 hs1
  go_enter Tryd.func28, Tryd.ntmps28
  go_wp2
  refine wp_loop_rounds 2 ?_
  rw [rounds_succ]
  go_wp2
  rw [rounds_succ]
  go_wp2
  go_ret
  exact ⟨rfl, rfl⟩

set_option maxRecDepth 100000 in
set_option maxHeartbeats 4000000 in
theorem As_errno (c : Int) (op p : ByteArray) (g o : Nat) (t : Addr) (old : Value) (w : World) (hG : Gl w) (ht0 : w.cell? t = some old) (hf0 : w.frozen? t = false)
    (he0 : w.cell? ⟨g, o, none⟩ = some (.string op)) (he1 : w.cell? ⟨g, o + 1, none⟩ = some (.string p)) (he2 : w.cell? ⟨g, o + 2, none⟩ = some (.iface 47 (.int .i64 c))) :
    Calls Tryd.prog 18 #[.iface 61 (.pointer (some ⟨g, o, none⟩)), .iface 53 (.pointer (some t))] w fun ev w' => ev = .returned (.bool true) ∧ w'.cell? t = some (.int .i64 c) ∧ ∃ W, Below w.heap.size w W ∧ w' = W.setCell t (.int .i64 c) := by
  have h6 := @run_callFunc_extern Tryd.prog 25 _ (fun args => ReflectliteValue.unpack (args.getD 0 (.tuple #[]))) Tryd.func25 (by kernel_rfl) (by kernel_rfl) (by kernel_rfl) (by kernel_rfl)
  have h7 := @run_callFunc_extern Tryd.prog 26 _ (ReflectliteValue.methodAny (ReflectliteValue.valueError "reflectlite.Value.Type" 0) (fun t _ _ _ => ReflectliteType.toType t)) Tryd.func26 (by kernel_rfl) (by kernel_rfl) (by kernel_rfl) (by kernel_rfl)
  have h8 := @run_callFunc_extern Tryd.prog 27 _ (ReflectliteValue.method (ReflectliteValue.valueError "reflectlite.Value.IsNil" 0) ReflectliteValue.isNil) Tryd.func27 (by kernel_rfl) (by kernel_rfl) (by kernel_rfl) (by kernel_rfl)
  have h27 := @run_callFunc_extern Tryd.prog 98 _ (ReflectliteType.abiMethod fun t => do pure (.int .u8 (← Rtype.kind t))) Tryd.func98 (by kernel_rfl) (by kernel_rfl) (by kernel_rfl) (by kernel_rfl)
  have h37 := @run_callFunc_extern Tryd.prog 111 _ (ReflectliteType.method ReflectliteType.elem) Tryd.func111 (by kernel_rfl) (by kernel_rfl) (by kernel_rfl) (by kernel_rfl)
  have h38 := @run_callFunc_extern Tryd.prog 112 _ (ReflectliteType.relation "Implements" ReflectliteType.implements_) Tryd.func112 (by kernel_rfl) (by kernel_rfl) (by kernel_rfl) (by kernel_rfl)
  have f6 := As.valueOfPE
  have f7 := As.typePE
  have mK := As.methodKind
  have mE := As.methodElem
  have mI := As.methodImplements
  have k27 := As.kindPE
  have k25 := As.kindEN
  have e27 := As.elemPE
  have i25 := As.implementsEN
  have hlt := hG.lt
  have htl : t.block < w.heap.size := by
    rcases Nat.lt_or_ge t.block w.heap.size with h | h
    · exact h
    · simp [World.cell?, Array.getElem?_eq_none h] at ht0
  have hel : g < w.heap.size := by
    rcases Nat.lt_or_ge g w.heap.size with h | h
    · exact h
    · simp [World.cell?, Array.getElem?_eq_none h] at he0
  generalize hW2 : ((w.alloc (.cells #[.pointer (some t)] 53)).alloc (.cells #[.pointer (some ⟨4, 53, none⟩), .pointer (some ⟨w.heap.size, 0, none⟩), .int .u64 150] 70)) = W2
  have hb2 : Below w.heap.size w W2 := by rw [← hW2]; exact ((Below.refl _ _).alloc (Nat.le_refl _) _).alloc (by simp) _
  have hs2 : W2.heap.size = w.heap.size + 1 + 1 := by rw [← hW2]; simp
  have hv2 : W2.cell? ⟨w.heap.size, 0, none⟩ = some (.pointer (some t)) := by rw [← hW2, World.cell?_alloc_lt _ _ ⟨w.heap.size, 0, none⟩ (by simp)]; simp
  have n8 := As.isNilPE ⟨w.heap.size, 0, none⟩ t W2 hv2
  have hg2 : W2.cell? ⟨0, 0, none⟩ = some (.iface 96 (.agg #[.pointer (some ⟨4, 30, none⟩)])) := hG.below hb2
  have hfr : W2.frozen? t = false := by rw [← hW2, World.frozen?_alloc_old _ _ t (by simp; omega), World.frozen?_alloc_old _ _ t (Nat.ne_of_lt htl)]; exact hf0
  have H := as_errno c op p g o t ⟨w.heap.size, 0, none⟩ old W2 ((hb2.cell htl).trans ht0) hfr hv2 ((hb2.cell (p := ⟨g, o, none⟩) hel).trans he0) ((hb2.cell (p := ⟨g, o + 1, none⟩) hel).trans he1) ((hb2.cell (p := ⟨g, o + 2, none⟩) hel).trans he2)
  have hlast : ∀ W, Below W2.heap.size W2 W → (W.setCell t (.int .i64 c)).cell? t = some (.int .i64 c) := fun W hW => World.cell?_setCell_same' _ _ _ (by rw [hW.cell (show t.block < W2.heap.size by omega), hb2.cell htl, ht0]; rfl)
  have HB := hb2
  rw [← hW2] at n8 hg2 H HB hlast
  clear hW2 hb2 hs2 hv2 hfr he0 he1 he2 ht0 hf0
  go_enter Tryd.func18, Tryd.ntmps18
  go_wp2_with (go_at_call 28; refine H.mono ?_; rintro e w' ⟨rfl, rfl⟩)
  go_ret
  refine ⟨rfl, ?_, _, ?_, rfl⟩
  · exact hlast _ (((Below.refl _ _).alloc (Nat.le_refl _) _).alloc (by simp) _)
  exact (HB.alloc (by simp; omega) _).alloc (by simp; omega) _

set_option maxRecDepth 100000 in
set_option maxHeartbeats 4000000 in
theorem Code_nil (w : World) : Calls Tryd.prog 8 #[.nilIface] w fun ev w' => ev = .returned (.int .i64 0) ∧ Below w.heap.size w w' := by
  go_enter Tryd.func8, Tryd.ntmps8
  go_wp2
  go_ret
  exact ⟨rfl, (Below.refl _ _).alloc (Nat.le_refl _) _⟩

set_option maxRecDepth 100000 in
set_option maxHeartbeats 4000000 in
theorem Code_fault (c : Int) (op p : ByteArray) (g o : Nat) (w : World) (hG : Gl w)
    (he0 : w.cell? ⟨g, o, none⟩ = some (.string op)) (he1 : w.cell? ⟨g, o + 1, none⟩ = some (.string p)) (he2 : w.cell? ⟨g, o + 2, none⟩ = some (.iface 47 (.int .i64 c))) :
    Calls Tryd.prog 8 #[.iface 61 (.pointer (some ⟨g, o, none⟩))] w fun ev w' => ev = .returned (.int .i64 c) ∧ Below w.heap.size w w' := by
  have hel : g < w.heap.size := by
    rcases Nat.lt_or_ge g w.heap.size with h | h
    · exact h
    · simp [World.cell?, Array.getElem?_eq_none h] at he0
  have hb : Below w.heap.size w (w.alloc (.cells #[.int .i64 0] 47)) := (Below.refl _ _).alloc (Nat.le_refl _) _
  have H := As_errno c op p g o ⟨w.heap.size, 0, none⟩ (.int .i64 0) (w.alloc (.cells #[.int .i64 0] 47)) (hG.below hb) (by simp) (by simp)
    ((hb.cell (p := ⟨g, o, none⟩) hel).trans he0) ((hb.cell (p := ⟨g, o + 1, none⟩) hel).trans he1) ((hb.cell (p := ⟨g, o + 2, none⟩) hel).trans he2)
  replace H : Calls Tryd.prog 18 #[.iface 61 (.pointer (some ⟨g, o, none⟩)), .iface 53 (.pointer (some ⟨w.heap.size, 0, none⟩))] (w.alloc (.cells #[.int .i64 0] 47)) fun ev w' => ev = .returned (.bool true) ∧ w'.cell? ⟨w.heap.size, 0, none⟩ = some (.int .i64 c) ∧ Below w.heap.size w w' := H.mono (by
    rintro e w' ⟨h1, h2, W, h3, rfl⟩
    exact ⟨h1, h2, ((hb.trans (h3.mono hb.size))).setCell (Nat.le_refl _) _⟩)
  clear he0 he1 he2 hG hb
  go_enter Tryd.func8, Tryd.ntmps8
  go_wp2_with (go_at_call 18; refine H.mono ?_; rintro e w' ⟨rfl, hc, hB⟩)
  go_ret
  exact ⟨rfl, hB⟩
end Go.Proofs.YtdmnpofodechpaaDoor.Print
