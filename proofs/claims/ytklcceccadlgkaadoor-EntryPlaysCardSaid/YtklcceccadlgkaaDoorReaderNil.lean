/- A Reader that is nil: what entry.Read answers; and what fail.Code answers of a number alone. -/
import Derived.Test.YtklcceccadlgkaaDoorReaderT
import Derived.Test.YtklcceccadlgkaaDoorAsW
namespace Go.Proofs.YtklcceccadlgkaaDoor.Print
open Go Go.RowKit Go.Extern.Stop Go.Stop Go.Extern Go.Proofs.YtklcceccadlgkaaDoorW.PrintWords Go.Proofs.YtklcceccadlgkaaDoorW.PrintLast Go.Proofs.YtklcceccadlgkaaDoorW.PrintMore
set_option linter.unusedVariables false
set_option linter.unusedSimpArgs false
set_option maxHeartbeats 4000000 in
set_option maxRecDepth 100000 in
theorem safe_nil (f : FuncId) (lb : Array Value) (w : World) :
    Calls Tryd.prog 94 #[.pointer none, .func (.func f) #[] lb] w fun e w' => e = .returned (.iface 74 (.int .i64 1)) ∧ Below w.heap.size w w' := by
  have hmf : ∀ (fn : Fn) (first cap : Array Value) (w : World), (Instr.makeFunc fn first cap).run Tryd.prog w = .ok (.func fn first cap) w := fun _ _ _ _ => rfl
  have hb : Below w.heap.size w (((w.alloc (.cells #[.pointer none] 47)).alloc (.cells #[.nilIface] 29))) := by
    repeat' (first | exact Below.refl _ _ | refine Below.alloc ?_ (by first | exact Nat.le_refl _ | (simp only [World.size_alloc]; omega)) _)
  have HB := Aside0.mk hb
  clear hb
  go_enter_defers Tryd.func94, Tryd.ntmps94
  go_wp2
  refine ⟨.iface 74 (.int .i64 1), ?_, ?_⟩
  · simp [results, Tryd.results94, go_sem]
  · exact ⟨rfl, by repeat' (first | exact Below.refl _ _ | refine Below.alloc ?_ (by first | exact Nat.le_refl _ | (simp only [World.size_alloc]; omega)) _)⟩
set_option maxHeartbeats 4000000 in
set_option maxRecDepth 100000 in
theorem Num_nil (m : Int) (w : World) :
    Calls Tryd.prog 67 #[.pointer none, .int .i64 m] w fun e w' => e = .returned (.tuple #[.int .i64 0, .iface 74 (.int .i64 1)]) ∧ Below w.heap.size w w' := by
  have hmf : ∀ (fn : Fn) (first cap : Array Value) (w : World), (Instr.makeFunc fn first cap).run Tryd.prog w = .ok (.func fn first cap) w := fun _ _ _ _ => rfl
  have ef : ∀ args w, (callFunc 95 args).run Tryd.prog w = .ok (.enter 95 args) w := fun _ _ => by kernel_rfl
  have x2 : Boxed (((w.alloc (.cells #[.pointer none] 47)).alloc (.cells #[.int .i64 m] 3)).alloc (.cells #[.int .i64 0] 3)) (w.heap.size + 1 + 1) 3 (.int .i64 0) := by
    repeat' (first | exact boxed_at _ _ (by first | (simp only [World.size_alloc]; done) | (simp only [World.size_alloc]; omega) | rfl) _ _ | refine Boxed.alloc ?_ _)
  have hb3 : Below w.heap.size w (((w.alloc (.cells #[.pointer none] 47)).alloc (.cells #[.int .i64 m] 3)).alloc (.cells #[.int .i64 0] 3)) := by
    repeat' (first | exact Below.refl _ _ | refine Below.alloc ?_ (by first | exact Nat.le_refl _ | (simp only [World.size_alloc]; omega)) _)
  have hsz : (((w.alloc (.cells #[.pointer none] 47)).alloc (.cells #[.int .i64 m] 3)).alloc (.cells #[.int .i64 0] 3)).heap.size = w.heap.size + 3 := by simp
  have HS := safe_nil 95 #[.pointer (some ⟨w.heap.size, 0, none⟩), .pointer (some ⟨w.heap.size + 1, 0, none⟩), .pointer (some ⟨w.heap.size + 1 + 1, 0, none⟩)] (((w.alloc (.cells #[.pointer none] 47)).alloc (.cells #[.int .i64 m] 3)).alloc (.cells #[.int .i64 0] 3))
  have HZ := Aside0.mk hsz
  have HB3 := Aside0.mk hb3
  have HX2 := Aside0.mk x2
  clear x2 hsz hb3 ef
  go_enter Tryd.func67, Tryd.ntmps67
  go_wp2_with fail
  refine HS.mono ?_
  have hz := HZ.out
  have hb3 := HB3.out
  have x2 := HX2.out
  clear HS HZ HB3 HX2
  generalize (((w.alloc (.cells #[.pointer none] 47)).alloc (.cells #[.int .i64 m] 3)).alloc (.cells #[.int .i64 0] 3)) = W3 at hz hb3 x2 ⊢
  rintro e w1 ⟨rfl, hk⟩
  have c2 : w1.cell? ⟨w.heap.size + 1 + 1, 0, none⟩ = some (.int .i64 0) := (show Boxed w1 (w.heap.size + 1 + 1) 3 (.int .i64 0) from (hk.block _ (by omega)).trans x2).cell
  have HK := Aside0.mk (hb3.trans (hk.mono (by omega)))
  clear hk hz hb3 x2
  go_wp2
  go_ret2
  exact ⟨rfl, HK.out⟩
theorem Errno_neq (W : World) (c : Int) : (binOp .neq 29 (.iface 74 (.int .i64 c)) .nilIface).run Tryd.prog W = .ok (.bool true) W := by kernel_rfl
theorem Errno_eql (W : World) (c : Int) : (binOp .eql 29 (.iface 74 (.int .i64 c)) .nilIface).run Tryd.prog W = .ok (.bool false) W := by kernel_rfl
set_option maxHeartbeats 4000000 in
set_option maxRecDepth 100000 in
theorem Read_nil (w : World) :
    Calls Tryd.prog 38 #[.pointer none] w fun e w' => e = .returned (.tuple #[.agg #[.string ⟨#[]⟩, .int .i64 0, .string ⟨#[]⟩], .iface 74 (.int .i64 1)]) ∧ Below w.heap.size w w' := by
  have hN := Errno_neq
  have hE := Errno_eql
  go_enter Tryd.func38, Tryd.ntmps38
  have hb : Below w.heap.size w (w.alloc (.cells #[.string ⟨#[]⟩, .int .i64 0, .string ⟨#[]⟩] 23)) := (Below.refl _ _).alloc (Nat.le_refl _) _
  go_wp2_with fail
  refine (Num_nil _ _).mono ?_
  rintro e w' ⟨rfl, hB⟩
  have hk : w'.heap[w.heap.size]? = some (.cells #[.string ⟨#[]⟩, .int .i64 0, .string ⟨#[]⟩] 23 (0, 0)) := (hB.block _ (by simp)).trans (by exact Array.getElem?_push_size)
  have c0 : w'.cell? ⟨w.heap.size, 0, none⟩ = some (.string ⟨#[]⟩) := by simp [World.cell?, hk]
  have c1 : w'.cell? ⟨w.heap.size, 1, none⟩ = some (.int .i64 0) := by simp [World.cell?, hk]
  have c2 : w'.cell? ⟨w.heap.size, 2, none⟩ = some (.string ⟨#[]⟩) := by simp [World.cell?, hk]
  have f0 : w'.frozen? ⟨w.heap.size, 0, none⟩ = false := by simp [World.frozen?, hk]
  have f1 : w'.frozen? ⟨w.heap.size, 1, none⟩ = false := by simp [World.frozen?, hk]
  have f2 : w'.frozen? ⟨w.heap.size, 2, none⟩ = false := by simp [World.frozen?, hk]
  have HB := Aside0.mk (hb.trans (hB.mono hb.size))
  have HK := Aside0.mk hk
  clear hB hk hb
  go_wp2
  refine bodyPost_ret (results_ct rfl _ _ w.heap.size 23 #[.string (⟨#[]⟩ : ByteArray), .int .i64 0, .string (⟨#[]⟩ : ByteArray)] (0, 0) _ rfl (by refine blk_put (cs := #[.string (⟨#[]⟩ : ByteArray), .int .i64 0, .string (⟨#[]⟩ : ByteArray)]) ?_ 2 _ rfl; refine blk_put (cs := #[.string (⟨#[]⟩ : ByteArray), .int .i64 0, .string (⟨#[]⟩ : ByteArray)]) ?_ 1 _ rfl; refine blk_put (cs := #[.string (⟨#[]⟩ : ByteArray), .int .i64 0, .string (⟨#[]⟩ : ByteArray)]) ?_ 0 _ rfl; exact HK.out) Tryd.underlying23 rfl (by kernel_rfl)) rfl ?_
  exact ⟨rfl, ((HB.out.setCell (Nat.le_refl _) _).setCell (Nat.le_refl _) _).setCell (Nat.le_refl _) _⟩
set_option maxRecDepth 100000 in
set_option maxHeartbeats 4000000 in
theorem as_number (c : Int) (t a : Addr) (old : Value) (w : World) (ht0 : w.cell? t = some old) (hf0 : w.frozen? t = false) (ha : w.cell? a = some (.pointer (some t))) :
    Calls Tryd.prog 78 #[.iface 74 (.int .i64 c), .iface 78 (.pointer (some t)), .agg #[.pointer (some ⟨4, 78, none⟩), .pointer (some a), .int .u64 150], .iface 140 (.agg #[.pointer (some ⟨4, 74, none⟩)])] w fun ev w' => ev = .returned (.bool true) ∧ w' = ((w.alloc (.cells #[.pointer (some ⟨4, 78, none⟩), .pointer (some a), .int .u64 150] 107)).alloc (.cells #[.int .i64 c] 74)).setCell t (.int .i64 c) := by
  have h107 := @run_callFunc_extern Tryd.prog 107 _ ReflectliteType.typeOf Tryd.func107 (by kernel_rfl) (by kernel_rfl) (by kernel_rfl) (by kernel_rfl)
  have h170 := @run_callFunc_extern Tryd.prog 170 _ (ReflectliteType.relation "AssignableTo" ReflectliteType.assignableTo) Tryd.func170 (by kernel_rfl) (by kernel_rfl) (by kernel_rfl) (by kernel_rfl)
  have h108 := @run_callFunc_extern Tryd.prog 108 _ (ReflectliteValue.method (ReflectliteValue.valueError "reflectlite.Value.Elem" 0) ReflectliteValue.elem) Tryd.func108 (by kernel_rfl) (by kernel_rfl) (by kernel_rfl) (by kernel_rfl)
  have h75 := @run_callFunc_extern Tryd.prog 75 _ (fun args => ReflectliteValue.unpack (args.getD 0 (.tuple #[]))) Tryd.func75 (by kernel_rfl) (by kernel_rfl) (by kernel_rfl) (by kernel_rfl)
  have h109 := @run_callFunc_extern Tryd.prog 109 _ ReflectliteValue.set Tryd.func109 (by kernel_rfl) (by kernel_rfl) (by kernel_rfl) (by kernel_rfl)
  have tO := As.typeOfEN
  have mA := As.methodAssignableTo
  have aE := As.assignableEN
  have vE := As.valueOfEN
  have htl : t.block < w.heap.size := by
    rcases Nat.lt_or_ge t.block w.heap.size with h | h
    · exact h
    · simp [World.cell?, Array.getElem?_eq_none h] at ht0
  have hal : a.block < w.heap.size := by
    rcases Nat.lt_or_ge a.block w.heap.size with h | h
    · exact h
    · simp [World.cell?, Array.getElem?_eq_none h] at ha
  generalize hW1 : w.alloc (.cells #[.pointer (some ⟨4, 78, none⟩), .pointer (some a), .int .u64 150] 107) = W1
  have hb1 : Below w.heap.size w W1 := by rw [← hW1]; exact (Below.refl _ _).alloc (Nat.le_refl _) _
  have hs1 : W1.heap.size = w.heap.size + 1 := by rw [← hW1]; simp
  have el := As.elemVPE a t W1 ((hb1.cell hal).trans ha)
  have st := As.setEN t ⟨w.heap.size + 1, 0, none⟩ c old (W1.alloc (.cells #[.int .i64 c] 74))
    (by rw [World.cell?_alloc_at _ _ _ _ (by simp [hs1])]; rfl)
    (by rw [World.cell?_alloc_lt _ _ t (by omega)]; exact (hb1.cell htl).trans ht0)
    (by rw [World.frozen?_alloc_old _ _ t (by omega), ← hW1, World.frozen?_alloc_old _ _ t (Nat.ne_of_lt htl)]; exact hf0)
  rw [← hW1] at st el ⊢
  clear hW1 hb1 hs1
  go_enter Tryd.func78, Tryd.ntmps78
  go_wp2
  refine wp_loop_rounds 1 ?_
  rw [rounds_succ]
  go_wp2
  go_ret
  exact ⟨rfl, rfl⟩
set_option maxRecDepth 100000 in
set_option maxHeartbeats 4000000 in
theorem As_number (c : Int) (t : Addr) (old : Value) (w : World) (hG : Gl w) (ht0 : w.cell? t = some old) (hf0 : w.frozen? t = false) :
    Calls Tryd.prog 58 #[.iface 74 (.int .i64 c), .iface 78 (.pointer (some t))] w fun ev w' => ev = .returned (.bool true) ∧ w'.cell? t = some (.int .i64 c) ∧ ∃ W, Below w.heap.size w W ∧ w' = W.setCell t (.int .i64 c) := by
  have h6 := @run_callFunc_extern Tryd.prog 75 _ (fun args => ReflectliteValue.unpack (args.getD 0 (.tuple #[]))) Tryd.func75 (by kernel_rfl) (by kernel_rfl) (by kernel_rfl) (by kernel_rfl)
  have h7 := @run_callFunc_extern Tryd.prog 76 _ (ReflectliteValue.methodAny (ReflectliteValue.valueError "reflectlite.Value.Type" 0) (fun t _ _ _ => ReflectliteType.toType t)) Tryd.func76 (by kernel_rfl) (by kernel_rfl) (by kernel_rfl) (by kernel_rfl)
  have h8 := @run_callFunc_extern Tryd.prog 77 _ (ReflectliteValue.method (ReflectliteValue.valueError "reflectlite.Value.IsNil" 0) ReflectliteValue.isNil) Tryd.func77 (by kernel_rfl) (by kernel_rfl) (by kernel_rfl) (by kernel_rfl)
  have h27 := @run_callFunc_extern Tryd.prog 159 _ (ReflectliteType.abiMethod fun t => do pure (.int .u8 (← Rtype.kind t))) Tryd.func159 (by kernel_rfl) (by kernel_rfl) (by kernel_rfl) (by kernel_rfl)
  have h37 := @run_callFunc_extern Tryd.prog 172 _ (ReflectliteType.method ReflectliteType.elem) Tryd.func172 (by kernel_rfl) (by kernel_rfl) (by kernel_rfl) (by kernel_rfl)
  have h38 := @run_callFunc_extern Tryd.prog 173 _ (ReflectliteType.relation "Implements" ReflectliteType.implements_) Tryd.func173 (by kernel_rfl) (by kernel_rfl) (by kernel_rfl) (by kernel_rfl)
  have f6 := As.valueOfPE
  have f7 := As.typePE
  have mK := As.methodKind
  have mE := As.methodElem
  have mI := As.methodImplements
  have k27 := As.kindPE
  have k25 := As.kindEN
  have e27 := As.elemPE
  have i25 := As.implementsEN
  have hlt := hG.lt
  have htl : t.block < w.heap.size := by
    rcases Nat.lt_or_ge t.block w.heap.size with h | h
    · exact h
    · simp [World.cell?, Array.getElem?_eq_none h] at ht0
  generalize hW2 : ((w.alloc (.cells #[.pointer (some t)] 78)).alloc (.cells #[.pointer (some ⟨4, 78, none⟩), .pointer (some ⟨w.heap.size, 0, none⟩), .int .u64 150] 107)) = W2
  have hb2 : Below w.heap.size w W2 := by rw [← hW2]; exact ((Below.refl _ _).alloc (Nat.le_refl _) _).alloc (by simp) _
  have hs2 : W2.heap.size = w.heap.size + 1 + 1 := by rw [← hW2]; simp
  have hv2 : W2.cell? ⟨w.heap.size, 0, none⟩ = some (.pointer (some t)) := by rw [← hW2, World.cell?_alloc_lt _ _ ⟨w.heap.size, 0, none⟩ (by simp)]; simp
  have n8 := As.isNilPE ⟨w.heap.size, 0, none⟩ t W2 hv2
  have hg2 : W2.cell? ⟨0, 0, none⟩ = some (.iface 140 (.agg #[.pointer (some ⟨4, 29, none⟩)])) := hG.below hb2
  have hfr : W2.frozen? t = false := by rw [← hW2, World.frozen?_alloc_old _ _ t (by simp; omega), World.frozen?_alloc_old _ _ t (Nat.ne_of_lt htl)]; exact hf0
  have H := as_number c t ⟨w.heap.size, 0, none⟩ old W2 ((hb2.cell htl).trans ht0) hfr hv2
  have hlast : ∀ W, Below W2.heap.size W2 W → (W.setCell t (.int .i64 c)).cell? t = some (.int .i64 c) := fun W hW => World.cell?_setCell_same' _ _ _ (by rw [hW.cell (show t.block < W2.heap.size by omega), hb2.cell htl, ht0]; rfl)
  have HB := hb2
  rw [← hW2] at n8 hg2 H HB hlast
  clear hW2 hb2 hs2 hv2 hfr ht0 hf0
  go_enter Tryd.func58, Tryd.ntmps58
  go_wp2_with (go_at_call 78; refine H.mono ?_; rintro e w' ⟨rfl, rfl⟩)
  go_ret
  refine ⟨rfl, ?_, _, ?_, rfl⟩
  · exact hlast _ (((Below.refl _ _).alloc (Nat.le_refl _) _).alloc (by simp) _)
  exact (HB.alloc (by simp; omega) _).alloc (by simp; omega) _
set_option maxRecDepth 100000 in
set_option maxHeartbeats 4000000 in
theorem Code_number (c : Int) (w : World) (hG : Gl w) :
    Calls Tryd.prog 26 #[.iface 74 (.int .i64 c)] w fun ev w' => ev = .returned (.int .i64 c) ∧ Below w.heap.size w w' := by
  have hN := Errno_neq
  have hE := Errno_eql
  have hb : Below w.heap.size w (w.alloc (.cells #[.int .i64 0] 74)) := (Below.refl _ _).alloc (Nat.le_refl _) _
  have H := As_number c ⟨w.heap.size, 0, none⟩ (.int .i64 0) (w.alloc (.cells #[.int .i64 0] 74)) (hG.below hb) (by simp) (by simp)
  replace H : Calls Tryd.prog 58 #[.iface 74 (.int .i64 c), .iface 78 (.pointer (some ⟨w.heap.size, 0, none⟩))] (w.alloc (.cells #[.int .i64 0] 74)) fun ev w' => ev = .returned (.bool true) ∧ w'.cell? ⟨w.heap.size, 0, none⟩ = some (.int .i64 c) ∧ Below w.heap.size w w' := H.mono (by
    rintro e w' ⟨h1, h2, W, h3, rfl⟩
    exact ⟨h1, h2, ((hb.trans (h3.mono hb.size))).setCell (Nat.le_refl _) _⟩)
  clear hG hb
  go_enter Tryd.func26, Tryd.ntmps26
  go_wp2_with (go_at_call 58; refine H.mono ?_; rintro e w' ⟨rfl, hc, hB⟩)
  go_ret
  exact ⟨rfl, hB⟩
end Go.Proofs.YtklcceccadlgkaaDoor.Print
