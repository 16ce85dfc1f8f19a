/- code.Reader's safe, Num, Str: the walks. -/
import Derived.Test.YtklcceccadlgkaaDoorReaderW
import Derived.Test.YtklcceccadlgkaaDoorSplitP
namespace Go.Proofs.YtklcceccadlgkaaDoor.Print
open Go Go.RowKit Go.Proofs.YtklcceccadlgkaaDoorW.PrintWords Go.Proofs.YtklcceccadlgkaaDoorW.PrintLast Go.Proofs.YtklcceccadlgkaaDoorW.PrintMore
set_option linter.unusedVariables false
set_option linter.unusedSimpArgs false

theorem At_any (a0 a1 : ByteArray) (a2 : Int) (w : World) :
    Calls Tryd.prog 55 #[.string a0, .string a1, .iface 74 (.int .i64 a2)] w fun e w' => e = .returned (.iface 100 (.pointer (some ⟨w.heap.size, 0, none⟩))) ∧ w' = w.alloc (.cells #[.string a0, .string a1, .iface 74 (.int .i64 a2)] 102) := by
  go_enter Tryd.func55, Tryd.ntmps55
  go_wp2
  go_ret
  exact ⟨rfl, rfl⟩
theorem ta_errno (c : Int) (w : World) : (Instr.typeAssert (.iface 74 (.int .i64 c)) 20 74 true).run Tryd.prog w = .ok (.tuple #[.int .i64 c, .bool true]) w := by kernel_rfl
theorem ta_nil (w : World) : (Instr.typeAssert .nilIface 20 74 true).run Tryd.prog w = .ok (.tuple #[.int .i64 0, .bool false]) w := by kernel_rfl
set_option maxHeartbeats 4000000 in
set_option maxRecDepth 100000 in
theorem safe1_panicking (ba br be g : Nat) (s : ByteArray) (a0 a' : Int) (ev : Value) (older : List PanicEntry) (w : World) (h0 : w.cell? ⟨ba, 0, none⟩ = some (.int .i64 a0)) (h1 : w.cell? ⟨br, 0, none⟩ = some (.pointer (some ⟨g, 0, none⟩))) (he : w.cell? ⟨be, 0, none⟩ = some ev) (hef : w.frozen? ⟨be, 0, none⟩ = false) (hR : RdAt w g s a') (hne : ¬ be = g) (hba : ¬ ba = g) (hab : ¬ ba = be) (hbe : be < w.heap.size) (hbal : ba < w.heap.size) (hbrl : br < w.heap.size) :
    CallsD Tryd.prog 121 #[.pointer (some ⟨ba, 0, none⟩), .pointer (some ⟨br, 0, none⟩), .pointer (some ⟨be, 0, none⟩)] (.panicking ({ v := .iface 74 (.int .i64 13), recovered := false } :: older)) w fun e u' w' =>
      e = .returned (.tuple #[]) ∧ u' = .panicking ({ v := .iface 74 (.int .i64 13), recovered := true } :: older) ∧ w' = (((w.setCell ⟨g, 1, none⟩ (.int .i64 a0)).setCell ⟨be, 0, none⟩ (.iface 100 (.pointer (some ⟨w.heap.size, 0, none⟩)))).alloc (.cells #[.string ⟨#[114, 101, 97, 100]⟩, .string ⟨#[]⟩, .iface 74 (.int .i64 13)] 102)).drew := by
  refine callsD_of_wpS Tryd.func121 rfl fun c₀ cs hu => ?_
  apply wpS_seq
  apply wpS_region
  simp [wpOpsS, go_sem, recoverD, hu, Tryd.ntmps121, Exit.thenS, ta_errno]
  refine wpS_of_wp ?_
  have f1 := hR.f1
  have c1 := hR.c1
  have hg : g < w.heap.size := (Array.getElem?_eq_some_iff.1 hR).1
  have HR := Aside0.mk hR
  clear hR
  go_wp2
  go_region_with (go_at_call 55; refine (At_any _ _ _ _).mono ?_; rintro e w' ⟨rfl, rfl⟩)
  all_goals exact ⟨rfl, _, rfl, _, results_none rfl _ _ _, rfl, rfl, rfl⟩
set_option maxHeartbeats 4000000 in
set_option maxRecDepth 100000 in
theorem safe1_idle (pa pr pe : Value) (w : World) :
    CallsD Tryd.prog 121 #[pa, pr, pe] .returning w fun e u' w' => e = .returned (.tuple #[]) ∧ u' = .returning ∧ w' = w := by
  refine callsD_of_wpS Tryd.func121 rfl fun c₀ cs hu => ?_
  apply wpS_seq
  apply wpS_region
  simp [wpOpsS, go_sem, recoverD, hu, Tryd.ntmps121, Exit.thenS, ta_nil]
  refine wpS_of_wp ?_
  go_wp2
  cases c₀
  simp_all [bodyPostS, results, Tryd.results121]
/-- What the work inside leaves: two blocks turned. -/
structure DoKeep (w0 W w' : World) (g bn : Nat) : Prop where
  size : W.heap.size ≤ w'.heap.size
  keep : ∀ k, k < W.heap.size → k ≠ g → k ≠ bn → w'.heap[k]? = W.heap[k]?
  below : Below w0.heap.size w0 w'
theorem DoKeep.cell {w0 W w' : World} {g bn : Nat} (h : DoKeep w0 W w' g bn) {k j : Nat} (hk : k < W.heap.size) (hg : k ≠ g) (hb : k ≠ bn) : w'.cell? ⟨k, j, none⟩ = W.cell? ⟨k, j, none⟩ := by
  unfold World.cell?; rw [h.keep k hk hg hb]
theorem DoKeep.frozen {w0 W w' : World} {g bn : Nat} (h : DoKeep w0 W w' g bn) {k j : Nat} (hk : k < W.heap.size) (hg : k ≠ g) (hb : k ≠ bn) : w'.frozen? ⟨k, j, none⟩ = W.frozen? ⟨k, j, none⟩ := by
  unfold World.frozen?; rw [h.keep k hk hg hb]
set_option maxHeartbeats 8000000 in
set_option maxRecDepth 100000 in
theorem safe_ok (f : FuncId) (lb : Array Value) (g bn : Nat) (tn : TypeId) (s : ByteArray) (a a' : Int) (val : Value) (w0 w : World) (hR : RdAt w g s a) (hg : w0.heap.size ≤ g) (hbn : w0.heap.size ≤ bn) (hbl : bn < w.heap.size) (hne : bn ≠ g) (hB : Below w0.heap.size w0 w)
    (ef : ∀ args w, (callFunc f args).run Tryd.prog w = .ok (.enter f args) w)
    (hdo : ∀ W, Below w.heap.size w W → Calls Tryd.prog f lb W fun e w' => e = .returned (.tuple #[]) ∧ DoKeep w0 W w' g bn ∧ w'.heap[bn]? = some (.cells #[val] tn (0, 0)) ∧ RdAt w' g s a') :
    Calls Tryd.prog 94 #[.pointer (some ⟨g, 0, none⟩), .func (.func f) #[] lb] w fun e w' => e = .returned .nilIface ∧ DoKeep w0 w w' g bn ∧ w'.heap[bn]? = some (.cells #[val] tn (0, 0)) ∧ RdAt w' g s a' := by
  have hmf : ∀ (fn : Fn) (first cap : Array Value) (w : World), (Instr.makeFunc fn first cap).run Tryd.prog w = .ok (.func fn first cap) w := fun _ _ _ _ => rfl
  have hgl : g < w.heap.size := (Array.getElem?_eq_some_iff.1 hR).1
  have c1 := hR.c1
  have HR := Aside0.mk hR
  have HB := Aside0.mk hB
  have HD := Aside0.mk hdo
  clear hR hB hdo
  go_enter_defers Tryd.func94, Tryd.ntmps94
  go_wp2_with fail
  have hsz : (((w.alloc (.cells #[.pointer (some ⟨g, 0, none⟩)] 47)).alloc (.cells #[.nilIface] 29)).alloc (.cells #[.int .i64 a] 3)).heap.size = w.heap.size + 3 := by simp
  have hb5 : Below w.heap.size w (((w.alloc (.cells #[.pointer (some ⟨g, 0, none⟩)] 47)).alloc (.cells #[.nilIface] 29)).alloc (.cells #[.int .i64 a] 3)) := by
    repeat' (first | exact Below.refl _ _ | refine Below.alloc ?_ (by first | exact Nat.le_refl _ | (simp only [World.size_alloc]; omega)) _)
  have x1 : Boxed (((w.alloc (.cells #[.pointer (some ⟨g, 0, none⟩)] 47)).alloc (.cells #[.nilIface] 29)).alloc (.cells #[.int .i64 a] 3)) (w.heap.size + 1) 29 .nilIface := by
    repeat' (first | exact boxed_at _ _ (by first | (simp only [World.size_alloc]; done) | (simp only [World.size_alloc]; omega) | rfl) _ _ | refine Boxed.alloc ?_ _)
  refine (HD.out _ hb5).mono ?_
  generalize (((w.alloc (.cells #[.pointer (some ⟨g, 0, none⟩)] 47)).alloc (.cells #[.nilIface] 29)).alloc (.cells #[.int .i64 a] 3)) = W5 at hsz hb5 x1
  rintro e W' ⟨rfl, hk, hv, hr⟩
  have y1 : Boxed W' (w.heap.size + 1) 29 .nilIface := (hk.keep _ (by omega) (by omega) (by omega)).trans x1
  have g1 := y1.cell
  have f1 := y1.frozen
  have HK := Aside0.mk hk
  have HV := Aside0.mk hv
  have HR2 := Aside0.mk hr
  have HX := Aside0.mk y1
  have HB5 := Aside0.mk hb5
  have HS := Aside0.mk hsz
  clear hk hv hr x1 y1 hb5 hsz
  go_wp2
  refine leaves_cons (f := 121) (args := #[.pointer (some ⟨w.heap.size + 1 + 1, 0, none⟩), .pointer (some ⟨w.heap.size, 0, none⟩), .pointer (some ⟨w.heap.size + 1, 0, none⟩)]) (by simp) (by simp [go_sem]) ?_
  refine (safe1_idle _ _ _ _).mono ?_
  rintro e u' w'' ⟨rfl, rfl, rfl⟩
  have hz := HS.out
  have hk := HK.out
  have z1 := HX.out.set .nilIface
  have c9 := z1.cell
  refine ⟨.nilIface, ?_, ?_⟩
  · simp [results, Tryd.results94, go_sem, c9]
  · refine ⟨rfl, ⟨by rw [World.size_setCell]; have := hk.size; omega, fun k h1 h2 h3 => ?_, hk.below.setCell (p := ⟨w.heap.size + 1, 0, none⟩) (by have := HB.out.size; show w0.heap.size ≤ w.heap.size + 1; omega) _⟩, heap_setCell_ne (by omega) HV.out, HR2.out.far (by show g ≠ w.heap.size + 1; omega) _⟩
    rw [Below.heap_setCell _ _ _ _ (show k ≠ w.heap.size + 1 by omega), hk.keep k (by omega) h2 h3, HB5.out.block k h1]
set_option maxHeartbeats 8000000 in
set_option maxRecDepth 100000 in
theorem safe_bad (f : FuncId) (lb : Array Value) (g bn : Nat) (s : ByteArray) (a : Int) (w0 w : World) (hR : RdAt w g s a) (hg : w0.heap.size ≤ g) (hbn : w0.heap.size ≤ bn) (hbl : bn < w.heap.size) (hne : bn ≠ g) (hB : Below w0.heap.size w0 w)
    (ef : ∀ args w, (callFunc f args).run Tryd.prog w = .ok (.enter f args) w)
    (hdo : ∀ W, Below w.heap.size w W → Calls Tryd.prog f lb W fun e w' => e = .panicked formPanic ∧ DoKeep w0 W w' g bn ∧ ∃ a', RdAt w' g s a') :
    Calls Tryd.prog 94 #[.pointer (some ⟨g, 0, none⟩), .func (.func f) #[] lb] w fun e w' => ∃ F, e = .returned (.iface 100 (.pointer (some ⟨F, 0, none⟩))) ∧ DoKeep w0 w w' g bn ∧ w.heap.size ≤ F ∧ w'.heap[F]? = some (.cells #[.string ⟨#[114, 101, 97, 100]⟩, .string ⟨#[]⟩, .iface 74 (.int .i64 13)] 102 (0, 0)) ∧ RdAt w' g s a := by
  have hmf : ∀ (fn : Fn) (first cap : Array Value) (w : World), (Instr.makeFunc fn first cap).run Tryd.prog w = .ok (.func fn first cap) w := fun _ _ _ _ => rfl
  have hgl : g < w.heap.size := (Array.getElem?_eq_some_iff.1 hR).1
  have c1 := hR.c1
  have HR := Aside0.mk hR
  have HB := Aside0.mk hB
  have HD := Aside0.mk hdo
  clear hR hB hdo
  go_enter_defers Tryd.func94, Tryd.ntmps94
  go_wp2_with fail
  have hsz : (((w.alloc (.cells #[.pointer (some ⟨g, 0, none⟩)] 47)).alloc (.cells #[.nilIface] 29)).alloc (.cells #[.int .i64 a] 3)).heap.size = w.heap.size + 3 := by simp
  have hb5 : Below w.heap.size w (((w.alloc (.cells #[.pointer (some ⟨g, 0, none⟩)] 47)).alloc (.cells #[.nilIface] 29)).alloc (.cells #[.int .i64 a] 3)) := by
    repeat' (first | exact Below.refl _ _ | refine Below.alloc ?_ (by first | exact Nat.le_refl _ | (simp only [World.size_alloc]; omega)) _)
  have x0 : Boxed (((w.alloc (.cells #[.pointer (some ⟨g, 0, none⟩)] 47)).alloc (.cells #[.nilIface] 29)).alloc (.cells #[.int .i64 a] 3)) w.heap.size 47 (.pointer (some ⟨g, 0, none⟩)) := by
    repeat' (first | exact boxed_at _ _ (by first | (simp only [World.size_alloc]; done) | (simp only [World.size_alloc]; omega) | rfl) _ _ | refine Boxed.alloc ?_ _)
  have x1 : Boxed (((w.alloc (.cells #[.pointer (some ⟨g, 0, none⟩)] 47)).alloc (.cells #[.nilIface] 29)).alloc (.cells #[.int .i64 a] 3)) (w.heap.size + 1) 29 .nilIface := by
    repeat' (first | exact boxed_at _ _ (by first | (simp only [World.size_alloc]; done) | (simp only [World.size_alloc]; omega) | rfl) _ _ | refine Boxed.alloc ?_ _)
  have x2 : Boxed (((w.alloc (.cells #[.pointer (some ⟨g, 0, none⟩)] 47)).alloc (.cells #[.nilIface] 29)).alloc (.cells #[.int .i64 a] 3)) (w.heap.size + 1 + 1) 3 (.int .i64 a) := by
    repeat' (first | exact boxed_at _ _ (by first | (simp only [World.size_alloc]; done) | (simp only [World.size_alloc]; omega) | rfl) _ _ | refine Boxed.alloc ?_ _)
  refine (HD.out _ hb5).mono ?_
  generalize (((w.alloc (.cells #[.pointer (some ⟨g, 0, none⟩)] 47)).alloc (.cells #[.nilIface] 29)).alloc (.cells #[.int .i64 a] 3)) = W5 at hsz hb5 x0 x1 x2
  rintro e W' ⟨rfl, hk, a', hr⟩
  have y0 : Boxed W' w.heap.size 47 (.pointer (some ⟨g, 0, none⟩)) := (hk.keep _ (by omega) (by omega) (by omega)).trans x0
  have y1 : Boxed W' (w.heap.size + 1) 29 .nilIface := (hk.keep _ (by omega) (by omega) (by omega)).trans x1
  have y2 : Boxed W' (w.heap.size + 1 + 1) 3 (.int .i64 a) := (hk.keep _ (by omega) (by omega) (by omega)).trans x2
  have hz := hsz
  have hks := hk.size
  refine leaves_cons (f := 121) (args := #[.pointer (some ⟨w.heap.size + 1 + 1, 0, none⟩), .pointer (some ⟨w.heap.size, 0, none⟩), .pointer (some ⟨w.heap.size + 1, 0, none⟩)]) (by simp) (by simp [go_sem]) ?_
  refine (safe1_panicking (w.heap.size + 1 + 1) w.heap.size (w.heap.size + 1) g s a a' .nilIface [] W' y2.cell y0.cell y1.cell y1.frozen hr (by omega) (by omega) (by omega) (by omega) (by omega) (by omega)).mono ?_
  rintro e u' w'' ⟨rfl, rfl, rfl⟩
  have d1 := (hk.below.setCell (p := ⟨g, 1, none⟩) hg (.int .i64 a)).setCell (p := ⟨w.heap.size + 1, 0, none⟩) (by have := HB.out.size; show w0.heap.size ≤ w.heap.size + 1; omega) (.iface 100 (.pointer (some ⟨W'.heap.size, 0, none⟩)))
  have r1 := (hr.set a).far (p := ⟨w.heap.size + 1, 0, none⟩) (by show g ≠ w.heap.size + 1; omega) (.iface 100 (.pointer (some ⟨W'.heap.size, 0, none⟩)))
  have z0 : Boxed (W'.setCell ⟨g, 1, none⟩ (.int .i64 a)) (w.heap.size + 1) 29 .nilIface := (Below.heap_setCell _ _ _ _ (show w.heap.size + 1 ≠ g by omega)).trans y1
  have z1 := z0.set (.iface 100 (.pointer (some ⟨W'.heap.size, 0, none⟩)))
  have k1 : ∀ k, k < w.heap.size → k ≠ g → k ≠ bn → ((W'.setCell ⟨g, 1, none⟩ (.int .i64 a)).setCell ⟨w.heap.size + 1, 0, none⟩ (.iface 100 (.pointer (some ⟨W'.heap.size, 0, none⟩)))).heap[k]? = w.heap[k]? := fun k h1 h2 h3 => by
    rw [Below.heap_setCell _ _ _ _ (show k ≠ w.heap.size + 1 by omega), Below.heap_setCell _ _ _ _ (show k ≠ g from h2), hk.keep k (by omega) h2 h3, hb5.block k h1]
  have s1 : ((W'.setCell ⟨g, 1, none⟩ (.int .i64 a)).setCell ⟨w.heap.size + 1, 0, none⟩ (.iface 100 (.pointer (some ⟨W'.heap.size, 0, none⟩)))).heap.size = W'.heap.size := by rw [World.size_setCell, World.size_setCell]
  generalize (W'.setCell ⟨g, 1, none⟩ (.int .i64 a)).setCell ⟨w.heap.size + 1, 0, none⟩ (.iface 100 (.pointer (some ⟨W'.heap.size, 0, none⟩))) = W6 at d1 r1 z1 k1 s1 ⊢
  have z2 := (z1.alloc (.cells #[.string ⟨#[114, 101, 97, 100]⟩, .string ⟨#[]⟩, .iface 74 (.int .i64 13)] 102)).cell
  have z3 : ((W6.alloc (.cells #[.string ⟨#[114, 101, 97, 100]⟩, .string ⟨#[]⟩, .iface 74 (.int .i64 13)] 102)).drew).cell? ⟨w.heap.size + 1, 0, none⟩ = some (.iface 100 (.pointer (some ⟨W'.heap.size, 0, none⟩))) := z2
  refine ⟨.iface 100 (.pointer (some ⟨W'.heap.size, 0, none⟩)), ?_, W'.heap.size, rfl, ⟨?_, ?_, ?_⟩, by omega, ?_, ?_⟩
  · simp [results, Tryd.results94, go_sem, z2]
  · show w.heap.size ≤ (W6.alloc _).heap.size
    rw [World.size_alloc]; omega
  · intro k h1 h2 h3
    show (W6.alloc _).heap[k]? = _
    rw [Below.heap_alloc _ _ _ (show k < W6.heap.size by omega), k1 k h1 h2 h3]
  · exact below_drew1 (d1.alloc (by rw [s1]; have := HB.out.size; omega) _)
  · show (W6.alloc _).heap[W'.heap.size]? = _
    rw [← s1]; exact World.alloc_heap_new W6 _
  · exact (r1.below (below_alloc (Below.refl _ _) _)).drew
end Go.Proofs.YtklcceccadlgkaaDoor.Print
