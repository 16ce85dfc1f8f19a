/- A map from texts to Bools that the call itself has made: what it answers, and what a store leaves. -/
import Derived.Test.YtklcceccadlgkaaDoorFold3
import Derived.MapKept
namespace Go.Proofs.YtklcceccadlgkaaDoor.Print
open Go Go.RowKit Go.Proofs.YtklcceccadlgkaaDoorW.PrintWords Go.Proofs.YtklcceccadlgkaaDoorW.PrintLast Go.Proofs.YtklcceccadlgkaaDoorW.PrintMore
set_option linter.unusedVariables false
set_option linter.unusedSimpArgs false
def lk : List (ByteArray × Bool) → ByteArray → Bool
  | [], _ => false
  | (a, v) :: r, p => if a = p then v else lk r p
def up : List (ByteArray × Bool) → ByteArray → Bool → List (ByteArray × Bool)
  | [], p, v => [(p, v)]
  | (a, x) :: r, p, v => if a = p then (p, v) :: r else (a, x) :: up r p v
theorem up_len (L : List (ByteArray × Bool)) (p : ByteArray) (v : Bool) : (up L p v).length ≤ L.length + 1 := by
  induction L with
  | nil => simp [up]
  | cons x r ih => obtain ⟨a, y⟩ := x; simp only [up]; split <;> simp <;> omega
def MapB (w : World) (b : Nat) (L : List (ByteArray × Bool)) : Prop := ∃ es clock, w.heap[b]? = some (.map es clock) ∧ es.toList.map (fun e => (e.key, e.val)) = L.map (fun x => (Value.string x.1, Value.bool x.2))
theorem MapB.lt {w : World} {b : Nat} {L : List (ByteArray × Bool)} (h : MapB w b L) : b < w.heap.size := by
  obtain ⟨es, c, h, _⟩ := h
  exact (Array.getElem?_eq_some_iff.1 h).1
theorem MapB.below {w W : World} {b : Nat} {L : List (ByteArray × Bool)} (h : MapB w b L) (hb : Below w.heap.size w W) : MapB W b L := by
  have hl := h.lt
  obtain ⟨es, c, h, h2⟩ := h
  exact ⟨es, c, (hb.block b hl).trans h, h2⟩
theorem KB.cell {w w' : World} {g : Nat} (h : KB w w' g) {a : Addr} {v : Value} (hc : w.cell? a = some v) (hne : a.block ≠ g) : w'.cell? a = some v := by
  have := h.2 a.block (World.block_lt_of_cell? w a hc) hne
  simpa [World.cell?, this] using hc
theorem bbeq (a b : ByteArray) : (a == b) = decide (a = b) := by
  cases a with
  | mk a =>
    cases b with
    | mk b =>
      show (a == b) = _
      by_cases h : a = b
      · subst h; simp
      · have : ¬ (ByteArray.mk a = ByteArray.mk b) := fun e => h (by injection e)
        rw [decide_eq_false this]; simpa using h
theorem find_run (p : ByteArray) : ∀ (es : List MapEntry) (L : List (ByteArray × Bool)) (i : Nat), es.map (fun e => (e.key, e.val)) = L.map (fun x => (Value.string x.1, Value.bool x.2)) →
    (Instr.findNow .string (.string p) es i = some none ∧ lk L p = false ∧ up L p = fun v => L ++ [(p, v)]) ∨ ∃ k, k < es.length ∧ Instr.findNow .string (.string p) es i = some (some (i + k, .bool (lk L p))) ∧ (∀ v, up L p v = L.set k (p, v)) ∧ ∃ x, L[k]? = some x ∧ x.1 = p
  | [], L, i, h => by
    have : L = [] := by simpa using h.symm
    subst this
    exact .inl ⟨rfl, rfl, rfl⟩
  | e :: es, L, i, h => by
    cases L with
    | nil => simp at h
    | cons x r =>
      obtain ⟨a, v⟩ := x
      simp only [List.map_cons, List.cons.injEq, Prod.mk.injEq] at h
      obtain ⟨⟨h1, h2⟩, h3⟩ := h
      by_cases hap : a = p
      · right
        subst hap
        refine ⟨0, by simp, ?_, fun v => ?_, (a, v), rfl, rfl⟩
        · simp [Instr.findNow, Instr.sameNow, h1, h2, lk, bbeq]
        · simp [up]
      · have hne : ¬ p = a := fun e => hap e.symm
        rcases find_run p es r (i + 1) h3 with ⟨g1, g2, g3⟩ | ⟨k, hk, g1, g2, x, hx, hxp⟩
        · left
          refine ⟨?_, ?_, ?_⟩
          · simp [Instr.findNow, Instr.sameNow, h1, hne, g1, bbeq]
          · simp [lk, hap, g2]
          · funext v; simp [up, hap, g3]
        · right
          refine ⟨k + 1, by simpa using hk, ?_, fun v => ?_, x, by simpa using hx, hxp⟩
          · simp only [Instr.findNow, Instr.sameNow, h1, lk, if_neg hap]
            have : (p == a) = false := by rw [bbeq]; exact decide_eq_false hne
            rw [this]
            simp only
            rw [g1]
            congr 3
            omega
          · simp [up, hap, g2]
section
variable {Pg : Program} {t kt et : TypeId} (ht : Pg.underlying t = some (.map kt et)) (hk : Pg.underlying kt = some .string)
include ht hk
omit ht in
theorem check_run (em : Bool) (p : ByteArray) (w : World) : (Instr.checkKey em 10000 kt (.string p)).run Pg w = .ok () w := by
  rw [show (10000 : Nat) = 9999 + 1 from rfl, Instr.checkKey]
  simp [run_underlying hk]
theorem lookup_run (hz : ∀ w, (zeroValue et).run Pg w = .ok (.bool false) w) {w : World} {b : Nat} {L : List (ByteArray × Bool)} (h : MapB w b L) (p : ByteArray) : (Instr.lookup t (.map (some b)) (.string p) false).run Pg w = .ok (.bool (lk L p)) w := by
  obtain ⟨es, c, hh, hm⟩ := h
  have hg := MapKept.run_getObj_map (P := Pg) hh
  rcases find_run p es.toList L 0 hm with ⟨g1, g2, _⟩ | ⟨k, hk0, g1, _⟩
  · simp [Instr.lookup, run_underlying ht, run_underlying hk, hg, check_run hk, Instr.findKey, g1, g2, hz]
  · simp [Instr.lookup, run_underlying ht, run_underlying hk, hg, check_run hk, Instr.findKey, g1]
theorem update_run {w : World} {b : Nat} {L : List (ByteArray × Bool)} (h : MapB w b L) (p : ByteArray) (v : Bool) : ∃ w', (Instr.mapUpdate t (.map (some b)) (.string p) (.bool v)).run Pg w = .ok () w' ∧ MapB w' b (up L p v) ∧ KB w w' b ∧ ∀ B w0, Below B w0 w → B ≤ b → Below B w0 w' := by
  have hlt := h.lt
  obtain ⟨es, c, hh, hm⟩ := h
  have hg := MapKept.run_getObj_map (P := Pg) hh
  have hbel : ∀ o B w0, Below B w0 w → B ≤ b → Below B w0 { w with heap := w.heap.setIfInBounds b o } := fun o B w0 h1 h2 => by
    exact ⟨h1.os, h1.tape, h1.output, by simpa using h1.size, fun k hk => by
      have hne : b ≠ k := by omega
      simpa [hne] using h1.block k hk⟩
  have hkb : ∀ o, KB w { w with heap := w.heap.setIfInBounds b o } b := fun o => ⟨by simp, fun k hk hne => by simp [Ne.symm hne]⟩
  have hself : ∀ o, ({ w with heap := w.heap.setIfInBounds b o } : World).heap[b]? = some o := fun o => by simp [hlt]
  rcases find_run p es.toList L 0 hm with ⟨g1, g2, g3⟩ | ⟨k, hk0, g1, g2, x, hx, hxp⟩
  · refine ⟨{ w with heap := w.heap.setIfInBounds b (.map (es.push { key := .string p, val := .bool v, born := c }) (c + 1)) }, ?_, ⟨_, _, hself _, ?_⟩, hkb _, hbel _⟩
    · have hs := MapKept.run_setObj_map (P := Pg) (.map (es.push { key := .string p, val := .bool v, born := c }) (c + 1)) hh
      simp [Instr.mapUpdate, run_underlying ht, run_underlying hk, hg, check_run hk, Instr.findKey, g1, hs]
    · simp [g3, hm]
  · have hke : (es[k]?).map (·.key) = some (.string p) := by
      have h1 : (es.toList.map (fun e => (e.key, e.val)))[k]? = (L.map (fun x => (Value.string x.1, Value.bool x.2)))[k]? := by rw [hm]
      rw [List.getElem?_map, List.getElem?_map, hx] at h1
      simp only [Option.map_some, Array.getElem?_toList] at h1
      cases he : es[k]? with
      | none => rw [he] at h1; simp at h1
      | some e0 => rw [he] at h1; simp at h1; simp [h1.1, hxp]
    refine ⟨{ w with heap := w.heap.setIfInBounds b (.map (es.modify k fun e => { e with key := .string p, val := .bool v }) c) }, ?_, ⟨_, _, hself _, ?_⟩, hkb _, hbel _⟩
    · have hs := MapKept.run_setObj_map (P := Pg) (.map (es.modify k fun e => { e with key := .string p, val := .bool v }) c) hh
      simp [Instr.mapUpdate, run_underlying ht, run_underlying hk, hg, check_run hk, Instr.findKey, g1, hs, hke, Instr.keyThatStays, Instr.sameBits, bbeq]
    · rw [g2]
      apply List.ext_getElem?
      intro j
      have h1 : (es.toList.map (fun e => (e.key, e.val)))[j]? = (L.map (fun x => (Value.string x.1, Value.bool x.2)))[j]? := by rw [hm]
      simp only [List.getElem?_map, List.getElem?_set, Array.getElem?_toList, Array.getElem?_modify] at h1 ⊢
      by_cases e : k = j
      · subst e
        have hkl : k < L.length := (List.getElem?_eq_some_iff.1 hx).1
        cases he : es[k]? with
        | none => rw [he] at hke; simp at hke
        | some e0 => simp [hkl]
      · simp [e, h1]
end
section
variable {Pg : Program} {ops : Array Oper} {rest : List Oper} {o : Oper} {a : Act} {Q : Exit → Act → World → Prop} {w : World}
theorem gate_insert {t : TypeId} {m k v : Operand} (_ho : o.op = .insert t m k v) (h : wpList Pg ops Q (o :: rest) a w) : wpList Pg ops Q (o :: rest) a w := h
theorem gate_update {t : TypeId} {m k v : Operand} (_ho : o.op = .mapUpdate t m k v) (h : wpList Pg ops Q (o :: rest) a w) : wpList Pg ops Q (o :: rest) a w := h
theorem wp_insert_run (hgd : o.guard = none) (t : TypeId) (m k v : Operand) (ho : o.op = .insert t m k v) (vm vk vv : Value) (hm : a.eval m = vm) (hk : a.eval k = vk) (hv : a.eval v = vv) (w' : World) (hr : (Instr.mapUpdate t vm vk vv).run Pg w = .ok () w') (h : wpList Pg ops Q rest (a.put o.dst undef) w') : wpList Pg ops Q (o :: rest) a w := by
  refine wpList_plain hgd fun K hK => ?_
  unfold Oper.wp
  simp [execOp, ho, hm, hk, hv, hr, Result.andThen]
  exact hK _ _ h
theorem wp_update_run (hgd : o.guard = none) (t : TypeId) (m k v : Operand) (ho : o.op = .mapUpdate t m k v) (vm vk vv : Value) (hm : a.eval m = vm) (hk : a.eval k = vk) (hv : a.eval v = vv) (w' : World) (hr : (Instr.mapUpdate t vm vk vv).run Pg w = .ok () w') (h : wpList Pg ops Q rest (a.put o.dst undef) w') : wpList Pg ops Q (o :: rest) a w := by
  refine wpList_plain hgd fun K hK => ?_
  unfold Oper.wp
  simp [execOp, ho, hm, hk, hv, hr, Result.andThen]
  exact hK _ _ h
theorem step_update_ex {K : Act → World → Prop} {E : Prop} (Pw : World → Prop) (hgd : o.guard = none) (t : TypeId) (m k v : Operand) (ho : o.op = .mapUpdate t m k v) (vm vk vv : Value) (hm : a.eval m = vm) (hk : a.eval k = vk) (hv : a.eval v = vv) (hr : ∃ w', (Instr.mapUpdate t vm vk vv).run Pg w = .ok () w' ∧ Pw w') (h : ∀ w', Aside0 (Pw w') → K (a.put o.dst undef) w') :
    if Region.wanted o (yielded ops a.tmps) = true then Oper.wp Pg o a w K Q else E := by
  obtain ⟨w', hr, hp⟩ := hr
  rw [if_pos (by simp [Region.wanted, hgd])]
  unfold Oper.wp
  simp [execOp, ho, hm, hk, hv, hr, Result.andThen]
  exact h _ ⟨hp⟩
end
end Go.Proofs.YtklcceccadlgkaaDoor.Print
