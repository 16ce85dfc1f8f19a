/- path.Name's walk: by strings.Trim's contract, and, of a text of signs alone, strings.ContainsFunc walked. -/
import Derived.Test.YtdmnpofodechpaaDoorShelf
import Derived.Laws.RangeString
import Derived.Laws.Runes
namespace Go.Proofs.YtdmnpofodechpaaDoor.Print
open Go.RowKit Go.Shelf
set_option linter.unusedVariables false
set_option linter.unusedSimpArgs false

/-- The signs of names. -/
def signs : List UInt8 := [97, 98, 99, 100, 101, 102, 103, 104, 105, 106, 107, 108, 109, 110, 111, 112, 113, 114, 115, 116, 117, 118, 119, 120, 121, 122, 48, 49, 50, 51, 52, 53, 54, 55, 56, 57, 45, 95]
/-- Is it a name? -/
def nameL (l : List UInt8) : Bool := decide (1 ≤ l.length) && (decide (l.length ≤ 8) && l.all signs.contains)
theorem signs_ascii : ∀ b ∈ signs, b.toNat < 128 := by decide
theorem dropWhile_nil (p : UInt8 → Bool) : ∀ l : List UInt8, l.dropWhile p = [] ↔ l.all p = true
  | [] => by simp
  | b :: l => by
    cases h : p b
    · simp [List.dropWhile_cons, h]
    · rw [List.dropWhile_cons, if_pos h, List.all_cons, h, Bool.true_and]
      exact dropWhile_nil p l
theorem dropWhile_head (p : UInt8 → Bool) (b : UInt8) (t : List UInt8) : ∀ l : List UInt8, l.dropWhile p = b :: t → p b = false
  | [], h => by simp at h
  | c :: l, h => by
    cases hc : p c
    · simp [List.dropWhile_cons, hc] at h
      rw [← h.1]; exact hc
    · simp [List.dropWhile_cons, hc] at h
      exact dropWhile_head p b t l h
theorem trim_nil (l : List UInt8) : (Lib.trimS l signs = []) ↔ l.all signs.contains = true := by
  unfold Lib.trimS Lib.trimLeftS Lib.trimRightS
  rw [dropWhile_nil]
  constructor
  · intro h
    have h1 : (l.reverse.dropWhile (signs.contains ·)) = [] := by
      cases hm : l.reverse.dropWhile (signs.contains ·) with
      | nil => rfl
      | cons b t =>
        have h1 : signs.contains b = false := dropWhile_head _ _ _ _ hm
        rw [hm] at h
        have h2 : signs.contains b = true := List.all_eq_true.1 h b (by simp)
        rw [h1] at h2; cases h2
    have := (dropWhile_nil _ _).1 h1
    rwa [List.all_reverse] at this
  · intro h
    have : l.reverse.all (signs.contains ·) = true := by rw [List.all_reverse]; exact h
    rw [(dropWhile_nil _ _).2 this]; rfl

set_option maxHeartbeats 4000000 in
set_option maxRecDepth 100000 in
theorem sign_calls (b : UInt8) (hb : b ∈ signs) (w : World) :
    Calls Tryd.prog 33 #[.int .i32 (b.toNat : Int)] w fun e w' => e = .returned (.bool false) ∧ Below w.heap.size w w' := by
  have hcon := Any.strings_ContainsAny_laid Tryd.lays150 (by kernel_rfl) ⟨#[b]⟩ ⟨signs.toArray⟩ w (by show (1 : Nat) < _; omega) (by decide) (by
    intro j c hc
    have : c = b := by cases j <;> simp at hc; exact hc.symm
    subst this
    exact signs_ascii c hb) (fun j c hc => signs_ascii c (List.mem_of_getElem? hc))
  change Calls Tryd.prog 34 _ _ (fun e w' => e = .returned (.bool (Lib.containsAny [b] signs)) ∧ Below w.heap.size w w') at hcon
  have hv : Lib.containsAny [b] signs = true := by
    unfold Lib.containsAny Lib.indexAny
    rw [if_pos (List.elem_eq_true_of_mem hb)]
    rfl
  rw [hv] at hcon
  have hb128 := signs_ascii b hb
  have hcv : (convert 21 9 (.int .i32 (b.toNat : Int))).run Tryd.prog w = .ok (.string ⟨#[b]⟩) w := by
    rw [run_convert_int_string w _ _ _ _ (by kernel_rfl) Tryd.underlying9]
    have hv : Utf8.valid (b.toNat : Int) = true := by
      unfold Utf8.valid
      simp
      omega
    have he : Utf8.encode (b.toNat : Int) = ⟨#[b]⟩ := by
      unfold Utf8.encode
      simp [hv, hb128]
    rw [he]
  go_enter Tryd.func33, Tryd.ntmps33
  go_wp2_with (go_at_call 34; refine hcon.mono ?_; rintro e w' ⟨rfl, hB⟩)
  go_ret
  exact ⟨rfl, hB⟩

set_option maxHeartbeats 4000000 in
set_option maxRecDepth 100000 in
theorem indexFunc_signs (s : ByteArray) (hs : ∀ (i : Nat) (h : i < s.size), s[i]'h ∈ signs) (w : World) :
    Calls Tryd.prog 68 #[.string s, .func (.func 33) #[] #[], .bool true] w fun e w' => e = .returned (.int .i64 (-1)) ∧ Below w.heap.size w w' := by
  go_enter Tryd.func68, Tryd.ntmps68
  go_wp2
  go_loopg [] s.size (fun gf wx => ∃ pos : Nat, wx.heap[w.heap.size]? = some (.stringIter s pos) ∧ Below w.heap.size w wx ∧ s.size ≤ pos + gf)
  case atStart => exact ⟨0, World.iter_heap w s 0, (Below.refl _ w).alloc (Nat.le_refl _) _, by omega⟩
  case round =>
    obtain ⟨pos, hit, hbw, hfu⟩ := hrel
    by_cases hps : pos < s.size
    · obtain ⟨g', rfl⟩ : ∃ g', gk = g' + 1 := ⟨gk - 1, by omega⟩
      have hnx : ∀ ty, (Instr.next (.pointer (some ⟨w.heap.size, 0, none⟩)) true ty).run Tryd.prog wr = _ := fun ty => Lib.run_next_any_at wr w.heap.size s pos ty hit hps
      have hin := hs pos hps
      rw [Go.decode_ascii s pos hps (signs_ascii _ hin)] at hnx
      have hit2 := Lib.iterAt_heap wr w.heap.size s pos (pos + 1) hit
      have hbw2 := Lib.below_iterAt hbw (k := w.heap.size) (Nat.le_refl _) s (pos + 1)
      generalize hb : s[pos] = b at hin hnx
      obtain ⟨W, hWd⟩ : ∃ W, wr.iterAt w.heap.size s (pos + 1) = W := ⟨_, rfl⟩
      rw [hWd] at hnx hit2 hbw2
      have hltW : w.heap.size < W.heap.size := (Array.getElem?_eq_some_iff.1 hit2).1
      have cS := sign_calls b hin W
      clear hs
      go_wp2_with (go_at_call 33; refine cS.mono ?_; rintro e W' ⟨rfl, hbc⟩)
      go_roundg g'
      case measure => omega
      case rel => exact ⟨pos + 1, (hbc.block _ hltW).trans hit2, (hbw2.trans (hbc.mono hbw2.size)), by omega⟩
    · have hnx : ∀ ty, (Instr.next (.pointer (some ⟨w.heap.size, 0, none⟩)) true ty).run Tryd.prog wr = _ := fun ty => Lib.run_next_end_at wr w.heap.size s pos ty hit hps
      go_wp2
      go_ret
      exact ⟨rfl, hbw⟩

set_option maxHeartbeats 4000000 in
set_option maxRecDepth 100000 in
theorem containsFunc_signs (s : ByteArray) (hs : ∀ (i : Nat) (h : i < s.size), s[i]'h ∈ signs) (w : World) :
    Calls Tryd.prog 32 #[.string s, .func (.func 33) #[] #[]] w fun e w' => e = .returned (.bool false) ∧ Below w.heap.size w w' := by
  have H := indexFunc_signs s hs w
  go_enter Tryd.func32, Tryd.ntmps32
  go_wp2_with (first | (go_at_call 68; refine H.mono ?_; rintro e w' ⟨rfl, hB⟩) | go_in)
  go_ret
  exact ⟨rfl, hB⟩

set_option maxHeartbeats 8000000 in
set_option maxRecDepth 100000 in
theorem Name_calls (s : ByteArray) (w : World) :
    Calls Tryd.prog 21 #[.string s] w fun e w' => e = .returned (.bool (nameL s.data.toList)) ∧ Below w.heap.size w w' := by
  have hT := fun hsz : s.size ≤ 9223372036854775807 => Any.strings_Trim_laid Tryd.lays160 (by kernel_rfl) s ⟨signs.toArray⟩ w hsz (by decide) (fun j c hc => signs_ascii c (List.mem_of_getElem? hc))
  change s.size ≤ 9223372036854775807 → Calls Tryd.prog 31 #[.string s, _] w (fun e w' => e = .returned (.string ⟨(Lib.trimS s.data.toList signs).toArray⟩) ∧ Below w.heap.size w w') at hT
  have hlen : s.data.toList.length = s.size := rfl
  have hR := trim_nil s.data.toList
  generalize Lib.trimS s.data.toList signs = R at hT hR
  have hsig : R = [] → ∀ (i : Nat) (h : i < s.size), s[i]'h ∈ signs := by
    intro h i hi
    have := List.all_eq_true.1 (hR.1 h) (s.data.toList[i]'hi) (List.getElem_mem _)
    have h2 : s.data.toList[i]'hi ∈ signs := by simpa using this
    rw [Array.getElem_toList] at h2
    exact h2
  have hname : nameL s.data.toList = (decide (1 ≤ (s.size : Int)) && (decide ((s.size : Int) ≤ 8) && decide (R = []))) := by
    unfold nameL
    rw [hlen]
    congr 1
    · exact decide_eq_decide.2 (by omega)
    · congr 1
      · exact decide_eq_decide.2 (by omega)
      · exact Bool.eq_iff_iff.2 (by simp only [decide_eq_true_eq]; exact hR.symm)
  rw [hname]
  clear hname hR hlen
  go_enter Tryd.func21, Tryd.ntmps21
  go_wp2_with (first | (go_at_call 31; refine (hT (by omega)).mono ?_; rintro e w' ⟨rfl, hB⟩) | (go_at_call 32; refine (containsFunc_signs s (hsig (by assumption)) _).mono ?_; rintro e w'' ⟨rfl, hB2⟩; have hB3 := hB.trans (hB2.mono hB.size); clear hB hB2; have hB := hB3; clear hB3))
  all_goals (
    go_ret
    refine ⟨?_, by first | assumption | exact Below.refl _ _⟩
    first | (simp [*]; done) | (rw [decide_eq_false (show ¬ (s.size : Int) ≤ 8 by omega)]; simp; done) | (rw [decide_eq_false (show ¬ 1 ≤ (s.size : Int) by omega)]; rfl))
end Go.Proofs.YtdmnpofodechpaaDoor.Print
