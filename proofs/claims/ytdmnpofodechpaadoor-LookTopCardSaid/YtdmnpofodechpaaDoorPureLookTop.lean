/- LookTop: the law's function answers true. -/
import Derived.Test.YtdmnpofodechpaaDoorLookA
import Derived.Test.YtdmnpofodechpaaDoorPrint6
import Derived.Test.YtdmnpofodechpaaDoorPrint6
import Derived.Test.YtdmnpofodechpaaDoorPrint7
namespace Go.Proofs.YtdmnpofodechpaaDoor.Th
open Go Go.RowKit Go.Proofs.YtdmnpofodechpaaDoor.Print Go.Proofs.YtdmnpofodechpaaDoorW.PrintWords
set_option linter.unusedVariables false
set_option linter.unusedSimpArgs false
open Classical
theorem awake12_0 : shalelaw12_awake.f 40 = some true := by kernel_rfl
theorem awake12 (k : Nat) (hk : 40 ≤ k) : shalelaw12_awake.f k = some true := mono_le (fun k => shalelaw12_awake.mono k) hk awake12_0
theorem LR_nil' : LR [] := ⟨Lyr.nil, by simp⟩
theorem askG_top (p : By) (s : List (List En)) (fl : Nat) (h : fl ≤ s.length) : askG p fl (s ++ [[]]).reverse 0 false = askG p fl s.reverse 0 false := by
  rw [List.reverse_append, List.reverse_singleton, List.singleton_append, askG, if_neg (by rw [List.length_reverse]; omega), fnd_nil]
def Lows (N : Nat) : Seen → Prop
  | .on g true => g < N
  | .on _ false => True
  | .dir g => g < N
  | .none_ => True
  | .file _ j => j < N
theorem askG_lt (p : By) (fl N : Nat) : ∀ (r : List (List En)) (f : Nat) (met : Bool), r.length ≤ N → (met = true → f < N) → Lows N (askG p fl r f met)
  | [], f, met, _, hf => by
    rw [askG]
    cases met with
    | true => exact hf rfl
    | false => trivial
  | l :: r, f, met, hr, hf => by
    rw [List.length_cons] at hr
    have hon : Lows N (.on f met) := by
      cases met with
      | true => exact hf rfl
      | false => trivial
    rw [askG]
    split
    · exact hon
    · split
      · exact askG_lt p fl N r f met (by omega) hf
      · split
        · cases met with
          | true => exact hf rfl
          | false => trivial
        · split
          · show r.length < N; omega
          · split
            · show r.length < N; omega
            · exact askG_lt p fl N r r.length true (by omega) (fun _ => by omega)
def sh : Seen → Seen
  | .on g true => .on (g + 1) true
  | .on g false => .on g false
  | .dir g => .dir (g + 1)
  | .none_ => .none_
  | .file e j => .file e (j + 1)
theorem askG_shift (p : By) (fl fl' : Nat) (hfl : fl' = fl + 1 ∨ fl' = 0 ∧ fl = 0) : ∀ (r : List (List En)) (f : Nat) (met : Bool), askG p fl' (r ++ [[]]) (bif met then f + 1 else f) met = sh (askG p fl r f met)
  | [], f, met => by
    rw [List.nil_append, askG, askG, fnd_nil]
    dsimp only
    rw [askG]
    simp only [ite_self]
    cases met <;> rfl
  | l :: r, f, met => by
    rw [List.cons_append, askG, askG, List.length_append, List.length_singleton]
    by_cases h : r.length < fl
    · rw [if_pos h, if_pos (by omega)]; cases met <;> rfl
    · rw [if_neg h, if_neg (by omega)]
      cases fnd l p with
      | none => exact askG_shift p fl fl' hfl r f met
      | some e =>
        dsimp only
        by_cases h3 : e.f1 = 3 ∨ e.f1 = 1 ∧ met = true
        · rw [if_pos h3, if_pos h3]; cases met <;> rfl
        · rw [if_neg h3, if_neg h3]
          by_cases h1 : e.f1 = 1
          · rw [if_pos h1, if_pos h1]; rfl
          · rw [if_neg h1, if_neg h1]
            by_cases h4 : e.f1 = 4
            · rw [if_pos h4, if_pos h4]; rfl
            · rw [if_neg h4, if_neg h4]
              exact askG_shift p fl fl' hfl r r.length true
theorem atG_top (s : List (List En)) (L : List By) : ∀ (n i : Nat) (a : ByteArray) (b : Int) (d : ByteArray) (f : Nat), f ≤ s.length → atG (s ++ [[]]) L n i a b d f = atG s L n i a b d f
  | 0, i, a, b, d, f, _ => rfl
  | n + 1, i, a, b, d, f, hf => by
    rw [atG, atG, askG_top _ s f hf]
    have := askG_lt (joinB (L.take (i + 1))) f s.length s.reverse 0 false (by rw [List.length_reverse]; omega) (by simp)
    split
    · rfl
    · cases hg : askG (joinB (L.take (i + 1))) f s.reverse 0 false with
      | on g m =>
        rw [hg] at this
        cases m with
        | true => exact atG_top s L n _ _ _ _ g (Nat.le_of_lt this)
        | false => rfl
      | dir g => rw [hg] at this; exact atG_top s L n _ _ _ _ g (Nat.le_of_lt this)
      | none_ => rfl
      | file e j => rw [hg] at this; exact atG_top s L n _ _ _ _ j (Nat.le_of_lt this)
def shR (x : ByteArray × Int × ByteArray × Int × List Int) : ByteArray × Int × ByteArray × Int × List Int := (x.1, x.2.1, x.2.2.1, (if x.2.2.2.2 = [] then x.2.2.2.1 + 1 else x.2.2.2.1), x.2.2.2.2)
theorem atG_low (s : List (List En)) (L : List By) : ∀ (n i : Nat) (a : ByteArray) (b : Int) (d : ByteArray) (f f' : Nat), (f' = f + 1 ∨ f' = 0 ∧ f = 0 ∧ 0 < n) → atG ([[]] ++ s) L n i a b d f' = shR (atG s L n i a b d f)
  | 0, i, a, b, d, f, f', h => by
    obtain rfl : f' = f + 1 := by omega
    rw [atG, atG]; unfold shR
    rw [if_pos rfl]; simp
  | n + 1, i, a, b, d, f, f', h => by
    rw [atG, atG]
    have hs := askG_shift (joinB (L.take (i + 1))) f f' (by omega) s.reverse 0 false
    rw [show (bif false then 0 + 1 else 0) = 0 from rfl] at hs
    rw [List.reverse_append, List.reverse_singleton, hs]
    by_cases h1 : b = 1
    · rw [if_pos h1, if_pos h1]; rfl
    · rw [if_neg h1, if_neg h1]
      cases hg : askG (joinB (L.take (i + 1))) f s.reverse 0 false with
      | on g m =>
        cases m with
        | true => exact atG_low s L n _ _ _ _ g (g + 1) (.inl rfl)
        | false => rfl
      | dir g => exact atG_low s L n _ _ _ _ g (g + 1) (.inl rfl)
      | none_ => rfl
      | file e j => exact atG_low s L n _ _ _ _ j (j + 1) (.inl rfl)
theorem atG_end (s : List (List En)) (L : List By) : ∀ (n i : Nat) (a : ByteArray) (b : Int) (d : ByteArray) (f : Nat), f ≤ s.length → ((atG s L n i a b d f).2.2.2.2 = [] ∧ ∃ g : Nat, g ≤ s.length ∧ (atG s L n i a b d f).2.2.2.1 = (g : Int)) ∨ (atG s L n i a b d f).2.2.2.2 = [3] ∨ (atG s L n i a b d f).2.2.2.2 = [6]
  | 0, i, a, b, d, f, hf => .inl ⟨rfl, f, hf, rfl⟩
  | n + 1, i, a, b, d, f, hf => by
    rw [atG]
    have := askG_lt (joinB (L.take (i + 1))) f s.length s.reverse 0 false (by rw [List.length_reverse]; omega) (by simp)
    split
    · exact .inr (.inr rfl)
    · cases hg : askG (joinB (L.take (i + 1))) f s.reverse 0 false with
      | on g m =>
        rw [hg] at this
        cases m with
        | true => exact atG_end s L n _ _ _ _ g (Nat.le_of_lt this)
        | false => exact .inr (.inl rfl)
      | dir g => rw [hg] at this; exact atG_end s L n _ _ _ _ g (Nat.le_of_lt this)
      | none_ => exact .inr (.inl rfl)
      | file e j => rw [hg] at this; exact atG_end s L n _ _ _ _ j (Nat.le_of_lt this)
theorem SL_top {s : List (List En)} (h : s.length ≤ 8) : SL (s ++ [[]]) ↔ SL s := by
  unfold SL
  constructor
  · rintro ⟨_, h2⟩; exact ⟨by omega, fun l hl => h2 l (List.mem_append_left _ hl)⟩
  · rintro ⟨_, h2⟩
    refine ⟨by simp; omega, fun l hl => ?_⟩
    rcases List.mem_append.1 hl with hl | hl
    · exact h2 l hl
    · rw [List.mem_singleton.1 hl]; exact LR_nil'
theorem SL_low {s : List (List En)} (h : s.length ≤ 8) : SL ([[]] ++ s) ↔ SL s := by
  unfold SL
  constructor
  · rintro ⟨_, h2⟩; exact ⟨by omega, fun l hl => h2 l (List.mem_append_right _ hl)⟩
  · rintro ⟨_, h2⟩
    refine ⟨by simp; omega, fun l hl => ?_⟩
    rcases List.mem_append.1 hl with hl | hl
    · rw [List.mem_singleton.1 hl]; exact LR_nil'
    · exact h2 l hl
theorem atX_top {s : List (List En)} (h : s.length ≤ 8) (p : ByteArray) : atX (s ++ [[]]) p = atX s p := by
  unfold atX
  by_cases hS : SL s
  · rw [if_pos hS, if_pos ((SL_top h).2 hS)]
    cases nm p with
    | none => rfl
    | some L => exact atG_top s L _ _ _ _ _ 0 (Nat.zero_le _)
  · rw [if_neg hS, if_neg (fun k => hS ((SL_top h).1 k))]
theorem code_nil' : fail_Code.f [] = some 0 := rfl
theorem code_one' (c : Int) : fail_Code.f [c] = some c := rfl
theorem atX_low {s : List (List En)} (h : s.length ≤ 8) (p : ByteArray) :
    (∃ c : Int, c ≠ 0 ∧ (atX s p).2.2.2.2 = [c] ∧ (atX ([[]] ++ s) p).2.2.2.2 = [c]) ∨
    (p.toList = [47] ∧ atX s p = (B [47], 2, noB, 0, []) ∧ atX ([[]] ++ s) p = (B [47], 2, noB, 0, [])) ∨
    (p.toList ≠ [47] ∧ ∃ g : Nat, g ≤ 8 ∧ (atX s p).2.2.2 = ((g : Int), []) ∧ atX ([[]] ++ s) p = shR (atX s p)) := by
  have hroot : nm p = some [] ↔ p.toList = [47] := by
    constructor
    · intro hn; rw [nm_path hn, lst_data]; unfold pathB; rw [if_pos rfl, B_data]
    · intro h1; unfold nm; rw [← lst_data, h1]; exact splitF_root
  unfold atX
  by_cases hS : SL s
  · rw [if_pos hS, if_pos ((SL_low h).2 hS)]
    cases hn : nm p with
    | none => exact .inl ⟨2, by decide, rfl, rfl⟩
    | some L =>
      dsimp only
      by_cases hL0 : L = []
      · subst hL0
        exact .inr (.inl ⟨hroot.1 hn, rfl, rfl⟩)
      · rw [atG_low s L L.length 0 (B [47]) 2 noB 0 0 (.inr ⟨rfl, rfl, List.length_pos_iff.2 hL0⟩)]
        rcases atG_end s L L.length 0 (B [47]) 2 noB 0 (Nat.zero_le _) with ⟨h1, g, hg, h2⟩ | h1 | h1
        · refine .inr (.inr ⟨fun k => hL0 (Option.some.inj (hn.symm.trans (hroot.2 k))), g, by omega, ?_, rfl⟩)
          rw [← h1, ← h2]
        · exact .inl ⟨3, by decide, h1, h1⟩
        · exact .inl ⟨6, by decide, h1, h1⟩
  · rw [if_neg hS, if_neg (fun k => hS ((SL_low h).1 k))]
    exact .inl ⟨16, by decide, rfl, rfl⟩
theorem LookTop (l0 : List (List En)) (p : ByteArray) : ∃ k, shalelaw12_LookTop.f k l0 p = some true := by
  refine ⟨6000, ?_⟩
  have ja : ∀ k, 100 ≤ k → shalelaw12_LookTop.j0 (k + 1) l0 p true = some true := fun k hk => by
    rw [shalelaw12_LookTop.j0, if_pos rfl, awake12 k (by omega), Option.bind_some]
  unfold shalelaw12_LookTop.f
  rw [awake12 _ (by omega), Option.bind_some, if_pos rfl, few_eq l0 _ (by omega), Option.bind_some]
  by_cases hf : FitS l0
  · rw [if_pos hf, if_neg (by decide)]
    by_cases h100 : p.size ≤ 100
    · rw [if_neg (by omega)]
      by_cases h8 : l0.length ≤ 8
      · have hb : ∀ l ∈ l0, ∀ e ∈ l, e.f0.size ≤ 9223372036854775807 := fun l hl => (hf.2 l hl).b
        have hb1 : ∀ l ∈ l0 ++ [[]], ∀ e ∈ l, e.f0.size ≤ 9223372036854775807 := fun l hl e he => by
          rcases List.mem_append.1 hl with hl | hl
          · exact hb l hl e he
          · rw [List.mem_singleton.1 hl] at he; cases he
        have hb2 : ∀ l ∈ [[]] ++ l0, ∀ e ∈ l, e.f0.size ≤ 9223372036854775807 := fun l hl e he => by
          rcases List.mem_append.1 hl with hl | hl
          · rw [List.mem_singleton.1 hl] at he; cases he
          · exact hb l hl e he
        rw [decide_eq_false (by omega), shalelaw12_LookTop.j0, if_neg (by decide), at_x l0 (by omega) hb p (by omega) _ (by omega), Option.bind_some, Option.bind_some, if_pos (by simp only [List.length_nil]; omega), Option.bind_some, List.nil_append, if_pos (by omega), at_x (l0 ++ [[]]) (by simp; omega) hb1 p (by omega) _ (by omega), atX_top h8, Option.bind_some, Option.bind_some, if_pos (by simp only [List.length_singleton]; omega), at_x ([[]] ++ l0) (by simp; omega) hb2 p (by omega) _ (by omega), Option.bind_some]
        have key := atX_low h8 p
        obtain ⟨A, hA⟩ : ∃ A, A = atX l0 p := ⟨_, rfl⟩
        obtain ⟨C, hC⟩ : ∃ C, C = atX ([[]] ++ l0) p := ⟨_, rfl⟩
        rw [← hA, ← hC] at key
        rw [← hA, ← hC]
        clear hA hC
        obtain ⟨a, b, d, f, e⟩ := A
        obtain ⟨a', b', d', f', e'⟩ := C
        rcases key with ⟨c, hc, h1, h2⟩ | ⟨h0, h1, h2⟩ | ⟨hnr, g, hg, h1, h2⟩
        · simp only at h1 h2
          subst h1 h2
          dsimp only
          rw [code_one', Option.bind_some, if_neg hc, Option.bind_some, Option.bind_some, if_pos rfl, Option.bind_some, Option.bind_some]
          simp
        · injection h2 with q0 q; injection q with q1 q; injection q with q2 q; injection q with q3 q4
          injection h1 with u0 u; injection u with u1 u; injection u with u2 u; injection u with u3 u4
          subst q0 q1 q2 q3 q4 u0 u1 u2 u3 u4
          dsimp only
          rw [code_nil', Option.bind_some, if_pos rfl, Option.bind_some, if_pos rfl, Option.bind_some, if_pos rfl, if_pos (by simp), if_pos (by simp), if_pos h0, if_pos rfl]
        · unfold shR at h2
          simp only [Prod.mk.injEq] at h1 h2
          obtain ⟨rfl, rfl⟩ := h1
          obtain ⟨rfl, rfl, rfl, h3, rfl⟩ := h2
          rw [if_pos rfl] at h3
          subst h3
          have hw : wrap64 ((g : Int) + 1) = (g : Int) + 1 := by unfold wrap64; omega
          dsimp only
          rw [code_nil', Option.bind_some, if_pos rfl, Option.bind_some, if_pos rfl, Option.bind_some, if_pos rfl, if_pos (by simp), if_pos (by simp), if_neg hnr, hw]
          simp
      · rw [decide_eq_true (by omega)]; exact ja _ (by omega)
    · rw [if_pos (by omega)]; exact ja _ (by omega)
  · rw [if_neg hf, if_pos rfl]; exact ja _ (by omega)
end Go.Proofs.YtdmnpofodechpaaDoor.Th
