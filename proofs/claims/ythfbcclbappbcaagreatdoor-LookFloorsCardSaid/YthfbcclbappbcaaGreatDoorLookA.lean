/- look.At as the printed functions tell it, in plain words. -/
import Derived.Test.YthfbcclbappbcaaGreatDoorLayC
import Derived.Test.YthfbcclbappbcaaGreatDoorThC
import Derived.Test.YthfbcclbappbcaaGreatDoorPrint6
namespace Go.Proofs.YthfbcclbappbcaaGreatDoor.Th
open Go Go.RowKit Go.Proofs.YthfbcclbappbcaaGreatDoor.Print Go.Proofs.YthfbcclbappbcaaGreatDoorW.PrintWords
set_option linter.unusedVariables false
set_option linter.unusedSimpArgs false
open Classical
def SL (s : List (List En)) : Prop := s.length ≤ 9 ∧ ∀ l ∈ s, LR l
theorem look_right_l0 (s : List (List En)) (hs : s.length ≤ 1000) (hb : ∀ l ∈ s, ∀ e ∈ l, e.f0.size ≤ 9223372036854775807) : ∀ (n i k : Nat), i + n = s.length → n + 300 < k → (∀ l ∈ s.take i, LR l) → z34.l0 k s s (s.length : Int) (i : Int) = some (decide (SL s)) := by
  intro n
  induction n with
  | zero =>
    intro i k hn hk hq
    obtain ⟨k, rfl⟩ := Nat.exists_eq_add_of_le' (show 1 ≤ k by omega)
    rw [List.take_of_length_le (by omega)] at hq
    rw [z34.l0, if_neg (by omega)]
    exact congrArg some (decide_eq_decide.2 ⟨fun h => ⟨by omega, hq⟩, fun h => by have := h.1; omega⟩)
  | succ n ih =>
    intro i k hn hk hq
    obtain ⟨k, rfl⟩ := Nat.exists_eq_add_of_le' (show 1 ≤ k by omega)
    have hi : i < s.length := by omega
    have hm := List.getElem_mem hi
    rw [z34.l0, if_pos (by omega), if_pos (by omega), if_pos (by omega), rdL_get s i hi, lr_eq _ (hb _ hm) k (by omega), Option.bind_some, wrap_up i (by omega)]
    by_cases hL : LR s[i]
    · rw [decide_eq_true hL, if_pos rfl]
      refine ih (i + 1) k (by omega) (by omega) fun l hl => ?_
      rw [List.take_succ_eq_append_getElem hi] at hl
      rcases List.mem_append.1 hl with hl | hl
      · exact hq l hl
      · rw [List.mem_singleton.1 hl]; exact hL
    · rw [decide_eq_false hL, if_neg (by decide)]
      exact congrArg some (decide_eq_false (fun h => hL (h.2 _ hm))).symm
theorem look_right_eq (s : List (List En)) (hs : s.length ≤ 1000) (hb : ∀ l ∈ s, ∀ e ∈ l, e.f0.size ≤ 9223372036854775807) (k : Nat) (hk : 1400 ≤ k) : z34.f k s = some (decide (SL s)) := by
  unfold z34.f
  exact look_right_l0 s hs hb s.length 0 k (by omega) (by omega) (by rw [List.take_zero]; intro l hl; cases hl)
def fnR : Option En → ByteArray × Int × ByteArray × Bool
  | none => (noB, 0, noB, false)
  | some e => (e.f0, e.f1, e.f2, true)
theorem find_eq (l : List En) (hL : LR l) (p : ByteArray) (k : Nat) (hk : 200 ≤ k) : z36.f k l p = some (fnR (fnd l p.data.toList)) := by
  have hl := hL.2
  unfold z36.f
  obtain ⟨m, hm, hx⟩ := at_eq hL.1.srt p (by omega)
  rw [lr_eq l hL.1.b k hk, Option.bind_some, decide_eq_true hL, if_pos rfl, hm, Option.bind_some]
  dsimp only
  cases hf : fnd l p.data.toList with
  | none => rw [if_neg (by simp)]; rfl
  | some e =>
    obtain ⟨hml, hme⟩ := hx e hf
    rw [if_pos (by rfl), if_pos (by omega), if_pos (by omega), rd_get l m hml, hme]
    rfl
/-- What ask answers. -/
def enc (p : ByteArray) : Seen → ByteArray × Int × ByteArray × Int × Bool
  | .on f m => (p, 2, noB, (f : Int), m)
  | .dir f => (p, 2, noB, (f : Int), true)
  | .none_ => (p, 2, noB, 0, false)
  | .file e i => (e.f0, e.f1, e.f2, (i : Int), true)
theorem ask_l0 (s : List (List En)) (hs : s.length ≤ 1000) (hL : ∀ l ∈ s, LR l) (p : ByteArray) (fl : Nat) : ∀ (n f k : Nat) (met : Bool), n ≤ s.length → 2 * n + 400 < k → (met = false → f = 0) →
    z44.l0 k s p (fl : Int) met ((n : Int) - 1) p 2 noB (f : Int) = some (enc p (askG p.data.toList fl (s.take n).reverse f met)) := by
  intro n
  induction n with
  | zero =>
    intro f k met hn hk hf
    obtain ⟨k, rfl⟩ := Nat.exists_eq_add_of_le' (show 1 ≤ k by omega)
    rw [z44.l0, if_neg (by omega), List.take_zero, List.reverse_nil, askG]
    rfl
  | succ n ih =>
    intro f k met hn hk hf
    obtain ⟨k, rfl⟩ := Nat.exists_eq_add_of_le' (show 2 ≤ k by omega)
    have hi : n < s.length := by omega
    have hLn := hL _ (List.getElem_mem hi)
    have hlen : (s.take n).reverse.length = n := by rw [List.length_reverse, List.length_take]; omega
    have hc : ((n + 1 : Nat) : Int) - 1 = (n : Int) := by omega
    have hw : wrap64 ((n : Int) - 1) = (n : Int) - 1 := by unfold wrap64; omega
    rw [z44.l0, hc, List.take_succ_eq_append_getElem hi, List.reverse_append, List.reverse_singleton, List.singleton_append, askG, hlen]
    by_cases hfl : n < fl
    · rw [if_neg (by omega), if_pos hfl]; rfl
    · rw [if_pos (by omega), if_pos (by omega), if_pos (by omega), if_neg hfl, rdL_get s n hi, find_eq _ hLn p (k + 1) (by omega), Option.bind_some]
      cases hfd : fnd s[n] p.data.toList with
      | none =>
        rw [show fnR none = (noB, 0, noB, false) from rfl]
        dsimp only
        rw [if_neg Bool.false_ne_true, hw]
        exact ih f (k + 1) met (by omega) (by omega) hf
      | some e =>
        rw [show fnR (some e) = (e.f0, e.f1, e.f2, true) from rfl]
        dsimp only
        rw [if_pos rfl]
        by_cases h3 : e.f1 = 3
        · rw [if_pos h3, if_pos (.inl h3), z44.j1, if_pos rfl]
          cases met with
          | true => rfl
          | false => rw [hf rfl]; rfl
        · rw [if_neg h3]
          by_cases h1 : e.f1 = 1
          · rw [if_pos h1]
            cases met with
            | true => rw [if_pos (.inr ⟨h1, rfl⟩), z44.j1, if_pos rfl]; rfl
            | false => rw [if_neg (by rintro (h | h); exact h3 h; exact Bool.noConfusion h.2), if_pos h1, z44.j1, if_neg (by decide), if_pos h1]; rfl
          · rw [if_neg h1, if_neg (by rintro (h | h); exact h3 h; exact h1 h.1), if_neg h1, z44.j1, if_neg (by decide), if_neg h1]
            by_cases h4 : e.f1 = 4
            · rw [if_pos h4, if_pos h4]; rfl
            · rw [if_neg h4, if_neg h4, hw]
              exact ih n k true (by omega) (by omega) (by simp)
theorem ask_eq (s : List (List En)) (hs : s.length ≤ 1000) (hL : ∀ l ∈ s, LR l) (p : ByteArray) (fl k : Nat) (hk : 2500 ≤ k) : z44.f k s p (fl : Int) = some (enc p (askG p.data.toList fl s.reverse 0 false)) := by
  unfold z44.f
  have hw : wrap64 ((s.length : Int) - 1) = (s.length : Int) - 1 := by unfold wrap64; omega
  have := ask_l0 s hs hL p fl s.length 0 k false (Nat.le_refl _) (by omega) (fun _ => rfl)
  rw [List.take_length] at this
  rw [hw]; exact this
/-- What At answers from the i-th name on; L: the names. -/
def atG (s : List (List En)) (L : List By) : Nat → Nat → ByteArray → Int → ByteArray → Nat → ByteArray × Int × ByteArray × Int × List Int
  | 0, _, a, b, d, f => (a, b, d, (f : Int), [])
  | n + 1, i, a, b, d, f => if b = 1 then (noB, 0, noB, 0, [6]) else
    match askG (joinB (L.take (i + 1))) f s.reverse 0 false with
    | .on g true => atG s L n (i + 1) (pathB (L.take (i + 1))) 2 noB g
    | .on _ false => (noB, 0, noB, 0, [3])
    | .dir g => atG s L n (i + 1) (pathB (L.take (i + 1))) 2 noB g
    | .none_ => (noB, 0, noB, 0, [3])
    | .file e j => atG s L n (i + 1) e.f0 e.f1 e.f2 j
theorem pathB_data {L : List By} (h : L ≠ []) : (pathB L).data.toList = joinB L := by unfold pathB; rw [if_neg h, B_data]
theorem at_l0 (s : List (List En)) (hs : s.length ≤ 1000) (hL : ∀ l ∈ s, LR l) (p : ByteArray) (L : List By) (hk6 : Okn L) : ∀ (n i k : Nat) (a : ByteArray) (b : Int) (d : ByteArray) (f : Nat), i + n = L.length → n + 2500 < k →
    z47.l0 k s p (L.map B) (L.length : Int) (i : Int) a b d (f : Int) = some (atG s L n i a b d f) := by
  have h6 := hk6.1
  intro n
  induction n with
  | zero =>
    intro i k a b d f hn hk
    obtain ⟨k, rfl⟩ := Nat.exists_eq_add_of_le' (show 1 ≤ k by omega)
    rw [z47.l0, if_neg (by omega), atG]
  | succ n ih =>
    intro i k a b d f hn hk
    obtain ⟨k, rfl⟩ := Nat.exists_eq_add_of_le' (show 1 ≤ k by omega)
    rw [z47.l0, if_pos (by omega), atG]
    by_cases h1 : b = 1
    · rw [if_pos h1, if_pos h1]; rfl
    · have hne : L.take (i + 1) ≠ [] := fun h => by have := congrArg List.length h; rw [List.length_take, List.length_nil] at this; omega
      rw [if_neg h1, if_neg h1, wrap_up i (by omega), if_pos (by omega), if_pos (by rw [List.length_map]; omega), Int.toNat_natCast, ← List.map_take, join_ok (okn_take hk6 _), Option.bind_some]
      dsimp only
      rw [ask_eq s hs hL _ f k (by omega), Option.bind_some, pathB_data hne]
      cases askG (joinB (L.take (i + 1))) f s.reverse 0 false with
      | on g m =>
        cases m with
        | true => rw [show enc (pathB (L.take (i + 1))) (.on g true) = (pathB (L.take (i + 1)), 2, noB, (g : Int), true) from rfl]; dsimp only; rw [if_pos rfl]; exact ih _ _ _ _ _ _ (by omega) (by omega)
        | false => rw [show enc (pathB (L.take (i + 1))) (.on g false) = (pathB (L.take (i + 1)), 2, noB, (g : Int), false) from rfl]; dsimp only; rw [if_neg Bool.false_ne_true]; rfl
      | dir g => rw [show enc (pathB (L.take (i + 1))) (.dir g) = (pathB (L.take (i + 1)), 2, noB, (g : Int), true) from rfl]; dsimp only; rw [if_pos rfl]; exact ih _ _ _ _ _ _ (by omega) (by omega)
      | none_ => rw [show enc (pathB (L.take (i + 1))) .none_ = (pathB (L.take (i + 1)), 2, noB, 0, false) from rfl]; dsimp only; rw [if_neg Bool.false_ne_true]; rfl
      | file e j => rw [show enc (pathB (L.take (i + 1))) (.file e j) = (e.f0, e.f1, e.f2, (j : Int), true) from rfl]; dsimp only; rw [if_pos rfl]; exact ih _ _ _ _ _ _ (by omega) (by omega)
/-- What At answers. -/
noncomputable def atX (s : List (List En)) (p : ByteArray) : ByteArray × Int × ByteArray × Int × List Int :=
  if SL s then match nm p with
    | some L => atG s L L.length 0 (B [47]) 2 noB 0
    | none => (noB, 0, noB, 0, [2])
  else (noB, 0, noB, 0, [16])
theorem at_x (s : List (List En)) (hs : s.length ≤ 1000) (hb : ∀ l ∈ s, ∀ e ∈ l, e.f0.size ≤ 9223372036854775807) (p : ByteArray) (hp : p.size ≤ 9223372036854775807) (k : Nat) (hk : 3000 ≤ k) : z47.f k s p = some (atX s p) := by
  unfold z47.f atX
  rw [split_eq p hp, Option.bind_some, look_right_eq s hs hb k (by omega), Option.bind_some]
  by_cases hS : SL s
  · rw [decide_eq_true hS, if_pos rfl, if_pos hS]
    cases hn : nm p with
    | none => dsimp only; rw [if_neg (by decide)]; rfl
    | some L =>
      dsimp only
      have hok := nm_ok hn
      have h6 := hok.1
      rw [if_pos (by rfl), List.length_map]
      exact at_l0 s hs hS.2 p L hok L.length 0 k _ _ _ 0 (by omega) (by omega)
  · rw [decide_eq_false hS, if_neg (by decide), if_neg hS]
    rfl
end Go.Proofs.YthfbcclbappbcaaGreatDoor.Th
