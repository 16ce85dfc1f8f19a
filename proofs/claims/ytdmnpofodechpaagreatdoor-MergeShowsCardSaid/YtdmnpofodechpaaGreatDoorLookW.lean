/- look.At as the printed functions tell it, in plain words. -/
import Derived.Test.YtdmnpofodechpaaGreatDoorLayC
import Derived.Test.YtdmnpofodechpaaGreatDoorThC
import Derived.Test.YtdmnpofodechpaaGreatDoorPrint5
section
namespace Go.Proofs.YtdmnpofodechpaaGreatDoor.Th
open Go Go.RowKit Go.Proofs.YtdmnpofodechpaaGreatDoor.Print Go.Proofs.YtdmnpofodechpaaGreatDoorW.PrintWords
set_option linter.unusedVariables false
set_option linter.unusedSimpArgs false
open Classical
def SL (s : List (List En)) : Prop := s.length ≤ 9 ∧ ∀ l ∈ s, LR l
theorem look_right_l0 (s : List (List En)) (hs : s.length ≤ 1000) (hb : ∀ l ∈ s, ∀ e ∈ l, e.f0.size ≤ 9223372036854775807) : ∀ (n i k : Nat), i + n = s.length → n + 300 < k → (∀ l ∈ s.take i, LR l) → look_right.l0 k s s (s.length : Int) (i : Int) = some (decide (SL s)) := by
  intro n
  induction n with
  | zero =>
    intro i k hn hk hq
    obtain ⟨k, rfl⟩ := Nat.exists_eq_add_of_le' (show 1 ≤ k by omega)
    rw [List.take_of_length_le (by omega)] at hq
    rw [look_right.l0, if_neg (by omega)]
    exact congrArg some (decide_eq_decide.2 ⟨fun h => ⟨by omega, hq⟩, fun h => by have := h.1; omega⟩)
  | succ n ih =>
    intro i k hn hk hq
    obtain ⟨k, rfl⟩ := Nat.exists_eq_add_of_le' (show 1 ≤ k by omega)
    have hi : i < s.length := by omega
    have hm := List.getElem_mem hi
    rw [look_right.l0, if_pos (by omega), if_pos (by omega), if_pos (by omega), rdL_get s i hi, lr_eq _ (hb _ hm) k (by omega), Option.bind_some, wrap_up i (by omega)]
    by_cases hL : LR s[i]
    · rw [decide_eq_true hL, if_pos rfl]
      refine ih (i + 1) k (by omega) (by omega) fun l hl => ?_
      rw [List.take_succ_eq_append_getElem hi] at hl
      rcases List.mem_append.1 hl with hl | hl
      · exact hq l hl
      · rw [List.mem_singleton.1 hl]; exact hL
    · rw [decide_eq_false hL, if_neg (by decide)]
      exact congrArg some (decide_eq_false (fun h => hL (h.2 _ hm))).symm
theorem look_right_eq (s : List (List En)) (hs : s.length ≤ 1000) (hb : ∀ l ∈ s, ∀ e ∈ l, e.f0.size ≤ 9223372036854775807) (k : Nat) (hk : 1400 ≤ k) : look_right.f k s = some (decide (SL s)) := by
  unfold look_right.f
  exact look_right_l0 s hs hb s.length 0 k (by omega) (by omega) (by rw [List.take_zero]; intro l hl; cases hl)
def fnR : Option En → ByteArray × Int × ByteArray × Bool
  | none => (noB, 0, noB, false)
  | some e => (e.f0, e.f1, e.f2, true)
theorem find_eq (l : List En) (hL : LR l) (p : ByteArray) (k : Nat) (hk : 200 ≤ k) : layer_Find.f k l p = some (fnR (fnd l p.data.toList)) := by
  have hl := hL.2
  unfold layer_Find.f
  obtain ⟨m, hm, hx⟩ := at_eq hL.1.srt p (by omega)
  rw [lr_eq l hL.1.b k hk, Option.bind_some, decide_eq_true hL, if_pos rfl, hm, Option.bind_some]
  dsimp only
  cases hf : fnd l p.data.toList with
  | none => rw [if_neg (by simp)]; rfl
  | some e =>
    obtain ⟨hml, hme⟩ := hx e hf
    rw [if_pos (by rfl), if_pos (by omega), if_pos (by omega), rd_get l m hml, hme]
    rfl
/-- What ask answers. -/
def enc (p : ByteArray) : Seen → ByteArray × Int × ByteArray × Int × Bool
  | .on f m => (p, 2, noB, (f : Int), m)
  | .dir f => (p, 2, noB, (f : Int), true)
  | .none_ => (p, 2, noB, 0, false)
  | .file e i => (e.f0, e.f1, e.f2, (i : Int), true)
theorem ask_l0 (s : List (List En)) (hs : s.length ≤ 1000) (hL : ∀ l ∈ s, LR l) (p : ByteArray) (fl : Nat) : ∀ (n f k : Nat) (met : Bool), n ≤ s.length → 2 * n + 400 < k → (met = false → f = 0) →
    look_ask.l0 k s p (fl : Int) met ((n : Int) - 1) p 2 noB (f : Int) = some (enc p (askG p.data.toList fl (s.take n).reverse f met)) := by
  intro n
  induction n with
  | zero =>
    intro f k met hn hk hf
    obtain ⟨k, rfl⟩ := Nat.exists_eq_add_of_le' (show 1 ≤ k by omega)
    rw [look_ask.l0, if_neg (by omega), List.take_zero, List.reverse_nil, askG]
    rfl
  | succ n ih =>
    intro f k met hn hk hf
    obtain ⟨k, rfl⟩ := Nat.exists_eq_add_of_le' (show 2 ≤ k by omega)
    have hi : n < s.length := by omega
    have hLn := hL _ (List.getElem_mem hi)
    have hlen : (s.take n).reverse.length = n := by rw [List.length_reverse, List.length_take]; omega
    have hc : ((n + 1 : Nat) : Int) - 1 = (n : Int) := by omega
    have hw : wrap64 ((n : Int) - 1) = (n : Int) - 1 := by unfold wrap64; omega
    rw [look_ask.l0, hc, List.take_succ_eq_append_getElem hi, List.reverse_append, List.reverse_singleton, List.singleton_append, askG, hlen]
    by_cases hfl : n < fl
    · rw [if_neg (by omega), if_pos hfl]; rfl
    · rw [if_pos (by omega), if_pos (by omega), if_pos (by omega), if_neg hfl, rdL_get s n hi, find_eq _ hLn p (k + 1) (by omega), Option.bind_some]
      cases hfd : fnd s[n] p.data.toList with
      | none =>
        rw [show fnR none = (noB, 0, noB, false) from rfl]
        dsimp only
        rw [if_neg Bool.false_ne_true, hw]
        exact ih f (k + 1) met (by omega) (by omega) hf
      | some e =>
        rw [show fnR (some e) = (e.f0, e.f1, e.f2, true) from rfl]
        dsimp only
        rw [if_pos rfl]
        by_cases h3 : e.f1 = 3
        · rw [if_pos h3, if_pos (.inl h3), look_ask.j1, if_pos rfl]
          cases met with
          | true => rfl
          | false => rw [hf rfl]; rfl
        · rw [if_neg h3]
          by_cases h1 : e.f1 = 1
          · rw [if_pos h1]
            cases met with
            | true => rw [if_pos (.inr ⟨h1, rfl⟩), look_ask.j1, if_pos rfl]; rfl
            | false => rw [if_neg (by rintro (h | h); exact h3 h; exact Bool.noConfusion h.2), if_pos h1, look_ask.j1, if_neg (by decide), if_pos h1]; rfl
          · rw [if_neg h1, if_neg (by rintro (h | h); exact h3 h; exact h1 h.1), if_neg h1, look_ask.j1, if_neg (by decide), if_neg h1]
            by_cases h4 : e.f1 = 4
            · rw [if_pos h4, if_pos h4]; rfl
            · rw [if_neg h4, if_neg h4, hw]
              exact ih n k true (by omega) (by omega) (by simp)
theorem ask_eq (s : List (List En)) (hs : s.length ≤ 1000) (hL : ∀ l ∈ s, LR l) (p : ByteArray) (fl k : Nat) (hk : 2500 ≤ k) : look_ask.f k s p (fl : Int) = some (enc p (askG p.data.toList fl s.reverse 0 false)) := by
  unfold look_ask.f
  have hw : wrap64 ((s.length : Int) - 1) = (s.length : Int) - 1 := by unfold wrap64; omega
  have := ask_l0 s hs hL p fl s.length 0 k false (Nat.le_refl _) (by omega) (fun _ => rfl)
  rw [List.take_length] at this
  rw [hw]; exact this
/-- What At answers from the i-th name on; L: the names. -/
def atG (s : List (List En)) (L : List By) : Nat → Nat → ByteArray → Int → ByteArray → Nat → ByteArray × Int × ByteArray × Int × List Int
  | 0, _, a, b, d, f => (a, b, d, (f : Int), [])
  | n + 1, i, a, b, d, f => if b = 1 then (noB, 0, noB, 0, [6]) else
    match askG (joinB (L.take (i + 1))) f s.reverse 0 false with
    | .on g true => atG s L n (i + 1) (pathB (L.take (i + 1))) 2 noB g
    | .on _ false => (noB, 0, noB, 0, [3])
    | .dir g => atG s L n (i + 1) (pathB (L.take (i + 1))) 2 noB g
    | .none_ => (noB, 0, noB, 0, [3])
    | .file e j => atG s L n (i + 1) e.f0 e.f1 e.f2 j
theorem pathB_data {L : List By} (h : L ≠ []) : (pathB L).data.toList = joinB L := by unfold pathB; rw [if_neg h, B_data]
theorem at_l0 (s : List (List En)) (hs : s.length ≤ 1000) (hL : ∀ l ∈ s, LR l) (p : ByteArray) (L : List By) (hk6 : Okn L) : ∀ (n i k : Nat) (a : ByteArray) (b : Int) (d : ByteArray) (f : Nat), i + n = L.length → n + 2500 < k →
    look_At.l0 k s p (L.map B) (L.length : Int) (i : Int) a b d (f : Int) = some (atG s L n i a b d f) := by
  have h6 := hk6.1
  intro n
  induction n with
  | zero =>
    intro i k a b d f hn hk
    obtain ⟨k, rfl⟩ := Nat.exists_eq_add_of_le' (show 1 ≤ k by omega)
    rw [look_At.l0, if_neg (by omega), atG]
  | succ n ih =>
    intro i k a b d f hn hk
    obtain ⟨k, rfl⟩ := Nat.exists_eq_add_of_le' (show 1 ≤ k by omega)
    rw [look_At.l0, if_pos (by omega), atG]
    by_cases h1 : b = 1
    · rw [if_pos h1, if_pos h1]; rfl
    · have hne : L.take (i + 1) ≠ [] := fun h => by have := congrArg List.length h; rw [List.length_take, List.length_nil] at this; omega
      rw [if_neg h1, if_neg h1, wrap_up i (by omega), if_pos (by omega), if_pos (by rw [List.length_map]; omega), Int.toNat_natCast, ← List.map_take, join_ok (okn_take hk6 _), Option.bind_some]
      dsimp only
      rw [ask_eq s hs hL _ f k (by omega), Option.bind_some, pathB_data hne]
      cases askG (joinB (L.take (i + 1))) f s.reverse 0 false with
      | on g m =>
        cases m with
        | true => rw [show enc (pathB (L.take (i + 1))) (.on g true) = (pathB (L.take (i + 1)), 2, noB, (g : Int), true) from rfl]; dsimp only; rw [if_pos rfl]; exact ih _ _ _ _ _ _ (by omega) (by omega)
        | false => rw [show enc (pathB (L.take (i + 1))) (.on g false) = (pathB (L.take (i + 1)), 2, noB, (g : Int), false) from rfl]; dsimp only; rw [if_neg Bool.false_ne_true]; rfl
      | dir g => rw [show enc (pathB (L.take (i + 1))) (.dir g) = (pathB (L.take (i + 1)), 2, noB, (g : Int), true) from rfl]; dsimp only; rw [if_pos rfl]; exact ih _ _ _ _ _ _ (by omega) (by omega)
      | none_ => rw [show enc (pathB (L.take (i + 1))) .none_ = (pathB (L.take (i + 1)), 2, noB, 0, false) from rfl]; dsimp only; rw [if_neg Bool.false_ne_true]; rfl
      | file e j => rw [show enc (pathB (L.take (i + 1))) (.file e j) = (e.f0, e.f1, e.f2, (j : Int), true) from rfl]; dsimp only; rw [if_pos rfl]; exact ih _ _ _ _ _ _ (by omega) (by omega)
/-- What At answers. -/
noncomputable def atX (s : List (List En)) (p : ByteArray) : ByteArray × Int × ByteArray × Int × List Int :=
  if SL s then match nm p with
    | some L => atG s L L.length 0 (B [47]) 2 noB 0
    | none => (noB, 0, noB, 0, [2])
  else (noB, 0, noB, 0, [16])
theorem at_x (s : List (List En)) (hs : s.length ≤ 1000) (hb : ∀ l ∈ s, ∀ e ∈ l, e.f0.size ≤ 9223372036854775807) (p : ByteArray) (hp : p.size ≤ 9223372036854775807) (k : Nat) (hk : 3000 ≤ k) : look_At.f k s p = some (atX s p) := by
  unfold look_At.f atX
  rw [split_eq p hp, Option.bind_some, look_right_eq s hs hb k (by omega), Option.bind_some]
  by_cases hS : SL s
  · rw [decide_eq_true hS, if_pos rfl, if_pos hS]
    cases hn : nm p with
    | none => dsimp only; rw [if_neg (by decide)]; rfl
    | some L =>
      dsimp only
      have hok := nm_ok hn
      have h6 := hok.1
      rw [if_pos (by rfl), List.length_map]
      exact at_l0 s hs hS.2 p L hok L.length 0 k _ _ _ 0 (by omega) (by omega)
  · rw [decide_eq_false hS, if_neg (by decide), if_neg hS]
    rfl
end Go.Proofs.YtdmnpofodechpaaGreatDoor.Th
end
section
namespace Go.Proofs.YtdmnpofodechpaaGreatDoor.Th
open Go Go.RowKit Go.Proofs.YtdmnpofodechpaaGreatDoor.Print Go.Proofs.YtdmnpofodechpaaGreatDoorW.PrintWords
set_option linter.unusedVariables false
set_option linter.unusedSimpArgs false
open Classical
/-- One name's step. -/
def atS (s : List (List En)) (L : List By) (i : Nat) (b : Int) (f : Nat) : ByteArray × Int × ByteArray × Int × List Int :=
  if b = 1 then (noB, 0, noB, 0, [6]) else
    match askG (joinB (L.take (i + 1))) f s.reverse 0 false with
    | .on g true => (pathB (L.take (i + 1)), 2, noB, (g : Int), [])
    | .on _ false => (noB, 0, noB, 0, [3])
    | .dir g => (pathB (L.take (i + 1)), 2, noB, (g : Int), [])
    | .none_ => (noB, 0, noB, 0, [3])
    | .file e j => (e.f0, e.f1, e.f2, (j : Int), [])
theorem atG_snoc (s : List (List En)) (L : List By) : ∀ (n i : Nat) (a : ByteArray) (b : Int) (d : ByteArray) (f : Nat),
    (∃ a' b' d', ∃ f' : Nat, atG s L n i a b d f = (a', b', d', (f' : Int), []) ∧ atG s L (n + 1) i a b d f = atS s L (i + n) b' f') ∨
    (∃ c : Int, (c = 3 ∨ c = 6) ∧ atG s L n i a b d f = (noB, 0, noB, 0, [c]) ∧ atG s L (n + 1) i a b d f = (noB, 0, noB, 0, [c]))
  | 0, i, a, b, d, f => by
    refine .inl ⟨a, b, d, f, rfl, ?_⟩
    rw [atG, atS, Nat.add_zero]
    split
    · rfl
    · cases askG (joinB (L.take (i + 1))) f s.reverse 0 false with
      | on g m => cases m <;> rfl
      | dir g => rfl
      | none_ => rfl
      | file e j => rfl
  | n + 1, i, a, b, d, f => by
    have e1 : i + (n + 1) = (i + 1) + n := by omega
    rw [e1, atG, atG]
    by_cases hb : b = 1
    · rw [if_pos hb, if_pos hb]; exact .inr ⟨6, .inr rfl, rfl, rfl⟩
    · rw [if_neg hb, if_neg hb]
      cases askG (joinB (L.take (i + 1))) f s.reverse 0 false with
      | on g m =>
        cases m with
        | true => exact atG_snoc s L n (i + 1) _ _ _ g
        | false => exact .inr ⟨3, .inl rfl, rfl, rfl⟩
      | dir g => exact atG_snoc s L n (i + 1) _ _ _ g
      | none_ => exact .inr ⟨3, .inl rfl, rfl, rfl⟩
      | file e j => exact atG_snoc s L n (i + 1) _ _ _ j
/-- What the answer says. -/
structure At (s : List (List En)) (L : List By) (x : ByteArray × Int × ByteArray × Int × List Int) : Prop where
  bad : x.2.2.2.2 ≠ [] → (x = (noB, 0, noB, 0, [3]) ∨ x = (noB, 0, noB, 0, [6])) ∧ L ≠ [] ∧ shows s (joinB L) = none
  good : x.2.2.2.2 = [] → ∃ f : Nat, x.2.2.2.1 = (f : Int) ∧ (L = [] ∧ x = (B [47], 2, noB, 0, []) ∨ L ≠ [] ∧ f < s.length ∧ shows s (joinB L) = some ⟨x.1, x.2.1, x.2.2.1⟩) ∧
    (x.2.1 = 2 ∧ Inv s (joinB L) f ∨ x.2.1 = 1 ∧ ∃ l, s[f]? = some l ∧ fnd l (joinB L) = some ⟨x.1, x.2.1, x.2.2.1⟩)
theorem pth_join {L : List By} (h : Okn L) (hn : L ≠ []) : Pth (joinB L) ∧ parB (joinB L) = joinB L.dropLast := by
  have := splitF_join h hn
  exact ⟨⟨L, this, hn⟩, by unfold parB; rw [this]; rfl⟩
theorem shows_dir {s : List (List En)} (hs : ∀ l ∈ s, Lyr l) {L : List By} (hn : L ≠ []) {e : En} (h : shows s (joinB L) = some e) (h2 : e.f1 = 2) : e = ⟨pathB L, 2, noB⟩ := by
  obtain ⟨hk, hr, _⟩ := (shows_tre hs).rt _ e h
  have h3 := hr.noda (by omega)
  refine en_ext ?_ h2 (by unfold da; rw [h3])
  rw [hk]; unfold ky; rw [pathB_data hn]
theorem at_ok {s : List (List En)} (hs : ∀ l ∈ s, Lyr l) {L : List By} (hL : Okn L) : ∀ n, n ≤ L.length → At s (L.take n) (atG s L n 0 (B [47]) 2 noB 0)
  | 0, _ => ⟨fun h => absurd rfl h, fun _ => ⟨0, rfl, .inl ⟨rfl, rfl⟩, .inl ⟨rfl, Inv.root hs⟩⟩⟩
  | n + 1, hn => by
    have ih := at_ok hs hL n (by omega)
    have hne : L.take (n + 1) ≠ [] := fun h => by have := congrArg List.length h; rw [List.length_take, List.length_nil] at this; omega
    have hok : Okn (L.take (n + 1)) := okn_take hL _
    obtain ⟨hP, hpar⟩ := pth_join hok hne
    have hdl : (L.take (n + 1)).dropLast = L.take n := by
      rw [List.dropLast_eq_take, List.take_take, List.length_take]; congr 1; omega
    rw [hdl] at hpar
    rcases atG_snoc s L n 0 (B [47]) 2 noB 0 with ⟨a, b, d, f, h1, h2⟩ | ⟨c, hc, h1, h2⟩
    · rw [Nat.zero_add] at h2
      rw [h2]
      rw [h1] at ih
      obtain ⟨f', hf', hg, hi⟩ := ih.good rfl
      obtain rfl : f' = f := by simp only at hf'; omega
      dsimp only at hg hi
      unfold atS
      by_cases hb : b = 1
      · rw [if_pos hb]
        refine ⟨fun _ => ⟨.inr rfl, hne, ?_⟩, fun h => by cases h⟩
        rcases hg with ⟨_, h3⟩ | ⟨h3, _, h4⟩
        · injection h3 with _ h3; injection h3 with h3 _; omega
        · refine (shows_tre hs).under _ _ (joinB (L.take n)) (Nat.le_refl _) (hpar ▸ hP.und) ?_ (fun x hx => ?_)
          · intro h; exact h3 (by cases hq : L.take n with
              | nil => rfl
              | cons x y => rw [hq, joinB_cons] at h; cases h)
          · rw [h4] at hx; obtain rfl := Option.some.inj hx; show b ≠ 2; omega
      · rw [if_neg hb]
        have hI : Inv s (parB (joinB (L.take (n + 1)))) f' := by
          rw [hpar]
          rcases hi with ⟨_, h⟩ | ⟨h, _⟩
          · exact h
          · exact absurd h hb
        have hle : f' ≤ s.length := by
          rcases hg with ⟨_, h3⟩ | ⟨_, h3, _⟩
          · injection h3 with _ h3; injection h3 with _ h3; injection h3 with _ h3; injection h3 with h3 _; omega
          · omega
        have hA := askL_ok hs hP hle hI
        unfold askL at hA
        have dir : ∀ g : Nat, fin (askG (joinB (L.take (n + 1))) f' s.reverse 0 false) = some (none, g) → At s (L.take (n + 1)) (pathB (L.take (n + 1)), 2, noB, (g : Int), []) := by
          intro g hg
          obtain ⟨⟨e, he, h2⟩, _, h3, h4, _⟩ := hA.dir g hg
          refine ⟨fun h => absurd rfl h, fun _ => ⟨g, rfl, .inr ⟨hne, h3, ?_⟩, .inl ⟨rfl, h4⟩⟩⟩
          rw [he, shows_dir hs hne he h2]
        have non : fin (askG (joinB (L.take (n + 1))) f' s.reverse 0 false) = none → At s (L.take (n + 1)) (noB, 0, noB, 0, [3]) := by
          intro hg
          exact ⟨fun _ => ⟨.inl rfl, hne, hA.none_ hg⟩, fun h => by cases h⟩
        cases hq : askG (joinB (L.take (n + 1))) f' s.reverse 0 false with
        | on g m =>
          cases m with
          | true => exact dir g (by rw [hq]; rfl)
          | false => exact non (by rw [hq]; rfl)
        | dir g => exact dir g (by rw [hq]; rfl)
        | none_ => exact non (by rw [hq]; rfl)
        | file e j =>
          obtain ⟨h3, h4, _, h5, l, h6, h7⟩ := hA.file e j (by rw [hq]; rfl)
          exact ⟨fun h => absurd rfl h, fun _ => ⟨j, rfl, .inr ⟨hne, h5, h3⟩, .inr ⟨h4, l, h6, h7⟩⟩⟩
    · rw [h1] at ih
      rw [h2]
      obtain ⟨h3, h4, h5⟩ := ih.bad (by simp)
      refine ⟨fun _ => ⟨by rcases hc with rfl | rfl; exact .inl rfl; exact .inr rfl, hne, ?_⟩, fun h => by cases h⟩
      have hpn : joinB (L.take n) ≠ [] := by
        intro h; exact h4 (by cases hq : L.take n with
          | nil => rfl
          | cons x y => rw [hq, joinB_cons] at h; cases h)
      exact (shows_tre hs).under _ _ (joinB (L.take n)) (Nat.le_refl _) (hpar ▸ hP.und) hpn (fun x hx => by rw [h5] at hx; cases hx)
end Go.Proofs.YtdmnpofodechpaaGreatDoor.Th
end
section
namespace Go.Proofs.YtdmnpofodechpaaGreatDoor.Th
open Go Go.RowKit Go.Proofs.YtdmnpofodechpaaGreatDoor.Print Go.Proofs.YtdmnpofodechpaaGreatDoorW.PrintWords
set_option linter.unusedVariables false
set_option linter.unusedSimpArgs false
open Classical
end Go.Proofs.YtdmnpofodechpaaGreatDoor.Th
end
