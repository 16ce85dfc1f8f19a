/- look.At: one name more, one name less; what it answers is what the stack shows. -/
import Derived.Test.YthfbcclbappbcaaGreatDoorLookA
namespace Go.Proofs.YthfbcclbappbcaaGreatDoor.Th
open Go Go.RowKit Go.Proofs.YthfbcclbappbcaaGreatDoor.Print Go.Proofs.YthfbcclbappbcaaGreatDoorW.PrintWords
set_option linter.unusedVariables false
set_option linter.unusedSimpArgs false
open Classical
/-- One name's step. -/
def atS (s : List (List En)) (L : List By) (i : Nat) (b : Int) (f : Nat) : ByteArray × Int × ByteArray × Int × List Int :=
  if b = 1 then (noB, 0, noB, 0, [6]) else
    match askG (joinB (L.take (i + 1))) f s.reverse 0 false with
    | .on g true => (pathB (L.take (i + 1)), 2, noB, (g : Int), [])
    | .on _ false => (noB, 0, noB, 0, [3])
    | .dir g => (pathB (L.take (i + 1)), 2, noB, (g : Int), [])
    | .none_ => (noB, 0, noB, 0, [3])
    | .file e j => (e.f0, e.f1, e.f2, (j : Int), [])
theorem atG_zero (s : List (List En)) (L : List By) (i : Nat) (a : ByteArray) (b : Int) (d : ByteArray) (f : Nat) : atG s L 0 i a b d f = (a, b, d, (f : Int), []) := rfl
theorem atG_snoc (s : List (List En)) (L : List By) : ∀ (n i : Nat) (a : ByteArray) (b : Int) (d : ByteArray) (f : Nat),
    (∃ a' b' d', ∃ f' : Nat, atG s L n i a b d f = (a', b', d', (f' : Int), []) ∧ atG s L (n + 1) i a b d f = atS s L (i + n) b' f') ∨
    (∃ c : Int, (c = 3 ∨ c = 6) ∧ atG s L n i a b d f = (noB, 0, noB, 0, [c]) ∧ atG s L (n + 1) i a b d f = (noB, 0, noB, 0, [c]))
  | 0, i, a, b, d, f => by
    refine .inl ⟨a, b, d, f, rfl, ?_⟩
    rw [atG, atS, Nat.add_zero]
    split
    · rfl
    · cases askG (joinB (L.take (i + 1))) f s.reverse 0 false with
      | on g m => cases m <;> rfl
      | dir g => rfl
      | none_ => rfl
      | file e j => rfl
  | n + 1, i, a, b, d, f => by
    have e1 : i + (n + 1) = (i + 1) + n := by omega
    rw [e1, atG, atG]
    by_cases hb : b = 1
    · rw [if_pos hb, if_pos hb]; exact .inr ⟨6, .inr rfl, rfl, rfl⟩
    · rw [if_neg hb, if_neg hb]
      cases askG (joinB (L.take (i + 1))) f s.reverse 0 false with
      | on g m =>
        cases m with
        | true => exact atG_snoc s L n (i + 1) _ _ _ g
        | false => exact .inr ⟨3, .inl rfl, rfl, rfl⟩
      | dir g => exact atG_snoc s L n (i + 1) _ _ _ g
      | none_ => exact .inr ⟨3, .inl rfl, rfl, rfl⟩
      | file e j => exact atG_snoc s L n (i + 1) _ _ _ j
/-- What the answer says. -/
structure At (s : List (List En)) (L : List By) (x : ByteArray × Int × ByteArray × Int × List Int) : Prop where
  bad : x.2.2.2.2 ≠ [] → (x = (noB, 0, noB, 0, [3]) ∨ x = (noB, 0, noB, 0, [6])) ∧ L ≠ [] ∧ shows s (joinB L) = none
  good : x.2.2.2.2 = [] → ∃ f : Nat, x.2.2.2.1 = (f : Int) ∧ (L = [] ∧ x = (B [47], 2, noB, 0, []) ∨ L ≠ [] ∧ f < s.length ∧ shows s (joinB L) = some ⟨x.1, x.2.1, x.2.2.1⟩) ∧
    (x.2.1 = 2 ∧ Inv s (joinB L) f ∨ x.2.1 = 1 ∧ ∃ l, s[f]? = some l ∧ fnd l (joinB L) = some ⟨x.1, x.2.1, x.2.2.1⟩)
theorem pth_join {L : List By} (h : Okn L) (hn : L ≠ []) : Pth (joinB L) ∧ parB (joinB L) = joinB L.dropLast := by
  have := splitF_join h hn
  exact ⟨⟨L, this, hn⟩, by unfold parB; rw [this]; rfl⟩
theorem shows_dir {s : List (List En)} (hs : ∀ l ∈ s, Lyr l) {L : List By} (hn : L ≠ []) {e : En} (h : shows s (joinB L) = some e) (h2 : e.f1 = 2) : e = ⟨pathB L, 2, noB⟩ := by
  obtain ⟨hk, hr, _⟩ := (shows_tre hs).rt _ e h
  have h3 := hr.noda (by omega)
  refine en_ext ?_ h2 (by unfold da; rw [h3])
  rw [hk]; unfold ky; rw [pathB_data hn]
theorem at_ok {s : List (List En)} (hs : ∀ l ∈ s, Lyr l) {L : List By} (hL : Okn L) : ∀ n, n ≤ L.length → At s (L.take n) (atG s L n 0 (B [47]) 2 noB 0)
  | 0, _ => ⟨fun h => absurd rfl h, fun _ => ⟨0, rfl, .inl ⟨rfl, rfl⟩, .inl ⟨rfl, Inv.root hs⟩⟩⟩
  | n + 1, hn => by
    have ih := at_ok hs hL n (by omega)
    have hne : L.take (n + 1) ≠ [] := fun h => by have := congrArg List.length h; rw [List.length_take, List.length_nil] at this; omega
    have hok : Okn (L.take (n + 1)) := okn_take hL _
    obtain ⟨hP, hpar⟩ := pth_join hok hne
    have hdl : (L.take (n + 1)).dropLast = L.take n := by
      rw [List.dropLast_eq_take, List.take_take, List.length_take]; congr 1; omega
    rw [hdl] at hpar
    rcases atG_snoc s L n 0 (B [47]) 2 noB 0 with ⟨a, b, d, f, h1, h2⟩ | ⟨c, hc, h1, h2⟩
    · rw [Nat.zero_add] at h2
      rw [h2]
      rw [h1] at ih
      obtain ⟨f', hf', hg, hi⟩ := ih.good rfl
      obtain rfl : f' = f := by simp only at hf'; omega
      dsimp only at hg hi
      unfold atS
      by_cases hb : b = 1
      · rw [if_pos hb]
        refine ⟨fun _ => ⟨.inr rfl, hne, ?_⟩, fun h => by cases h⟩
        rcases hg with ⟨_, h3⟩ | ⟨h3, _, h4⟩
        · injection h3 with _ h3; injection h3 with h3 _; omega
        · refine (shows_tre hs).under _ _ (joinB (L.take n)) (Nat.le_refl _) (hpar ▸ hP.und) ?_ (fun x hx => ?_)
          · intro h; exact h3 (by cases hq : L.take n with
              | nil => rfl
              | cons x y => rw [hq, joinB_cons] at h; cases h)
          · rw [h4] at hx; obtain rfl := Option.some.inj hx; show b ≠ 2; omega
      · rw [if_neg hb]
        have hI : Inv s (parB (joinB (L.take (n + 1)))) f' := by
          rw [hpar]
          rcases hi with ⟨_, h⟩ | ⟨h, _⟩
          · exact h
          · exact absurd h hb
        have hle : f' ≤ s.length := by
          rcases hg with ⟨_, h3⟩ | ⟨_, h3, _⟩
          · injection h3 with _ h3; injection h3 with _ h3; injection h3 with _ h3; injection h3 with h3 _; omega
          · omega
        have hA := askL_ok hs hP hle hI
        unfold askL at hA
        have dir : ∀ g : Nat, fin (askG (joinB (L.take (n + 1))) f' s.reverse 0 false) = some (none, g) → At s (L.take (n + 1)) (pathB (L.take (n + 1)), 2, noB, (g : Int), []) := by
          intro g hg
          obtain ⟨⟨e, he, h2⟩, _, h3, h4, _⟩ := hA.dir g hg
          refine ⟨fun h => absurd rfl h, fun _ => ⟨g, rfl, .inr ⟨hne, h3, ?_⟩, .inl ⟨rfl, h4⟩⟩⟩
          rw [he, shows_dir hs hne he h2]
        have non : fin (askG (joinB (L.take (n + 1))) f' s.reverse 0 false) = none → At s (L.take (n + 1)) (noB, 0, noB, 0, [3]) := by
          intro hg
          exact ⟨fun _ => ⟨.inl rfl, hne, hA.none_ hg⟩, fun h => by cases h⟩
        cases hq : askG (joinB (L.take (n + 1))) f' s.reverse 0 false with
        | on g m =>
          cases m with
          | true => exact dir g (by rw [hq]; rfl)
          | false => exact non (by rw [hq]; rfl)
        | dir g => exact dir g (by rw [hq]; rfl)
        | none_ => exact non (by rw [hq]; rfl)
        | file e j =>
          obtain ⟨h3, h4, _, h5, l, h6, h7⟩ := hA.file e j (by rw [hq]; rfl)
          exact ⟨fun h => absurd rfl h, fun _ => ⟨j, rfl, .inr ⟨hne, h5, h3⟩, .inr ⟨h4, l, h6, h7⟩⟩⟩
    · rw [h1] at ih
      rw [h2]
      obtain ⟨h3, h4, h5⟩ := ih.bad (by simp)
      refine ⟨fun _ => ⟨by rcases hc with rfl | rfl; exact .inl rfl; exact .inr rfl, hne, ?_⟩, fun h => by cases h⟩
      have hpn : joinB (L.take n) ≠ [] := by
        intro h; exact h4 (by cases hq : L.take n with
          | nil => rfl
          | cons x y => rw [hq, joinB_cons] at h; cases h)
      exact (shows_tre hs).under _ _ (joinB (L.take n)) (Nat.le_refl _) (hpar ▸ hP.und) hpn (fun x hx => by rw [h5] at hx; cases hx)
theorem at_all {s : List (List En)} (hS : SL s) {p : ByteArray} {L : List By} (hn : nm p = some L) : At s L (atX s p) := by
  unfold atX
  rw [if_pos hS, hn]
  have := at_ok (fun l hl => (hS.2 l hl).1) (nm_ok hn) L.length (Nat.le_refl _)
  rwa [List.take_length] at this
end Go.Proofs.YthfbcclbappbcaaGreatDoor.Th
