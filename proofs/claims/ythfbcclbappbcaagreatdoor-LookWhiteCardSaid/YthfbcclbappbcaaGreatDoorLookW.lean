/- look.At at the entries of the folded stack, and at one entry on top. -/
import Derived.Test.YthfbcclbappbcaaGreatDoorLookB
namespace Go.Proofs.YthfbcclbappbcaaGreatDoor.Th
open Go Go.RowKit Go.Proofs.YthfbcclbappbcaaGreatDoor.Print Go.Proofs.YthfbcclbappbcaaGreatDoorW.PrintWords
set_option linter.unusedVariables false
set_option linter.unusedSimpArgs false
open Classical
theorem lyr_one {e : En} (h : Lyr [e]) (hd : ¬ Hld e) : ∃ n, nm e.f0 = some [n] := by
  obtain ⟨L, hn, hL, hk, hp, hok⟩ := pth_nil (p := e.f0) (h.rt e (by simp)).1
  have : parB (ky e) = [] := by
    rcases h.par e (by simp) with h0 | ⟨x, hx, _, hh⟩
    · exact h0
    · rw [List.mem_singleton.1 hx] at hh; exact absurd hh hd
  rw [show ky e = e.f0.data.toList from rfl, hp] at this
  cases hq : L.dropLast with
  | cons a b => rw [hq, joinB_cons] at this; cases this
  | nil =>
    have hlen := congrArg List.length hq
    rw [List.length_dropLast, List.length_nil] at hlen
    match L, hL with
    | [n], _ => exact ⟨n, hn⟩
    | a :: b :: r, _ => simp at hlen
theorem at_one {s : List (List En)} {l : List En} (hS : SL (s ++ [l])) {p : ByteArray} {n : By} (hn : nm p = some [n]) {e : En} (he : fnd l p.data.toList = some e) :
    (e.f1 = 3 → atX (s ++ [l]) p = (noB, 0, noB, 0, [3])) ∧ (e.f1 = 1 → atX (s ++ [l]) p = (e.f0, e.f1, e.f2, (s.length : Int), [])) := by
  have hp : joinB ([n].take (0 + 1)) = p.data.toList := by
    have hok := nm_ok hn
    rw [nm_path hn, pathB_data (by simp)]; rfl
  have key : atX (s ++ [l]) p = atS (s ++ [l]) [n] 0 2 0 := by
    unfold atX; rw [if_pos hS, hn]
    rcases atG_snoc (s ++ [l]) [n] 0 0 (B [47]) 2 noB 0 with ⟨a, b, d, f, h1, h2⟩ | ⟨c, _, h1, _⟩
    · rw [atG_zero] at h1
      injection h1 with _ h1; injection h1 with h3 h1; injection h1 with _ h1; injection h1 with h4 _
      subst h3
      obtain rfl : f = 0 := by omega
      exact h2
    · rw [atG_zero] at h1; injection h1 with _ h1; injection h1 with _ h1; injection h1 with _ h1; injection h1 with _ h1; cases h1
  rw [key]
  unfold atS
  rw [if_neg (by decide), hp, List.reverse_append, List.reverse_singleton, List.singleton_append, askG, if_neg (by omega), he, List.length_reverse]
  constructor
  · intro h; dsimp only; rw [if_pos (.inl h)]; rfl
  · intro h; dsimp only; rw [if_neg (by rintro (k | k); omega; exact Bool.noConfusion k.2), if_pos h]
end Go.Proofs.YthfbcclbappbcaaGreatDoor.Th
