/- Go's search in a sorted list: the place of the first that is not less. -/
import Derived.Test.YtklcceccadlgkaaDoorSearchW
namespace Go.Proofs.YtklcceccadlgkaaDoor.Th
open Go Go.Proofs.YtklcceccadlgkaaDoor.Print
theorem bsF_spec (F : Nat → ByteArray) (p : ByteArray) (N : Nat) (hm : ∀ a b, a ≤ b → b < N → Lib.compareBytes (F b).data.toList p.data.toList < 0 → Lib.compareBytes (F a).data.toList p.data.toList < 0) :
    ∀ (n lo hi : Nat), lo ≤ hi → hi ≤ N → hi - lo ≤ n → (∀ t, t < lo → Lib.compareBytes (F t).data.toList p.data.toList < 0) → (∀ t, hi ≤ t → t < N → ¬ Lib.compareBytes (F t).data.toList p.data.toList < 0) →
      bsF F p n lo hi ≤ N ∧ (∀ t, t < bsF F p n lo hi → Lib.compareBytes (F t).data.toList p.data.toList < 0) ∧ (∀ t, bsF F p n lo hi ≤ t → t < N → ¬ Lib.compareBytes (F t).data.toList p.data.toList < 0)
  | 0, lo, hi, h1, h2, h3, h4, h5 => by
    rw [bsF]
    exact ⟨by omega, h4, fun t ht => h5 t (by omega)⟩
  | n + 1, lo, hi, h1, h2, h3, h4, h5 => by
    rw [bsF]
    by_cases hl : lo < hi
    · rw [if_pos hl]
      by_cases hc : Lib.compareBytes (F ((lo + hi) / 2)).data.toList p.data.toList < 0
      · rw [if_pos hc]
        exact bsF_spec F p N hm n _ hi (by omega) h2 (by omega) (fun t ht => hm t ((lo + hi) / 2) (by omega) (by omega) hc) h5
      · rw [if_neg hc]
        exact bsF_spec F p N hm n lo _ (by omega) (by omega) (by omega) h4 (fun t h6 h7 h8 => hc (hm ((lo + hi) / 2) t h6 h7 h8))
    · rw [if_neg hl]
      exact ⟨by omega, h4, fun t ht => h5 t (by omega)⟩
end Go.Proofs.YtklcceccadlgkaaDoor.Th
