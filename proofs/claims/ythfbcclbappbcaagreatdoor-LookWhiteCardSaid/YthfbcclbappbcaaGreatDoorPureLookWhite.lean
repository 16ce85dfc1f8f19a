/- LookWhite: the law's function answers true. -/
import Derived.Test.YthfbcclbappbcaaGreatDoorLookW
import Derived.Test.YthfbcclbappbcaaGreatDoorRefB
import Derived.Test.YthfbcclbappbcaaGreatDoorAw12
import Derived.Test.YthfbcclbappbcaaGreatDoorPrintLookWhite
namespace Go.Proofs.YthfbcclbappbcaaGreatDoor.Th
open Go Go.RowKit Go.Proofs.YthfbcclbappbcaaGreatDoor.Print Go.Proofs.YthfbcclbappbcaaGreatDoorW.PrintWords
set_option linter.unusedVariables false
set_option linter.unusedSimpArgs false
open Classical
theorem one_lyr {p : ByteArray} {n : By} (hn : nm p = some [n]) {k : Int} {d : ByteArray} (hr : Rt ⟨p, k, d⟩) : LR [⟨p, k, d⟩] := by
  refine ⟨⟨fun e he => by rw [List.mem_singleton.1 he]; exact hr, List.pairwise_singleton _ _, fun e he => .inl ?_⟩, by simp⟩
  rw [List.mem_singleton.1 he]
  show joinB ((splitF p.data.toList).getD []).dropLast = []
  have : splitF p.data.toList = some [n] := hn
  rw [this]; rfl
theorem LookWhite (l0 : List (List En)) (a1 a2 : ByteArray) : ∃ k, shalelaw12_LookWhite.f k l0 a1 a2 = some true := by
  refine ⟨20000, ?_⟩
  have ja : ∀ k, 100 ≤ k → shalelaw12_LookWhite.j0 (k + 1) l0 a1 a2 true = some true := fun k hk => by
    rw [shalelaw12_LookWhite.j0, if_pos rfl, awake12 k (by omega), Option.bind_some]
  unfold shalelaw12_LookWhite.f
  rw [awake12 _ (by omega), Option.bind_some, if_pos rfl, few_eq l0 _ (by omega), Option.bind_some]
  by_cases hf : FitS l0
  · have hb : ∀ l ∈ l0, ∀ e ∈ l, e.f0.size ≤ 9223372036854775807 := fun l hl => (hf.2 l hl).b
    rw [if_pos hf, if_neg (by decide)]
    by_cases h50 : a1.size ≤ 50
    · rw [if_neg (by omega)]
      by_cases h256 : a2.size ≤ 256
      · rw [if_neg (by omega)]
        by_cases h8 : l0.length ≤ 8
        · rw [decide_eq_false (by omega), shalelaw12_LookWhite.j0, if_neg (by decide), if_pos (by omega), Option.bind_some]
          obtain ⟨p, hp⟩ : ∃ p, p = (⟨#[47]⟩ : ByteArray) ++ a1 := ⟨_, rfl⟩
          have hps : p.size ≤ 51 := by rw [hp, ByteArray.size_append]; show 1 + a1.size ≤ 51; omega
          rw [← hp]
          have jt : ∀ k y, shalelaw12_LookWhite.j1 (k + 1) l0 a2 p y true = some true := fun k y => by rw [shalelaw12_LookWhite.j1, if_pos rfl]
          have hW : ∀ e ∈ [(⟨p, 3, ⟨#[]⟩⟩ : En)], e.f0.size ≤ 9223372036854775807 := fun e he => by rw [List.mem_singleton.1 he]; show p.size ≤ _; omega
          have hF : ∀ e ∈ [(⟨p, 1, a2⟩ : En)], e.f0.size ≤ 9223372036854775807 := fun e he => by rw [List.mem_singleton.1 he]; show p.size ≤ _; omega
          rw [lr_eq _ hW _ (by omega), Option.bind_some]
          by_cases hL : LR [(⟨p, 3, ⟨#[]⟩⟩ : En)]
          · rw [decide_eq_true hL, if_pos rfl, r12_eq l0 hf _ (by omega), Option.bind_some]
            by_cases hS : l0.length ≤ 9 ∧ ∀ l ∈ l0, LR l
            · rw [decide_eq_true hS, Bool.not_true, shalelaw12_LookWhite.j1, if_neg (by decide), Option.bind_some, Option.bind_some, if_pos (by simp only [List.length_nil]; omega), Option.bind_some, List.nil_append, if_pos (by omega)]
              obtain ⟨n, hn⟩ := lyr_one hL.1 (by rintro (h | h); exact absurd h (show (3 : Int) ≠ 2 by decide); exact absurd h (show (3 : Int) ≠ 4 by decide))
              have hrt : Rt ⟨p, 1, a2⟩ := ⟨(hL.1.rt ⟨p, 3, ⟨#[]⟩⟩ (List.mem_singleton.2 rfl)).1, .inl ⟨rfl, h256⟩⟩
              have hLF : LR [(⟨p, 1, a2⟩ : En)] := one_lyr hn hrt
              have mem : ∀ x, (LR x → SL (l0 ++ [x])) := fun x hx => ⟨by simp; omega, fun l hl => by
                rcases List.mem_append.1 hl with hl | hl
                · exact hS.2 l hl
                · rw [List.mem_singleton.1 hl]; exact hx⟩
              have bnd : ∀ x : List En, (∀ e ∈ x, e.f0.size ≤ 9223372036854775807) → ∀ l ∈ l0 ++ [x], ∀ e ∈ l, e.f0.size ≤ 9223372036854775807 := fun x hx l hl => by
                rcases List.mem_append.1 hl with hl | hl
                · exact hb l hl
                · rw [List.mem_singleton.1 hl]; exact hx
              have f3 : fnd [(⟨p, 3, ⟨#[]⟩⟩ : En)] p.data.toList = some ⟨p, 3, ⟨#[]⟩⟩ := by rw [fnd_cons]; exact if_pos rfl
              have f1 : fnd [(⟨p, 1, a2⟩ : En)] p.data.toList = some ⟨p, 1, a2⟩ := by rw [fnd_cons]; exact if_pos rfl
              rw [at_x _ (by simp; omega) (bnd _ hW) p (by omega) _ (by omega), (at_one (mem _ hL) hn f3).1 rfl, Option.bind_some, Option.bind_some, if_pos (by simp only [List.length_nil]; omega), Option.bind_some, List.nil_append, if_pos (by omega), at_x _ (by simp; omega) (bnd _ hF) p (by omega) _ (by omega), (at_one (mem _ hLF) hn f1).2 rfl, Option.bind_some]
              dsimp only
              rw [code_one', Option.bind_some, if_pos rfl, code_nil', Option.bind_some, if_pos rfl, if_pos (by simp)]
              have hr : rd_T26 [(⟨p, 1, a2⟩ : En)] 0 = ⟨p, 1, a2⟩ := rfl
              rw [hr, if_pos (by simp)]
              simp
            · rw [decide_eq_false hS, Bool.not_false]
              exact jt _ _
          · rw [decide_eq_false hL, if_neg (by decide)]
            exact jt _ _
        · rw [decide_eq_true (by omega)]; exact ja _ (by omega)
      · rw [if_pos (by omega)]; exact ja _ (by omega)
    · rw [if_pos (by omega)]; exact ja _ (by omega)
  · rw [if_neg hf, if_pos rfl]; exact ja _ (by omega)
end Go.Proofs.YthfbcclbappbcaaGreatDoor.Th
