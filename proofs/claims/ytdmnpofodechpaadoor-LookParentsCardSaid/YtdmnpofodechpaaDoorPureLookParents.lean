/- LookParents: the law's function answers true. -/
import Derived.Test.YtdmnpofodechpaaDoorLookP
import Derived.Test.YtdmnpofodechpaaDoorPrint6
import Derived.Test.YtdmnpofodechpaaDoorPrint6
import Derived.Test.YtdmnpofodechpaaDoorPrint7d
import Derived.Test.YtdmnpofodechpaaDoorPrint8
namespace Go.Proofs.YtdmnpofodechpaaDoor.Th
open Go Go.RowKit Go.Proofs.YtdmnpofodechpaaDoor.Print Go.Proofs.YtdmnpofodechpaaDoorW.PrintWords
set_option linter.unusedVariables false
set_option linter.unusedSimpArgs false
open Classical
theorem awake12_0 : shalelaw12_awake.f 40 = some true := by kernel_rfl
theorem awake12 (k : Nat) (hk : 40 ≤ k) : shalelaw12_awake.f k = some true := mono_le (fun k => shalelaw12_awake.mono k) hk awake12_0
theorem code_nil' : fail_Code.f [] = some 0 := rfl
theorem code_one' (c : Int) : fail_Code.f [c] = some c := rfl
theorem app_dataP (a b : ByteArray) : (a ++ b).data.toList = a.data.toList ++ b.data.toList := by simp [ByteArray.data_append]
theorem atX_err (s : List (List En)) (p : ByteArray) : (atX s p).2.2.2.2 = [] ∧ SL s ∧ (∃ L, nm p = some L) ∨ ∃ c : Int, c ≠ 0 ∧ (atX s p).2.2.2.2 = [c] := by
  by_cases hS : SL s
  · cases hn : nm p with
    | none => right; exact ⟨2, by decide, by unfold atX; rw [if_pos hS, hn]⟩
    | some L =>
      have hA := at_all hS hn
      cases hb : (atX s p).2.2.2.2 with
      | nil => exact .inl ⟨rfl, hS, L, rfl⟩
      | cons c r =>
        right
        rcases (hA.bad (by rw [hb]; simp)).1 with h | h
        · rw [h] at hb; exact ⟨3, by decide, hb.symm⟩
        · rw [h] at hb; exact ⟨6, by decide, hb.symm⟩
  · right; exact ⟨16, by decide, by unfold atX; rw [if_neg hS]⟩
theorem nm_root {p : ByteArray} : nm p = some [] ↔ p.toList = [47] := by
  constructor
  · intro hn; rw [nm_path hn, lst_data]; unfold pathB; rw [if_pos rfl, B_data]
  · intro h1; unfold nm; rw [← lst_data, h1]; exact splitF_root
theorem nm_x {p : ByteArray} {L : List By} (hn : nm p = some L) (hL : L ≠ []) (h6 : L.length ≠ 6) : nm (p ++ (⟨#[47, 120]⟩ : ByteArray)) = some (L ++ [[120]]) := by
  have hok := nm_ok hn
  have hok2 : Okn (L ++ [[120]]) := ⟨by rw [List.length_append, List.length_singleton]; have := hok.1; omega, fun n hm => by
    rcases List.mem_append.1 hm with hm | hm
    · exact hok.2 n hm
    · rw [List.mem_singleton.1 hm]; rfl⟩
  have : p ++ (⟨#[47, 120]⟩ : ByteArray) = pathB (L ++ [[120]]) := by_ext (by
    rw [app_dataP, pathB_data (by simp), joinB_snoc, nm_path hn, pathB_data hL])
  rw [this, nm_pathB hok2]
theorem LookParents (l0 : List (List En)) (p : ByteArray) : ∃ k, shalelaw12_LookParents.f k l0 p = some true := by
  refine ⟨6000, ?_⟩
  have ja : ∀ k, 100 ≤ k → shalelaw12_LookParents.j0 (k + 1) l0 p true = some true := fun k hk => by
    rw [shalelaw12_LookParents.j0, if_pos rfl, awake12 k (by omega), Option.bind_some]
  unfold shalelaw12_LookParents.f
  rw [awake12 _ (by omega), Option.bind_some, if_pos rfl, few_eq l0 _ (by omega), Option.bind_some]
  by_cases hf : FitS l0
  · rw [if_pos hf, if_neg (by decide)]
    by_cases h100 : p.size ≤ 100
    · have hb : ∀ l ∈ l0, ∀ e ∈ l, e.f0.size ≤ 9223372036854775807 := fun l hl => (hf.2 l hl).b
      have h12 := hf.1
      have jt : ∀ k a b d f, shalelaw12_LookParents.j1 (k + 1) l0 p true a b d f = some true := fun k a b d f => by
        rw [shalelaw12_LookParents.j1, if_pos rfl]
      rw [decide_eq_false (by omega), shalelaw12_LookParents.j0, if_neg (by decide), at_x l0 (by omega) hb p (by omega) _ (by omega), Option.bind_some]
      rcases atX_err l0 p with ⟨he, hS, L, hn⟩ | ⟨c, hc, he⟩
      · rw [he, code_nil', Option.bind_some, if_pos rfl]
        by_cases hL : L = []
        · subst hL
          have : (p.toList == ([47] : List UInt8)) = true := beq_iff_eq.2 (nm_root.1 hn)
          rw [this]
          exact jt _ _ _ _ _
        · have : (p.toList == ([47] : List UInt8)) = false := beq_eq_false_iff_ne.2 (fun h => hL (Option.some.inj (hn.symm.trans (nm_root.2 h))))
          rw [this, shalelaw12_LookParents.j1, if_neg (by decide), parent_eq p (by omega), Option.bind_some, parR_some hn hL]
          obtain ⟨a, b, d, n, f, h1, h2, h3, h4, h5⟩ := at_parent hS hn hL he
          have hsz : (pathB L.dropLast).size ≤ 54 := by
            have hokd : Okn L.dropLast := by rw [List.dropLast_eq_take]; exact okn_take (nm_ok hn) _
            exact (nm_len (nm_pathB hokd)).1
          have hd : look_Dir.f 5998 l0 (pathB L.dropLast) = some ((n : Int), []) := by
            unfold look_Dir.f
            rw [at_x l0 (by omega) hb _ (by omega) _ (by omega), Option.bind_some, h1]
            dsimp only
            rw [if_pos (by rfl), if_neg h2]
          dsimp only
          rw [hd, Option.bind_some, code_nil', Option.bind_some, if_pos rfl, Option.bind_some, if_pos rfl, h3, if_neg (by omega), if_neg (by omega), decide_eq_false (by omega), shalelaw12_LookParents.j2, if_neg (by decide), if_pos (by omega)]
          rw [at_x l0 (by omega) hb _ (by rw [ByteArray.size_append]; show p.size + 2 ≤ _; omega) _ (by omega), Option.bind_some]
          by_cases hb1 : (atX l0 p).2.1 = 1
          · rw [if_pos hb1, deep_nm p (by omega), hn, Option.bind_some]
            dsimp only
            by_cases h6 : (L.length : Int) = 6
            · rw [if_pos h6]
            · rw [if_neg h6]
              have hu := at_under hS hn (nm_x hn hL (by omega)) (a := (atX l0 p).1) (b := (atX l0 p).2.1) (d := (atX l0 p).2.2.1) (f := (atX l0 p).2.2.2.1) (by rw [← he]) hb1
              rw [hu]
              dsimp only
              rw [code_one', Option.bind_some]
              rfl
          · rw [if_neg hb1]
      · rw [he, code_one', Option.bind_some, if_neg hc]
        exact jt _ _ _ _ _
    · rw [decide_eq_true (by omega)]; exact ja _ (by omega)
  · rw [if_neg hf, if_pos rfl]; exact ja _ (by omega)
end Go.Proofs.YtdmnpofodechpaaDoor.Th
