/- MergeShows: the law's function answers true. -/
import Derived.Test.YtdmnpofodechpaaGreatDoorMrgA
import Derived.Test.YtdmnpofodechpaaGreatDoorStackA
import Derived.Test.YtdmnpofodechpaaGreatDoorSameA
import Derived.Test.YtdmnpofodechpaaGreatDoorLookW
import Derived.Test.YtdmnpofodechpaaGreatDoorPrintMergeShows
namespace Go.Proofs.YtdmnpofodechpaaGreatDoor.Th
open Go Go.RowKit Go.Proofs.YtdmnpofodechpaaGreatDoor.Print Go.Proofs.YtdmnpofodechpaaGreatDoorW.PrintWords
set_option linter.unusedVariables false
set_option linter.unusedSimpArgs false
open Classical
theorem atS_err (s : List (List En)) (L : List By) (i : Nat) (b : Int) (f : Nat) (hb : b ≠ 1) : (atS s L i b f).2.2.2.2 = [] ∨ atS s L i b f = (noB, 0, noB, 0, [3]) := by
  unfold atS
  rw [if_neg hb]
  cases askG (joinB (L.take (i + 1))) f s.reverse 0 false with
  | on g m => cases m with
    | true => exact .inl rfl
    | false => exact .inr rfl
  | dir g => exact .inl rfl
  | none_ => exact .inr rfl
  | file e j => exact .inl rfl
/-- An answer, its floor apart. -/
def core (x : ByteArray × Int × ByteArray × Int × List Int) : ByteArray × Int × ByteArray × List Int := (x.1, x.2.1, x.2.2.1, x.2.2.2.2)
theorem at_core {s s' : List (List En)} (hs : ∀ l ∈ s, Lyr l) (hs' : ∀ l ∈ s', Lyr l) (h : shows s = shows s') {L : List By} (hL : Okn L) : ∀ n, n ≤ L.length → core (atG s L n 0 (B [47]) 2 noB 0) = core (atG s' L n 0 (B [47]) 2 noB 0)
  | 0, _ => rfl
  | n + 1, hn => by
    have ih := at_core hs hs' h hL n (by omega)
    have A := at_ok hs hL (n + 1) hn
    have A' := at_ok hs' hL (n + 1) hn
    have hne : L.take (n + 1) ≠ [] := fun h => by have := congrArg List.length h; rw [List.length_take, List.length_nil] at this; omega
    rcases atG_snoc s L n 0 (B [47]) 2 noB 0 with ⟨a, b, d, f, h1, h2⟩ | ⟨c, hc, h1, h2⟩
    · rcases atG_snoc s' L n 0 (B [47]) 2 noB 0 with ⟨a', b', d', f', h1', h2'⟩ | ⟨c', hc', h1', h2'⟩
      · rw [h1, h1'] at ih
        have hbb : b = b' := by injection ih with _ q; injection q
        subst hbb
        rw [h2] at A ⊢
        rw [h2'] at A' ⊢
        by_cases hb : b = 1
        · unfold atS; rw [if_pos hb, if_pos hb]
        · rcases atS_err s L (0 + n) b f hb with e1 | e1
          · obtain ⟨_, _, g, _⟩ := A.good e1
            rcases g with ⟨g, _⟩ | ⟨_, _, g⟩
            · exact absurd g hne
            · rcases atS_err s' L (0 + n) b f' hb with e2 | e2
              · obtain ⟨_, _, g', _⟩ := A'.good e2
                rcases g' with ⟨g', _⟩ | ⟨_, _, g'⟩
                · exact absurd g' hne
                · rw [h, g'] at g
                  have q := Option.some.inj g
                  unfold core
                  rw [e1, e2]
                  injection q with q0 q1 q2
                  rw [q0, q1, q2]
              · have := (A'.bad (by rw [e2]; simp)).2.2
                rw [h, this] at g; cases g
          · have g := (A.bad (by rw [e1]; simp)).2.2
            rcases atS_err s' L (0 + n) b f' hb with e2 | e2
            · obtain ⟨_, _, g', _⟩ := A'.good e2
              rcases g' with ⟨g', _⟩ | ⟨_, _, g'⟩
              · exact absurd g' hne
              · rw [h, g'] at g; cases g
            · rw [e1, e2]
      · rw [h1, h1'] at ih
        unfold core at ih
        injection ih with _ q; injection q with _ q; injection q with _ q; cases q
    · rcases atG_snoc s' L n 0 (B [47]) 2 noB 0 with ⟨a', b', d', f', h1', h2'⟩ | ⟨c', hc', h1', h2'⟩
      · rw [h1, h1'] at ih
        unfold core at ih
        injection ih with _ q; injection q with _ q; injection q with _ q; cases q
      · rw [h1, h1'] at ih
        rw [h2, h2']; exact ih
theorem atX_core {s s' : List (List En)} (hS : SL s) (hS' : SL s') (h : shows s = shows s') (p : ByteArray) : core (atX s p) = core (atX s' p) := by
  unfold atX
  rw [if_pos hS, if_pos hS']
  cases hn : nm p with
  | none => rfl
  | some L => exact at_core (fun l hl => (hS.2 l hl).1) (fun l hl => (hS'.2 l hl).1) h (nm_ok hn) L.length (Nat.le_refl _)
theorem code_any (e : List Int) : ∃ c, fail_Code.f e = some c := by
  cases e with
  | nil => exact ⟨0, rfl⟩
  | cons c r => exact ⟨c, rfl⟩
theorem shows_l0 (X Y Z : List (List En)) (p : ByteArray) (r : Bool) (hz : Z.length ≤ 100) (hx : X.length ≤ 100) (hy : Y.length ≤ 100) (hend : ∀ k, 3500 ≤ k → shalelaw15_MergeShows.l0 k Z p (X ++ Z) (Y ++ Z) (Z.length : Int) = some r) :
    ∀ (n i k : Nat), i + n = Z.length → n + 3500 < k → shalelaw15_MergeShows.l0 k Z p (X ++ Z.take i) (Y ++ Z.take i) (i : Int) = some r := by
  intro n
  induction n with
  | zero =>
    intro i k hn hk
    rw [List.take_of_length_le (by omega), show i = Z.length by omega]
    exact hend k (by omega)
  | succ n ih =>
    intro i k hn hk
    obtain ⟨k, rfl⟩ := Nat.exists_eq_add_of_le' (show 1 ≤ k by omega)
    have hi : i < Z.length := by omega
    rw [shalelaw15_MergeShows.l0, if_pos (by omega), if_pos (by omega), if_pos (by rw [List.length_append, List.length_take]; omega), if_pos (by rw [List.length_append, List.length_take]; omega), rdL_get Z i hi, List.append_assoc, List.append_assoc, ← List.take_succ_eq_append_getElem hi, wrap_up i (by omega)]
    exact ih (i + 1) k (by omega) (by omega)
theorem MergeShows (l0 : List (List En)) (l1 l2 : List En) (l3 : List (List En)) (p : ByteArray) : ∃ k, shalelaw15_MergeShows.f k l0 l1 l2 l3 p = some true := by
  refine ⟨6000, ?_⟩
  have ja : ∀ k, 100 ≤ k → shalelaw15_MergeShows.j0 (k + 1) l0 l1 l2 l3 p true = some true := fun k hk => by
    rw [shalelaw15_MergeShows.j0, if_pos rfl, awake15 k (by omega), Option.bind_some]
  unfold shalelaw15_MergeShows.f
  rw [awake15 _ (by omega), Option.bind_some, if_pos rfl, few_eq l0 _ (by omega), Option.bind_some]
  by_cases hf0 : FitS l0
  · rw [if_pos hf0, if_neg (by decide), few_eq l3 _ (by omega), Option.bind_some]
    by_cases hf3 : FitS l3
    · rw [if_pos hf3, if_neg (by decide), size_eq l1 _ (by omega), Option.bind_some]
      by_cases hf1 : Fit l1
      · rw [if_pos hf1, if_neg (by decide), size_eq l2 _ (by omega), Option.bind_some]
        by_cases hf2 : Fit l2
        · rw [if_pos hf2, if_neg (by decide)]
          by_cases h100 : p.size ≤ 100
          · have n0 := hf0.1
            have n3 := hf3.1
            have hw : wrap64 ((l0.length : Int) + (l3.length : Int)) = ((l0.length + l3.length : Nat) : Int) := by unfold wrap64; omega
            rw [if_neg (by omega), hw]
            by_cases h7 : l0.length + l3.length ≤ 7
            · obtain ⟨bot, hbot⟩ : ∃ bot, bot = ((l0.length : Int) == 0) := ⟨_, rfl⟩
              rw [decide_eq_false (by omega), shalelaw15_MergeShows.j0, if_neg (by decide), ← hbot, two_eq l1 l2 bot hf1.b hf2.b _ (by omega), Option.bind_some]
              by_cases h12 : LR l1 ∧ LR l2
              · have hlen := twO_len l1 l2 bot
                by_cases h64 : (twO l1 l2 bot).length ≤ 64
                · have x1 : twX l1 l2 bot = (twO l1 l2 bot, []) := by unfold twX; rw [if_pos h12, if_pos h64]
                  have hone := twO_lr h12.1 h12.2 bot h64
                  rw [x1]
                  dsimp only
                  rw [code_nilM, Option.bind_some, if_pos rfl, Option.bind_some, if_pos (by simp only [List.length_nil]; omega), Option.bind_some, Option.bind_some, List.nil_append, if_pos (by simp only [List.length_cons, List.length_nil]; omega), Option.bind_some, if_pos (by simp only [List.length_nil]; omega), Option.bind_some, List.nil_append, if_pos (by omega)]
                  have hsh : shows (l0 ++ [l1, l2] ++ l3) = shows (l0 ++ [twO l1 l2 bot] ++ l3) := by
                    rw [shows_two h12.1.1 h12.2.1 l0 l3]
                    cases l0 with
                    | nil =>
                      have : bot = true := by rw [hbot]; rfl
                      subst this
                      exact (shows_bot (twoL_lyr h12.1.1 h12.2.1) l3).symm
                    | cons a b =>
                      have : bot = false := by rw [hbot]; exact beq_eq_false_iff_ne.2 (by simp only [List.length_cons]; omega)
                      subst this; rfl
                  have key : SL (l0 ++ [l1, l2] ++ l3) ↔ SL (l0 ++ [twO l1 l2 bot] ++ l3) := by
                    unfold SL
                    constructor
                    · rintro ⟨_, q⟩
                      refine ⟨by simp; omega, fun l hl => ?_⟩
                      rcases List.mem_append.1 hl with hl | hl
                      · rcases List.mem_append.1 hl with hl | hl
                        · exact q l (by simp [hl])
                        · rw [List.mem_singleton.1 hl]; exact hone
                      · exact q l (by simp [hl])
                    · rintro ⟨_, q⟩
                      refine ⟨by simp; omega, fun l hl => ?_⟩
                      rcases List.mem_append.1 hl with hl | hl
                      · rcases List.mem_append.1 hl with hl | hl
                        · exact q l (by simp [hl])
                        · rcases List.mem_cons.1 hl with hl | hl
                          · rw [hl]; exact h12.1
                          · rw [List.mem_singleton.1 hl]; exact h12.2
                      · exact q l (by simp [hl])
                  have hb0 : ∀ l ∈ l0, ∀ e ∈ l, e.f0.size ≤ 9223372036854775807 := fun l hl => (hf0.2 l hl).b
                  have hb3 : ∀ l ∈ l3, ∀ e ∈ l, e.f0.size ≤ 9223372036854775807 := fun l hl => (hf3.2 l hl).b
                  have hbx : ∀ l ∈ l0 ++ [l1, l2] ++ l3, ∀ e ∈ l, e.f0.size ≤ 9223372036854775807 := fun l hl => by
                    rcases List.mem_append.1 hl with hl | hl
                    · rcases List.mem_append.1 hl with hl | hl
                      · exact hb0 l hl
                      · rcases List.mem_cons.1 hl with hl | hl
                        · rw [hl]; exact hf1.b
                        · rw [List.mem_singleton.1 hl]; exact hf2.b
                    · exact hb3 l hl
                  have hby : ∀ l ∈ l0 ++ [twO l1 l2 bot] ++ l3, ∀ e ∈ l, e.f0.size ≤ 9223372036854775807 := fun l hl => by
                    rcases List.mem_append.1 hl with hl | hl
                    · rcases List.mem_append.1 hl with hl | hl
                      · exact hb0 l hl
                      · rw [List.mem_singleton.1 hl]; exact hone.1.b
                    · exact hb3 l hl
                  have hcore : core (atX (l0 ++ [l1, l2] ++ l3) p) = core (atX (l0 ++ [twO l1 l2 bot] ++ l3) p) := by
                    by_cases hS : SL (l0 ++ [l1, l2] ++ l3)
                    · exact atX_core hS (key.1 hS) hsh p
                    · unfold atX; rw [if_neg hS, if_neg (fun k => hS (key.2 k))]
                  have hst : stX (l0 ++ [l1, l2] ++ l3) = stX (l0 ++ [twO l1 l2 bot] ++ l3) := by
                    unfold stX
                    by_cases hS : SL (l0 ++ [l1, l2] ++ l3)
                    · rw [if_pos (show SR _ from hS), if_pos (show SR _ from key.1 hS)]
                      exact stk_ext (fun l hl => (hS.2 l hl).1) (fun l hl => ((key.1 hS).2 l hl).1) hsh
                    · rw [if_neg (show ¬ SR _ from hS), if_neg (show ¬ SR _ from fun k => hS (key.2 k))]
                  have := shows_l0 (l0 ++ [l1, l2]) (l0 ++ [twO l1 l2 bot]) l3 p true (by omega) (by simp; omega) (by simp; omega) (fun k hk => ?_) l3.length 0 5999 (by omega) (by omega)
                  · rwa [List.take_zero, List.append_nil, List.append_nil] at this
                  · obtain ⟨k, rfl⟩ := Nat.exists_eq_add_of_le' (show 1 ≤ k by omega)
                    rw [shalelaw15_MergeShows.l0, if_neg (by omega), at_x _ (by simp; omega) hbx p (by omega) k (by omega), Option.bind_some, at_x _ (by simp; omega) hby p (by omega) k (by omega), Option.bind_some, stack_eq _ hbx k (by omega), Option.bind_some, stack_eq _ hby k (by omega), Option.bind_some, hst, same_eq _ _ k (by have := (stX_tre (l0 ++ [twO l1 l2 bot] ++ l3)).2; omega) (by omega), Option.bind_some, if_pos rfl, if_pos rfl]
                    generalize atX (l0 ++ [l1, l2] ++ l3) p = X at hcore ⊢
                    generalize atX (l0 ++ [twO l1 l2 bot] ++ l3) p = Y at hcore ⊢
                    obtain ⟨a, b, d, f, e⟩ := X
                    obtain ⟨a', b', d', f', e'⟩ := Y
                    unfold core at hcore
                    injection hcore with q0 q; injection q with q1 q; injection q with q2 q3
                    dsimp only at q0 q1 q2 q3
                    subst q0 q1 q2 q3
                    obtain ⟨c, hc⟩ := code_any e
                    dsimp only
                    rw [hc, Option.bind_some, Option.bind_some, if_pos rfl]
                    simp
                · have x1 : twX l1 l2 bot = ([], [9]) := by unfold twX; rw [if_pos h12, if_neg h64]
                  have m1 := hf1.1
                  have m2 := hf2.1
                  have hw2 : wrap64 ((l1.length : Int) + (l2.length : Int)) = ((l1.length + l2.length : Nat) : Int) := by unfold wrap64; omega
                  rw [x1]
                  dsimp only
                  rw [code_oneM, Option.bind_some, if_neg (by decide), Option.bind_some, if_neg (by decide), Option.bind_some, if_pos rfl, hw2, decide_eq_true (by omega)]
              · have x1 : twX l1 l2 bot = ([], [16]) := by unfold twX; rw [if_neg h12]
                rw [x1]
                dsimp only
                rw [code_oneM, Option.bind_some, if_neg (by decide), Option.bind_some, if_pos rfl]
            · rw [decide_eq_true (by omega)]; exact ja _ (by omega)
          · rw [if_pos (by omega)]; exact ja _ (by omega)
        · rw [if_neg hf2, if_pos rfl]; exact ja _ (by omega)
      · rw [if_neg hf1, if_pos rfl]; exact ja _ (by omega)
    · rw [if_neg hf3, if_pos rfl]; exact ja _ (by omega)
  · rw [if_neg hf0, if_pos rfl]; exact ja _ (by omega)
end Go.Proofs.YtdmnpofodechpaaGreatDoor.Th
