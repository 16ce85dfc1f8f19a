/- The reference's floor in plain words: shaleref12.Floor. -/
import Derived.Test.YthfbcclbappbcaaGreatDoorRefE
import Derived.Test.YthfbcclbappbcaaGreatDoorPrintFl
namespace Go.Proofs.YthfbcclbappbcaaGreatDoor.Th
open Go Go.RowKit Go.Proofs.YthfbcclbappbcaaGreatDoor.Print Go.Proofs.YthfbcclbappbcaaGreatDoorW.PrintWords Go.Proofs.YthfbcclbappbcaaGreatDoorW.PrintLast Go.Proofs.YthfbcclbappbcaaGreatDoorW.PrintMore
set_option linter.unusedVariables false
set_option linter.unusedSimpArgs false
open Classical
theorem mx_nat (a b : Nat) : mx (a : Int) (b : Int) = ((max a b : Nat) : Int) := by unfold mx; split <;> omega
/-- Does an entry, in layer i, make its path a directory? -/
def MkE (s : List (List En)) (p : By) (i : Nat) (e : En) : Prop := ky e = p ∧ (e.f1 = 4 ∨ e.f1 = 2 ∧ ∀ x, shows (s.take i) p = some x → x.f1 ≠ 2)
theorem mk_iff {s : List (List En)} (hs : ∀ l ∈ s, Lyr l) (p : By) (i : Nat) (hi : i < s.length) : (∃ e ∈ s[i], MkE s p i e) ↔ Mk s p i := by
  have hl := (hs _ (List.getElem_mem hi)).srt
  constructor
  · rintro ⟨e, he, hk, h⟩
    exact ⟨s[i], e, List.getElem?_eq_getElem hi, hk ▸ hl.at_ he, h⟩
  · rintro ⟨l, e, h, he, hh⟩
    rw [List.getElem?_eq_getElem hi] at h
    obtain rfl := Option.some.inj h
    exact ⟨e, (fnd_mem he).1, (fnd_mem he).2, hh⟩
noncomputable def upP (P : Prop) (fl i : Nat) : Nat := if P then max fl i else fl
theorem upP_pos {P : Prop} (h : P) (fl i : Nat) : upP P fl i = max fl i := by unfold upP; rw [if_pos h]
theorem upP_neg {P : Prop} (h : ¬ P) (fl i : Nat) : upP P fl i = fl := by unfold upP; rw [if_neg h]
theorem upP_congr {P Q : Prop} (h : P ↔ Q) : upP P = upP Q := by rw [propext h]
noncomputable def mkF (s : List (List En)) (p : By) : Nat → Nat → Nat → Nat
  | 0, _, fl => fl
  | m + 1, n, fl => mkF s p m (n + 1) (upP (Mk s p (n - 1)) fl (n - 1))
theorem mkF_eq (s : List (List En)) (p : By) (f : Nat) (hf : f < s.length) (hno : ∀ i, f < i → ¬ Mk s p i) : ∀ m n fl, n + m = s.length + 1 → 1 ≤ n → fl ≤ f → (fl = f ∨ n - 1 ≤ f ∧ Mk s p f) → mkF s p m n fl = f := by
  intro m
  induction m with
  | zero =>
    intro n fl hn _ _ h
    rw [mkF]
    rcases h with h | ⟨h, _⟩
    · exact h
    · omega
  | succ m ih =>
    intro n fl hn h1 hle h
    rw [mkF]
    by_cases hm : Mk s p (n - 1)
    · rw [upP_pos hm]
      have hi : n - 1 ≤ f := by
        rcases Nat.lt_or_ge f (n - 1) with h2 | h2
        · exact absurd hm (hno _ h2)
        · exact h2
      refine ih (n + 1) _ (by omega) (by omega) (by omega) ?_
      rcases h with h | ⟨_, h2⟩
      · left; omega
      · by_cases he : n - 1 = f
        · left; omega
        · right; exact ⟨by omega, h2⟩
    · rw [upP_neg hm]
      refine ih (n + 1) fl (by omega) (by omega) hle ?_
      rcases h with h | ⟨h2, h3⟩
      · exact .inl h
      · right
        refine ⟨?_, h3⟩
        by_cases he : n - 1 = f
        · rw [he] at hm; exact absurd h3 hm
        · omega
theorem floor_l1 {s : List (List En)} (hS : SL s) {L : List By} (hL : Okn L) (hne : L ≠ []) (i : Nat) (hi : i < s.length) : ∀ (m j k fl : Nat), j + m = s[i].length → m + 3500 < k → fl ≤ 1000 →
    z14.l1 k s (pathB L) (fl : Int) ((i + 1 : Nat) : Int) (j : Int) = z14.l0 (k - m - 1) s (pathB L) ((upP (∃ e ∈ s[i].drop j, MkE s (joinB L) i e) fl i : Nat) : Int) ((i + 2 : Nat) : Int) := by
  have hs : ∀ l ∈ s, Lyr l := fun l hl => (hS.2 l hl).1
  have h9 := hS.1
  have h64 := (hS.2 _ (List.getElem_mem hi)).2
  have hw : wrap64 (((i + 1 : Nat) : Int) - 1) = (i : Int) := by unfold wrap64; omega
  have hw2 : wrap64 (((i + 1 : Nat) : Int) + 1) = ((i + 2 : Nat) : Int) := by unfold wrap64; omega
  have hq : ∀ l ∈ s.take i, LR l := fun l hl => hS.2 l (List.mem_of_mem_take hl)
  have hlen := stkL_len (s.take i) 64 fun l hl => (hq l hl).2
  rw [List.length_take] at hlen
  have hF : fnd (stkL (s.take i)) = shows (s.take i) := fnd_stkL (fun l hl => (hs l (List.mem_of_mem_take hl)).srt)
  intro m
  induction m with
  | zero =>
    intro j k fl hn hk hfl
    obtain ⟨k, rfl⟩ := Nat.exists_eq_add_of_le' (show 1 ≤ k by omega)
    rw [z14.l1, hw, if_pos (by omega), if_pos (by omega), rdL_get s i hi, if_neg (by omega), List.drop_of_length_le (by omega), upP_neg (by rintro ⟨e, he, _⟩; cases he), hw2]
    rfl
  | succ m ih =>
    intro j k fl hn hk hfl
    obtain ⟨k, rfl⟩ := Nat.exists_eq_add_of_le' (show 1 ≤ k by omega)
    have hj : j < s[i].length := by omega
    have he : k + 1 - (m + 1) - 1 = k - m - 1 := by omega
    rw [z14.l1, hw, if_pos (by omega), if_pos (by omega), rdL_get s i hi, if_pos (by omega), if_pos (by omega), rd_get s[i] j hj, wrap_up j (by omega), lst_data, lst_data, pathB_data hne, he, List.drop_eq_getElem_cons hj]
    have same : (¬ MkE s (joinB L) i s[i][j]) → z14.l1 k s (pathB L) (fl : Int) ((i + 1 : Nat) : Int) ((j + 1 : Nat) : Int) = z14.l0 (k - m - 1) s (pathB L) ((upP (∃ e ∈ s[i][j] :: s[i].drop (j + 1), MkE s (joinB L) i e) fl i : Nat) : Int) ((i + 2 : Nat) : Int) := fun hno => by
      rw [ih (j + 1) k fl (by omega) (by omega) hfl]
      have : (∃ e ∈ s[i][j] :: s[i].drop (j + 1), MkE s (joinB L) i e) ↔ ∃ e ∈ s[i].drop (j + 1), MkE s (joinB L) i e := by
        constructor
        · rintro ⟨e, he, h⟩
          rcases List.mem_cons.1 he with rfl | he
          · exact absurd h hno
          · exact ⟨e, he, h⟩
        · rintro ⟨e, he, h⟩; exact ⟨e, List.mem_cons_of_mem _ he, h⟩
      rw [upP_congr this]
    have more : MkE s (joinB L) i s[i][j] → z14.l1 k s (pathB L) (mx (fl : Int) (i : Int)) ((i + 1 : Nat) : Int) ((j + 1 : Nat) : Int) = z14.l0 (k - m - 1) s (pathB L) ((upP (∃ e ∈ s[i][j] :: s[i].drop (j + 1), MkE s (joinB L) i e) fl i : Nat) : Int) ((i + 2 : Nat) : Int) := fun hy => by
      rw [mx_nat, ih (j + 1) k (max fl i) (by omega) (by omega) (by omega), upP_pos (⟨_, List.mem_cons_self .., hy⟩ : ∃ e ∈ s[i][j] :: s[i].drop (j + 1), MkE s (joinB L) i e)]
      have : upP (∃ e ∈ s[i].drop (j + 1), MkE s (joinB L) i e) (max fl i) i = max fl i := by unfold upP; split <;> omega
      rw [this]
    by_cases hk1 : ky s[i][j] = joinB L
    · rw [if_pos (show s[i][j].f0.data.toList = joinB L from hk1), if_pos (by omega), Int.toNat_natCast, rstack_eq (s.take i) (by rw [List.length_take]; omega) hq k (by omega), Option.bind_some, kind_path (stkL (s.take i)) hL (by omega) k (by omega), if_neg hne, Option.bind_some, hF]
      by_cases h4 : s[i][j].f1 = 4
      · rw [if_pos h4]
        exact more ⟨hk1, .inl h4⟩
      · rw [if_neg h4]
        by_cases h2 : s[i][j].f1 = 2
        · rw [if_pos h2]
          cases hx : shows (s.take i) (joinB L) with
          | none =>
            rw [show kndR none = (0, 3) from rfl]
            dsimp only
            rw [if_neg (by decide)]
            exact more ⟨hk1, .inr ⟨h2, fun x h => by rw [hx] at h; cases h⟩⟩
          | some x =>
            rw [show kndR (some x) = (x.f1, 0) from rfl]
            dsimp only
            rw [if_pos rfl]
            by_cases hx2 : x.f1 = 2
            · rw [if_pos hx2]
              refine same ?_
              rintro ⟨_, h | ⟨_, h⟩⟩
              · exact h4 h
              · exact h x hx hx2
            · rw [if_neg hx2]
              exact more ⟨hk1, .inr ⟨h2, fun y h => by rw [hx] at h; obtain rfl := Option.some.inj h; exact hx2⟩⟩
        · rw [if_neg h2]
          refine same ?_
          rintro ⟨_, h | ⟨h, _⟩⟩
          · exact h4 h
          · exact h2 h
    · rw [if_neg (show ¬ s[i][j].f0.data.toList = joinB L from hk1)]
      exact same fun h => hk1 h.1
theorem floor_l0 {s : List (List En)} (hS : SL s) {L : List By} (hL : Okn L) (hne : L ≠ []) : ∀ (m n k fl : Nat), n + m = s.length + 1 → 1 ≤ n → 70 * m + 3600 ≤ k → fl ≤ 100 →
    z14.l0 k s (pathB L) (fl : Int) (n : Int) = some ((mkF s (joinB L) m n fl : Nat) : Int) := by
  have hs : ∀ l ∈ s, Lyr l := fun l hl => (hS.2 l hl).1
  have h9 := hS.1
  intro m
  induction m with
  | zero =>
    intro n k fl hn h1 hk hfl
    obtain ⟨k, rfl⟩ := Nat.exists_eq_add_of_le' (show 1 ≤ k by omega)
    rw [z14.l0, if_neg (by omega), mkF]
  | succ m ih =>
    intro n k fl hn h1 hk hfl
    obtain ⟨k, rfl⟩ := Nat.exists_eq_add_of_le' (show 1 ≤ k by omega)
    obtain ⟨i, rfl⟩ : ∃ i, n = i + 1 := ⟨n - 1, by omega⟩
    have hi : i < s.length := by omega
    have h64 := (hS.2 _ (List.getElem_mem hi)).2
    have h := floor_l1 hS hL hne i hi s[i].length 0 k fl (by omega) (by omega) (by omega)
    rw [List.drop_zero] at h
    rw [z14.l0, if_pos (by omega), mkF, show ((0 : Int)) = ((0 : Nat) : Int) from rfl, h, Nat.add_sub_cancel, upP_congr (mk_iff hs (joinB L) i hi)]
    exact ih (i + 2) _ _ (by omega) (by omega) (by omega) (by unfold upP; split <;> omega)
/-- The floor of a directory that is shown. -/
theorem floor_ok {s : List (List En)} (hS : SL s) {L : List By} (hL : Okn L) : ∀ n, n ≤ L.length → ∀ (a d : ByteArray) (f : Nat), atG s L n 0 (B [47]) 2 noB 0 = (a, 2, d, (f : Int), []) → ∀ k, 5000 + n ≤ k → z14.f k s (pathB (L.take n)) = some (f : Int)
  | 0, _, a, d, f, h, k, hk => by
    rw [atG_zero] at h
    injection h with _ h; injection h with _ h; injection h with _ h; injection h with h _
    obtain ⟨k, rfl⟩ := Nat.exists_eq_add_of_le' (show 1 ≤ k by omega)
    rw [z14.f, List.take_zero, if_pos (by unfold pathB; rw [if_pos rfl, B_list]), ← h]; rfl
  | n + 1, hn, a, d, f, h, k, hk => by
    have hs : ∀ l ∈ s, Lyr l := fun l hl => (hS.2 l hl).1
    have h9 := hS.1
    have hne : L.take (n + 1) ≠ [] := fun h => by have := congrArg List.length h; rw [List.length_take, List.length_nil] at this; omega
    have hok : Okn (L.take (n + 1)) := okn_take hL _
    obtain ⟨hP, hpar⟩ := pth_join hok hne
    have hdl : (L.take (n + 1)).dropLast = L.take n := by
      rw [List.dropLast_eq_take, List.take_take, List.length_take]; congr 1; omega
    rw [hdl] at hpar
    obtain ⟨k, rfl⟩ := Nat.exists_eq_add_of_le' (show 1 ≤ k by omega)
    have hA := at_ok hs hL n (by omega)
    rcases atG_snoc s L n 0 (B [47]) 2 noB 0 with ⟨a', b', d', f', h1, h2⟩ | ⟨c, _, _, h2⟩
    · rw [Nat.zero_add] at h2
      rw [h1] at hA
      obtain ⟨f2, hf2, hg, hi⟩ := hA.good rfl
      obtain rfl : f2 = f' := by simp only at hf2; omega
      dsimp only at hg hi
      rw [h2] at h
      unfold atS at h
      by_cases hb : b' = 1
      · rw [if_pos hb] at h
        injection h with _ h; injection h with h _; omega
      · rw [if_neg hb] at h
        have hb2 : b' = 2 := by
          rcases hi with ⟨h, _⟩ | ⟨h, _⟩
          · exact h
          · exact absurd h hb
        have hI : Inv s (parB (joinB (L.take (n + 1)))) f2 := by
          rw [hpar]
          rcases hi with ⟨_, h⟩ | ⟨h, _⟩
          · exact h
          · exact absurd h hb
        have hle : f2 ≤ s.length := by
          rcases hg with ⟨_, h3⟩ | ⟨_, h3, _⟩
          · injection h3 with _ h3; injection h3 with _ h3; injection h3 with _ h3; injection h3 with h3 _; omega
          · omega
        have hAn := askL_ok hs hP hle hI
        unfold askL at hAn
        have dir : fin (askG (joinB (L.take (n + 1))) f2 s.reverse 0 false) = some (none, f) → z14.f (k + 1) s (pathB (L.take (n + 1))) = some (f : Int) := by
          intro hg2
          obtain ⟨_, h3, h4, _, h5, h6⟩ := hAn.dir f hg2
          have hroot : ¬ (pathB (L.take (n + 1))).toList = [47] := fun hr => by
            have := nm_rootE.2 hr
            rw [nm_pathB hok] at this
            exact hne (Option.some.inj this)
          rw [z14.f, if_neg hroot, rparent (nm_pathB hok) hne k (by omega), Option.bind_some, hdl, floor_ok hS hL n (by omega) a' d' f2 (by rw [h1, hb2]) k (by omega), Option.bind_some]
          have hl := floor_l0 hS hok hne s.length 1 k f2 (by omega) (Nat.le_refl _) (by omega) (by omega)
          rw [show ((1 : Nat) : Int) = 1 from rfl] at hl
          rw [hl, mkF_eq s _ f h4 h5 s.length 1 f2 (by omega) (Nat.le_refl _) h3 (by rcases h6 with h6 | h6; exact .inl h6.symm; exact .inr ⟨by omega, h6⟩)]
        cases hq : askG (joinB (L.take (n + 1))) f2 s.reverse 0 false with
        | on g m =>
          rw [hq] at h dir
          cases m with
          | true =>
            injection h with _ h; injection h with _ h; injection h with _ h; injection h with h _
            obtain rfl : g = f := by omega
            exact dir rfl
          | false => injection h with _ h; injection h with h _; cases h
        | dir g =>
          rw [hq] at h dir
          injection h with _ h; injection h with _ h; injection h with _ h; injection h with h _
          obtain rfl : g = f := by omega
          exact dir rfl
        | none_ => rw [hq] at h; injection h with _ h; injection h with h _; cases h
        | file e j =>
          rw [hq] at h
          obtain ⟨_, h4, _⟩ := hAn.file e j (by rw [hq]; rfl)
          injection h with _ h; injection h with h _; omega
    · rw [h2] at h
      injection h with _ h; injection h with h _; cases h
end Go.Proofs.YthfbcclbappbcaaGreatDoor.Th
