/- The reference of trees and stacks in plain words: shaleref11.Kind, Data; shaleref12.At. -/
import Derived.Test.YthfbcclbappbcaaGreatDoorRefD
import Derived.Test.YthfbcclbappbcaaGreatDoorLookB
import Derived.Test.YthfbcclbappbcaaGreatDoorPrintRA
namespace Go.Proofs.YthfbcclbappbcaaGreatDoor.Th
open Go Go.RowKit Go.Proofs.YthfbcclbappbcaaGreatDoor.Print Go.Proofs.YthfbcclbappbcaaGreatDoorW.PrintWords
set_option linter.unusedVariables false
set_option linter.unusedSimpArgs false
open Classical
theorem nm_rootE {p : ByteArray} : nm p = some [] ↔ p.toList = [47] := by
  constructor
  · intro hn; rw [nm_path hn, lst_data]; unfold pathB; rw [if_pos rfl, B_data]
  · intro h1; unfold nm; rw [← lst_data, h1]; exact splitF_root
theorem not_rootE {p : By} (h : Pth p) : p ≠ [47] := fun e => by
  obtain ⟨l, h1, hne⟩ := h
  rw [e, splitF_root] at h1
  exact hne (Option.some.inj h1).symm
def kndR (o : Option En) : Int × Int := match o with | some e => (e.f1, 0) | none => (0, 3)
theorem kind_l0 (t : List En) (p : ByteArray) (hl : t.length ≤ 100000) : ∀ (n i k : Nat), i + n = t.length → n < k → shaleref11_Kind.l0 k t p (i : Int) = some (kndR (fnd (t.drop i) p.data.toList)) := by
  intro n
  induction n with
  | zero =>
    intro i k hn hk
    obtain ⟨k, rfl⟩ := Nat.exists_eq_add_of_le' (show 1 ≤ k by omega)
    rw [shaleref11_Kind.l0, if_neg (by omega), List.drop_of_length_le (by omega), fnd_nil]; rfl
  | succ n ih =>
    intro i k hn hk
    obtain ⟨k, rfl⟩ := Nat.exists_eq_add_of_le' (show 1 ≤ k by omega)
    have hi : i < t.length := by omega
    rw [shaleref11_Kind.l0, if_pos (by omega), if_pos (by omega), rd_get t i hi, wrap_up i (by omega), lst_data, lst_data, List.drop_eq_getElem_cons hi, fnd_cons]
    by_cases h : ky t[i] = p.data.toList
    · rw [if_pos (show t[i].f0.data.toList = p.data.toList from h), if_pos h]; rfl
    · rw [if_neg (show ¬ t[i].f0.data.toList = p.data.toList from h), if_neg h]
      exact ih (i + 1) k (by omega) (by omega)
theorem data_l0 (t : List En) (p : ByteArray) (hl : t.length ≤ 100000) : ∀ (n i k : Nat), i + n = t.length → n < k → shaleref11_Data.l0 k t p (i : Int) = some (match fnd (t.drop i) p.data.toList with | some e => e.f2 | none => noB) := by
  intro n
  induction n with
  | zero =>
    intro i k hn hk
    obtain ⟨k, rfl⟩ := Nat.exists_eq_add_of_le' (show 1 ≤ k by omega)
    rw [shaleref11_Data.l0, if_neg (by omega), List.drop_of_length_le (by omega), fnd_nil]; rfl
  | succ n ih =>
    intro i k hn hk
    obtain ⟨k, rfl⟩ := Nat.exists_eq_add_of_le' (show 1 ≤ k by omega)
    have hi : i < t.length := by omega
    rw [shaleref11_Data.l0, if_pos (by omega), if_pos (by omega), rd_get t i hi, wrap_up i (by omega), lst_data, lst_data, List.drop_eq_getElem_cons hi, fnd_cons]
    by_cases h : ky t[i] = p.data.toList
    · rw [if_pos (show t[i].f0.data.toList = p.data.toList from h), if_pos h]
    · rw [if_neg (show ¬ t[i].f0.data.toList = p.data.toList from h), if_neg h]
      exact ih (i + 1) k (by omega) (by omega)
theorem kind_eq (t : List En) (p : ByteArray) (hl : t.length ≤ 2000) (hp : p.size ≤ 1000) (k : Nat) (hk : 3300 ≤ k) : shaleref11_Kind.f k t p = some (match nm p with | none => (0, 2) | some L => if L = [] then (2, 0) else kndR (fnd t p.data.toList)) := by
  unfold shaleref11_Kind.f
  rw [rsplit p hp k (by omega), Option.bind_some]
  cases hn : nm p with
  | none => dsimp only; rw [if_neg (by decide)]
  | some L =>
    dsimp only
    rw [if_pos rfl]
    by_cases hL : L = []
    · subst hL
      rw [if_pos (nm_rootE.1 hn), if_pos rfl]
    · rw [if_neg (fun h => hL (Option.some.inj (hn.symm.trans (nm_rootE.2 h)))), if_neg hL]
      have := kind_l0 t p (by omega) t.length 0 k (by omega) (by omega)
      rwa [List.drop_zero] at this
theorem data_eq (t : List En) (p : ByteArray) (hl : t.length ≤ 2000) (k : Nat) (hk : 3300 ≤ k) : shaleref11_Data.f k t p = some (match fnd t p.data.toList with | some e => e.f2 | none => noB) := by
  unfold shaleref11_Data.f
  have := data_l0 t p (by omega) t.length 0 k (by omega) (by omega)
  rwa [List.drop_zero] at this
/-- What stands at names, in a list. -/
def DirAt (F : By → Option En) (L : List By) : Prop := L = [] ∨ ∃ e, F (joinB L) = some e ∧ e.f1 = 2
def FileAt (F : By → Option En) (L : List By) : Prop := L ≠ [] ∧ ∃ e, F (joinB L) = some e ∧ e.f1 = 1
def NoneAt (F : By → Option En) (L : List By) : Prop := L ≠ [] ∧ F (joinB L) = none
theorem kind_path (t : List En) {L : List By} (hL : Okn L) (hl : t.length ≤ 2000) (k : Nat) (hk : 3300 ≤ k) : shaleref11_Kind.f k t (pathB L) = some (if L = [] then (2, 0) else kndR (fnd t (joinB L))) := by
  have hn := nm_pathB hL
  rw [kind_eq t _ hl (by have := (nm_len hn).1; omega) k hk, hn]
  by_cases h : L = []
  · rw [if_pos h]; dsimp only; rw [if_pos h]
  · rw [if_neg h]; dsimp only; rw [if_neg h, pathB_data h]
theorem kind_dir {t : List En} {L : List By} (hL : Okn L) (hl : t.length ≤ 2000) (k : Nat) (hk : 3300 ≤ k) (h : DirAt (fnd t) L) : shaleref11_Kind.f k t (pathB L) = some (2, 0) := by
  rw [kind_path t hL hl k hk]
  by_cases h0 : L = []
  · rw [if_pos h0]
  · rw [if_neg h0]
    rcases h with h | ⟨e, h1, h2⟩
    · exact absurd h h0
    · rw [h1]; show some (e.f1, 0) = _; rw [h2]
theorem kind_file {t : List En} {L : List By} (hL : Okn L) (hl : t.length ≤ 2000) (k : Nat) (hk : 3300 ≤ k) (h : FileAt (fnd t) L) : shaleref11_Kind.f k t (pathB L) = some (1, 0) := by
  obtain ⟨h0, e, h1, h2⟩ := h
  rw [kind_path t hL hl k hk, if_neg h0, h1]; show some (e.f1, 0) = _; rw [h2]
theorem kind_none {t : List En} {L : List By} (hL : Okn L) (hl : t.length ≤ 2000) (k : Nat) (hk : 3300 ≤ k) (h : NoneAt (fnd t) L) : shaleref11_Kind.f k t (pathB L) = some (0, 3) := by
  rw [kind_path t hL hl k hk, if_neg h.1, h.2]; rfl
theorem rat_skip (t : List En) (hl : t.length ≤ 2000) (p : ByteArray) {L : List By} (hL : Okn L) : ∀ (n i k : Nat), i + n ≤ L.length → 3400 ≤ k → (∀ j, i ≤ j → j < i + n → DirAt (fnd t) (L.take j)) →
    shaleref12_At.l0 (k + n) p (L.map B) t (i : Int) = shaleref12_At.l0 k p (L.map B) t ((i + n : Nat) : Int) := by
  intro n
  induction n with
  | zero => intro i k _ _ _; rfl
  | succ n ih =>
    intro i k hn hk h
    have h6 := hL.1
    have hd := h i (Nat.le_refl _) (by omega)
    rw [← Nat.add_assoc k n 1, shaleref12_At.l0, if_pos (by rw [List.length_map]; omega), if_pos (by omega), if_pos (by rw [List.length_map]; omega), Int.toNat_natCast, ← List.map_take, rjoin (okn_take hL i) _ (by omega), Option.bind_some, kind_dir (okn_take hL i) hl _ (by omega) hd, Option.bind_some]
    dsimp only
    rw [if_pos rfl, if_neg (by decide), wrap_up i (by omega), ih (i + 1) k (by omega) hk (fun j h1 h2 => h j (by omega) (by omega))]
    congr 2; omega
/-- How an answer came about. -/
def Tr (F : By → Option En) (L : List By) (n : Nat) (er : List Int) : Prop :=
  (er = [] ∧ ∀ j, j < n → DirAt F (L.take j)) ∨ ∃ m, m < n ∧ (∀ j, j < m → DirAt F (L.take j)) ∧ (er = [6] ∧ FileAt F (L.take m) ∨ er = [3] ∧ DirAt F (L.take m) ∧ NoneAt F (L.take (m + 1)))
theorem at_tr {s : List (List En)} (hs : ∀ l ∈ s, Lyr l) {L : List By} (hL : Okn L) : ∀ n, n ≤ L.length → Tr (shows s) L n (atG s L n 0 (B [47]) 2 noB 0).2.2.2.2
  | 0, _ => .inl ⟨rfl, fun j h => by omega⟩
  | n + 1, hn => by
    have ih := at_tr hs hL n (by omega)
    have hA := at_ok hs hL n (by omega)
    have hA1 := at_ok hs hL (n + 1) hn
    have hne : L.take (n + 1) ≠ [] := fun h => by have := congrArg List.length h; rw [List.length_take, List.length_nil] at this; omega
    rcases atG_snoc s L n 0 (B [47]) 2 noB 0 with ⟨a, b, d, f, h1, h2⟩ | ⟨c, hc, h1, h2⟩
    · rw [Nat.zero_add] at h2
      rw [h2] at hA1 ⊢
      rw [h1] at ih hA
      have hpre : ∀ j, j < n → DirAt (shows s) (L.take j) := by
        rcases ih with ⟨_, h⟩ | ⟨m, _, _, ⟨h, _⟩ | ⟨h, _⟩⟩
        · exact h
        · cases h
        · cases h
      obtain ⟨f', hf', hg, hi⟩ := hA.good rfl
      dsimp only at hg hi
      by_cases hb : b = 1
      · refine .inr ⟨n, by omega, hpre, .inl ⟨by unfold atS; rw [if_pos hb], ?_⟩⟩
        rcases hg with ⟨_, h3⟩ | ⟨h3, _, h4⟩
        · injection h3 with _ h3; injection h3 with h3 _; omega
        · exact ⟨h3, _, h4, hb⟩
      · have hb2 : b = 2 := by
          rcases hi with ⟨h, _⟩ | ⟨h, _⟩
          · exact h
          · exact absurd h hb
        have hdn : DirAt (shows s) (L.take n) := by
          rcases hg with ⟨h3, _⟩ | ⟨_, _, h4⟩
          · exact .inl h3
          · exact .inr ⟨_, h4, hb2⟩
        cases her : (atS s L n b f).2.2.2.2 with
        | nil =>
          refine .inl ⟨rfl, fun j hj => ?_⟩
          rcases Nat.lt_or_ge j n with h | h
          · exact hpre j h
          · obtain rfl : j = n := by omega
            exact hdn
        | cons c r =>
          obtain ⟨hx, _, hno⟩ := hA1.bad (by rw [her]; simp)
          refine .inr ⟨n, by omega, hpre, .inr ⟨?_, hdn, hne, hno⟩⟩
          rw [← her]
          unfold atS
          rw [if_neg hb]
          unfold atS at her
          rw [if_neg hb] at her
          revert her
          cases askG (joinB (L.take (n + 1))) f s.reverse 0 false with
          | on g m =>
            cases m with
            | true => intro her; cases her
            | false => intro _; rfl
          | dir g => intro her; cases her
          | none_ => intro _; rfl
          | file e j => intro her; cases her
    · rw [h1] at ih
      rw [h2]
      rcases ih with ⟨h, _⟩ | ⟨m, hm, h3, h4⟩
      · cases h
      · exact .inr ⟨m, by omega, h3, h4⟩
/-- The reference's answer, out of the program's. -/
theorem rat_eq {s : List (List En)} (hS : SL s) (p : ByteArray) (hp : p.size ≤ 1000) (k : Nat) (hk : 4000 ≤ k) :
    (nm p = none ∧ shaleref12_At.f k s p = some (0, noB, 2)) ∨ (∃ L, nm p = some L ∧ (((atX s p).2.2.2.2 = [] ∧ (atX s p).1 = p ∧ shaleref12_At.f k s p = some ((atX s p).2.1, (atX s p).2.2.1, 0)) ∨ ∃ c : Int, (c = 3 ∨ c = 6) ∧ atX s p = (noB, 0, noB, 0, [c]) ∧ shaleref12_At.f k s p = some (0, noB, c))) := by
  have hs : ∀ l ∈ s, Lyr l := fun l hl => (hS.2 l hl).1
  unfold shaleref12_At.f
  rw [rsplit p hp k (by omega), Option.bind_some]
  cases hn : nm p with
  | none => left; refine ⟨rfl, ?_⟩; dsimp only; rw [if_neg (by decide)]; rfl
  | some L =>
    right
    refine ⟨L, rfl, ?_⟩
    dsimp only
    have hok := nm_ok hn
    have h6 := hok.1
    have hT := stkL_tre hs
    have hlen := stkL_len s 64 fun l hl => (hS.2 l hl).2
    have h9 := hS.1
    have hF : fnd (stkL s) = shows s := fnd_stkL (fun l hl => (hs l hl).srt)
    rw [if_pos rfl, rstack_eq s (by omega) hS.2 k (by omega), Option.bind_some]
    have hA := at_all hS hn
    have hx : atX s p = atG s L L.length 0 (B [47]) 2 noB 0 := by unfold atX; rw [if_pos hS, hn]
    have hTr := at_tr hs hok L.length (Nat.le_refl _)
    rw [← hx] at hTr
    have hfin : ∀ K, 3400 ≤ K → (∀ j, j < L.length → DirAt (shows s) (L.take j)) → shaleref12_At.l0 (K + 1 + L.length) p (L.map B) (stkL s) 0 = some ((if L = [] then (2, 0) else kndR (shows s (joinB L))).1, (match shows s p.data.toList with | some e => e.f2 | none => noB), (if L = [] then (2, 0) else kndR (shows s (joinB L))).2) := fun K hK hd => by
      have h := rat_skip (stkL s) (by omega) p hok L.length 0 (K + 1) (by omega) (by omega) (fun j _ hj => by rw [hF]; exact hd j (by omega))
      rw [show ((0 : Nat) : Int) = 0 from rfl] at h
      rw [h, Nat.zero_add, shaleref12_At.l0, if_neg (by rw [List.length_map]; omega)]
      rw [nm_path hn, kind_path (stkL s) hok (by omega) K (by omega), Option.bind_some, data_eq (stkL s) _ (by omega) K (by omega), Option.bind_some, hF]
    obtain ⟨K, hK⟩ : ∃ K, k = K + 1 + L.length := ⟨k - 1 - L.length, by omega⟩
    rw [hK]
    rcases hTr with ⟨her, hd⟩ | ⟨m, hm, hd, hc⟩
    · left
      obtain ⟨f, hf, hg, _⟩ := hA.good her
      rw [hfin K (by omega) hd]
      rcases hg with ⟨h0, h1⟩ | ⟨h0, _, h1⟩
      · subst h0
        have hp0 : p.data.toList = [47] := by rw [← lst_data]; exact nm_rootE.1 hn
        have hno : shows s [47] = none := by
          cases hq : shows s [47] with
          | none => rfl
          | some e =>
            obtain ⟨hk, hr, _⟩ := (shows_tre hs).rt _ _ hq
            have := hr.1
            rw [hk] at this
            exact absurd rfl (not_rootE this)
        rw [if_pos rfl, hp0, hno]
        rw [h1] at her ⊢
        exact ⟨rfl, (nm_path hn).symm ▸ (by unfold pathB; rw [if_pos rfl]), rfl⟩
      · rw [if_neg h0]
        have hpj : p.data.toList = joinB L := by rw [nm_path hn, pathB_data h0]
        rw [hpj, h1]
        refine ⟨her, ?_, rfl⟩
        have := ((shows_tre hs).rt _ _ h1).1
        apply by_ext
        rw [hpj]; exact this
    · right
      rcases hc with ⟨her, hfile⟩ | ⟨her, hdm, hno⟩
      · refine ⟨6, .inr rfl, ?_, ?_⟩
        · rcases (hA.bad (by rw [her]; simp)).1 with h | h
          · rw [h] at her; cases her
          · exact h
        · have h := rat_skip (stkL s) (by omega) p hok m 0 (K + 1 + L.length - m) (by omega) (by omega) (fun j _ hj => by rw [hF]; exact hd j (by omega))
          rw [show K + 1 + L.length - m + m = K + 1 + L.length by omega, show ((0 : Nat) : Int) = 0 from rfl, Nat.zero_add] at h
          rw [h]
          obtain ⟨k2, hk2⟩ : ∃ k2, K + 1 + L.length - m = k2 + 1 := ⟨K + L.length - m, by omega⟩
          rw [hk2, shaleref12_At.l0, if_pos (by rw [List.length_map]; omega), if_pos (by omega), if_pos (by rw [List.length_map]; omega), Int.toNat_natCast, ← List.map_take, rjoin (okn_take hok m) _ (by omega), Option.bind_some, kind_file (okn_take hok m) (by omega) _ (by omega) (by rw [hF]; exact hfile), Option.bind_some]
          dsimp only
          rw [if_pos rfl, if_pos rfl]; rfl
      · refine ⟨3, .inl rfl, ?_, ?_⟩
        · rcases (hA.bad (by rw [her]; simp)).1 with h | h
          · exact h
          · rw [h] at her; cases her
        · rcases Nat.lt_or_ge (m + 1) L.length with hlt | hge
          · have h := rat_skip (stkL s) (by omega) p hok (m + 1) 0 (K + 1 + L.length - (m + 1)) (by omega) (by omega) (fun j _ hj => by
              rw [hF]
              rcases Nat.lt_or_ge j m with h1 | h1
              · exact hd j h1
              · obtain rfl : j = m := by omega
                exact hdm)
            rw [show K + 1 + L.length - (m + 1) + (m + 1) = K + 1 + L.length by omega, show ((0 : Nat) : Int) = 0 from rfl, Nat.zero_add] at h
            rw [h]
            obtain ⟨k2, hk2⟩ : ∃ k2, K + 1 + L.length - (m + 1) = k2 + 1 := ⟨K + L.length - (m + 1), by omega⟩
            rw [hk2, shaleref12_At.l0, if_pos (by rw [List.length_map]; omega), if_pos (by omega), if_pos (by rw [List.length_map]; omega), Int.toNat_natCast, ← List.map_take, rjoin (okn_take hok _) _ (by omega), Option.bind_some, kind_none (okn_take hok _) (by omega) _ (by omega) (by rw [hF]; exact hno), Option.bind_some]
            dsimp only
            rw [if_neg (by decide)]; rfl
          · have hml : m + 1 = L.length := by omega
            rw [hfin K (by omega) (fun j hj => by
              rcases Nat.lt_or_ge j m with h1 | h1
              · exact hd j h1
              · obtain rfl : j = m := by omega
                exact hdm)]
            rw [hml, List.take_length] at hno
            have hpj : p.data.toList = joinB L := by rw [nm_path hn, pathB_data hno.1]
            rw [if_neg hno.1, hpj, hno.2]; rfl
end Go.Proofs.YthfbcclbappbcaaGreatDoor.Th
