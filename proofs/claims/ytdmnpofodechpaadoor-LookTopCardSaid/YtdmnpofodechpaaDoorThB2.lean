/- Two layers made one, in plain words. -/
import Derived.Test.YtdmnpofodechpaaDoorThB
namespace Go.Proofs.YtdmnpofodechpaaDoor.Th
open Go Go.Proofs.YtdmnpofodechpaaDoor.Print
set_option linter.unusedVariables false
set_option linter.unusedSimpArgs false
/-! ### two layers made one -/
def mOneL (l : List En) (e : En) : List En :=
  if e.f1 = 2 then match fnd l (ky e) with
    | none => putL l e
    | some x => if Hld x then l else putL l ⟨e.f0, 4, noB⟩
  else putL (l.filter fun x => !decide (ky x = ky e ∨ Und (ky x) (ky e))) e
def twoL (low high : List En) : List En := high.foldl mOneL low
theorem twoL_snoc (a l : List En) (e : En) : twoL a (l ++ [e]) = mOneL (twoL a l) e := by unfold twoL; rw [List.foldl_append]; rfl
theorem mOneL_srt {t : List En} (h : Srt t) (e : En) : Srt (mOneL t e) := by
  unfold mOneL
  split
  · split
    · exact h.put _
    · split
      · exact h
      · exact h.put _
  · exact (h.filter _).put _
theorem twoL_srt {t : List En} (h : Srt t) (l : List En) : Srt (twoL t l) := by
  induction l using snoc_ind with
  | h0 => exact h
  | h1 l e ih => rw [twoL_snoc]; exact mOneL_srt ih e
theorem mOneL_len (t : List En) (e : En) : (mOneL t e).length ≤ t.length + 1 := by
  unfold mOneL
  split
  · split
    · exact putL_len _ _
    · split
      · exact Nat.le_succ _
      · exact putL_len _ _
  · exact Nat.le_trans (putL_len _ _) (Nat.succ_le_succ (List.length_filter_le _ _))
theorem twoL_len (t l : List En) : (twoL t l).length ≤ t.length + l.length := by
  induction l using snoc_ind with
  | h0 => exact Nat.le_refl _
  | h1 l e ih => rw [twoL_snoc, List.length_append]; have := mOneL_len (twoL t l) e; simp; omega
/-- A directory of the high layer over what the low one has. -/
def dirOver (e : En) : Option En → En
  | none => e
  | some x => if Hld x then x else ⟨e.f0, 4, noB⟩
def mrg (F : By → Option En) (high : List En) (p : By) : Option En := match fnd high p with
  | some e => if e.f1 = 2 then some (dirOver e (if Hid high p then none else F p)) else some e
  | none => if Hid high p then none else F p
theorem fnd_mOneL {t : List En} (h : Srt t) (e : En) (p : By) : fnd (mOneL t e) p =
    if p = ky e then (if e.f1 = 2 then some (dirOver e (fnd t p)) else some e) else if e.f1 ≠ 2 ∧ Und p (ky e) then none else fnd t p := by
  unfold mOneL
  split
  · rename_i h2
    have hn : ¬ (e.f1 ≠ 2 ∧ Und p (ky e)) := fun k => k.1 h2
    by_cases hp : p = ky e
    · rw [if_pos hp]
      subst hp
      cases hf : fnd t (ky e) with
      | none => simp only; rw [fnd_putL _ h, if_pos rfl]; rfl
      | some x =>
        unfold dirOver
        by_cases hh : Hld x
        · simp only [if_pos hh]; exact hf
        · simp only [if_neg hh]; rw [fnd_putL _ h, if_pos (by rfl)]
    · rw [if_neg hp, if_neg hn]
      split
      · rw [fnd_putL _ h, if_neg hp]
      · split
        · rfl
        · rw [fnd_putL _ h, if_neg (by exact hp)]
  · rename_i h2
    rw [fnd_putL _ (h.filter _)]
    by_cases hp : p = ky e
    · rw [if_pos hp, if_pos hp]
    · rw [if_neg hp, if_neg hp, fnd_filter h]
      cases hf : fnd t p with
      | none => simp
      | some x =>
        have hk := fnd_ky hf
        rw [Option.filter_some, hk]
        by_cases hu : Und p (ky e)
        · rw [if_neg (by simp [hu]), if_pos ⟨h2, hu⟩]
        · rw [if_pos (by simp [hu, hp]), if_neg (fun k => hu k.2)]
theorem fnd_twoL {low : List En} (h : Srt low) (high : List En) (hh : Srt high) : fnd (twoL low high) = mrg (fnd low) high := by
  induction high using snoc_ind with
  | h0 => funext p; unfold mrg; rw [fnd_nil]; simp only; rw [if_neg (Hid.nil p)]; rfl
  | h1 l e ih =>
    funext p
    rw [twoL_snoc, fnd_mOneL (twoL_srt h l), ih hh.parts.1]
    by_cases hp : p = ky e
    · rw [if_pos hp]
      have hn : fnd l p = none := snoc_none hh (.inl hp)
      have hu : ¬ Und p (ky e) := by rw [hp]; exact Und.irrefl _
      have h1 : mrg (fnd low) l p = if Hid l p then none else fnd low p := by unfold mrg; rw [hn]
      have h2 : mrg (fnd low) (l ++ [e]) p = if e.f1 = 2 then some (dirOver e (if Hid (l ++ [e]) p then none else fnd low p)) else some e := by
        unfold mrg; rw [fnd_append, hn, Option.none_or, fnd_cons, if_pos hp.symm]
      have h3 : (if Hid (l ++ [e]) p then none else fnd low p) = if Hid l p then none else fnd low p := by
        by_cases hk : Hid l p
        · rw [if_pos hk, if_pos ((hid_snoc l e p).2 (.inl hk))]
        · rw [if_neg hk, if_neg (fun k => by rcases (hid_snoc l e p).1 k with k | k; exact hk k; exact hu k.2)]
      rw [h1, h2, h3]
    · rw [if_neg hp]
      have hf : fnd (l ++ [e]) p = fnd l p := by rw [fnd_append, fnd_cons, if_neg (Ne.symm hp), fnd_nil, Option.or_none]
      by_cases hu : e.f1 ≠ 2 ∧ Und p (ky e)
      · rw [if_pos hu]
        have hn : fnd l p = none := snoc_none hh (.inr hu.2)
        unfold mrg
        rw [hf, hn]
        simp only
        rw [if_pos ((hid_snoc l e p).2 (.inr hu))]
      · rw [if_neg hu]
        unfold mrg
        rw [hf]
        have hi : Hid (l ++ [e]) p ↔ Hid l p := (hid_snoc l e p).trans ⟨fun k => k.elim id (fun k => absurd k hu), .inl⟩
        by_cases hk : Hid l p
        · rw [if_pos hk, if_pos (hi.2 hk)]
        · rw [if_neg hk, if_neg (fun k => hk (hi.1 k))]
theorem dirOver_ok {e : En} (h2 : e.f1 = 2) (hr : Rt e) (o : Option En) (ho : ∀ x, o = some x → ky x = ky e ∧ Rt x) : ky (dirOver e o) = ky e ∧ Rt (dirOver e o) ∧ Hld (dirOver e o) ∧ shw (dirOver e o) = some e := by
  have he : e.f2 = noB := hr.noda (by omega)
  have heq : ∀ x : En, ky x = ky e → x.f1 = 2 → x.f2 = noB → x = e := fun x h0 h1 h3 => en_ext h0 (h1.trans h2.symm) (by unfold da; rw [h3, he])
  cases o with
  | none => exact ⟨rfl, hr, .inl h2, shw_two h2⟩
  | some x =>
    obtain ⟨hk, hx⟩ := ho x rfl
    have hd : dirOver e (some x) = if Hld x then x else ⟨e.f0, 4, noB⟩ := rfl
    rw [hd]
    by_cases hh : Hld x
    · rw [if_pos hh]
      refine ⟨hk, hx, hh, ?_⟩
      have hx2 : x.f2 = noB := hx.noda (by rcases hh with h | h <;> omega)
      rcases hh with h | h
      · rw [shw_two h]; exact congrArg some (heq x hk h hx2)
      · unfold shw; rw [if_neg (by omega), if_pos h]; exact congrArg some (heq _ hk rfl hx2)
    · rw [if_neg hh]
      refine ⟨rfl, ⟨hr.1, .inr ⟨.inr (.inr rfl), rfl⟩⟩, .inr rfl, ?_⟩
      unfold shw
      rw [if_neg (by simp), if_pos rfl]
      exact congrArg some (heq _ rfl rfl rfl)
/-- A layer, by what stands at each path. -/
structure LyrF (F : By → Option En) : Prop where
  rt : ∀ p e, F p = some e → ky e = p ∧ Rt e
  par : ∀ p e, F p = some e → parB p = [] ∨ ∃ x, F (parB p) = some x ∧ Hld x
theorem Lyr.f {t : List En} (h : Lyr t) : LyrF (fnd t) := by
  refine ⟨fun p e he => ?_, fun p e he => ?_⟩
  · obtain ⟨hm, hk⟩ := fnd_mem he; exact ⟨hk, h.rt e hm⟩
  · obtain ⟨hm, hk⟩ := fnd_mem he
    rw [← hk]
    exact h.fndp hm
theorem LyrF.lyr {t : List En} (h : Srt t) (hf : LyrF (fnd t)) : Lyr t := by
  refine ⟨fun e he => (hf.rt _ e (h.at_ he)).2, h, fun e he => ?_⟩
  rcases hf.par _ e (h.at_ he) with h0 | ⟨x, hx, h2⟩
  · exact .inl h0
  · exact .inr ⟨x, (fnd_mem hx).1, (fnd_mem hx).2, h2⟩
theorem mrg_lyr {F : By → Option En} (hF : LyrF F) {l : List En} (hl : Lyr l) : LyrF (mrg F l) := by
  have hdo : ∀ p e, fnd l p = some e → e.f1 = 2 → ky (dirOver e (if Hid l p then none else F p)) = ky e ∧ Rt (dirOver e (if Hid l p then none else F p)) ∧ Hld (dirOver e (if Hid l p then none else F p)) := by
    intro p e he h2
    obtain ⟨hm, hk⟩ := fnd_mem he
    have := dirOver_ok h2 (hl.rt e hm) (if Hid l p then none else F p) (fun x hx => by
      split at hx
      · cases hx
      · obtain ⟨a, b⟩ := hF.rt p x hx; exact ⟨a.trans hk.symm, b⟩)
    exact ⟨this.1, this.2.1, this.2.2.1⟩
  have hrt : ∀ p e, mrg F l p = some e → Pth p ∧ ky e = p ∧ Rt e := by
    intro p e he
    unfold mrg at he
    cases hf : fnd l p with
    | some x =>
      rw [hf] at he; simp only at he
      obtain ⟨hm, hk⟩ := fnd_mem hf
      have hr := hl.rt x hm
      split at he
      · rename_i h2
        obtain ⟨a, b, _⟩ := hdo p x hf h2
        obtain rfl := Option.some.inj he
        exact ⟨hk ▸ hr.1, a.trans hk, b⟩
      · obtain rfl := Option.some.inj he
        exact ⟨hk ▸ hr.1, hk, hr⟩
    | none =>
      rw [hf] at he; simp only at he
      split at he
      · cases he
      · obtain ⟨h1, h2⟩ := hF.rt p e he
        exact ⟨h1 ▸ h2.1, h1, h2⟩
  refine ⟨fun p e he => (hrt p e he).2, fun p e he => ?_⟩
  have hP := (hrt p e he).1
  unfold mrg at he
  cases hf : fnd l p with
  | some x =>
    obtain ⟨hm, hk⟩ := fnd_mem hf
    rcases hl.fndp hm with h0 | ⟨y, hy, hh⟩
    · left; rw [← hk]; exact h0
    · right
      rw [hk] at hy
      unfold mrg
      rw [hy]
      simp only
      split
      · rename_i h2
        exact ⟨_, rfl, (hdo _ _ hy h2).2.2⟩
      · exact ⟨y, rfl, hh⟩
  | none =>
    rw [hf] at he; simp only at he
    split at he
    · cases he
    · rename_i hh
      rcases hF.par p e he with h0 | ⟨x, hx, h2⟩
      · exact .inl h0
      · right
        unfold mrg
        have hnh : ¬ Hid l (parB p) := fun k => hh (k.und hP.und)
        cases hg : fnd l (parB p) with
        | some y =>
          obtain ⟨hm, hk⟩ := fnd_mem hg
          have hy2 : y.f1 = 2 := by
            rcases Decidable.em (y.f1 = 2) with h | h
            · exact h
            · exact absurd ⟨y, hm, h, by rw [hk]; exact hP.und⟩ hh
          simp only
          rw [if_pos hy2]
          exact ⟨_, rfl, (hdo _ _ hg hy2).2.2⟩
        | none =>
          simp only
          rw [if_neg hnh]
          exact ⟨x, hx, h2⟩
theorem twoL_lyr {low high : List En} (h : Lyr low) (hh : Lyr high) : Lyr (twoL low high) := by
  refine LyrF.lyr (twoL_srt h.srt high) ?_
  rw [fnd_twoL h.srt high hh.srt]
  exact mrg_lyr h.f hh
/-- A stack shows the same with both, and with the one. -/
theorem ovr_two (F : By → Option En) {low high : List En} (h : Lyr low) (hh : Lyr high) : ovr F (twoL low high) = ovr (ovr F low) high := by
  funext p
  have hs := twoL_srt h.srt high
  have hf := congrFun (fnd_twoL h.srt high hh.srt)
  -- what hides in the one
  have hhid : ∀ p, ¬ Hid high p → fnd low p = none → (Hid (twoL low high) p ↔ Hid low p) := by
    intro p hn hl
    constructor
    · rintro ⟨x, hx, h2, hu⟩
      have h1 := hs.at_ hx
      rw [hf] at h1
      unfold mrg at h1
      cases hq : fnd high (ky x) with
      | some e =>
        rw [hq] at h1; simp only at h1
        obtain ⟨hm, hk⟩ := fnd_mem hq
        split at h1
        · rename_i he2
          rw [if_neg (fun k => hn (k.und hu))] at h1
          have h1 := Option.some.inj h1
          cases hlo : fnd low (ky x) with
          | none => rw [hlo] at h1; unfold dirOver at h1; subst h1; exact absurd he2 h2
          | some y =>
            obtain ⟨hm2, hk2⟩ := fnd_mem hlo
            rw [hlo] at h1; unfold dirOver at h1
            refine ⟨y, hm2, fun e2 => ?_, by rw [hk2]; exact hu⟩
            simp only at h1
            rw [if_pos (.inl e2)] at h1
            subst h1; exact h2 e2
        · rename_i he2
          exact absurd ⟨e, hm, he2, by rw [hk]; exact hu⟩ hn
      | none =>
        rw [hq] at h1; simp only at h1
        split at h1
        · cases h1
        · exact ⟨x, (fnd_mem h1).1, h2, hu⟩
    · rintro ⟨y, hy, h2, hu⟩
      have hlo := h.srt.at_ hy
      cases hq : fnd high (ky y) with
      | some e =>
        obtain ⟨hm, hk⟩ := fnd_mem hq
        have he2 : e.f1 = 2 := by
          rcases Decidable.em (e.f1 = 2) with k | k
          · exact k
          · exact absurd ⟨e, hm, k, by rw [hk]; exact hu⟩ hn
        have h3 : fnd (twoL low high) (ky y) = some (dirOver e (some y)) := by
          rw [hf]; unfold mrg; rw [hq]; simp only
          rw [if_pos he2, if_neg (fun k => hn (k.und hu)), hlo]
        obtain ⟨hm3, hk3⟩ := fnd_mem h3
        refine ⟨_, hm3, ?_, by rw [hk3]; exact hu⟩
        unfold dirOver; simp only
        split
        · exact h2
        · simp
      | none =>
        have h3 : fnd (twoL low high) (ky y) = some y := by
          rw [hf]; unfold mrg; rw [hq]; simp only
          rw [if_neg (fun k => hn (k.und hu)), hlo]
        exact ⟨y, (fnd_mem h3).1, h2, hu⟩
  have hall : ovr F (twoL low high) p = match mrg (fnd low) high p with
      | some e => shw e
      | none => if Hid (twoL low high) p then none else F p := by unfold ovr; rw [hf]; (try rfl)
  rw [hall]
  unfold mrg
  conv => rhs; unfold ovr
  cases hq : fnd high p with
  | some e =>
    simp only
    obtain ⟨hm, hk⟩ := fnd_mem hq
    by_cases h2 : e.f1 = 2
    · rw [if_pos h2]
      simp only
      have := dirOver_ok h2 (hh.rt e hm) (if Hid high p then none else fnd low p) (fun x hx => by
        split at hx
        · cases hx
        · obtain ⟨a, b⟩ := fnd_mem hx; exact ⟨b.trans hk.symm, h.rt x a⟩)
      rw [this.2.2.2, shw_two h2]
    · rw [if_neg h2]
  | none =>
    simp only
    by_cases hd : Hid high p
    · rw [if_pos hd, if_pos hd]
      simp only
      rw [if_pos]
      obtain ⟨x, hx, h2, hu⟩ := hd
      have h3 : fnd (twoL low high) (ky x) = some x := by
        rw [hf]; unfold mrg; rw [hh.srt.at_ hx]; simp only; rw [if_neg h2]
      exact ⟨x, (fnd_mem h3).1, h2, hu⟩
    · rw [if_neg hd, if_neg hd]
      cases hl : fnd low p with
      | some y => simp only [ovr, hl]
      | none =>
        simp only [ovr, hl]
        have := hhid p hd hl
        by_cases k : Hid low p
        · rw [if_pos (this.2 k), if_pos k]
        · rw [if_neg (fun j => k (this.1 j)), if_neg k]
end Go.Proofs.YtdmnpofodechpaaDoor.Th
