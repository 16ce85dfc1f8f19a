/- merge.One, merge.Bottom, merge.Two: what the printed functions answer, in plain words. -/
import Derived.Test.YtljndnmmnkpmnaaGreatDoorFoldA
import Derived.Test.YtljndnmmnkpmnaaGreatDoorLayC
import Derived.Test.YtljndnmmnkpmnaaGreatDoorThC
import Derived.Test.YtljndnmmnkpmnaaGreatDoorPrintF
import Derived.Test.YtljndnmmnkpmnaaGreatDoorPrintMe2
namespace Go.Proofs.YtljndnmmnkpmnaaGreatDoor.Th
open Go Go.RowKit Go.Proofs.YtljndnmmnkpmnaaGreatDoor.Print Go.Proofs.YtljndnmmnkpmnaaGreatDoorW.PrintWords
set_option linter.unusedVariables false
set_option linter.unusedSimpArgs false
open Classical
abbrev f0' : En → ByteArray := fun e => e.f0
theorem less_iff (a : ByteArray) (y : En) : lessQ f0' a y = true ↔ ¬ bl (ky y) a.data.toList := by
 unfold lessQ bl ky f0'
 cases Op.bytesLess y.f0.data.toList a.data.toList <;> simp
theorem mput_at {l : List En} (hs : Srt l) (a : ByteArray) : ((l.findIdx? (lessQ f0' a)).getD l.length) ≤ l.length ∧ ∀ i (h : i < l.length), i < ((l.findIdx? (lessQ f0' a)).getD l.length) ↔ bl (ky l[i]) a.data.toList := by
 cases hf : l.findIdx? (lessQ f0' a) with
 | none =>
  rw [Option.getD_none]
  refine ⟨Nat.le_refl _, fun i h => ⟨fun _ => ?_, fun _ => h⟩⟩
  have := List.findIdx?_eq_none_iff.1 hf l[i] (List.getElem_mem h)
  exact Classical.not_not.1 (fun k => by rw [(less_iff a l[i]).2 k] at this; cases this)
 | some m =>
  obtain ⟨hm, hq, hb⟩ := List.findIdx?_eq_some_iff_getElem.1 hf
  rw [Option.getD_some]
  have hq' := (less_iff a l[m]).1 hq
  refine ⟨Nat.le_of_lt hm, fun i h => ⟨fun hi => ?_, fun k => ?_⟩⟩
  ·have := hb i hi
   exact Classical.not_not.1 (fun k => this ((less_iff a l[i]).2 k))
  ·rcases Nat.lt_trichotomy i m with h1 | h1 | h1
   ·exact h1
   ·subst h1; exact absurd k hq'
   ·exact absurd (bl_trans (hs.get hm h h1) k) hq'
theorem mputG_eq {l : List En} (hs : Srt l) (x : En) (hx : fnd l (ky x) = none) : mputG f0' l x = putL l x := by
 obtain ⟨hle, hi⟩ := mput_at hs x.f0
 unfold mputG
 have hf0 : f0' x = x.f0 := rfl
 rw [hf0]
 generalize (l.findIdx? (lessQ f0' x.f0)).getD l.length = m at hle hi ⊢
 rw [putL_eq l hs x]
 have hft : l.filter (fun y => decide (bl (ky y) (ky x))) = l.take m := filter_take _ l m hle fun i h => by rw [decide_eq_true_iff]; exact hi i h
 have hd : l.filter (fun y => decide (bl (ky x) (ky y))) = l.drop m := filter_drop _ l m hle fun i h => by
  rw [decide_eq_true_iff]
  constructor
  ·intro hmi
   rcases bl_tri (ky x) (ky l[i]) with h3 | h3 | h3
   ·exact h3
   ·exact absurd h3.symm (fnd_none.1 hx _ (List.getElem_mem h))
   ·exact absurd ((hi i h).2 h3) (by omega)
  ·intro hb
   by_cases hlt : i < m
   ·exact absurd hb (bl_asymm ((hi i h).1 hlt))
   ·omega
 rw [hft, hd]
theorem set_eq {l : List En} (hs : Srt l) (m : Nat) (h : m < l.length) (x : En) (hk : ky x = ky l[m]) : l.set m x = putL l x := by
 rw [putL_eq l hs x, List.set_eq_take_append_cons_drop, if_pos h]
 congr 1
 ·refine (filter_take _ l m (Nat.le_of_lt h) fun i hi => ?_).symm
  rw [decide_eq_true_iff, hk]
  constructor
  ·intro hm; exact hs.get hi h hm
  ·intro hb
   by_cases hlt : i < m
   ·exact hlt
   ·by_cases e : i = m
    ·subst e; exact absurd hb (bl_irrefl _)
    ·exact absurd hb (bl_asymm (hs.get h hi (by omega)))
 ·congr 1
  refine (filter_drop _ l (m + 1) h fun i hi => ?_).symm
  rw [decide_eq_true_iff, hk]
  constructor
  ·intro hm; exact hs.get h hi (by omega)
  ·intro hb
   by_cases hlt : m < i
   ·exact hlt
   ·by_cases e : i = m
    ·subst e; exact absurd hb (bl_irrefl _)
    ·exact absurd hb (bl_asymm (hs.get hi h (by omega)))
theorem same_iff (a : ByteArray) (y : En) : sameQ f0' a y = true ↔ ky y = a.data.toList := by
 unfold sameQ f0' ky
 rw [lst_eq, decide_eq_true_iff]
theorem mone_eq {t : List En} (ht : Srt t) (hp : ∀ x ∈ t, Pth (ky x)) (e : En) (he : Pth (ky e)) (hl : t.length ≤ 100000) : z42.f t e.f0 e.f1 e.f2 = some (mOneL t e) := by
 unfold z42.f
 rw [if_pos ⟨by omega, List.all_eq_true.2 fun x hx => by rw [under_en (hp x hx) he]; rfl⟩]
 congr 1
 unfold moneG mOneL
 by_cases k2 : e.f1 = 2
 ·rw [if_pos k2, if_pos k2]
  cases hf : t.findIdx? (sameQ f0' e.f0) with
  | none =>
   have hn : fnd t (ky e) = none := fnd_none.2 fun x hx h => by
    have := List.findIdx?_eq_none_iff.1 hf x hx
    rw [(same_iff e.f0 x).2 h] at this; cases this
   have hee : (⟨e.f0, 2, e.f2⟩ : En) = e := by cases e; simp only at k2; rw [k2]
   show mputG f0' t ⟨e.f0, 2, e.f2⟩ = _
   rw [hn, hee]
   exact mputG_eq ht e hn
  | some i =>
   obtain ⟨hi, hq, _⟩ := List.findIdx?_eq_some_iff_getElem.1 hf
   have hk := (same_iff e.f0 t[i]).1 hq
   have hfd : fnd t (ky e) = some t[i] := by
    have := ht.at_ (List.getElem_mem hi)
    rwa [hk] at this
   have hki : kindAt (fun e : En => e.f1) t i = t[i].f1 := by unfold kindAt; rw [List.getElem?_eq_getElem hi]; rfl
   rw [hfd]
   show (if (kindAt (fun e : En => e.f1) t i == 2 || kindAt (fun e : En => e.f1) t i == 4) = true then t else t.set i ⟨e.f0, 4, ⟨#[]⟩⟩) = _
   rw [hki]
   simp only
   by_cases hh : Hld t[i]
   ·rw [if_pos hh, if_pos (by rcases hh with h | h <;> simp [h])]
   ·rw [if_neg hh, if_neg (fun k => hh (by simpa [Hld] using k))]
    exact set_eq ht i hi ⟨e.f0, 4, noB⟩ hk.symm
 ·rw [if_neg k2, if_neg k2]
  have hflt : (t.filter fun x => !goesQ f0' z34.f e.f0 x) = t.filter fun x => !decide (ky x = ky e ∨ Und (ky x) (ky e)) := filter_goes hp he
  show mputG f0' (t.filter fun x => !goesQ f0' z34.f e.f0 x) e = _
  rw [hflt]
  refine mputG_eq (ht.filter _) e (fnd_none.2 fun x hx h => ?_)
  have := (List.mem_filter.1 hx).2
  simp [h] at this
theorem mbot_eq (l : List En) (hl : l.length ≤ 100000) : z26.f l = some (botL l) := by
 unfold z26.f
 rw [if_pos (by omega)]
 congr 1
/-- What Two answers. -/
def twO (low high : List En) (b : Bool) : List En := if b = true then botL (twoL low high) else twoL low high
theorem two_j2 (k : Nat) (o : List En) (hl : o.length ≤ 100000) : z39.j2 (k + 1) o = some (if o.length ≤ 64 then (o, []) else ([], [9])) := by
 rw [z39.j2]
 by_cases h : o.length ≤ 64
 ·rw [if_neg (by omega), if_pos h]
  unfold z40.f
  rw [if_pos (by omega)]; rfl
 ·rw [if_pos (by omega), if_neg h]; rfl
theorem two_l0 (low high : List En) (b : Bool) (hlo : LR low) (hhi : LR high) : ∀ (n i k : Nat), i + n = high.length → n + 10 < k → z39.l0 k b (twoL low (high.take i)) high (high.length : Int) (i : Int) = some (if (twO low high b).length ≤ 64 then (twO low high b, []) else ([], [9])) := by
 have h64 := hhi.2
 have l64 := hlo.2
 intro n
 induction n with
 | zero =>
  intro i k hn hk
  obtain ⟨k, rfl⟩ := Nat.exists_eq_add_of_le' (show 2 ≤ k by omega)
  have hlen := twoL_len low high
  rw [z39.l0, if_neg (by omega), List.take_of_length_le (by omega)]
  unfold twO
  cases b with
  | true =>
   have := botL_len (twoL low high)
   rw [if_pos rfl, if_pos rfl, mbot_eq _ (by omega), Option.bind_some, two_j2 _ _ (by omega)]
  | false =>
   rw [if_neg Bool.false_ne_true, if_neg Bool.false_ne_true, two_j2 _ _ (by omega)]
 | succ n ih =>
  intro i k hn hk
  obtain ⟨k, rfl⟩ := Nat.exists_eq_add_of_le' (show 1 ≤ k by omega)
  have hi : i < high.length := by omega
  have hpre : Lyr (high.take i) := Lyr.pre (r := high.drop i) (by rw [List.take_append_drop]; exact hhi.1)
  have hL := twoL_lyr hlo.1 hpre
  have hlen := twoL_len low (high.take i)
  rw [List.length_take] at hlen
  rw [z39.l0, if_pos (by omega), if_pos (by omega), if_pos (by omega), rd_get high i hi, mone_eq hL.srt (fun x hx => (hL.rt x hx).1) high[i] (hhi.1.rt _ (List.getElem_mem hi)).1 (by omega), Option.bind_some, wrap_up i (by omega), ← twoL_snoc, ← List.take_succ_eq_append_getElem hi]
  exact ih (i + 1) k (by omega) (by omega)
noncomputable def twX (low high : List En) (b : Bool) : List En × List Int := if LR low ∧ LR high then (if (twO low high b).length ≤ 64 then (twO low high b, []) else ([], [9])) else ([], [16])
theorem two_eq (low high : List En) (b : Bool) (hl : ∀ e ∈ low, e.f0.size ≤ 9223372036854775807) (hh : ∀ e ∈ high, e.f0.size ≤ 9223372036854775807) (k : Nat) (hk : 300 ≤ k) : z39.f k low high b = some (twX low high b) := by
 obtain ⟨k, rfl⟩ := Nat.exists_eq_add_of_le' (show 1 ≤ k by omega)
 have jt : z39.j0 (k + 1) low high b true = some ([], [16]) := by rw [z39.j0, if_pos rfl]; rfl
 unfold z39.f twX
 rw [lr_eq low hl _ (by omega), Option.bind_some]
 by_cases h1 : LR low
 ·rw [decide_eq_true h1, if_pos rfl, lr_eq high hh _ (by omega), Option.bind_some]
  by_cases h2 : LR high
  ·rw [decide_eq_true h2, Bool.not_true, z39.j0, if_neg (by decide), if_pos ⟨h1, h2⟩]
   have h64 := h2.2
   have := two_l0 low high b h1 h2 high.length 0 k (by omega) (by omega)
   rwa [List.take_zero] at this
  ·rw [decide_eq_false h2, Bool.not_false, jt, if_neg (fun k => h2 k.2)]
 ·rw [decide_eq_false h1, if_neg (by decide), jt, if_neg (fun k => h1 k.1)]
theorem twO_lr {low high : List En} (h1 : LR low) (h2 : LR high) (b : Bool) (h : (twO low high b).length ≤ 64) : LR (twO low high b) := by
 refine ⟨?_, h⟩
 unfold twO
 split
 ·exact (botL_tre (twoL_lyr h1.1 h2.1)).lyr
 ·exact twoL_lyr h1.1 h2.1
theorem twO_len (low high : List En) (b : Bool) : (twO low high b).length ≤ low.length + high.length := by
 have h1 := twoL_len low high
 have h2 := botL_len (twoL low high)
 unfold twO
 split <;> omega
theorem awake15_0 : z12.f 60 = some true := by kernel_rfl
theorem awake15 (k : Nat) (hk : 60 ≤ k) : z12.f k = some true := mono_le (fun k => z12.mono k) hk awake15_0
theorem code_nilM : z38.f [] = some 0 := rfl
theorem code_oneM (c : Int) : z38.f [c] = some c := rfl
end Go.Proofs.YtljndnmmnkpmnaaGreatDoor.Th
