/- What the printed functions of layers and folds answer, in plain words. -/
import Derived.Test.YtklcceccadlgkaaDoorThB
import Derived.Test.YtklcceccadlgkaaDoorThS
import Derived.Test.YtklcceccadlgkaaDoorPathA
import Derived.Test.YtklcceccadlgkaaDoorPrint3
import Derived.Test.YtklcceccadlgkaaDoorPrint4
namespace Go.Proofs.YtklcceccadlgkaaDoor.Th
open Go Go.RowKit Go.Proofs.YtklcceccadlgkaaDoor.Print Go.Proofs.YtklcceccadlgkaaDoorW.PrintWords
set_option linter.unusedVariables false
set_option linter.unusedSimpArgs false

theorem rd_get (l : List En) (i : Nat) (h : i < l.length) : rd_T23 l (i : Int) = l[i] := by
  unfold rd_T23; rw [Int.toNat_natCast, List.getD_eq_getElem?_getD, List.getElem?_eq_getElem h]; rfl
theorem rdL_get (l : List (List En)) (i : Nat) (h : i < l.length) : rd_L3 l (i : Int) = l[i] := by
  unfold rd_L3; rw [Int.toNat_natCast, List.getD_eq_getElem?_getD, List.getElem?_eq_getElem h]; rfl
theorem wrap_up (i : Nat) (h : i < 1000000) : wrap64 ((i : Int) + 1) = ((i + 1 : Nat) : Int) := by unfold wrap64; omega
theorem lst_data (b : ByteArray) : b.toList = b.data.toList := Lib.toList_data b
theorem lst_eq (a b : ByteArray) : (a.toList == b.toList) = decide (a.data.toList = b.data.toList) := by
  rw [lst_data, lst_data]; exact Bool.eq_iff_iff.2 (by simp)

/-! ### right entries -/
theorem kd_iff (k : Int) (d : ByteArray) : (if k = 1 then (some (decide ((d.size : Int) ≤ 256))) else (if k = 2 then (some (d.toList == ([] : List UInt8))) else (if k = 3 then (some (d.toList == ([] : List UInt8))) else (if k = 4 then (some (d.toList == ([] : List UInt8))) else (some false))))) = some (decide (k = 1 ∧ d.data.toList.length ≤ 256 ∨ (k = 2 ∨ k = 3 ∨ k = 4) ∧ d.data.toList = [])) := by
  have hd : (d.toList == ([] : List UInt8)) = decide (d.data.toList = []) := by rw [lst_data]; exact Bool.eq_iff_iff.2 (by simp)
  have hs : d.size = d.data.toList.length := rfl
  rw [hd]
  by_cases k1 : k = 1
  · rw [if_pos k1]
    exact congrArg some (decide_eq_decide.2 (by rw [hs]; constructor <;> (intro h; first | (left; omega) | (rcases h with h | h <;> omega))))
  · rw [if_neg k1]
    by_cases k2 : k = 2
    · rw [if_pos k2]; exact congrArg some (decide_eq_decide.2 ⟨fun h => .inr ⟨.inl k2, h⟩, fun h => h.elim (fun h => absurd h.1 k1) (fun h => h.2)⟩)
    · rw [if_neg k2]
      by_cases k3 : k = 3
      · rw [if_pos k3]; exact congrArg some (decide_eq_decide.2 ⟨fun h => .inr ⟨.inr (.inl k3), h⟩, fun h => h.elim (fun h => absurd h.1 k1) (fun h => h.2)⟩)
      · rw [if_neg k3]
        by_cases k4 : k = 4
        · rw [if_pos k4]; exact congrArg some (decide_eq_decide.2 ⟨fun h => .inr ⟨.inr (.inr k4), h⟩, fun h => h.elim (fun h => absurd h.1 k1) (fun h => h.2)⟩)
        · rw [if_neg k4]
          exact congrArg some (decide_eq_false (by rintro (h | ⟨h | h | h, _⟩) <;> first | exact k1 h.1 | exact k2 h | exact k3 h | exact k4 h)).symm
theorem pth_nm {p : ByteArray} : Pth p.data.toList ↔ ∃ l, nm p = some l ∧ l ≠ [] := Iff.rfl
theorem pth_deep {p : ByteArray} (h : p.size ≤ 9223372036854775807) : ∃ t, path_Deep.f p = some t ∧ (t < 1 ↔ ¬ Pth p.data.toList) := by
  refine ⟨_, deep_nm p h, ?_⟩
  rw [pth_nm]
  cases hn : nm p with
  | none => simp
  | some l =>
    simp only
    constructor
    · intro h1
      rintro ⟨l', e, hne⟩
      rw [Option.some.inj e] at h1
      exact hne (List.eq_nil_of_length_eq_zero (by omega))
    · intro h1
      by_cases h0 : l = []
      · subst h0; decide
      · exact absurd ⟨l, rfl, h0⟩ h1
def pthb (p : By) : Bool := match splitF p with | some l => !l.isEmpty | none => false
instance (p : By) : Decidable (Pth p) := decidable_of_iff (pthb p = true) (by unfold Pth pthb; cases h : splitF p <;> simp)
instance (e : En) : Decidable (Rt e) := inferInstanceAs (Decidable (_ ∧ _))
theorem right_en (e : En) (h : e.f0.size ≤ 9223372036854775807) : entry_Right.f e.f0 e.f1 e.f2 = some (decide (Rt e)) := by
  unfold entry_Right.f
  obtain ⟨t, ht, hi⟩ := pth_deep h
  rw [ht, Option.bind_some, kd_iff]
  by_cases hp : Pth e.f0.data.toList
  · rw [if_neg (fun h1 => hi.1 h1 hp)]
    exact congrArg some (decide_eq_decide.2 ⟨fun h1 => ⟨hp, h1⟩, fun h1 => h1.2⟩)
  · rw [if_pos (hi.2 hp)]
    exact congrArg some (decide_eq_false (fun h1 => hp h1.1)).symm
theorem pth_size {p : ByteArray} (h : Pth p.data.toList) : p.size ≤ 54 := by obtain ⟨l, e, _⟩ := h; exact (nm_len (p := p) e).1
theorem pth_nil {p : ByteArray} (h : Pth p.data.toList) : ∃ l, nm p = some l ∧ l ≠ [] ∧ p.data.toList = joinB l ∧ parB p.data.toList = joinB l.dropLast ∧ Okn l := by
  obtain ⟨l, e, hne⟩ := h
  refine ⟨l, e, hne, ?_, ?_, nm_ok (p := p) e⟩
  · rcases splitF_some e with ⟨_, h0⟩ | ⟨h1, _⟩
    · exact absurd h0 hne
    · exact h1
  · unfold parB; rw [e]; rfl
theorem joinB_root {l : List By} (h : Okn l) : joinB l ≠ [47] := by
  cases l with
  | nil => simp [joinB_nil]
  | cons n l =>
    have := (nameL_len (h.2 n (by simp))).1
    cases n with
    | nil => simp at this
    | cons c n => rw [joinB_cons]; simp
theorem dir_of {e : En} (h : Rt e) : ∃ d c, path_Parent.f e.f0 = some (d, c, []) ∧ (parB (ky e) = [] ∧ d.data.toList = [47] ∨ parB (ky e) ≠ [] ∧ parB (ky e) ≠ [47] ∧ d.data.toList = parB (ky e)) := by
  obtain ⟨l, hn, hne, hj, hp, hok⟩ := pth_nil h.1
  refine ⟨_, _, by rw [parent_eq _ (by have := pth_size h.1; omega), parR_some hn hne], ?_⟩
  unfold ky; rw [hp]; unfold pathB
  have hd : Okn l.dropLast := by rw [List.dropLast_eq_take]; exact okn_take hok _
  by_cases h0 : l.dropLast = []
  · rw [if_pos h0, h0]; left; exact ⟨rfl, B_data _⟩
  · rw [if_neg h0]; right
    refine ⟨?_, joinB_root hd, B_data _⟩
    cases h1 : l.dropLast with
    | nil => exact absurd h1 h0
    | cons n r => rw [joinB_cons]; simp
theorem parent_some (e : En) (h : e.f0.size ≤ 9223372036854775807) : (path_Parent.f e.f0).isSome = true := by rw [parent_eq _ h]; rfl

/-! ### under -/
theorem under_en {x y : ByteArray} (hx : Pth x.data.toList) (hy : Pth y.data.toList) : path_Under.f x y = some (decide (Und x.data.toList y.data.toList)) := by
  obtain ⟨t, ht, hi⟩ := under_eq x y (by have := pth_size hx; omega) (by have := pth_size hy; omega)
  rw [ht]
  refine congrArg some (Bool.eq_iff_iff.2 (hi.trans ?_))
  rw [decide_eq_true_iff]
  obtain ⟨a, ha, _, hja, _, oka⟩ := pth_nil hx
  obtain ⟨b, hb, _, hjb, _, okb⟩ := pth_nil hy
  rw [hja, hjb, prefix_join oka.clean okb.clean]
  constructor
  · rintro ⟨a', b', ha', hb', h1, h2⟩
    obtain rfl := Option.some.inj (ha.symm.trans ha')
    obtain rfl := Option.some.inj (hb.symm.trans hb')
    exact ⟨h1, h2⟩
  · rintro ⟨h1, h2⟩; exact ⟨a, b, ha, hb, h1, h2⟩

/-! ### the search in a sorted list -/
theorem filter_take {α : Type} (q : α → Bool) : ∀ (l : List α) (m : Nat), m ≤ l.length → (∀ i (h : i < l.length), i < m ↔ q l[i] = true) → l.filter q = l.take m
  | [], m, _, _ => by simp
  | x :: l, m, hm, h => by
    cases m with
    | zero =>
      rw [List.take_zero, List.filter_eq_nil_iff]
      intro y hy hq
      obtain ⟨i, hi, e⟩ := List.getElem_of_mem hy
      have := (h i hi).2 (by rw [e]; exact hq)
      omega
    | succ m =>
      have h0 := (h 0 (by simp)).1 (by omega)
      rw [List.filter_cons, if_pos (by simpa using h0), List.take_succ_cons]
      congr 1
      refine filter_take q l m (by simpa using hm) fun i hi => ?_
      have := h (i + 1) (by simpa using hi)
      simpa using this
theorem filter_drop {α : Type} (q : α → Bool) : ∀ (l : List α) (m : Nat), m ≤ l.length → (∀ i (h : i < l.length), m ≤ i ↔ q l[i] = true) → l.filter q = l.drop m
  | [], m, _, _ => by simp
  | x :: l, m, hm, h => by
    cases m with
    | zero =>
      rw [List.drop_zero, List.filter_eq_self]
      intro y hy
      obtain ⟨i, hi, e⟩ := List.getElem_of_mem hy
      have := (h i hi).1 (by omega)
      rwa [e] at this
    | succ m =>
      have h0 : ¬ q x = true := fun hq => by have := (h 0 (by simp)).2 (by simpa using hq); omega
      rw [List.filter_cons, if_neg (by simpa using h0), List.drop_succ_cons]
      refine filter_drop q l m (by simpa using hm) fun i hi => ?_
      have := h (i + 1) (by simpa using hi)
      simpa using this
theorem cb_zero (a b : By) : Lib.compareBytes a b = 0 ↔ a = b := by
  rw [cb_cases]
  constructor
  · intro h
    rcases bl_tri a b with h1 | h1 | h1
    · unfold bl at h1; rw [if_pos h1] at h; omega
    · exact h1
    · have h2 := bl_asymm h1
      unfold bl at h1 h2; rw [if_neg h2, if_pos h1] at h; omega
  · rintro rfl
    have h2 := bl_irrefl a
    unfold bl at h2
    rw [if_neg h2, if_neg h2]
theorem Srt.get {l : List En} (h : Srt l) {i j : Nat} (hi : i < l.length) (hj : j < l.length) (hij : i < j) : bl (ky l[i]) (ky l[j]) := List.pairwise_iff_getElem.1 h i j hi hj hij
theorem srch {l : List En} (hs : Srt l) (F : Nat → ByteArray) (hF : ∀ i (h : i < l.length), F i = (l[i]).f0) (p : ByteArray) :
    ∃ m, bsF F p l.length 0 l.length = m ∧ m ≤ l.length ∧ (∀ i (h : i < l.length), i < m ↔ bl (ky l[i]) p.data.toList) := by
  obtain ⟨h1, h2, h3⟩ := bsF_spec F p l.length (fun a b hab hb hc => by
    rw [cb_lt] at hc ⊢
    rw [hF b hb] at hc
    rw [hF a (by omega)]
    by_cases e : a = b
    · subst e; exact hc
    · exact bl_trans (hs.get (by omega) hb (by omega)) hc) l.length 0 l.length (by omega) (Nat.le_refl _) (by omega) (fun t ht => by omega) (fun t h4 h5 => by omega)
  refine ⟨_, rfl, h1, fun i hi => ⟨fun hm => ?_, fun hb => ?_⟩⟩
  · have := h2 i hm
    rw [cb_lt, hF i hi] at this
    exact this
  · by_cases hm : i < bsF F p l.length 0 l.length
    · exact hm
    · have := h3 i (by omega) hi
      rw [cb_lt, hF i hi] at this
      exact absurd hb this
/-- What the search hits is what stands at the path. -/
theorem srch_hit {l : List En} (hs : Srt l) {p : By} {m : Nat} (hm : ∀ i (h : i < l.length), i < m ↔ bl (ky l[i]) p) : (m < l.length ∧ ∃ h : m < l.length, ky l[m] = p) ∨ (¬ (∃ h : m < l.length, ky l[m] = p) ∧ fnd l p = none) := by
  by_cases h : ∃ h : m < l.length, ky l[m] = p
  · exact .inl ⟨h.1, h⟩
  · refine .inr ⟨h, fnd_none.2 fun e he hk => ?_⟩
    obtain ⟨i, hi, rfl⟩ := List.getElem_of_mem he
    have h1 : ¬ i < m := fun k => by have := (hm i hi).1 k; rw [hk] at this; exact bl_irrefl _ this
    by_cases h2 : i = m
    · subst h2; exact h ⟨hi, hk⟩
    · have := hs.get (i := m) (j := i) (by omega) hi (by omega)
      rw [hk] at this
      exact absurd ((hm m (by omega)).2 this) (Nat.lt_irrefl _)
theorem at_eq {l : List En} (hs : Srt l) (p : ByteArray) (hl : l.length ≤ 100000) : ∃ m : Nat, layer_at.f l p = some ((m : Int), (fnd l p.data.toList).isSome) ∧ ∀ x, fnd l p.data.toList = some x → ∃ h : m < l.length, l[m] = x := by
  obtain ⟨m, hm, hle, hi⟩ := srch hs (fun i => (rd_T23 l (i : Int)).f0) (fun i h => by rw [rd_get l i h]) p
  refine ⟨m, ?_, ?_⟩
  · unfold layer_at.f
    rw [if_pos (by omega), hm]
    congr 2
    rcases srch_hit hs hi with ⟨_, h1, h2⟩ | ⟨h1, h2⟩
    · rw [rd_get l m h1, decide_eq_true h1, decide_eq_true (show Lib.compareBytes l[m].f0.data.toList p.data.toList = 0 from (cb_zero _ _).2 h2)]
      rw [← h2, hs.at_ (List.getElem_mem h1)]; rfl
    · rw [h2]
      by_cases h3 : m < l.length
      · rw [decide_eq_true h3, rd_get l m h3, decide_eq_false (show ¬ Lib.compareBytes l[m].f0.data.toList p.data.toList = 0 from fun k => h1 ⟨h3, (cb_zero _ _).1 k⟩)]; rfl
      · rw [decide_eq_false h3]; rfl
  · intro x hx
    rcases srch_hit hs hi with ⟨_, h1, h2⟩ | ⟨_, h2⟩
    · refine ⟨h1, ?_⟩
      have := hs.at_ (List.getElem_mem h1)
      rw [h2, hx] at this
      exact (Option.some.inj this).symm
    · rw [h2] at hx; cases hx

/-! ### put, one -/
theorem putG_eq {l : List En} (hs : Srt l) (x : En) : putG (fun e : En => e.f0) l x = putL l x := by
  obtain ⟨m, hm, hle, hi⟩ := srch hs (pathAt (fun e : En => e.f0) l) (fun i h => by unfold pathAt; rw [List.getElem?_eq_getElem h]; rfl) x.f0
  unfold putG
  rw [hm, putL_eq l hs x]
  have hft : l.filter (fun y => decide (bl (ky y) (ky x))) = l.take m := filter_take _ l m hle fun i h => by rw [decide_eq_true_iff]; exact hi i h
  rw [hft]
  rcases srch_hit hs hi with ⟨_, h1, h2⟩ | ⟨h1, h2⟩
  · have hp : pathAt (fun e : En => e.f0) l m = l[m].f0 := by unfold pathAt; rw [List.getElem?_eq_getElem h1]; rfl
    rw [hp, decide_eq_true h1, decide_eq_true (show Lib.compareBytes l[m].f0.data.toList x.f0.data.toList = 0 from (cb_zero _ _).2 h2), if_pos (by rfl), List.set_eq_take_append_cons_drop, if_pos h1]
    congr 2
    refine (filter_drop _ l (m + 1) h1 fun i h => ?_).symm
    rw [decide_eq_true_iff]
    have hk : ky x = ky l[m] := h2.symm
    constructor
    · intro hmi; rw [hk]; exact hs.get h1 h (by omega)
    · intro hb
      rw [hk] at hb
      by_cases hlt : m < i
      · exact hlt
      · by_cases e : i = m
        · subst e; exact absurd hb (bl_irrefl _)
        · exact absurd hb (bl_asymm (hs.get h h1 (by omega)))
  · have hd : l.filter (fun y => decide (bl (ky x) (ky y))) = l.drop m := filter_drop _ l m hle fun i h => by
      rw [decide_eq_true_iff]
      constructor
      · intro hmi
        rcases bl_tri (ky x) (ky l[i]) with h3 | h3 | h3
        · exact h3
        · exact absurd h3.symm (fnd_none.1 h2 _ (List.getElem_mem h))
        · exact absurd ((hi i h).2 h3) (by omega)
      · intro hb
        by_cases hlt : i < m
        · exact absurd hb (bl_asymm ((hi i h).1 hlt))
        · omega
    rw [hd]
    by_cases h3 : m < l.length
    · have hp : pathAt (fun e : En => e.f0) l m = l[m].f0 := by unfold pathAt; rw [List.getElem?_eq_getElem h3]; rfl
      rw [hp, decide_eq_true h3, decide_eq_false (show ¬ Lib.compareBytes l[m].f0.data.toList x.f0.data.toList = 0 from fun k => h1 ⟨h3, (cb_zero _ _).1 k⟩)]
      rw [if_neg (by decide)]
    · rw [decide_eq_false h3, if_neg (by simp)]
theorem goes_eq {x : En} {a : ByteArray} (hx : Pth (ky x)) (ha : Pth a.data.toList) : goesQ (fun e : En => e.f0) path_Under.f a x = decide (ky x = a.data.toList ∨ Und (ky x) a.data.toList) := by
  unfold goesQ
  rw [lst_eq, under_en hx ha, Option.getD_some, ← Bool.decide_or]
  rfl
theorem filter_goes {t : List En} (ht : ∀ x ∈ t, Pth (ky x)) {a : ByteArray} (ha : Pth a.data.toList) : (t.filter fun x => !goesQ (fun e : En => e.f0) path_Under.f a x) = t.filter fun x => !decide (ky x = a.data.toList ∨ Und (ky x) a.data.toList) :=
  List.filter_congr fun x hx => by rw [goes_eq (ht x hx) ha]
theorem one_eq {t : List En} (ht : Srt t) (hp : ∀ x ∈ t, Pth (ky x)) (e : En) (he : Pth (ky e)) (hl : t.length ≤ 100000) : fold_one.f t e.f0 e.f1 e.f2 = some (oneL t e) := by
  unfold fold_one.f
  rw [if_pos ⟨by omega, List.all_eq_true.2 fun x hx => by rw [under_en (hp x hx) he]; rfl⟩]
  congr 1
  unfold oneG oneL
  have h1 : (t.filter fun x => !hereQ (fun e : En => e.f0) (fun e => e.f1) e.f0 x) = t.filter fun x => !decide (ky x = ky e ∧ x.f1 = 1) := List.filter_congr fun x hx => by
    unfold hereQ; rw [lst_eq]
    congr 1
    exact Bool.eq_iff_iff.2 (by simp [ky])
  by_cases k2 : e.f1 = 2
  · rw [if_pos k2, if_pos k2, h1, putG_eq (ht.filter _)]
    congr 1
    cases e; simp only at k2; rw [k2]
  · rw [if_neg k2, if_neg k2, filter_goes hp he]
    simp only
    by_cases k3 : e.f1 = 3
    · rw [if_pos k3, if_pos k3]; rfl
    · rw [if_neg k3, if_neg k3, putG_eq (ht.filter _)]
      congr 1
      by_cases k4 : e.f1 = 4
      · rw [if_pos k4, if_pos k4]
      · rw [if_neg k4, if_neg k4]
end Go.Proofs.YtklcceccadlgkaaDoor.Th
