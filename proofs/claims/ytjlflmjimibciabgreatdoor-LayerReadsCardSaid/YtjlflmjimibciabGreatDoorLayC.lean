/- What the printed functions of paths answer, in plain words. -/
import Derived.Test.YtjlflmjimibciabGreatDoorThC
import Derived.Test.YtjlflmjimibciabGreatDoorPrint2
import Derived.Test.YtjlflmjimibciabGreatDoorPrintRe
import Derived.Test.YtjlflmjimibciabGreatDoorPrintLay
section
namespace Go.Proofs.YtjlflmjimibciabGreatDoor.Th
open Go Go.RowKit Go.Proofs.YtjlflmjimibciabGreatDoor.Print Go.Proofs.YtjlflmjimibciabGreatDoorW.PrintWords
set_option linter.unusedVariables false
set_option linter.unusedSimpArgs false
def B (l : By) : ByteArray := ⟨l.toArray⟩
theorem B_data (l : By) : (B l).data.toList = l := by simp [B]
theorem B_eta (b : ByteArray) : B b.data.toList = b := by_ext (B_data _)
theorem B_size (l : By) : (B l).size = l.length := rfl
theorem size_data (b : ByteArray) : b.size = b.data.toList.length := rfl
def nm (p : ByteArray) : Option (List By) := splitF p.data.toList
theorem split_eq (p : ByteArray) (h : p.size ≤ 9223372036854775807) : path_Split.f p = some (match nm p with | some l => (l.map B, []) | none => ([], [2])) := by
  unfold path_Split.f; rw [if_pos h]; rfl
theorem deep_nm (p : ByteArray) (h : p.size ≤ 9223372036854775807) : path_Deep.f p = some (match nm p with | some l => (l.length : Int) | none => -1) := by
  unfold path_Deep.f
  rw [split_eq p h, Option.bind_some]
  cases nm p with
  | none => rfl
  | some l => dsimp only; rw [if_pos (show ([] : List Int).isEmpty = true from rfl), List.length_map]

theorem count_joinB (L : List By) : (joinB L).count 47 = L.length + (L.map fun n => n.count 47).sum := by
  induction L with
  | nil => rfl
  | cons n L ih => rw [joinB_cons, List.cons_append, List.count_cons_self, List.count_append, ih]; simp; omega
theorem count_zero {n : By} (h : (47 : UInt8) ∉ n) : n.count 47 = 0 := List.count_eq_zero.2 h
theorem sum_zero {L : List By} (h : (L.map fun n => n.count 47).sum = 0) : ∀ n ∈ L, (47 : UInt8) ∉ n := by
  induction L with
  | nil => intro n hn; cases hn
  | cons m L ih =>
    rw [List.map_cons, List.sum_cons] at h
    intro n hn
    rcases List.mem_cons.1 hn with rfl | hn
    · exact List.count_eq_zero.1 (by omega)
    · exact ih (by omega) n hn
theorem sum_clean {L : List By} (h : ∀ n ∈ L, (47 : UInt8) ∉ n) : (L.map fun n => n.count 47).sum = 0 := by
  induction L with
  | nil => rfl
  | cons m L ih => rw [List.map_cons, List.sum_cons, ih (fun n hn => h n (by simp [hn])), count_zero (h m (by simp))]
theorem joinB_clean {a b : List By} (ha : ∀ n ∈ a, (47 : UInt8) ∉ n) (hb : ∀ n ∈ b, (47 : UInt8) ∉ n) (h : joinB a = joinB b) : a = b := by
  cases a with
  | nil => cases b with
    | nil => rfl
    | cons n b => simp [joinB_nil, joinB_cons] at h
  | cons n a =>
    cases b with
    | nil => simp [joinB_nil, joinB_cons] at h
    | cons m b =>
      rw [joinB_cons, joinB_cons, List.cons_append, List.cons_append] at h
      injection h with _ h
      have h1 := pieces_join n a (ha n (by simp)) (fun x hx => ha x (by simp [hx]))
      have h2 := pieces_join m b (hb m (by simp)) (fun x hx => hb x (by simp [hx]))
      rw [h, h2] at h1; exact h1.symm
theorem Okn.clean {L : List By} (h : Okn L) : ∀ n ∈ L, (47 : UInt8) ∉ n := fun n hn => nameL_slash (h.2 n hn)
theorem split_join_len {L l' : List By} (hne : L ≠ []) (h : splitF (joinB L) = some l') (hl : l'.length = L.length) : l' = L ∧ Okn L := by
  rcases splitF_some h with ⟨_, rfl⟩ | ⟨e, _, ok⟩
  · exact absurd (List.eq_nil_of_length_eq_zero hl.symm) hne
  · have h1 := congrArg (List.count 47) e
    rw [count_joinB, count_joinB, sum_clean ok.clean, hl] at h1
    have := joinB_clean (sum_zero (L := L) (by omega)) ok.clean e
    subst this
    exact ⟨rfl, ok⟩

instance (L : List By) : Decidable (Okn L) := inferInstanceAs (Decidable (_ ∧ ∀ n ∈ L, nameL n = true))
def joinR (L : List By) : ByteArray × List Int := if L = [] then (B [47], []) else if Okn L then (B (joinB L), []) else (B [], [2])
theorem joinB_join {L : List By} (h : L ≠ []) : joinB L = 47 :: Lib.join L [47] := by
  cases L with
  | nil => exact absurd rfl h
  | cons x r =>
    rw [Lib.join_cons, joinB_cons, List.cons_append]
    congr 2
theorem data_map_B (L : List By) : (L.map B).map (fun b => b.data.toList) = L := by
  rw [List.map_map]
  conv => rhs; rw [← List.map_id L]
  exact List.map_congr_left fun x _ => B_data x
theorem join_eq (l : List ByteArray) (L : List By) (hL : l.map (fun b => b.data.toList) = L) (hb : L.length ≤ 6 → (joinB L).length ≤ 140737488355328) : path_Join.f l = some (joinR L) := by
  have hlen : l.length = L.length := by rw [← hL, List.length_map]
  unfold path_Join.f joinR
  by_cases h0 : L = []
  · have : l.length = 0 := by rw [hlen, h0]; rfl
    rw [if_pos (by omega), if_pos h0]; rfl
  · have hl0 : L.length ≠ 0 := fun e => h0 (List.eq_nil_of_length_eq_zero e)
    rw [if_neg (by omega), if_neg h0]
    by_cases h6 : L.length ≤ 6
    · have hjl := hb h6
      have hj := joinB_join h0
      have hjj := congrArg List.length hj
      rw [List.length_cons] at hjj
      rw [if_neg (by omega)]
      unfold strings_Join.f
      have hL' : (l.map fun x => x.data.toList) = L := hL
      rw [hL']
      have h47 : (⟨#[47]⟩ : ByteArray).data.toList = [47] := rfl
      rw [h47, if_pos ⟨by omega, by omega⟩, Option.bind_some]
      have hsz : (⟨(Lib.join L [47]).toArray⟩ : ByteArray).size = (Lib.join L [47]).length := rfl
      rw [if_pos (by rw [hsz]; omega)]
      have hp : (⟨#[47]⟩ : ByteArray) ++ (⟨(Lib.join L [47]).toArray⟩ : ByteArray) = B (joinB L) := by
        apply by_ext; rw [B_data, hj]; simp
      rw [hp, split_eq _ (by rw [B_size]; omega), Option.bind_some]
      unfold nm
      rw [B_data]
      by_cases ok : Okn L
      · rw [splitF_join ok h0, if_pos ok]
        dsimp only
        rw [if_pos (show ([] : List Int).isEmpty = true from rfl), if_pos (by rw [List.length_map, hlen])]
      · rw [if_neg ok]
        cases hs : splitF (joinB L) with
        | none => dsimp only; rw [if_neg (by decide)]; rfl
        | some l' =>
          dsimp only
          rw [if_pos (show ([] : List Int).isEmpty = true from rfl), if_neg]
          · rfl
          · rw [List.length_map, hlen]
            intro e
            exact ok (split_join_len h0 hs (by omega)).2
    · rw [if_pos (by omega), if_neg (fun k => h6 k.1)]; rfl
theorem nm_len {p : ByteArray} {l : List By} (h : nm p = some l) : p.size ≤ 54 ∧ l.length ≤ 6 := by
  rcases splitF_some h with ⟨e, rfl⟩ | ⟨e, _, ok⟩
  · rw [size_data, e]; exact ⟨by decide, by decide⟩
  · rw [size_data, e]; exact ⟨joinB_len ok, ok.1⟩
theorem nm_ok {p : ByteArray} {l : List By} (h : nm p = some l) : Okn l := by
  rcases splitF_some h with ⟨e, rfl⟩ | ⟨e, _, ok⟩
  · exact ⟨by decide, fun n hn => by cases hn⟩
  · exact ok
/-- The path of names. -/
def pathB (L : List By) : ByteArray := if L = [] then B [47] else B (joinB L)
theorem joinR_ok {L : List By} (h : Okn L) : joinR L = (pathB L, []) := by
  unfold joinR pathB
  by_cases e : L = []
  · rw [if_pos e, if_pos e]
  · rw [if_neg e, if_neg e, if_pos h]
theorem join_ok {L : List By} (h : Okn L) : path_Join.f (L.map B) = some (pathB L, []) := by
  rw [join_eq (L.map B) L (data_map_B L) (fun _ => by have := joinB_len h; omega), joinR_ok h]

def parR (p : ByteArray) : ByteArray × ByteArray × List Int := match nm p with
  | none => (B [], B [], [2])
  | some l => if h : l = [] then (B [], B [], [1]) else (pathB l.dropLast, B (l.getLast h), [])
theorem okn_take {L : List By} (h : Okn L) (n : Nat) : Okn (L.take n) := ⟨by rw [List.length_take]; have := h.1; omega, fun m hm => h.2 m (List.mem_of_mem_take hm)⟩
theorem rdOf_get (l : List ByteArray) (i : Nat) (h : i < l.length) : rdOf ByteArray.empty l (i : Int) = l[i] := by
  unfold rdOf; rw [Int.toNat_natCast, List.getD_eq_getElem?_getD, List.getElem?_eq_getElem h]; rfl
theorem parent_eq (p : ByteArray) (h : p.size ≤ 9223372036854775807) : path_Parent.f p = some (parR p) := by
  unfold path_Parent.f parR
  rw [split_eq p h, Option.bind_some]
  cases hn : nm p with
  | none => dsimp only; rw [if_neg (by decide)]; rfl
  | some l =>
    dsimp only
    rw [if_pos (show ([] : List Int).isEmpty = true from rfl)]
    by_cases h0 : l = []
    · subst h0; rw [if_pos (by rfl), dif_pos rfl]; rfl
    · have hl : 0 < l.length := List.length_pos_iff.2 h0
      have h6 := (nm_len hn).2
      have hw : wrap64 (((l.map B).length : Int) - 1) = ((l.length - 1 : Nat) : Int) := by
        rw [List.length_map]; unfold wrap64; omega
      rw [hw, dif_neg h0, if_neg (by rw [List.length_map]; omega), if_pos (by omega), if_pos (by rw [List.length_map]; omega), Int.toNat_natCast]
      have ht : (l.map B).take (l.length - 1) = (l.dropLast).map B := by rw [List.dropLast_eq_take, List.map_take]
      have hok : Okn l.dropLast := by rw [List.dropLast_eq_take]; exact okn_take (nm_ok hn) _
      rw [ht, join_ok hok, Option.bind_some, if_pos (by rw [List.length_map]; omega)]
      rw [rdOf_get _ _ (by rw [List.length_map]; omega)]
      congr 2
      rw [List.getElem_map, List.getLast_eq_getElem]

theorem parR_some {p : ByteArray} {l : List By} (h : nm p = some l) (hl : l ≠ []) : parR p = (pathB l.dropLast, B (l.getLast hl), []) := by unfold parR; rw [h]; dsimp only; rw [dif_neg hl]
end Go.Proofs.YtjlflmjimibciabGreatDoor.Th
end

section
namespace Go.Proofs.YtjlflmjimibciabGreatDoor.Th
open Go Go.RowKit Go.Proofs.YtjlflmjimibciabGreatDoor.Print Go.Proofs.YtjlflmjimibciabGreatDoorW.PrintWords
set_option linter.unusedVariables false
set_option linter.unusedSimpArgs false
theorem rd_get (l : List En) (i : Nat) (h : i < l.length) : rd_T39 l (i : Int) = l[i] := by
  unfold rd_T39; rw [Int.toNat_natCast, List.getD_eq_getElem?_getD, List.getElem?_eq_getElem h]; rfl
theorem wrap_up (i : Nat) (h : i < 1000000) : wrap64 ((i : Int) + 1) = ((i + 1 : Nat) : Int) := by unfold wrap64; omega
theorem lst_data (b : ByteArray) : b.toList = b.data.toList := Lib.toList_data b
theorem kd_iff (k : Int) (d : ByteArray) : (if k = 1 then (some (decide ((d.size : Int) ≤ 256))) else (if k = 2 then (some (d.toList == ([] : List UInt8))) else (if k = 3 then (some (d.toList == ([] : List UInt8))) else (if k = 4 then (some (d.toList == ([] : List UInt8))) else (some false))))) = some (decide (k = 1 ∧ d.data.toList.length ≤ 256 ∨ (k = 2 ∨ k = 3 ∨ k = 4) ∧ d.data.toList = [])) := by
  have hd : (d.toList == ([] : List UInt8)) = decide (d.data.toList = []) := by rw [lst_data]; exact Bool.eq_iff_iff.2 (by simp)
  have hs : d.size = d.data.toList.length := rfl
  rw [hd]
  by_cases k1 : k = 1
  · rw [if_pos k1]
    exact congrArg some (decide_eq_decide.2 (by rw [hs]; constructor <;> (intro h; first | (left; omega) | (rcases h with h | h <;> omega))))
  · rw [if_neg k1]
    by_cases k2 : k = 2
    · rw [if_pos k2]; exact congrArg some (decide_eq_decide.2 ⟨fun h => .inr ⟨.inl k2, h⟩, fun h => h.elim (fun h => absurd h.1 k1) (fun h => h.2)⟩)
    · rw [if_neg k2]
      by_cases k3 : k = 3
      · rw [if_pos k3]; exact congrArg some (decide_eq_decide.2 ⟨fun h => .inr ⟨.inr (.inl k3), h⟩, fun h => h.elim (fun h => absurd h.1 k1) (fun h => h.2)⟩)
      · rw [if_neg k3]
        by_cases k4 : k = 4
        · rw [if_pos k4]; exact congrArg some (decide_eq_decide.2 ⟨fun h => .inr ⟨.inr (.inr k4), h⟩, fun h => h.elim (fun h => absurd h.1 k1) (fun h => h.2)⟩)
        · rw [if_neg k4]
          exact congrArg some (decide_eq_false (by rintro (h | ⟨h | h | h, _⟩) <;> first | exact k1 h.1 | exact k2 h | exact k3 h | exact k4 h)).symm
theorem pth_nm {p : ByteArray} : Pth p.data.toList ↔ ∃ l, nm p = some l ∧ l ≠ [] := Iff.rfl
theorem pth_deep {p : ByteArray} (h : p.size ≤ 9223372036854775807) : ∃ t, path_Deep.f p = some t ∧ (t < 1 ↔ ¬ Pth p.data.toList) := by
  refine ⟨_, deep_nm p h, ?_⟩
  rw [pth_nm]
  cases hn : nm p with
  | none => simp
  | some l =>
    simp only
    constructor
    · intro h1
      rintro ⟨l', e, hne⟩
      rw [Option.some.inj e] at h1
      exact hne (List.eq_nil_of_length_eq_zero (by omega))
    · intro h1
      by_cases h0 : l = []
      · subst h0; decide
      · exact absurd ⟨l, rfl, h0⟩ h1
def pthb (p : By) : Bool := match splitF p with | some l => !l.isEmpty | none => false
instance (p : By) : Decidable (Pth p) := decidable_of_iff (pthb p = true) (by unfold Pth pthb; cases h : splitF p <;> simp)
instance (e : En) : Decidable (Rt e) := inferInstanceAs (Decidable (_ ∧ _))
theorem right_en (e : En) (h : e.f0.size ≤ 9223372036854775807) : entry_Right.f e.f0 e.f1 e.f2 = some (decide (Rt e)) := by
  unfold entry_Right.f
  obtain ⟨t, ht, hi⟩ := pth_deep h
  rw [ht, Option.bind_some, kd_iff]
  by_cases hp : Pth e.f0.data.toList
  · rw [if_neg (fun h1 => hi.1 h1 hp)]
    exact congrArg some (decide_eq_decide.2 ⟨fun h1 => ⟨hp, h1⟩, fun h1 => h1.2⟩)
  · rw [if_pos (hi.2 hp)]
    exact congrArg some (decide_eq_false (fun h1 => hp h1.1)).symm
theorem pth_size {p : ByteArray} (h : Pth p.data.toList) : p.size ≤ 54 := by obtain ⟨l, e, _⟩ := h; exact (nm_len (p := p) e).1
theorem pth_nil {p : ByteArray} (h : Pth p.data.toList) : ∃ l, nm p = some l ∧ l ≠ [] ∧ p.data.toList = joinB l ∧ parB p.data.toList = joinB l.dropLast ∧ Okn l := by
  obtain ⟨l, e, hne⟩ := h
  refine ⟨l, e, hne, ?_, ?_, nm_ok (p := p) e⟩
  · rcases splitF_some e with ⟨_, h0⟩ | ⟨h1, _⟩
    · exact absurd h0 hne
    · exact h1
  · unfold parB; rw [e]; rfl
theorem joinB_root {l : List By} (h : Okn l) : joinB l ≠ [47] := by
  cases l with
  | nil => simp [joinB_nil]
  | cons n l =>
    have := (nameL_len (h.2 n (by simp))).1
    cases n with
    | nil => simp at this
    | cons c n => rw [joinB_cons]; simp
theorem dir_of {e : En} (h : Rt e) : ∃ d c, path_Parent.f e.f0 = some (d, c, []) ∧ (parB (ky e) = [] ∧ d.data.toList = [47] ∨ parB (ky e) ≠ [] ∧ parB (ky e) ≠ [47] ∧ d.data.toList = parB (ky e)) := by
  obtain ⟨l, hn, hne, hj, hp, hok⟩ := pth_nil h.1
  refine ⟨_, _, by rw [parent_eq _ (by have := pth_size h.1; omega), parR_some hn hne], ?_⟩
  unfold ky; rw [hp]; unfold pathB
  have hd : Okn l.dropLast := by rw [List.dropLast_eq_take]; exact okn_take hok _
  by_cases h0 : l.dropLast = []
  · rw [if_pos h0, h0]; left; exact ⟨rfl, B_data _⟩
  · rw [if_neg h0]; right
    refine ⟨?_, joinB_root hd, B_data _⟩
    cases h1 : l.dropLast with
    | nil => exact absurd h1 h0
    | cons n r => rw [joinB_cons]; simp
theorem cb_zero (a b : By) : Lib.compareBytes a b = 0 ↔ a = b := by
  rw [cmp_cases]
  constructor
  · intro h
    rcases bl_tri a b with h1 | h1 | h1
    · unfold bl at h1; rw [if_pos h1] at h; omega
    · exact h1
    · have h2 := bl_asymm h1
      unfold bl at h1 h2; rw [if_neg h2, if_pos h1] at h; omega
  · rintro rfl
    have h2 := bl_irrefl a
    unfold bl at h2
    rw [if_neg h2, if_neg h2]
theorem Srt.get {l : List En} (h : Srt l) {i j : Nat} (hi : i < l.length) (hj : j < l.length) (hij : i < j) : bl (ky l[i]) (ky l[j]) := List.pairwise_iff_getElem.1 h i j hi hj hij
theorem srch {l : List En} (hs : Srt l) (F : Nat → ByteArray) (hF : ∀ i (h : i < l.length), F i = (l[i]).f0) (p : ByteArray) :
    ∃ m, bsF F p l.length 0 l.length = m ∧ m ≤ l.length ∧ (∀ i (h : i < l.length), i < m ↔ bl (ky l[i]) p.data.toList) := by
  obtain ⟨h1, h2, h3⟩ := bsF_spec F p l.length (fun a b hab hb hc => by
    rw [cmp_lt] at hc ⊢
    rw [hF b hb] at hc
    rw [hF a (by omega)]
    by_cases e : a = b
    · subst e; exact hc
    · exact bl_trans (hs.get (by omega) hb (by omega)) hc) l.length 0 l.length (by omega) (Nat.le_refl _) (by omega) (fun t ht => by omega) (fun t h4 h5 => by omega)
  refine ⟨_, rfl, h1, fun i hi => ⟨fun hm => ?_, fun hb => ?_⟩⟩
  · have := h2 i hm
    rw [cmp_lt, hF i hi] at this
    exact this
  · by_cases hm : i < bsF F p l.length 0 l.length
    · exact hm
    · have := h3 i (by omega) hi
      rw [cmp_lt, hF i hi] at this
      exact absurd hb this
/-- What the search hits is what stands at the path. -/
theorem srch_hit {l : List En} (hs : Srt l) {p : By} {m : Nat} (hm : ∀ i (h : i < l.length), i < m ↔ bl (ky l[i]) p) : (m < l.length ∧ ∃ h : m < l.length, ky l[m] = p) ∨ (¬ (∃ h : m < l.length, ky l[m] = p) ∧ fnd l p = none) := by
  by_cases h : ∃ h : m < l.length, ky l[m] = p
  · exact .inl ⟨h.1, h⟩
  · refine .inr ⟨h, fnd_none.2 fun e he hk => ?_⟩
    obtain ⟨i, hi, rfl⟩ := List.getElem_of_mem he
    have h1 : ¬ i < m := fun k => by have := (hm i hi).1 k; rw [hk] at this; exact bl_irrefl _ this
    by_cases h2 : i = m
    · subst h2; exact h ⟨hi, hk⟩
    · have := hs.get (i := m) (j := i) (by omega) hi (by omega)
      rw [hk] at this
      exact absurd ((hm m (by omega)).2 this) (Nat.lt_irrefl _)
theorem at_eq {l : List En} (hs : Srt l) (p : ByteArray) (hl : l.length ≤ 100000) : ∃ m : Nat, layer_at.f l p = some ((m : Int), (fnd l p.data.toList).isSome) ∧ ∀ x, fnd l p.data.toList = some x → ∃ h : m < l.length, l[m] = x := by
  obtain ⟨m, hm, hle, hi⟩ := srch hs (fun i => (rd_T39 l (i : Int)).f0) (fun i h => by rw [rd_get l i h]) p
  refine ⟨m, ?_, ?_⟩
  · unfold layer_at.f
    rw [if_pos (by omega), hm]
    congr 2
    rcases srch_hit hs hi with ⟨_, h1, h2⟩ | ⟨h1, h2⟩
    · rw [rd_get l m h1, decide_eq_true h1, decide_eq_true (show Lib.compareBytes l[m].f0.data.toList p.data.toList = 0 from (cb_zero _ _).2 h2)]
      rw [← h2, hs.at_ (List.getElem_mem h1)]; rfl
    · rw [h2]
      by_cases h3 : m < l.length
      · rw [decide_eq_true h3, rd_get l m h3, decide_eq_false (show ¬ Lib.compareBytes l[m].f0.data.toList p.data.toList = 0 from fun k => h1 ⟨h3, (cb_zero _ _).1 k⟩)]; rfl
      · rw [decide_eq_false h3]; rfl
  · intro x hx
    rcases srch_hit hs hi with ⟨_, h1, h2⟩ | ⟨_, h2⟩
    · refine ⟨h1, ?_⟩
      have := hs.at_ (List.getElem_mem h1)
      rw [h2, hx] at this
      exact (Option.some.inj this).symm
    · rw [h2] at hx; cases hx

end Go.Proofs.YtjlflmjimibciabGreatDoor.Th
end

section
namespace Go.Proofs.YtjlflmjimibciabGreatDoor.Th
open Go Go.RowKit Go.Proofs.YtjlflmjimibciabGreatDoor.Print Go.Proofs.YtjlflmjimibciabGreatDoorW.PrintWords
set_option linter.unusedVariables false
set_option linter.unusedSimpArgs false
structure Nxt (q : List En) (x : En) : Prop where
  rt : Rt x
  lt : ∀ y, q.getLast? = some y → bl (ky y) (ky x)
  par : parB (ky x) = [] ∨ ∃ y ∈ q, ky y = parB (ky x) ∧ Hld y
theorem Srt.last {q : List En} (h : Srt q) {x : En} (hl : ∀ y, q.getLast? = some y → bl (ky y) (ky x)) : ∀ y ∈ q, bl (ky y) (ky x) := by
  intro y hy
  rcases List.eq_nil_or_concat q with rfl | ⟨r, z, rfl⟩
  · cases hy
  · rw [List.concat_eq_append] at *
    have hz := hl z (by simp)
    rcases List.mem_append.1 hy with h1 | h1
    · exact bl_trans (h.parts.2.2 y h1 z (by simp)) hz
    · rw [List.mem_singleton.1 h1]; exact hz
theorem Lyr.pre {q r : List En} (h : Lyr (q ++ r)) : Lyr q := by
  obtain ⟨h1, h2, h3⟩ := h
  have hp := h2.parts
  refine ⟨fun e he => h1 e (List.mem_append_left _ he), hp.1, fun e he => ?_⟩
  rcases h3 e (List.mem_append_left _ he) with h0 | ⟨x, hx, hk, hh⟩
  · exact .inl h0
  · rcases List.mem_append.1 hx with hx | hx
    · exact .inr ⟨x, hx, hk, hh⟩
    · have h4 := hp.2.2 e he x hx
      have h5 := (h1 e (List.mem_append_left _ he)).1.und.bl
      rw [hk] at h4
      exact absurd h5 (bl_asymm h4)
theorem Lyr.snoc {q : List En} (h : Lyr q) (x : En) : Lyr (q ++ [x]) ↔ Nxt q x := by
  constructor
  · intro k
    have hp := k.srt.parts
    refine ⟨k.rt x (by simp), fun y hy => hp.2.2 y (List.mem_of_getLast? hy) x (by simp), ?_⟩
    rcases k.par x (by simp) with h0 | ⟨y, hy, hk, hh⟩
    · exact .inl h0
    · rcases List.mem_append.1 hy with hy | hy
      · exact .inr ⟨y, hy, hk, hh⟩
      · rw [List.mem_singleton.1 hy] at hk
        have := (k.rt x (by simp)).1.und.len
        rw [← hk] at this
        omega
  · intro k
    refine ⟨fun e he => ?_, h.srt.append (List.pairwise_singleton _ _) (fun y hy z hz => by rw [List.mem_singleton.1 hz]; exact h.srt.last k.lt y hy), fun e he => ?_⟩
    · rcases List.mem_append.1 he with he | he
      · exact h.rt e he
      · rw [List.mem_singleton.1 he]; exact k.rt
    · rcases List.mem_append.1 he with he | he
      · rcases h.par e he with h0 | ⟨y, hy, hh⟩
        · exact .inl h0
        · exact .inr ⟨y, List.mem_append_left _ hy, hh⟩
      · rw [List.mem_singleton.1 he]
        rcases k.par with h0 | ⟨y, hy, hh⟩
        · exact .inl h0
        · exact .inr ⟨y, List.mem_append_left _ hy, hh⟩
theorem Tre.pre {q r : List En} (h : Tre (q ++ r)) : Tre q := ⟨h.lyr.pre, fun e he => h.kd e (List.mem_append_left _ he)⟩
theorem less_en (a b : En) : entry_Less.f a.f0 a.f1 a.f2 b.f0 b.f1 b.f2 = some (decide (bl (ky a) (ky b))) := by
  unfold entry_Less.f; rw [lst_data, lst_data]
  exact congrArg some (Bool.eq_iff_iff.2 (by rw [decide_eq_true_iff]; rfl))
theorem holds_en (a : En) : entry_Holds.f a.f0 a.f1 a.f2 = some (decide (Hld a)) := by
  unfold entry_Holds.f Hld
  by_cases h : a.f1 = 2
  · rw [if_pos h]; exact congrArg some (decide_eq_true (.inl h)).symm
  · rw [if_neg h]; exact congrArg some (Bool.eq_iff_iff.2 (by simp [h]))
theorem take_last (l : List En) (i : Nat) (h : i < l.length) (h0 : 0 < i) : (l.take i).getLast? = some (l[i - 1]) := by
  rw [List.getLast?_take, if_neg (by omega), List.getElem?_eq_getElem (by omega)]; rfl
theorem nxt_iff (l : List En) (i : Nat) (h : i < l.length) (hq : Lyr (l.take i)) : Lyr (l.take (i + 1)) ↔ Nxt (l.take i) l[i] := by
  rw [List.take_succ_eq_append_getElem h]; exact hq.snoc _
theorem lyr_not {l : List En} {n : Nat} (h : ¬ Lyr (l.take n)) : ¬ Lyr l := fun k => h (Lyr.pre (r := l.drop n) (by rwa [List.take_append_drop]))
theorem right_l0 (l : List En) (hb : ∀ e ∈ l, e.f0.size ≤ 9223372036854775807) (hl : l.length ≤ 64) : ∀ (n i k : Nat), i + n = l.length → 2 * n + 2 ≤ k → Lyr (l.take i) →
    ∀ r, (layer_Right.l0 k l l (l.length : Int) (i : Int) = some r ↔ some r = some true ∧ Lyr l ∨ some r = some false ∧ ¬ Lyr l) := by
  intro n
  induction n with
  | zero =>
    intro i k hn hk hq r
    obtain ⟨k, rfl⟩ := Nat.exists_eq_add_of_le' (show 1 ≤ k by omega)
    rw [layer_Right.l0, if_neg (by omega)]
    have : l.take i = l := List.take_of_length_le (by omega)
    rw [this] at hq
    cases r <;> simp [hq]
  | succ n ih =>
    intro i k hn hk hq r
    obtain ⟨k, rfl⟩ := Nat.exists_eq_add_of_le' (show 2 ≤ k by omega)
    have hi : i < l.length := by omega
    rw [layer_Right.l0, if_pos (by omega), if_pos (by omega), if_pos (by omega), rd_get l i hi, right_en _ (hb _ (List.getElem_mem hi)), Option.bind_some]
    have key := nxt_iff l i hi hq
    have no : ¬ Nxt (l.take i) l[i] → (some false = some r ↔ some r = some true ∧ Lyr l ∨ some r = some false ∧ ¬ Lyr l) := fun hnx => by
      have := lyr_not (fun h => hnx (key.1 h))
      cases r <;> simp [this]
    have jt : ∀ a b c, layer_Right.j1 (k + 1) l (i : Int) l (l.length : Int) (i : Int) true a b c = some false := fun a b c => by rw [layer_Right.j1, if_pos rfl]
    have jf : Rt l[i] → (∀ y, (l.take i).getLast? = some y → bl (ky y) (ky l[i])) → (layer_Right.j1 (k + 1) l (i : Int) l (l.length : Int) (i : Int) false l[i].f0 l[i].f1 l[i].f2 = some r ↔ some r = some true ∧ Lyr l ∨ some r = some false ∧ ¬ Lyr l) := by
      intro hrt hlt
      obtain ⟨d, c, hd, hdd⟩ := dir_of hrt
      rw [layer_Right.j1, if_neg (by decide), hd, Option.bind_some, if_pos (by omega), if_pos (by omega), Int.toNat_natCast]
      obtain ⟨m, hm, hx⟩ := at_eq hq.srt d (by rw [List.length_take]; omega)
      rw [hm, Option.bind_some]
      dsimp only
      rw [lst_data d]
      have goon : Nxt (l.take i) l[i] → (layer_Right.l0 k l l (l.length : Int) (wrap64 ((i : Int) + 1)) = some r ↔ some r = some true ∧ Lyr l ∨ some r = some false ∧ ¬ Lyr l) := fun hnx => by
        rw [wrap_up i (by omega)]
        exact ih (i + 1) k (by omega) (by omega) (key.2 hnx) r
      rcases hdd with ⟨h0, h1⟩ | ⟨h0, h0', h1⟩
      · rw [if_pos h1]
        exact goon ⟨hrt, hlt, .inl h0⟩
      · rw [if_neg (by rw [h1]; exact h0')]
        rw [h1] at hx ⊢
        cases hf : fnd (l.take i) (parB (ky l[i])) with
        | none =>
          rw [if_neg (by simp)]
          refine no fun k => ?_
          rcases k.par with h2 | ⟨y, hy, hk, _⟩
          · exact h0 h2
          · exact fnd_none.1 hf y hy hk
        | some y =>
          obtain ⟨hmi, hmy⟩ := hx y hf
          rw [List.length_take] at hmi
          rw [List.getElem_take] at hmy
          rw [if_pos (by rfl), if_pos (by omega), if_pos (by omega), rd_get l m (by omega), hmy, holds_en, Option.bind_some]
          by_cases hh : Hld y
          · rw [decide_eq_true hh, if_pos rfl]
            exact goon ⟨hrt, hlt, .inr ⟨y, (fnd_mem hf).1, (fnd_mem hf).2, hh⟩⟩
          · rw [decide_eq_false hh, if_neg (by decide)]
            refine no fun k => ?_
            rcases k.par with h2 | ⟨z, hz, hk, hhz⟩
            · exact h0 h2
            · have := hq.srt.at_ hz
              rw [hk, hf] at this
              exact hh (Option.some.inj this ▸ hhz)
    by_cases hrt : Rt l[i]
    · rw [decide_eq_true hrt, if_pos rfl]
      by_cases hi0 : 0 < i
      · rw [if_pos (by omega)]
        have hw : wrap64 ((i : Int) - 1) = ((i - 1 : Nat) : Int) := by unfold wrap64; omega
        rw [hw, if_pos (by omega), if_pos (by omega), rd_get l (i - 1) (by omega), less_en, Option.bind_some]
        by_cases hlt : bl (ky l[i - 1]) (ky l[i])
        · rw [decide_eq_true hlt]
          refine jf hrt fun y hy => ?_
          rw [take_last l i hi hi0] at hy
          exact Option.some.inj hy ▸ hlt
        · rw [decide_eq_false hlt, Bool.not_false, jt]
          exact no fun k => hlt (k.lt _ (take_last l i hi hi0))
      · rw [if_neg (by omega)]
        refine jf hrt fun y hy => ?_
        rw [show i = 0 by omega] at hy
        simp at hy
    · rw [decide_eq_false hrt, if_neg (by decide), jt]
      exact no fun k => hrt k.rt
open Classical in
theorem layer_right (l : List En) (hb : ∀ e ∈ l, e.f0.size ≤ 9223372036854775807) (k : Nat) (hk : 200 ≤ k) : layer_Right.f k l = some (decide (Lyr l ∧ l.length ≤ 64)) := by
  unfold layer_Right.f
  by_cases hl : l.length ≤ 64
  · rw [if_neg (by omega)]
    have h := right_l0 l hb hl l.length 0 k (by omega) (by omega) (by rw [List.take_zero]; exact Lyr.nil)
    by_cases hL : Lyr l
    · rw [decide_eq_true ⟨hL, hl⟩]; exact (h true).2 (.inl ⟨rfl, hL⟩)
    · rw [decide_eq_false (fun k => hL k.1)]; exact (h false).2 (.inr ⟨rfl, hL⟩)
  · rw [if_pos (by omega), decide_eq_false (fun k => hl k.2)]
end Go.Proofs.YtjlflmjimibciabGreatDoor.Th
end

section
namespace Go.Proofs.YtjlflmjimibciabGreatDoor.Th
open Go Go.RowKit Go.Proofs.YtjlflmjimibciabGreatDoor.Print Go.Proofs.YtjlflmjimibciabGreatDoorW.PrintWords
set_option linter.unusedVariables false
set_option linter.unusedSimpArgs false
theorem mono_le {α : Type} {F : Nat → Option α} (h : ∀ k, LeO (F k) (F (k + 1))) {a b : Nat} {r : α} (hab : a ≤ b) (ha : F a = some r) : F b = some r := by
  induction hab with
  | refl => exact ha
  | step _ ih => exact h _ _ ih
open Classical
def LR (l : List En) : Prop := Lyr l ∧ l.length ≤ 64
theorem lr_eq (l : List En) (hb : ∀ e ∈ l, e.f0.size ≤ 9223372036854775807) (k : Nat) (hk : 200 ≤ k) : layer_Right.f k l = some (decide (LR l)) :=
  (layer_right l hb k hk).trans (congrArg some (decide_eq_decide.2 Iff.rfl))
theorem Lyr.b {l : List En} (h : Lyr l) : ∀ e ∈ l, e.f0.size ≤ 9223372036854775807 := fun e he => by have := pth_size (h.rt e he).1; omega
end Go.Proofs.YtjlflmjimibciabGreatDoor.Th
end

section
namespace Go.Proofs.YtjlflmjimibciabGreatDoor.Th
open Go Go.RowKit Go.Proofs.YtjlflmjimibciabGreatDoor.Print Go.Proofs.YtjlflmjimibciabGreatDoorW.PrintWords
set_option linter.unusedVariables false
set_option linter.unusedSimpArgs false
/-- A number's bytes (up to 600). -/
def numB (n : Nat) : By := if n < 128 then [UInt8.ofNat n] else [UInt8.ofNat (n % 128 + 128), UInt8.ofNat (n / 128)]
theorem num_all : ((List.range 601).all fun n => (code_Num.f 6 (n : Int)).map (fun b => b.data.toList) == some (numB n)) = true := by kernel_rfl
theorem num_eq (n : Nat) (h : n ≤ 600) : code_Num.f 6 (n : Int) = some (B (numB n)) := by
  have h1 := eq_of_beq (List.all_eq_true.1 num_all n (List.mem_range.2 (by omega)))
  cases hc : code_Num.f 6 (n : Int) with
  | none => rw [hc] at h1; cases h1
  | some b =>
    rw [hc] at h1
    have h2 : b.data.toList = numB n := Option.some.inj h1
    rw [← h2, B_eta]
theorem num_len (n : Nat) : (numB n).length ≤ 2 := by unfold numB; split <;> simp
/-- An entry's bytes. -/
def encE (e : En) : By := numB e.f1.toNat ++ (numB e.f0.size ++ (e.f0.data.toList ++ (numB e.f2.size ++ e.f2.data.toList)))
theorem rt_short {e : En} (h : Rt e) : e.f0.size ≤ 54 ∧ e.f2.size ≤ 256 := by
  refine ⟨pth_size h.1, ?_⟩
  have hs : e.f2.size = (da e).length := rfl
  rcases h.2 with h | h
  · omega
  · rw [hs, h.2]; decide
theorem B_app (a b : By) : B a ++ B b = B (a ++ b) := by
  apply by_ext
  have : (B a ++ B b).data.toList = (B a).data.toList ++ (B b).data.toList := by simp
  rw [this, B_data, B_data, B_data]
theorem str_eq (s : ByteArray) (h : s.size ≤ 600) : code_Str.f 6 s = some (B (numB s.size ++ s.data.toList)) := by
  unfold code_Str.f
  have hl := num_len s.size
  rw [num_eq s.size h, Option.bind_some, if_pos (by rw [B_size]; omega), ← B_app, B_eta]
theorem enc_len {e : En} (h : Rt e) : (encE e).length ≤ 400 := by
  have h1 := num_len e.f1.toNat
  have h2 := num_len e.f0.size
  have h3 := num_len e.f2.size
  obtain ⟨h4, h5⟩ := rt_short h
  have h6 : e.f0.data.toList.length = e.f0.size := rfl
  have h7 : e.f2.data.toList.length = e.f2.size := rfl
  unfold encE
  simp only [List.length_append]
  omega
theorem lay_en (e : En) (h : Rt e) : entry_Lay.f 6 e.f0 e.f1 e.f2 = some (B (encE e), []) := by
  obtain ⟨h4, h5⟩ := rt_short h
  have hk := h.kind
  have hkn : ((e.f1.toNat : Nat) : Int) = e.f1 := by omega
  have hl1 := num_len e.f1.toNat
  have hl2 := num_len e.f0.size
  have hl3 := num_len e.f2.size
  have la : e.f0.data.toList.length = e.f0.size := rfl
  have ld : e.f2.data.toList.length = e.f2.size := rfl
  unfold entry_Lay.f
  rw [right_en e (by omega), Option.bind_some, decide_eq_true h, if_pos rfl]
  have hn := num_eq e.f1.toNat (by omega)
  rw [hkn] at hn
  rw [hn, Option.bind_some, str_eq e.f0 (by omega), Option.bind_some, if_pos (by rw [B_size, B_size, List.length_append]; omega), str_eq e.f2 (by omega), Option.bind_some, if_pos (by rw [ByteArray.size_append, B_size, B_size, B_size, List.length_append, List.length_append]; omega)]
  rw [B_app, B_app]
  unfold encE
  simp only [List.append_assoc]
theorem num_big : ∀ (m k v : Nat) (l : By) (n : Int) (c : Nat), k + m = 9 → v < 128 ^ k → 1 ≤ k → numL m k (v : Int) l = some (n, c) → ((128 ^ k : Nat) : Int) ≤ n
  | 0, _, _, _, _, _, _, _, _, h => by simp [numL] at h
  | m + 1, k, v, [], n, c, _, _, _, h => by simp [numL] at h
  | m + 1, k, v, b :: l, n, c, hkm, hv, hk, h => by
    have ho := orD_eq v k b (by omega) hv
    rw [numL] at h
    split at h
    · rename_i hb
      split at h
      · rename_i hc
        obtain ⟨rfl, rfl⟩ := Prod.mk.inj (Option.some.inj h)
        rw [ho]
        have h1 : 1 ≤ b.toNat % 128 := by
          rcases hc.1 with h | h
          · omega
          · omega
        have := Nat.mul_le_mul_right (128 ^ k) h1
        omega
      · cases h
    · rw [ho] at h
      have hlt : v + b.toNat % 128 * 128 ^ k < 128 ^ (k + 1) := by
        have hm : b.toNat % 128 ≤ 127 := by omega
        have := Nat.mul_le_mul_right (128 ^ k) hm
        rw [Nat.pow_succ]; omega
      have := num_big m (k + 1) _ l n c (by omega) hlt (by omega) h
      have h2 : 128 ^ k ≤ 128 ^ (k + 1) := Nat.pow_le_pow_right (by decide) (by omega)
      omega
/-- A small number that is read stands there as its bytes. -/
theorem numB_of (l : By) (n : Int) (c : Nat) (h : numL 9 0 0 l = some (n, c)) (hn : n ≤ 600) : ∃ N : Nat, n = N ∧ N ≤ 600 ∧ ∃ z, l = numB N ++ z ∧ c = (numB N).length := by
  have o0 : ∀ b : UInt8, orD 0 b 0 = ((b.toNat % 128 : Nat) : Int) := fun b => by
    have := orD_eq 0 0 b (by decide) (by decide)
    simpa using this
  cases l with
  | nil => simp [numL] at h
  | cons b l =>
    have hb := UInt8.toNat_lt b
    rw [numL] at h
    split at h
    · rename_i h1
      split at h
      · obtain ⟨rfl, rfl⟩ := Prod.mk.inj (Option.some.inj h)
        rw [o0] at hn ⊢
        refine ⟨b.toNat, by rw [Nat.mod_eq_of_lt h1], by omega, l, ?_, ?_⟩
        · unfold numB; rw [if_pos h1, UInt8.ofNat_toNat]; rfl
        · unfold numB; rw [if_pos h1]; rfl
      · cases h
    · rename_i h1
      rw [o0] at h
      cases l with
      | nil => simp [numL] at h
      | cons d l =>
        have hd := UInt8.toNat_lt d
        have o1 := orD_eq (b.toNat % 128) 1 d (by decide) (by omega)
        rw [numL] at h
        split at h
        · rename_i h2
          split at h
          · rename_i hc
            obtain ⟨rfl, rfl⟩ := Prod.mk.inj (Option.some.inj h)
            rw [o1] at hn ⊢
            have hpos : 0 < d.toNat := by
              rcases hc.1 with h | h
              · exact h
              · cases h
            have e1 : (b.toNat % 128 + d.toNat % 128 * 128 ^ 1) % 128 + 128 = b.toNat := by omega
            have e2 : (b.toNat % 128 + d.toNat % 128 * 128 ^ 1) / 128 = d.toNat := by omega
            refine ⟨_, rfl, by omega, l, ?_, ?_⟩
            · unfold numB; rw [if_neg (by omega), e1, e2, UInt8.ofNat_toNat, UInt8.ofNat_toNat]; rfl
            · unfold numB; rw [if_neg (by omega)]; rfl
          · cases h
        · rw [o1] at h
          have := num_big 7 2 _ l n c (by decide) (by omega) (by decide) h
          omega
theorem ext_mid {S : ByteArray} {x y t : By} {i j : Nat} (e : S.data.toList = x ++ (y ++ t)) (hx : x.length = i) (hy : i + y.length = j) : S.extract i j = B y := by
  apply by_ext
  rw [B_data]
  have : (S.extract i j).data.toList = (S.data.toList.drop i).take (j - i) := by simp [List.take_drop]
  rw [this, e, List.drop_append_of_le_length (by omega), List.drop_of_length_le (by omega), List.nil_append, List.take_append_of_le_length (by omega), List.take_of_length_le (by omega)]
/-- Whatever Num reads. -/
theorem num_any (S : ByteArray) (x z : By) (most : Int) (hS : S.data.toList = x ++ z) (hsz : S.size ≤ 600000) (hm : most ≤ 600) :
    numF S ((x.length : Nat) : Int) most = some (0, [13], S, ((x.length : Nat) : Int)) ∨ ∃ (N : Nat) (z2 : By), (N : Int) ≤ most ∧ z = numB N ++ z2 ∧ numF S ((x.length : Nat) : Int) most = some ((N : Int), [], S, (((x ++ numB N).length : Nat) : Int)) := by
  have lS : S.data.toList.length = S.size := rfl
  have hlen := congrArg List.length hS
  rw [List.length_append, lS] at hlen
  have hd : S.data.toList.drop x.length = z := by rw [hS]; simp
  unfold numF
  rw [if_pos ⟨by omega, by omega, by omega⟩, Int.toNat_natCast, hd]
  cases hn : numL 9 0 0 z with
  | none => exact Or.inl rfl
  | some r =>
    obtain ⟨n, c⟩ := r
    dsimp only
    by_cases hc : n ≤ most
    · right
      obtain ⟨M, rfl, hM, z1, rfl, rfl⟩ := numB_of z n c hn (by omega)
      refine ⟨M, z1, hc, rfl, ?_⟩
      rw [if_pos hc, List.length_append]
      rfl
    · left
      rw [if_neg hc]
/-- Whatever Str reads. -/
theorem str_any (S : ByteArray) (x z : By) (most : Int) (hS : S.data.toList = x ++ z) (hsz : S.size ≤ 600000) (hm : most ≤ 600) :
    strF S ((x.length : Nat) : Int) most = some (⟨#[]⟩, [13], S, ((x.length : Nat) : Int)) ∨ ∃ (b : ByteArray) (z2 : By), b.size ≤ most ∧ z = numB b.size ++ (b.data.toList ++ z2) ∧ strF S ((x.length : Nat) : Int) most = some (b, [], S, (((x ++ (numB b.size ++ b.data.toList)).length : Nat) : Int)) := by
  have lS : S.data.toList.length = S.size := rfl
  have hlen := congrArg List.length hS
  rw [List.length_append, lS] at hlen
  have hd : S.data.toList.drop x.length = z := by rw [hS]; simp
  unfold strF
  rw [if_pos ⟨by omega, by omega, by omega⟩, Int.toNat_natCast, hd]
  cases hn : numL 9 0 0 z with
  | none => exact Or.inl rfl
  | some r =>
    obtain ⟨n, c⟩ := r
    dsimp only
    by_cases hc : n ≤ most ∧ x.length + c + n.toNat ≤ S.size
    · right
      rw [if_pos hc]
      obtain ⟨M, rfl, hM, z1, rfl, rfl⟩ := numB_of z n c hn (by omega)
      rw [Int.toNat_natCast] at hc ⊢
      rw [List.length_append] at hlen
      have hz1 : z1 = z1.take M ++ z1.drop M := (List.take_append_drop M z1).symm
      have lt : (z1.take M).length = M := by rw [List.length_take]; omega
      have lb : (B (z1.take M)).size = M := by rw [B_size, lt]
      refine ⟨B (z1.take M), z1.drop M, by rw [lb]; exact hc.1, by rw [lb, B_data, ← hz1], ?_⟩
      rw [ext_mid (x := x ++ numB M) (y := z1.take M) (t := z1.drop M) (by rw [hS, ← hz1]; simp) (by simp) (by rw [lt]), lb, B_data]
      have : x.length + (numB M).length + M = (x ++ (numB M ++ z1.take M)).length := by simp [lt]; omega
      rw [this]
    · left
      rw [if_neg hc]
/-- Whatever Read reads, at any place. -/
theorem read_at (S : ByteArray) (x z : By) (hS : S.data.toList = x ++ z) (hsz : S.size ≤ 600000) : (∃ p, entry_Read.f S ((x.length : Nat) : Int) = some (⟨#[]⟩, 0, ⟨#[]⟩, [13], S, p)) ∨ ∃ (e : En) (z2 : By), Rt e ∧ z = encE e ++ z2 ∧ entry_Read.f S ((x.length : Nat) : Int) = some (e.f0, e.f1, e.f2, [], S, (((x ++ encE e).length : Nat) : Int)) := by
  have emp_if : ∀ {α : Type} (x y : Option α), (if (([] : List Int).isEmpty = true) then x else y) = x := fun _ _ => rfl
  unfold entry_Read.f code_Reader_Num.f
  rcases num_any S x z 4 hS hsz (by decide) with e | ⟨K, z1, hK, rfl, e⟩
  · left; rw [e]; exact ⟨_, rfl⟩
  · rw [e, Option.bind_some]
    dsimp only
    rw [emp_if]
    unfold code_Reader_Str.f
    rcases str_any S (x ++ numB K) z1 54 (by rw [hS]; simp) hsz (by decide) with e | ⟨a, z2, ha, rfl, e⟩
    · left; rw [e]; exact ⟨_, rfl⟩
    · rw [e, Option.bind_some]
      dsimp only
      rw [emp_if]
      rcases str_any S (x ++ numB K ++ (numB a.size ++ a.data.toList)) z2 256 (by rw [hS]; simp) hsz (by decide) with e2 | ⟨d, z3, hd, rfl, e2⟩
      · left; rw [e2]; exact ⟨_, rfl⟩
      · obtain ⟨en, hen⟩ : ∃ en : En, en = ⟨a, (K : Int), d⟩ := ⟨_, rfl⟩
        have hr := right_en en (by rw [hen]; show a.size ≤ _; omega)
        rw [hen] at hr
        have hr2 : entry_Right.f a (K : Int) d = some (decide (Rt en)) := by rw [hen]; exact hr
        rw [e2, Option.bind_some]
        dsimp only
        rw [emp_if, hr2, Option.bind_some]
        by_cases hR : Rt en
        · right
          refine ⟨en, z3, hR, ?_, ?_⟩
          · rw [hen]; unfold encE; simp
          · rw [decide_eq_true hR, if_pos rfl, hen]; unfold encE; simp
        · left
          rw [decide_eq_false hR, if_neg (by decide)]
          exact ⟨_, rfl⟩
end Go.Proofs.YtjlflmjimibciabGreatDoor.Th
end
