/- What the printed functions of paths answer, in plain words. -/
import Derived.Test.YtjlflmjimibciabGreatDoorThC
import Derived.Test.YtjlflmjimibciabGreatDoorPrint2
import Derived.Test.YtjlflmjimibciabGreatDoorPrintRe
import Derived.Test.YtjlflmjimibciabGreatDoorPrintLay
import Derived.Test.YtjlflmjimibciabGreatDoorPrintRd
import Derived.Test.YtjlflmjimibciabGreatDoorPrint0
import Derived.Test.YtjlflmjimibciabGreatDoorPrintF
import Derived.Test.YtjlflmjimibciabGreatDoorPrintSz
import Derived.Test.YtjlflmjimibciabGreatDoorPrintSa
section
namespace Go.Proofs.YtjlflmjimibciabGreatDoor.Th
open Go Go.RowKit Go.Proofs.YtjlflmjimibciabGreatDoor.Print Go.Proofs.YtjlflmjimibciabGreatDoorW.PrintWords
set_option linter.unusedVariables false
set_option linter.unusedSimpArgs false
def B (l : By) : ByteArray := ⟨l.toArray⟩
theorem B_data (l : By) : (B l).data.toList = l := by simp [B]
theorem B_eta (b : ByteArray) : B b.data.toList = b := by_ext (B_data _)
theorem B_size (l : By) : (B l).size = l.length := rfl
theorem size_data (b : ByteArray) : b.size = b.data.toList.length := rfl
def nm (p : ByteArray) : Option (List By) := splitF p.data.toList
theorem split_eq (p : ByteArray) (h : p.size ≤ 9223372036854775807) : path_Split.f p = some (match nm p with | some l => (l.map B, []) | none => ([], [2])) := by
  unfold path_Split.f; rw [if_pos h]; rfl
theorem deep_nm (p : ByteArray) (h : p.size ≤ 9223372036854775807) : path_Deep.f p = some (match nm p with | some l => (l.length : Int) | none => -1) := by
  unfold path_Deep.f
  rw [split_eq p h, Option.bind_some]
  cases nm p with
  | none => rfl
  | some l => dsimp only; rw [if_pos (show ([] : List Int).isEmpty = true from rfl), List.length_map]

theorem count_joinB (L : List By) : (joinB L).count 47 = L.length + (L.map fun n => n.count 47).sum := by
  induction L with
  | nil => rfl
  | cons n L ih => rw [joinB_cons, List.cons_append, List.count_cons_self, List.count_append, ih]; simp; omega
theorem count_zero {n : By} (h : (47 : UInt8) ∉ n) : n.count 47 = 0 := List.count_eq_zero.2 h
theorem sum_zero {L : List By} (h : (L.map fun n => n.count 47).sum = 0) : ∀ n ∈ L, (47 : UInt8) ∉ n := by
  induction L with
  | nil => intro n hn; cases hn
  | cons m L ih =>
    rw [List.map_cons, List.sum_cons] at h
    intro n hn
    rcases List.mem_cons.1 hn with rfl | hn
    · exact List.count_eq_zero.1 (by omega)
    · exact ih (by omega) n hn
theorem sum_clean {L : List By} (h : ∀ n ∈ L, (47 : UInt8) ∉ n) : (L.map fun n => n.count 47).sum = 0 := by
  induction L with
  | nil => rfl
  | cons m L ih => rw [List.map_cons, List.sum_cons, ih (fun n hn => h n (by simp [hn])), count_zero (h m (by simp))]
theorem joinB_clean {a b : List By} (ha : ∀ n ∈ a, (47 : UInt8) ∉ n) (hb : ∀ n ∈ b, (47 : UInt8) ∉ n) (h : joinB a = joinB b) : a = b := by
  cases a with
  | nil => cases b with
    | nil => rfl
    | cons n b => simp [joinB_nil, joinB_cons] at h
  | cons n a =>
    cases b with
    | nil => simp [joinB_nil, joinB_cons] at h
    | cons m b =>
      rw [joinB_cons, joinB_cons, List.cons_append, List.cons_append] at h
      injection h with _ h
      have h1 := pieces_join n a (ha n (by simp)) (fun x hx => ha x (by simp [hx]))
      have h2 := pieces_join m b (hb m (by simp)) (fun x hx => hb x (by simp [hx]))
      rw [h, h2] at h1; exact h1.symm
theorem Okn.clean {L : List By} (h : Okn L) : ∀ n ∈ L, (47 : UInt8) ∉ n := fun n hn => nameL_slash (h.2 n hn)
theorem split_join_len {L l' : List By} (hne : L ≠ []) (h : splitF (joinB L) = some l') (hl : l'.length = L.length) : l' = L ∧ Okn L := by
  rcases splitF_some h with ⟨_, rfl⟩ | ⟨e, _, ok⟩
  · exact absurd (List.eq_nil_of_length_eq_zero hl.symm) hne
  · have h1 := congrArg (List.count 47) e
    rw [count_joinB, count_joinB, sum_clean ok.clean, hl] at h1
    have := joinB_clean (sum_zero (L := L) (by omega)) ok.clean e
    subst this
    exact ⟨rfl, ok⟩

instance (L : List By) : Decidable (Okn L) := inferInstanceAs (Decidable (_ ∧ ∀ n ∈ L, nameL n = true))
def joinR (L : List By) : ByteArray × List Int := if L = [] then (B [47], []) else if Okn L then (B (joinB L), []) else (B [], [2])
theorem joinB_join {L : List By} (h : L ≠ []) : joinB L = 47 :: Lib.join L [47] := by
  cases L with
  | nil => exact absurd rfl h
  | cons x r =>
    rw [Lib.join_cons, joinB_cons, List.cons_append]
    congr 2
theorem data_map_B (L : List By) : (L.map B).map (fun b => b.data.toList) = L := by
  rw [List.map_map]
  conv => rhs; rw [← List.map_id L]
  exact List.map_congr_left fun x _ => B_data x
theorem join_eq (l : List ByteArray) (L : List By) (hL : l.map (fun b => b.data.toList) = L) (hb : L.length ≤ 6 → (joinB L).length ≤ 140737488355328) : path_Join.f l = some (joinR L) := by
  have hlen : l.length = L.length := by rw [← hL, List.length_map]
  unfold path_Join.f joinR
  by_cases h0 : L = []
  · have : l.length = 0 := by rw [hlen, h0]; rfl
    rw [if_pos (by omega), if_pos h0]; rfl
  · have hl0 : L.length ≠ 0 := fun e => h0 (List.eq_nil_of_length_eq_zero e)
    rw [if_neg (by omega), if_neg h0]
    by_cases h6 : L.length ≤ 6
    · have hjl := hb h6
      have hj := joinB_join h0
      have hjj := congrArg List.length hj
      rw [List.length_cons] at hjj
      rw [if_neg (by omega)]
      unfold strings_Join.f
      have hL' : (l.map fun x => x.data.toList) = L := hL
      rw [hL']
      have h47 : (⟨#[47]⟩ : ByteArray).data.toList = [47] := rfl
      rw [h47, if_pos ⟨by omega, by omega⟩, Option.bind_some]
      have hsz : (⟨(Lib.join L [47]).toArray⟩ : ByteArray).size = (Lib.join L [47]).length := rfl
      rw [if_pos (by rw [hsz]; omega)]
      have hp : (⟨#[47]⟩ : ByteArray) ++ (⟨(Lib.join L [47]).toArray⟩ : ByteArray) = B (joinB L) := by
        apply by_ext; rw [B_data, hj]; simp
      rw [hp, split_eq _ (by rw [B_size]; omega), Option.bind_some]
      unfold nm
      rw [B_data]
      by_cases ok : Okn L
      · rw [splitF_join ok h0, if_pos ok]
        dsimp only
        rw [if_pos (show ([] : List Int).isEmpty = true from rfl), if_pos (by rw [List.length_map, hlen])]
      · rw [if_neg ok]
        cases hs : splitF (joinB L) with
        | none => dsimp only; rw [if_neg (by decide)]; rfl
        | some l' =>
          dsimp only
          rw [if_pos (show ([] : List Int).isEmpty = true from rfl), if_neg]
          · rfl
          · rw [List.length_map, hlen]
            intro e
            exact ok (split_join_len h0 hs (by omega)).2
    · rw [if_pos (by omega), if_neg (fun k => h6 k.1)]; rfl
theorem nm_len {p : ByteArray} {l : List By} (h : nm p = some l) : p.size ≤ 54 ∧ l.length ≤ 6 := by
  rcases splitF_some h with ⟨e, rfl⟩ | ⟨e, _, ok⟩
  · rw [size_data, e]; exact ⟨by decide, by decide⟩
  · rw [size_data, e]; exact ⟨joinB_len ok, ok.1⟩
theorem nm_ok {p : ByteArray} {l : List By} (h : nm p = some l) : Okn l := by
  rcases splitF_some h with ⟨e, rfl⟩ | ⟨e, _, ok⟩
  · exact ⟨by decide, fun n hn => by cases hn⟩
  · exact ok
/-- The path of names. -/
def pathB (L : List By) : ByteArray := if L = [] then B [47] else B (joinB L)
theorem joinR_ok {L : List By} (h : Okn L) : joinR L = (pathB L, []) := by
  unfold joinR pathB
  by_cases e : L = []
  · rw [if_pos e, if_pos e]
  · rw [if_neg e, if_neg e, if_pos h]
theorem join_ok {L : List By} (h : Okn L) : path_Join.f (L.map B) = some (pathB L, []) := by
  rw [join_eq (L.map B) L (data_map_B L) (fun _ => by have := joinB_len h; omega), joinR_ok h]

def parR (p : ByteArray) : ByteArray × ByteArray × List Int := match nm p with
  | none => (B [], B [], [2])
  | some l => if h : l = [] then (B [], B [], [1]) else (pathB l.dropLast, B (l.getLast h), [])
theorem okn_take {L : List By} (h : Okn L) (n : Nat) : Okn (L.take n) := ⟨by rw [List.length_take]; have := h.1; omega, fun m hm => h.2 m (List.mem_of_mem_take hm)⟩
theorem rdOf_get (l : List ByteArray) (i : Nat) (h : i < l.length) : rdOf ByteArray.empty l (i : Int) = l[i] := by
  unfold rdOf; rw [Int.toNat_natCast, List.getD_eq_getElem?_getD, List.getElem?_eq_getElem h]; rfl
theorem parent_eq (p : ByteArray) (h : p.size ≤ 9223372036854775807) : path_Parent.f p = some (parR p) := by
  unfold path_Parent.f parR
  rw [split_eq p h, Option.bind_some]
  cases hn : nm p with
  | none => dsimp only; rw [if_neg (by decide)]; rfl
  | some l =>
    dsimp only
    rw [if_pos (show ([] : List Int).isEmpty = true from rfl)]
    by_cases h0 : l = []
    · subst h0; rw [if_pos (by rfl), dif_pos rfl]; rfl
    · have hl : 0 < l.length := List.length_pos_iff.2 h0
      have h6 := (nm_len hn).2
      have hw : wrap64 (((l.map B).length : Int) - 1) = ((l.length - 1 : Nat) : Int) := by
        rw [List.length_map]; unfold wrap64; omega
      rw [hw, dif_neg h0, if_neg (by rw [List.length_map]; omega), if_pos (by omega), if_pos (by rw [List.length_map]; omega), Int.toNat_natCast]
      have ht : (l.map B).take (l.length - 1) = (l.dropLast).map B := by rw [List.dropLast_eq_take, List.map_take]
      have hok : Okn l.dropLast := by rw [List.dropLast_eq_take]; exact okn_take (nm_ok hn) _
      rw [ht, join_ok hok, Option.bind_some, if_pos (by rw [List.length_map]; omega)]
      rw [rdOf_get _ _ (by rw [List.length_map]; omega)]
      congr 2
      rw [List.getElem_map, List.getLast_eq_getElem]

theorem parR_some {p : ByteArray} {l : List By} (h : nm p = some l) (hl : l ≠ []) : parR p = (pathB l.dropLast, B (l.getLast hl), []) := by unfold parR; rw [h]; dsimp only; rw [dif_neg hl]
end Go.Proofs.YtjlflmjimibciabGreatDoor.Th
end

section
namespace Go.Proofs.YtjlflmjimibciabGreatDoor.Th
open Go Go.RowKit Go.Proofs.YtjlflmjimibciabGreatDoor.Print Go.Proofs.YtjlflmjimibciabGreatDoorW.PrintWords
set_option linter.unusedVariables false
set_option linter.unusedSimpArgs false
theorem rd_get (l : List En) (i : Nat) (h : i < l.length) : rd_T39 l (i : Int) = l[i] := by
  unfold rd_T39; rw [Int.toNat_natCast, List.getD_eq_getElem?_getD, List.getElem?_eq_getElem h]; rfl
theorem wrap_up (i : Nat) (h : i < 1000000) : wrap64 ((i : Int) + 1) = ((i + 1 : Nat) : Int) := by unfold wrap64; omega
theorem lst_data (b : ByteArray) : b.toList = b.data.toList := Lib.toList_data b
theorem lst_eq (a b : ByteArray) : (a.toList == b.toList) = decide (a.data.toList = b.data.toList) := by
  rw [lst_data, lst_data]; exact Bool.eq_iff_iff.2 (by simp)

theorem kd_iff (k : Int) (d : ByteArray) : (if k = 1 then (some (decide ((d.size : Int) ≤ 256))) else (if k = 2 then (some (d.toList == ([] : List UInt8))) else (if k = 3 then (some (d.toList == ([] : List UInt8))) else (if k = 4 then (some (d.toList == ([] : List UInt8))) else (some false))))) = some (decide (k = 1 ∧ d.data.toList.length ≤ 256 ∨ (k = 2 ∨ k = 3 ∨ k = 4) ∧ d.data.toList = [])) := by
  have hd : (d.toList == ([] : List UInt8)) = decide (d.data.toList = []) := by rw [lst_data]; exact Bool.eq_iff_iff.2 (by simp)
  have hs : d.size = d.data.toList.length := rfl
  rw [hd]
  by_cases k1 : k = 1
  · rw [if_pos k1]
    exact congrArg some (decide_eq_decide.2 (by rw [hs]; constructor <;> (intro h; first | (left; omega) | (rcases h with h | h <;> omega))))
  · rw [if_neg k1]
    by_cases k2 : k = 2
    · rw [if_pos k2]; exact congrArg some (decide_eq_decide.2 ⟨fun h => .inr ⟨.inl k2, h⟩, fun h => h.elim (fun h => absurd h.1 k1) (fun h => h.2)⟩)
    · rw [if_neg k2]
      by_cases k3 : k = 3
      · rw [if_pos k3]; exact congrArg some (decide_eq_decide.2 ⟨fun h => .inr ⟨.inr (.inl k3), h⟩, fun h => h.elim (fun h => absurd h.1 k1) (fun h => h.2)⟩)
      · rw [if_neg k3]
        by_cases k4 : k = 4
        · rw [if_pos k4]; exact congrArg some (decide_eq_decide.2 ⟨fun h => .inr ⟨.inr (.inr k4), h⟩, fun h => h.elim (fun h => absurd h.1 k1) (fun h => h.2)⟩)
        · rw [if_neg k4]
          exact congrArg some (decide_eq_false (by rintro (h | ⟨h | h | h, _⟩) <;> first | exact k1 h.1 | exact k2 h | exact k3 h | exact k4 h)).symm
theorem pth_nm {p : ByteArray} : Pth p.data.toList ↔ ∃ l, nm p = some l ∧ l ≠ [] := Iff.rfl
theorem pth_deep {p : ByteArray} (h : p.size ≤ 9223372036854775807) : ∃ t, path_Deep.f p = some t ∧ (t < 1 ↔ ¬ Pth p.data.toList) := by
  refine ⟨_, deep_nm p h, ?_⟩
  rw [pth_nm]
  cases hn : nm p with
  | none => simp
  | some l =>
    simp only
    constructor
    · intro h1
      rintro ⟨l', e, hne⟩
      rw [Option.some.inj e] at h1
      exact hne (List.eq_nil_of_length_eq_zero (by omega))
    · intro h1
      by_cases h0 : l = []
      · subst h0; decide
      · exact absurd ⟨l, rfl, h0⟩ h1
def pthb (p : By) : Bool := match splitF p with | some l => !l.isEmpty | none => false
instance (p : By) : Decidable (Pth p) := decidable_of_iff (pthb p = true) (by unfold Pth pthb; cases h : splitF p <;> simp)
instance (e : En) : Decidable (Rt e) := inferInstanceAs (Decidable (_ ∧ _))
theorem right_en (e : En) (h : e.f0.size ≤ 9223372036854775807) : entry_Right.f e.f0 e.f1 e.f2 = some (decide (Rt e)) := by
  unfold entry_Right.f
  obtain ⟨t, ht, hi⟩ := pth_deep h
  rw [ht, Option.bind_some, kd_iff]
  by_cases hp : Pth e.f0.data.toList
  · rw [if_neg (fun h1 => hi.1 h1 hp)]
    exact congrArg some (decide_eq_decide.2 ⟨fun h1 => ⟨hp, h1⟩, fun h1 => h1.2⟩)
  · rw [if_pos (hi.2 hp)]
    exact congrArg some (decide_eq_false (fun h1 => hp h1.1)).symm
theorem pth_size {p : ByteArray} (h : Pth p.data.toList) : p.size ≤ 54 := by obtain ⟨l, e, _⟩ := h; exact (nm_len (p := p) e).1
theorem pth_nil {p : ByteArray} (h : Pth p.data.toList) : ∃ l, nm p = some l ∧ l ≠ [] ∧ p.data.toList = joinB l ∧ parB p.data.toList = joinB l.dropLast ∧ Okn l := by
  obtain ⟨l, e, hne⟩ := h
  refine ⟨l, e, hne, ?_, ?_, nm_ok (p := p) e⟩
  · rcases splitF_some e with ⟨_, h0⟩ | ⟨h1, _⟩
    · exact absurd h0 hne
    · exact h1
  · unfold parB; rw [e]; rfl
theorem joinB_root {l : List By} (h : Okn l) : joinB l ≠ [47] := by
  cases l with
  | nil => simp [joinB_nil]
  | cons n l =>
    have := (nameL_len (h.2 n (by simp))).1
    cases n with
    | nil => simp at this
    | cons c n => rw [joinB_cons]; simp
theorem dir_of {e : En} (h : Rt e) : ∃ d c, path_Parent.f e.f0 = some (d, c, []) ∧ (parB (ky e) = [] ∧ d.data.toList = [47] ∨ parB (ky e) ≠ [] ∧ parB (ky e) ≠ [47] ∧ d.data.toList = parB (ky e)) := by
  obtain ⟨l, hn, hne, hj, hp, hok⟩ := pth_nil h.1
  refine ⟨_, _, by rw [parent_eq _ (by have := pth_size h.1; omega), parR_some hn hne], ?_⟩
  unfold ky; rw [hp]; unfold pathB
  have hd : Okn l.dropLast := by rw [List.dropLast_eq_take]; exact okn_take hok _
  by_cases h0 : l.dropLast = []
  · rw [if_pos h0, h0]; left; exact ⟨rfl, B_data _⟩
  · rw [if_neg h0]; right
    refine ⟨?_, joinB_root hd, B_data _⟩
    cases h1 : l.dropLast with
    | nil => exact absurd h1 h0
    | cons n r => rw [joinB_cons]; simp
theorem cb_zero (a b : By) : Lib.compareBytes a b = 0 ↔ a = b := by
  rw [cmp_cases]
  constructor
  · intro h
    rcases bl_tri a b with h1 | h1 | h1
    · unfold bl at h1; rw [if_pos h1] at h; omega
    · exact h1
    · have h2 := bl_asymm h1
      unfold bl at h1 h2; rw [if_neg h2, if_pos h1] at h; omega
  · rintro rfl
    have h2 := bl_irrefl a
    unfold bl at h2
    rw [if_neg h2, if_neg h2]
theorem Srt.get {l : List En} (h : Srt l) {i j : Nat} (hi : i < l.length) (hj : j < l.length) (hij : i < j) : bl (ky l[i]) (ky l[j]) := List.pairwise_iff_getElem.1 h i j hi hj hij
theorem srch {l : List En} (hs : Srt l) (F : Nat → ByteArray) (hF : ∀ i (h : i < l.length), F i = (l[i]).f0) (p : ByteArray) :
    ∃ m, bsF F p l.length 0 l.length = m ∧ m ≤ l.length ∧ (∀ i (h : i < l.length), i < m ↔ bl (ky l[i]) p.data.toList) := by
  obtain ⟨h1, h2, h3⟩ := bsF_spec F p l.length (fun a b hab hb hc => by
    rw [cmp_lt] at hc ⊢
    rw [hF b hb] at hc
    rw [hF a (by omega)]
    by_cases e : a = b
    · subst e; exact hc
    · exact bl_trans (hs.get (by omega) hb (by omega)) hc) l.length 0 l.length (by omega) (Nat.le_refl _) (by omega) (fun t ht => by omega) (fun t h4 h5 => by omega)
  refine ⟨_, rfl, h1, fun i hi => ⟨fun hm => ?_, fun hb => ?_⟩⟩
  · have := h2 i hm
    rw [cmp_lt, hF i hi] at this
    exact this
  · by_cases hm : i < bsF F p l.length 0 l.length
    · exact hm
    · have := h3 i (by omega) hi
      rw [cmp_lt, hF i hi] at this
      exact absurd hb this
/-- What the search hits is what stands at the path. -/
theorem srch_hit {l : List En} (hs : Srt l) {p : By} {m : Nat} (hm : ∀ i (h : i < l.length), i < m ↔ bl (ky l[i]) p) : (m < l.length ∧ ∃ h : m < l.length, ky l[m] = p) ∨ (¬ (∃ h : m < l.length, ky l[m] = p) ∧ fnd l p = none) := by
  by_cases h : ∃ h : m < l.length, ky l[m] = p
  · exact .inl ⟨h.1, h⟩
  · refine .inr ⟨h, fnd_none.2 fun e he hk => ?_⟩
    obtain ⟨i, hi, rfl⟩ := List.getElem_of_mem he
    have h1 : ¬ i < m := fun k => by have := (hm i hi).1 k; rw [hk] at this; exact bl_irrefl _ this
    by_cases h2 : i = m
    · subst h2; exact h ⟨hi, hk⟩
    · have := hs.get (i := m) (j := i) (by omega) hi (by omega)
      rw [hk] at this
      exact absurd ((hm m (by omega)).2 this) (Nat.lt_irrefl _)
theorem at_eq {l : List En} (hs : Srt l) (p : ByteArray) (hl : l.length ≤ 100000) : ∃ m : Nat, layer_at.f l p = some ((m : Int), (fnd l p.data.toList).isSome) ∧ ∀ x, fnd l p.data.toList = some x → ∃ h : m < l.length, l[m] = x := by
  obtain ⟨m, hm, hle, hi⟩ := srch hs (fun i => (rd_T39 l (i : Int)).f0) (fun i h => by rw [rd_get l i h]) p
  refine ⟨m, ?_, ?_⟩
  · unfold layer_at.f
    rw [if_pos (by omega), hm]
    congr 2
    rcases srch_hit hs hi with ⟨_, h1, h2⟩ | ⟨h1, h2⟩
    · rw [rd_get l m h1, decide_eq_true h1, decide_eq_true (show Lib.compareBytes l[m].f0.data.toList p.data.toList = 0 from (cb_zero _ _).2 h2)]
      rw [← h2, hs.at_ (List.getElem_mem h1)]; rfl
    · rw [h2]
      by_cases h3 : m < l.length
      · rw [decide_eq_true h3, rd_get l m h3, decide_eq_false (show ¬ Lib.compareBytes l[m].f0.data.toList p.data.toList = 0 from fun k => h1 ⟨h3, (cb_zero _ _).1 k⟩)]; rfl
      · rw [decide_eq_false h3]; rfl
  · intro x hx
    rcases srch_hit hs hi with ⟨_, h1, h2⟩ | ⟨_, h2⟩
    · refine ⟨h1, ?_⟩
      have := hs.at_ (List.getElem_mem h1)
      rw [h2, hx] at this
      exact (Option.some.inj this).symm
    · rw [h2] at hx; cases hx

end Go.Proofs.YtjlflmjimibciabGreatDoor.Th
end

section
namespace Go.Proofs.YtjlflmjimibciabGreatDoor.Th
open Go Go.RowKit Go.Proofs.YtjlflmjimibciabGreatDoor.Print Go.Proofs.YtjlflmjimibciabGreatDoorW.PrintWords
set_option linter.unusedVariables false
set_option linter.unusedSimpArgs false
structure Nxt (q : List En) (x : En) : Prop where
  rt : Rt x
  lt : ∀ y, q.getLast? = some y → bl (ky y) (ky x)
  par : parB (ky x) = [] ∨ ∃ y ∈ q, ky y = parB (ky x) ∧ Hld y
theorem Srt.last {q : List En} (h : Srt q) {x : En} (hl : ∀ y, q.getLast? = some y → bl (ky y) (ky x)) : ∀ y ∈ q, bl (ky y) (ky x) := by
  intro y hy
  rcases List.eq_nil_or_concat q with rfl | ⟨r, z, rfl⟩
  · cases hy
  · rw [List.concat_eq_append] at *
    have hz := hl z (by simp)
    rcases List.mem_append.1 hy with h1 | h1
    · exact bl_trans (h.parts.2.2 y h1 z (by simp)) hz
    · rw [List.mem_singleton.1 h1]; exact hz
theorem Lyr.pre {q r : List En} (h : Lyr (q ++ r)) : Lyr q := by
  obtain ⟨h1, h2, h3⟩ := h
  have hp := h2.parts
  refine ⟨fun e he => h1 e (List.mem_append_left _ he), hp.1, fun e he => ?_⟩
  rcases h3 e (List.mem_append_left _ he) with h0 | ⟨x, hx, hk, hh⟩
  · exact .inl h0
  · rcases List.mem_append.1 hx with hx | hx
    · exact .inr ⟨x, hx, hk, hh⟩
    · have h4 := hp.2.2 e he x hx
      have h5 := (h1 e (List.mem_append_left _ he)).1.und.bl
      rw [hk] at h4
      exact absurd h5 (bl_asymm h4)
theorem Lyr.snoc {q : List En} (h : Lyr q) (x : En) : Lyr (q ++ [x]) ↔ Nxt q x := by
  constructor
  · intro k
    have hp := k.srt.parts
    refine ⟨k.rt x (by simp), fun y hy => hp.2.2 y (List.mem_of_getLast? hy) x (by simp), ?_⟩
    rcases k.par x (by simp) with h0 | ⟨y, hy, hk, hh⟩
    · exact .inl h0
    · rcases List.mem_append.1 hy with hy | hy
      · exact .inr ⟨y, hy, hk, hh⟩
      · rw [List.mem_singleton.1 hy] at hk
        have := (k.rt x (by simp)).1.und.len
        rw [← hk] at this
        omega
  · intro k
    refine ⟨fun e he => ?_, h.srt.append (List.pairwise_singleton _ _) (fun y hy z hz => by rw [List.mem_singleton.1 hz]; exact h.srt.last k.lt y hy), fun e he => ?_⟩
    · rcases List.mem_append.1 he with he | he
      · exact h.rt e he
      · rw [List.mem_singleton.1 he]; exact k.rt
    · rcases List.mem_append.1 he with he | he
      · rcases h.par e he with h0 | ⟨y, hy, hh⟩
        · exact .inl h0
        · exact .inr ⟨y, List.mem_append_left _ hy, hh⟩
      · rw [List.mem_singleton.1 he]
        rcases k.par with h0 | ⟨y, hy, hh⟩
        · exact .inl h0
        · exact .inr ⟨y, List.mem_append_left _ hy, hh⟩
theorem Tre.pre {q r : List En} (h : Tre (q ++ r)) : Tre q := ⟨h.lyr.pre, fun e he => h.kd e (List.mem_append_left _ he)⟩
theorem less_en (a b : En) : entry_Less.f a.f0 a.f1 a.f2 b.f0 b.f1 b.f2 = some (decide (bl (ky a) (ky b))) := by
  unfold entry_Less.f; rw [lst_data, lst_data]
  exact congrArg some (Bool.eq_iff_iff.2 (by rw [decide_eq_true_iff]; rfl))
theorem holds_en (a : En) : entry_Holds.f a.f0 a.f1 a.f2 = some (decide (Hld a)) := by
  unfold entry_Holds.f Hld
  by_cases h : a.f1 = 2
  · rw [if_pos h]; exact congrArg some (decide_eq_true (.inl h)).symm
  · rw [if_neg h]; exact congrArg some (Bool.eq_iff_iff.2 (by simp [h]))
theorem take_last (l : List En) (i : Nat) (h : i < l.length) (h0 : 0 < i) : (l.take i).getLast? = some (l[i - 1]) := by
  rw [List.getLast?_take, if_neg (by omega), List.getElem?_eq_getElem (by omega)]; rfl
theorem nxt_iff (l : List En) (i : Nat) (h : i < l.length) (hq : Lyr (l.take i)) : Lyr (l.take (i + 1)) ↔ Nxt (l.take i) l[i] := by
  rw [List.take_succ_eq_append_getElem h]; exact hq.snoc _
theorem lyr_not {l : List En} {n : Nat} (h : ¬ Lyr (l.take n)) : ¬ Lyr l := fun k => h (Lyr.pre (r := l.drop n) (by rwa [List.take_append_drop]))
theorem right_l0 (l : List En) (hb : ∀ e ∈ l, e.f0.size ≤ 9223372036854775807) (hl : l.length ≤ 64) : ∀ (n i k : Nat), i + n = l.length → 2 * n + 2 ≤ k → Lyr (l.take i) →
    ∀ r, (layer_Right.l0 k l l (l.length : Int) (i : Int) = some r ↔ some r = some true ∧ Lyr l ∨ some r = some false ∧ ¬ Lyr l) := by
  intro n
  induction n with
  | zero =>
    intro i k hn hk hq r
    obtain ⟨k, rfl⟩ := Nat.exists_eq_add_of_le' (show 1 ≤ k by omega)
    rw [layer_Right.l0, if_neg (by omega)]
    have : l.take i = l := List.take_of_length_le (by omega)
    rw [this] at hq
    cases r <;> simp [hq]
  | succ n ih =>
    intro i k hn hk hq r
    obtain ⟨k, rfl⟩ := Nat.exists_eq_add_of_le' (show 2 ≤ k by omega)
    have hi : i < l.length := by omega
    rw [layer_Right.l0, if_pos (by omega), if_pos (by omega), if_pos (by omega), rd_get l i hi, right_en _ (hb _ (List.getElem_mem hi)), Option.bind_some]
    have key := nxt_iff l i hi hq
    have no : ¬ Nxt (l.take i) l[i] → (some false = some r ↔ some r = some true ∧ Lyr l ∨ some r = some false ∧ ¬ Lyr l) := fun hnx => by
      have := lyr_not (fun h => hnx (key.1 h))
      cases r <;> simp [this]
    have jt : ∀ a b c, layer_Right.j1 (k + 1) l (i : Int) l (l.length : Int) (i : Int) true a b c = some false := fun a b c => by rw [layer_Right.j1, if_pos rfl]
    have jf : Rt l[i] → (∀ y, (l.take i).getLast? = some y → bl (ky y) (ky l[i])) → (layer_Right.j1 (k + 1) l (i : Int) l (l.length : Int) (i : Int) false l[i].f0 l[i].f1 l[i].f2 = some r ↔ some r = some true ∧ Lyr l ∨ some r = some false ∧ ¬ Lyr l) := by
      intro hrt hlt
      obtain ⟨d, c, hd, hdd⟩ := dir_of hrt
      rw [layer_Right.j1, if_neg (by decide), hd, Option.bind_some, if_pos (by omega), if_pos (by omega), Int.toNat_natCast]
      obtain ⟨m, hm, hx⟩ := at_eq hq.srt d (by rw [List.length_take]; omega)
      rw [hm, Option.bind_some]
      dsimp only
      rw [lst_data d]
      have goon : Nxt (l.take i) l[i] → (layer_Right.l0 k l l (l.length : Int) (wrap64 ((i : Int) + 1)) = some r ↔ some r = some true ∧ Lyr l ∨ some r = some false ∧ ¬ Lyr l) := fun hnx => by
        rw [wrap_up i (by omega)]
        exact ih (i + 1) k (by omega) (by omega) (key.2 hnx) r
      rcases hdd with ⟨h0, h1⟩ | ⟨h0, h0', h1⟩
      · rw [if_pos h1]
        exact goon ⟨hrt, hlt, .inl h0⟩
      · rw [if_neg (by rw [h1]; exact h0')]
        rw [h1] at hx ⊢
        cases hf : fnd (l.take i) (parB (ky l[i])) with
        | none =>
          rw [if_neg (by simp)]
          refine no fun k => ?_
          rcases k.par with h2 | ⟨y, hy, hk, _⟩
          · exact h0 h2
          · exact fnd_none.1 hf y hy hk
        | some y =>
          obtain ⟨hmi, hmy⟩ := hx y hf
          rw [List.length_take] at hmi
          rw [List.getElem_take] at hmy
          rw [if_pos (by rfl), if_pos (by omega), if_pos (by omega), rd_get l m (by omega), hmy, holds_en, Option.bind_some]
          by_cases hh : Hld y
          · rw [decide_eq_true hh, if_pos rfl]
            exact goon ⟨hrt, hlt, .inr ⟨y, (fnd_mem hf).1, (fnd_mem hf).2, hh⟩⟩
          · rw [decide_eq_false hh, if_neg (by decide)]
            refine no fun k => ?_
            rcases k.par with h2 | ⟨z, hz, hk, hhz⟩
            · exact h0 h2
            · have := hq.srt.at_ hz
              rw [hk, hf] at this
              exact hh (Option.some.inj this ▸ hhz)
    by_cases hrt : Rt l[i]
    · rw [decide_eq_true hrt, if_pos rfl]
      by_cases hi0 : 0 < i
      · rw [if_pos (by omega)]
        have hw : wrap64 ((i : Int) - 1) = ((i - 1 : Nat) : Int) := by unfold wrap64; omega
        rw [hw, if_pos (by omega), if_pos (by omega), rd_get l (i - 1) (by omega), less_en, Option.bind_some]
        by_cases hlt : bl (ky l[i - 1]) (ky l[i])
        · rw [decide_eq_true hlt]
          refine jf hrt fun y hy => ?_
          rw [take_last l i hi hi0] at hy
          exact Option.some.inj hy ▸ hlt
        · rw [decide_eq_false hlt, Bool.not_false, jt]
          exact no fun k => hlt (k.lt _ (take_last l i hi hi0))
      · rw [if_neg (by omega)]
        refine jf hrt fun y hy => ?_
        rw [show i = 0 by omega] at hy
        simp at hy
    · rw [decide_eq_false hrt, if_neg (by decide), jt]
      exact no fun k => hrt k.rt
open Classical in
theorem layer_right (l : List En) (hb : ∀ e ∈ l, e.f0.size ≤ 9223372036854775807) (k : Nat) (hk : 200 ≤ k) : layer_Right.f k l = some (decide (Lyr l ∧ l.length ≤ 64)) := by
  unfold layer_Right.f
  by_cases hl : l.length ≤ 64
  · rw [if_neg (by omega)]
    have h := right_l0 l hb hl l.length 0 k (by omega) (by omega) (by rw [List.take_zero]; exact Lyr.nil)
    by_cases hL : Lyr l
    · rw [decide_eq_true ⟨hL, hl⟩]; exact (h true).2 (.inl ⟨rfl, hL⟩)
    · rw [decide_eq_false (fun k => hL k.1)]; exact (h false).2 (.inr ⟨rfl, hL⟩)
  · rw [if_pos (by omega), decide_eq_false (fun k => hl k.2)]
end Go.Proofs.YtjlflmjimibciabGreatDoor.Th
end

section
namespace Go.Proofs.YtjlflmjimibciabGreatDoor.Th
open Go Go.RowKit Go.Proofs.YtjlflmjimibciabGreatDoor.Print Go.Proofs.YtjlflmjimibciabGreatDoorW.PrintWords
set_option linter.unusedVariables false
set_option linter.unusedSimpArgs false
theorem mono_le {α : Type} {F : Nat → Option α} (h : ∀ k, LeO (F k) (F (k + 1))) {a b : Nat} {r : α} (hab : a ≤ b) (ha : F a = some r) : F b = some r := by
  induction hab with
  | refl => exact ha
  | step _ ih => exact h _ _ ih
theorem ifc {α : Sort _} {p q : Prop} [Decidable p] [Decidable q] {a b : α} (h : p ↔ q) : (if p then a else b) = if q then a else b := by
  by_cases hp : p
  · rw [if_pos hp, if_pos (h.1 hp)]
  · rw [if_neg hp, if_neg (fun k => hp (h.2 k))]

open Classical
def LR (l : List En) : Prop := Lyr l ∧ l.length ≤ 64
theorem lr_eq (l : List En) (hb : ∀ e ∈ l, e.f0.size ≤ 9223372036854775807) (k : Nat) (hk : 200 ≤ k) : layer_Right.f k l = some (decide (LR l)) :=
  (layer_right l hb k hk).trans (congrArg some (decide_eq_decide.2 Iff.rfl))
theorem Lyr.b {l : List En} (h : Lyr l) : ∀ e ∈ l, e.f0.size ≤ 9223372036854775807 := fun e he => by have := pth_size (h.rt e he).1; omega
end Go.Proofs.YtjlflmjimibciabGreatDoor.Th
end

section
namespace Go.Proofs.YtjlflmjimibciabGreatDoor.Th
open Go Go.RowKit Go.Proofs.YtjlflmjimibciabGreatDoor.Print Go.Proofs.YtjlflmjimibciabGreatDoorW.PrintWords
set_option linter.unusedVariables false
set_option linter.unusedSimpArgs false
/-- A number's bytes (up to 600). -/
def numB (n : Nat) : By := if n < 128 then [UInt8.ofNat n] else [UInt8.ofNat (n % 128 + 128), UInt8.ofNat (n / 128)]
theorem num_all : ((List.range 601).all fun n => (code_Num.f 6 (n : Int)).map (fun b => b.data.toList) == some (numB n)) = true := by kernel_rfl
theorem num_eq (n : Nat) (h : n ≤ 600) : code_Num.f 6 (n : Int) = some (B (numB n)) := by
  have h1 := eq_of_beq (List.all_eq_true.1 num_all n (List.mem_range.2 (by omega)))
  cases hc : code_Num.f 6 (n : Int) with
  | none => rw [hc] at h1; cases h1
  | some b =>
    rw [hc] at h1
    have h2 : b.data.toList = numB n := Option.some.inj h1
    rw [← h2, B_eta]
theorem num_len (n : Nat) : (numB n).length ≤ 2 := by unfold numB; split <;> simp
/-- An entry's bytes. -/
def encE (e : En) : By := numB e.f1.toNat ++ (numB e.f0.size ++ (e.f0.data.toList ++ (numB e.f2.size ++ e.f2.data.toList)))
theorem rt_short {e : En} (h : Rt e) : e.f0.size ≤ 54 ∧ e.f2.size ≤ 256 := by
  refine ⟨pth_size h.1, ?_⟩
  have hs : e.f2.size = (da e).length := rfl
  rcases h.2 with h | h
  · omega
  · rw [hs, h.2]; decide
theorem B_app (a b : By) : B a ++ B b = B (a ++ b) := by
  apply by_ext
  have : (B a ++ B b).data.toList = (B a).data.toList ++ (B b).data.toList := by simp
  rw [this, B_data, B_data, B_data]
theorem str_eq (s : ByteArray) (h : s.size ≤ 600) : code_Str.f 6 s = some (B (numB s.size ++ s.data.toList)) := by
  unfold code_Str.f
  have hl := num_len s.size
  rw [num_eq s.size h, Option.bind_some, if_pos (by rw [B_size]; omega), ← B_app, B_eta]
theorem enc_len {e : En} (h : Rt e) : (encE e).length ≤ 400 := by
  have h1 := num_len e.f1.toNat
  have h2 := num_len e.f0.size
  have h3 := num_len e.f2.size
  obtain ⟨h4, h5⟩ := rt_short h
  have h6 : e.f0.data.toList.length = e.f0.size := rfl
  have h7 : e.f2.data.toList.length = e.f2.size := rfl
  unfold encE
  simp only [List.length_append]
  omega
theorem lay_en (e : En) (h : Rt e) : entry_Lay.f 6 e.f0 e.f1 e.f2 = some (B (encE e), []) := by
  obtain ⟨h4, h5⟩ := rt_short h
  have hk := h.kind
  have hkn : ((e.f1.toNat : Nat) : Int) = e.f1 := by omega
  have hl1 := num_len e.f1.toNat
  have hl2 := num_len e.f0.size
  have hl3 := num_len e.f2.size
  have la : e.f0.data.toList.length = e.f0.size := rfl
  have ld : e.f2.data.toList.length = e.f2.size := rfl
  unfold entry_Lay.f
  rw [right_en e (by omega), Option.bind_some, decide_eq_true h, if_pos rfl]
  have hn := num_eq e.f1.toNat (by omega)
  rw [hkn] at hn
  rw [hn, Option.bind_some, str_eq e.f0 (by omega), Option.bind_some, if_pos (by rw [B_size, B_size, List.length_append]; omega), str_eq e.f2 (by omega), Option.bind_some, if_pos (by rw [ByteArray.size_append, B_size, B_size, B_size, List.length_append, List.length_append]; omega)]
  rw [B_app, B_app]
  unfold encE
  simp only [List.append_assoc]
theorem ext_mid {S : ByteArray} {x y t : By} {i j : Nat} (e : S.data.toList = x ++ (y ++ t)) (hx : x.length = i) (hy : i + y.length = j) : S.extract i j = B y := by
  apply by_ext
  rw [B_data]
  have : (S.extract i j).data.toList = (S.data.toList.drop i).take (j - i) := by simp [List.take_drop]
  rw [this, e, List.drop_append_of_le_length (by omega), List.drop_of_length_le (by omega), List.nil_append, List.take_append_of_le_length (by omega), List.take_of_length_le (by omega)]
end Go.Proofs.YtjlflmjimibciabGreatDoor.Th
end

section
namespace Go.Proofs.YtjlflmjimibciabGreatDoor.Th
open Go Go.RowKit Go.Proofs.YtjlflmjimibciabGreatDoor.Print Go.Proofs.YtjlflmjimibciabGreatDoorW.PrintWords
set_option linter.unusedVariables false
set_option linter.unusedSimpArgs false
open Classical
theorem awake09_0 : shalelaw09_awake.f 60 = some true := by kernel_rfl
theorem awake09 (k : Nat) (hk : 60 ≤ k) : shalelaw09_awake.f k = some true := mono_le (fun k => shalelaw09_awake.mono k) hk awake09_0
theorem wraps32 (n : Int) (h0 : 0 ≤ n) (h1 : n < 2 ^ 32) : IntKind.u32.wrap n = n := by
  rw [IntKind.wrap_u32]; omega
theorem or32 (a b : Nat) (ha : a < 16777216) (hb : b < 256) : Go.bits .or .u32 (((a : Int) * 256) % 4294967296) ((b : Int) % 4294967296) = ((a * 256 + b : Nat) : Int) := by
  have e1 : ((a : Int) * 256) % 4294967296 = ((a * 256 : Nat) : Int) := by omega
  have e2 : (b : Int) % 4294967296 = ((b : Nat) : Int) := by omega
  rw [e1, e2, (bits_nat .u32 32 (by decide) wraps32 (a * 256) b (by omega) (by omega)).2]
  congr 1
  have := Nat.two_pow_add_eq_or_of_lt (i := 8) hb a
  rw [Nat.mul_comm a 256]
  exact this.symm
theorem number_step (k : Nat) (s : ByteArray) (x i : Nat) (hi : i < 4) (hs : s.size = 4) (hx : x < 16777216) : adler_Number.l0 (k + 1) s (x : Int) (i : Int) = adler_Number.l0 k s ((x * 256 + (bt s (i : Int)).toNat : Nat) : Int) ((i + 1 : Nat) : Int) := by
  obtain ⟨h0, h1⟩ := bt_range s (i : Int)
  have hb : bt s (i : Int) = (((bt s (i : Int)).toNat : Nat) : Int) := by omega
  have := or32 x (bt s (i : Int)).toNat hx (by omega)
  rw [← hb] at this
  rw [adler_Number.l0, if_pos (by omega), if_pos (by omega), if_pos (by omega), this, wrap_up i (by omega)]
def num4 (b0 b1 b2 b3 : UInt8) : Nat := ((b0.toNat * 256 + b1.toNat) * 256 + b2.toNat) * 256 + b3.toNat
theorem number4 (b0 b1 b2 b3 : UInt8) (k : Nat) (hk : 5 ≤ k) : adler_Number.f k (B [b0, b1, b2, b3]) = some ((num4 b0 b1 b2 b3 : Nat) : Int) := by
  obtain ⟨k, rfl⟩ := Nat.exists_eq_add_of_le' hk
  have hs : (B [b0, b1, b2, b3]).size = 4 := rfl
  have c0 : (bt (B [b0, b1, b2, b3]) ((0 : Nat) : Int)).toNat = b0.toNat := rfl
  have c1 : (bt (B [b0, b1, b2, b3]) ((0 + 1 : Nat) : Int)).toNat = b1.toNat := rfl
  have c2 : (bt (B [b0, b1, b2, b3]) ((0 + 1 + 1 : Nat) : Int)).toNat = b2.toNat := rfl
  have c3 : (bt (B [b0, b1, b2, b3]) ((0 + 1 + 1 + 1 : Nat) : Int)).toNat = b3.toNat := rfl
  have l0 := UInt8.toNat_lt b0
  have l1 := UInt8.toNat_lt b1
  have l2 := UInt8.toNat_lt b2
  have l3 := UInt8.toNat_lt b3
  unfold adler_Number.f
  have s0 := number_step (k + 1 + 1 + 1 + 1) (B [b0, b1, b2, b3]) 0 0 (by decide) hs (by decide)
  rw [c0] at s0
  have s1 := number_step (k + 1 + 1 + 1) (B [b0, b1, b2, b3]) (0 * 256 + b0.toNat) (0 + 1) (by decide) hs (by omega)
  rw [c1] at s1
  have s2 := number_step (k + 1 + 1) (B [b0, b1, b2, b3]) ((0 * 256 + b0.toNat) * 256 + b1.toNat) (0 + 1 + 1) (by decide) hs (by omega)
  rw [c2] at s2
  have s3 := number_step (k + 1) (B [b0, b1, b2, b3]) (((0 * 256 + b0.toNat) * 256 + b1.toNat) * 256 + b2.toNat) (0 + 1 + 1 + 1) (by decide) hs (by omega)
  rw [c3] at s3
  have s4 : adler_Number.l0 (k + 1) (B [b0, b1, b2, b3]) (((((0 * 256 + b0.toNat) * 256 + b1.toNat) * 256 + b2.toNat) * 256 + b3.toNat : Nat) : Int) ((0 + 1 + 1 + 1 + 1 : Nat) : Int) = some ((num4 b0 b1 b2 b3 : Nat) : Int) := by
    rw [adler_Number.l0, if_neg (by omega)]
    unfold num4
    rw [Nat.zero_mul, Nat.zero_add]
  exact s0.trans (s1.trans (s2.trans (s3.trans s4)))
theorem four_number (b0 b1 b2 b3 : UInt8) : adler_Four.f ((num4 b0 b1 b2 b3 : Nat) : Int) = some (B [b0, b1, b2, b3]) := by
  unfold adler_Four.f
  congr 1
  apply by_ext
  rw [strOfNums_data, B_data]
  have l0 := UInt8.toNat_lt b0
  have l1 := UInt8.toNat_lt b1
  have l2 := UInt8.toNat_lt b2
  have l3 := UInt8.toNat_lt b3
  have hn : num4 b0 b1 b2 b3 = ((b0.toNat * 256 + b1.toNat) * 256 + b2.toNat) * 256 + b3.toNat := rfl
  have e0 : (((num4 b0 b1 b2 b3 : Nat) : Int) / 16777216 % 256).toNat = b0.toNat := by omega
  have e1 : (((num4 b0 b1 b2 b3 : Nat) : Int) / 65536 % 256).toNat = b1.toNat := by omega
  have e2 : (((num4 b0 b1 b2 b3 : Nat) : Int) / 256 % 256).toNat = b2.toNat := by omega
  have e3 : (((num4 b0 b1 b2 b3 : Nat) : Int) % 256).toNat = b3.toNat := by omega
  simp only [List.map_cons, List.map_nil]
  rw [e0, e1, e2, e3, UInt8.ofNat_toNat, UInt8.ofNat_toNat, UInt8.ofNat_toNat, UInt8.ofNat_toNat]
def encs (l : List En) : By := l.flatMap encE
theorem encs_snoc (l : List En) (e : En) : encs (l ++ [e]) = encs l ++ encE e := by unfold encs; rw [List.flatMap_append]; simp
theorem encs_len (l : List En) (h : ∀ e ∈ l, Rt e) : (encs l).length ≤ l.length * 400 := by
  induction l with
  | nil => exact Nat.le_refl _
  | cons x l ih =>
    have h1 := enc_len (h x List.mem_cons_self)
    have h2 := ih (fun e he => h e (List.mem_cons_of_mem _ he))
    have h3 : encs (x :: l) = encE x ++ encs l := rfl
    rw [h3, List.length_append, List.length_cons]
    omega
theorem four_of {l : By} (h : l.length = 4) : ∃ b0 b1 b2 b3, l = [b0, b1, b2, b3] := by
  match l, h with
  | [a, b, c, d], _ => exact ⟨a, b, c, d, rfl⟩
theorem lay_en_k (e : En) (h : Rt e) (k : Nat) (hk : 6 ≤ k) : entry_Lay.f k e.f0 e.f1 e.f2 = some (B (encE e), []) :=
  mono_le (F := fun k => entry_Lay.f k e.f0 e.f1 e.f2) (fun k => entry_Lay.mono e.f0 e.f1 e.f2 k) hk (lay_en e h)
theorem num_eq_k (n : Nat) (h : n ≤ 600) (k : Nat) (hk : 6 ≤ k) : code_Num.f k (n : Int) = some (B (numB n)) :=
  mono_le (F := fun k => code_Num.f k (n : Int)) (fun k => code_Num.mono (n : Int) k) hk (num_eq n h)
end Go.Proofs.YtjlflmjimibciabGreatDoor.Th
end

section
namespace Go.Proofs.YtjlflmjimibciabGreatDoor.Th
open Go Go.RowKit Go.Proofs.YtjlflmjimibciabGreatDoor.Print Go.Proofs.YtjlflmjimibciabGreatDoorW.PrintWords
set_option linter.unusedVariables false
set_option linter.unusedSimpArgs false
def Fit (l : List En) : Prop := l.length ≤ 70 ∧ ∀ e ∈ l, e.f0.size ≤ 100 ∧ e.f2.size ≤ 600
theorem Fit.b {l : List En} (h : Fit l) : ∀ e ∈ l, e.f0.size ≤ 9223372036854775807 := fun e he => by have := (h.2 e he).1; omega
open Classical in
theorem size_l0 (l : List En) (hl : l.length ≤ 70) : ∀ (n i k : Nat), i + n = l.length → n < k → shalelaw09_Size.l0 k l (i : Int) = some (if ∀ e ∈ l.drop i, e.f0.size ≤ 100 ∧ e.f2.size ≤ 600 then 1 else 0) := by
  intro n
  induction n with
  | zero =>
    intro i k hn hk
    obtain ⟨k, rfl⟩ := Nat.exists_eq_add_of_le' (show 1 ≤ k by omega)
    rw [shalelaw09_Size.l0, if_neg (by omega), List.drop_of_length_le (by omega), if_pos (by simp)]
  | succ n ih =>
    intro i k hn hk
    obtain ⟨k, rfl⟩ := Nat.exists_eq_add_of_le' (show 1 ≤ k by omega)
    have hi : i < l.length := by omega
    rw [shalelaw09_Size.l0, if_pos (by omega), if_pos (by omega), rd_get l i hi, wrap_up i (by omega), ih (i + 1) k (by omega) (by omega), List.drop_eq_getElem_cons hi]
    by_cases h1 : l[i].f0.size ≤ 100
    · rw [if_neg (by omega)]
      by_cases h2 : l[i].f2.size ≤ 600
      · rw [if_neg (by omega)]
        congr 1
        exact ifc ⟨fun h e he => by
          rcases List.mem_cons.1 he with rfl | he
          · exact ⟨h1, h2⟩
          · exact h e he, fun h e he => h e (.tail _ he)⟩
      · rw [if_pos (by omega), if_neg (fun h => h2 (h _ (List.Mem.head _)).2)]
    · rw [if_pos (by omega), if_neg (fun h => h1 (h _ (List.Mem.head _)).1)]
open Classical in
theorem size_eq (l : List En) (k : Nat) (hk : 80 ≤ k) : shalelaw09_Size.f k l = some (if Fit l then 1 else 0) := by
  unfold shalelaw09_Size.f
  by_cases hl : l.length ≤ 70
  · rw [if_neg (by omega)]
    have h := size_l0 l hl l.length 0 k (by omega) (by omega)
    rw [List.drop_zero] at h
    refine h.trans (congrArg some (ifc ?_))
    exact ⟨fun h => ⟨hl, h⟩, fun h => h.2⟩
  · rw [if_pos (by omega), if_neg (fun h => hl h.1)]
end Go.Proofs.YtjlflmjimibciabGreatDoor.Th
end

section
namespace Go.Proofs.YtjlflmjimibciabGreatDoor.Th
open Go Go.RowKit Go.Proofs.YtjlflmjimibciabGreatDoor.Print Go.Proofs.YtjlflmjimibciabGreatDoorW.PrintWords
set_option linter.unusedVariables false
set_option linter.unusedSimpArgs false
theorem differ (a b : En) : (!((a.f0.toList) == (b.f0.toList)) || (!((a.f1) == (b.f1)) || (!((a.f2.toList) == (b.f2.toList))))) = true ↔ a ≠ b := by
  rw [lst_eq, lst_eq]
  constructor
  · rintro h rfl; simp at h
  · intro h
    by_cases h0 : ky a = ky b
    · by_cases h1 : a.f1 = b.f1
      · by_cases h2 : da a = da b
        · exact absurd (en_ext h0 h1 h2) h
        · unfold da at h2; simp [h2]
      · simp [h1]
    · unfold ky at h0; simp [h0]
open Classical in
theorem same_l0 (a b : List En) (hab : a.length = b.length) (hl : a.length ≤ 3000) : ∀ (n i k : Nat), i + n = a.length → n < k → shalelaw09_Same.l0 k a b (i : Int) = some (if a.drop i = b.drop i then 1 else 0) := by
  intro n
  induction n with
  | zero =>
    intro i k hn hk
    obtain ⟨k, rfl⟩ := Nat.exists_eq_add_of_le' (show 1 ≤ k by omega)
    rw [shalelaw09_Same.l0, if_neg (by omega), List.drop_of_length_le (by omega), List.drop_of_length_le (by omega), if_pos rfl]
  | succ n ih =>
    intro i k hn hk
    obtain ⟨k, rfl⟩ := Nat.exists_eq_add_of_le' (show 1 ≤ k by omega)
    have hi : i < a.length := by omega
    have hj : i < b.length := by omega
    rw [shalelaw09_Same.l0, if_pos (by omega), if_pos (by omega), if_pos (by omega), rd_get a i hi, rd_get b i hj, wrap_up i (by omega), ih (i + 1) k (by omega) (by omega), List.drop_eq_getElem_cons hi, List.drop_eq_getElem_cons hj]
    by_cases h1 : a[i] = b[i]
    · rw [if_neg (fun h => (differ _ _).1 h h1)]
      congr 1
      exact ifc (by rw [h1]; exact ⟨fun h => by rw [h], fun h => (List.cons.inj h).2⟩)
    · rw [if_pos ((differ _ _).2 h1), if_neg (fun h => h1 (List.cons.inj h).1)]
open Classical in
theorem same_eq (a b : List En) (k : Nat) (hl : a.length ≤ 2000) (hk : 2100 ≤ k) : shalelaw09_Same.f k a b = some (if a = b then 1 else 0) := by
  unfold shalelaw09_Same.f
  by_cases hab : a.length = b.length
  · rw [if_pos (by omega)]
    have h := same_l0 a b hab (by omega) a.length 0 k (by omega) (by omega)
    rwa [List.drop_zero, List.drop_zero] at h
  · rw [if_neg (by omega), if_neg (fun h => hab (by rw [h]))]
end Go.Proofs.YtjlflmjimibciabGreatDoor.Th
end

section
namespace Go.Proofs.YtjlflmjimibciabGreatDoor.Th
open Go Go.RowKit Go.Proofs.YtjlflmjimibciabGreatDoor.Print Go.Proofs.YtjlflmjimibciabGreatDoorW.PrintWords
set_option linter.unusedVariables false
set_option linter.unusedSimpArgs false
open Classical
theorem u8_of (n : Nat) (h : n < 256) : (UInt8.ofNat n).toNat = n := by
  have h2 : (UInt8.ofNat n).toNat = n % 256 := by simp
  omega
theorem numL_numB (n : Nat) (h : n ≤ 600) (z : By) : numL 9 0 0 (numB n ++ z) = some ((n : Int), (numB n).length) := by
  unfold numB
  have o0 : ∀ b : UInt8, orD 0 b 0 = ((b.toNat % 128 : Nat) : Int) := fun b => by
    have := orD_eq 0 0 b (by decide) (by decide)
    simpa using this
  by_cases hn : n < 128
  · rw [if_pos hn, List.singleton_append, numL, u8_of n (by omega), if_pos hn, o0, u8_of n (by omega), Nat.mod_eq_of_lt hn, if_pos ⟨.inr rfl, by omega⟩]
    rfl
  · rw [if_neg hn, List.cons_append, List.singleton_append, numL, u8_of _ (by omega), if_neg (by omega), o0, u8_of _ (by omega)]
    have o1 := orD_eq ((n % 128 + 128) % 128) 1 (UInt8.ofNat (n / 128)) (by decide) (by omega)
    rw [u8_of _ (by omega)] at o1
    have e : (n % 128 + 128) % 128 + n / 128 % 128 * 128 ^ 1 = n := by omega
    rw [e] at o1
    rw [numL, u8_of _ (by omega), if_pos (by omega), o1, if_pos ⟨.inl (by omega), by omega⟩]
    rfl
theorem num_fwd (S : ByteArray) (x z : By) (n : Nat) (most : Int) (hS : S.data.toList = x ++ (numB n ++ z)) (hsz : S.size ≤ 600000) (hn : n ≤ 600) (hm : (n : Int) ≤ most) : numF S ((x.length : Nat) : Int) most = some ((n : Int), [], S, (((x ++ numB n).length : Nat) : Int)) := by
  have lS : S.data.toList.length = S.size := rfl
  have hlen := congrArg List.length hS
  rw [List.length_append, lS] at hlen
  have hd : S.data.toList.drop x.length = numB n ++ z := by rw [hS]; simp
  unfold numF
  rw [if_pos ⟨by omega, by omega, by omega⟩, Int.toNat_natCast, hd, numL_numB n hn]
  dsimp only
  rw [if_pos hm, List.length_append]
  rfl
theorem str_fwd (S : ByteArray) (x z : By) (b : ByteArray) (most : Int) (hS : S.data.toList = x ++ (numB b.size ++ (b.data.toList ++ z))) (hsz : S.size ≤ 600000) (hn : b.size ≤ 600) (hm : (b.size : Int) ≤ most) : strF S ((x.length : Nat) : Int) most = some (b, [], S, (((x ++ (numB b.size ++ b.data.toList)).length : Nat) : Int)) := by
  have lS : S.data.toList.length = S.size := rfl
  have lb : b.data.toList.length = b.size := rfl
  have hlen := congrArg List.length hS
  simp only [List.length_append, lS, lb] at hlen
  have hd : S.data.toList.drop x.length = numB b.size ++ (b.data.toList ++ z) := by rw [hS]; simp
  unfold strF
  rw [if_pos ⟨by omega, by omega, by omega⟩, Int.toNat_natCast, hd, numL_numB _ hn]
  dsimp only
  rw [Int.toNat_natCast, if_pos ⟨hm, by omega⟩, ext_mid (x := x ++ numB b.size) (y := b.data.toList) (t := z) (by rw [hS]; simp) (by simp) (by omega), B_eta]
  have : x.length + (numB b.size).length + b.size = (x ++ (numB b.size ++ b.data.toList)).length := by simp only [List.length_append, lb]; omega
  rw [this]
theorem read_fwd (S : ByteArray) (x z : By) (e : En) (he : Rt e) (hS : S.data.toList = x ++ (encE e ++ z)) (hsz : S.size ≤ 600000) : entry_Read.f S ((x.length : Nat) : Int) = some (e.f0, e.f1, e.f2, [], S, (((x ++ encE e).length : Nat) : Int)) := by
  have emp_if : ∀ {α : Type} (x y : Option α), (if (([] : List Int).isEmpty = true) then x else y) = x := fun _ _ => rfl
  obtain ⟨h4, h5⟩ := rt_short he
  have hk := he.kind
  have hkn : ((e.f1.toNat : Nat) : Int) = e.f1 := by omega
  unfold encE at hS
  unfold entry_Read.f code_Reader_Num.f
  have n1 := num_fwd S x (numB e.f0.size ++ (e.f0.data.toList ++ (numB e.f2.size ++ (e.f2.data.toList ++ z)))) e.f1.toNat 4 (by rw [hS]; simp) hsz (by omega) (by omega)
  rw [hkn] at n1
  rw [n1, Option.bind_some]
  dsimp only
  rw [emp_if]
  unfold code_Reader_Str.f
  rw [str_fwd S (x ++ numB e.f1.toNat) (numB e.f2.size ++ (e.f2.data.toList ++ z)) e.f0 54 (by rw [hS]; simp) hsz (by omega) (by omega), Option.bind_some]
  dsimp only
  rw [emp_if, str_fwd S (x ++ numB e.f1.toNat ++ (numB e.f0.size ++ e.f0.data.toList)) z e.f2 256 (by rw [hS]; simp) hsz (by omega) (by omega), Option.bind_some]
  dsimp only
  rw [emp_if, right_en e (by omega), Option.bind_some, decide_eq_true he, if_pos rfl]
  unfold encE
  simp only [List.append_assoc]
theorem read_l0_fwd (S : ByteArray) (hsz : S.size ≤ 600000) (l : List En) (hL : LR l) (hS : S.data.toList = numB l.length ++ encs l) : ∀ (n i k : Nat), i + n = l.length → n + 300 ≤ k →
    layer_Read.l0 k (l.take i) (l.length : Int) (i : Int) S (((numB l.length ++ encs (l.take i)).length : Nat) : Int) = some (l, []) := by
  have h64 := hL.2
  have lS : S.data.toList.length = S.size := rfl
  have hlen := congrArg List.length hS
  rw [lS] at hlen
  intro n
  induction n with
  | zero =>
    intro i k hn hk
    obtain ⟨k, rfl⟩ := Nat.exists_eq_add_of_le' (show 1 ≤ k by omega)
    rw [layer_Read.l0, if_neg (by omega), List.take_of_length_le (by omega)]
    unfold code_Reader_Left.f
    rw [Option.bind_some]
    dsimp only
    rw [if_neg (by rw [hlen]; unfold wrap64; omega), lr_eq l hL.1.b k (by omega), Option.bind_some, decide_eq_true hL, if_pos rfl]
  | succ n ih =>
    intro i k hn hk
    obtain ⟨k, rfl⟩ := Nat.exists_eq_add_of_le' (show 1 ≤ k by omega)
    have hil : i < l.length := by omega
    have hr := hL.1.rt _ (List.getElem_mem hil)
    have hsp : encs l = encs (l.take (i + 1)) ++ encs (l.drop (i + 1)) := by
      unfold encs
      rw [← List.flatMap_append, List.take_append_drop]
    have hx : (numB l.length ++ encs (l.take i)) ++ encE l[i] = numB l.length ++ encs (l.take (i + 1)) := by rw [List.take_succ_eq_append_getElem hil, encs_snoc, List.append_assoc]
    have hS2 : S.data.toList = (numB l.length ++ encs (l.take i)) ++ (encE l[i] ++ encs (l.drop (i + 1))) := by rw [← List.append_assoc, hx, hS, hsp, List.append_assoc]
    have hr2 := read_fwd S (numB l.length ++ encs (l.take i)) (encs (l.drop (i + 1))) l[i] hr hS2 hsz
    have hlt : (l.take i).length = i := by rw [List.length_take]; omega
    rw [layer_Read.l0, if_pos (by omega), hr2, Option.bind_some]
    dsimp only
    rw [if_pos (by rfl), if_pos (by omega), wrap_up i (by omega), hx]
    have := ih (i + 1) k (by omega) (by omega)
    rw [List.take_succ_eq_append_getElem hil] at this ⊢
    exact this
def sumB (l : By) : Nat := (l.map UInt8.toNat).sum
theorem bt_list (s : ByteArray) (i : Nat) (h : i < s.data.toList.length) : bt s (i : Int) = ((s.data.toList[i].toNat : Nat) : Int) := by
  have hs : i < s.size := h
  unfold bt
  rw [dif_pos (by rw [Int.toNat_natCast]; exact hs)]
  rfl
theorem or16 (a b : Nat) (ha : a < 65536) (hb : b < 65536) : Go.bits .or .u32 (((b : Int) * 65536) % 4294967296) (a : Int) = ((b * 65536 + a : Nat) : Int) := by
  have e1 : ((b : Int) * 65536) % 4294967296 = ((b * 65536 : Nat) : Int) := by omega
  rw [e1, (bits_nat .u32 32 (by decide) wraps32 (b * 65536) a (by omega) (by omega)).2]
  congr 1
  have := Nat.two_pow_add_eq_or_of_lt (i := 16) (b := a) ha b
  rw [Nat.mul_comm b 65536]
  exact this.symm
theorem sumv_l0 (s : ByteArray) (hs : s.size ≤ 500000) : ∀ (n i k a b : Nat), i + n = s.size → n < k → a < 65521 → b < 65521 → ∃ bb : Nat, bb < 65521 ∧ adler_Sum.l0 k s (a : Int) (b : Int) (s.size : Int) (i : Int) = some ((bb * 65536 + (a + sumB (s.data.toList.drop i)) % 65521 : Nat) : Int) := by
  have lS : s.data.toList.length = s.size := rfl
  intro n
  induction n with
  | zero =>
    intro i k a b hi hk ha hb
    obtain ⟨k, rfl⟩ := Nat.exists_eq_add_of_le' (show 1 ≤ k by omega)
    rw [adler_Sum.l0, if_neg (by omega), List.drop_of_length_le (by omega), or16 a b (by omega) (by omega)]
    have : (a + sumB []) % 65521 = a := by show (a + 0) % 65521 = a; omega
    rw [this]
    exact ⟨b, hb, rfl⟩
  | succ n ih =>
    intro i k a b hi hk ha hb
    obtain ⟨k, rfl⟩ := Nat.exists_eq_add_of_le' (show 1 ≤ k by omega)
    have hil : i < s.data.toList.length := by omega
    have hu := UInt8.toNat_lt s.data.toList[i]
    have hd : sumB (s.data.toList.drop i) = s.data.toList[i].toNat + sumB (s.data.toList.drop (i + 1)) := by rw [List.drop_eq_getElem_cons hil]; rfl
    rw [adler_Sum.l0, if_pos (by omega), if_pos (by omega), if_pos (by omega), wrap_up i (by omega), bt_list s i hil]
    generalize s.data.toList[i].toNat = u at hu hd
    have e1 : (((a : Int) + ((u : Int) % 4294967296)) % 4294967296) % 65521 = (((a + u) % 65521 : Nat) : Int) := by omega
    have e2 : (((b : Int) + (((a + u) % 65521 : Nat) : Int)) % 4294967296) % 65521 = (((b + (a + u) % 65521) % 65521 : Nat) : Int) := by omega
    rw [e1, e2]
    obtain ⟨bb, hbb, h⟩ := ih (i + 1) k ((a + u) % 65521) ((b + (a + u) % 65521) % 65521) (by omega) (by omega) (Nat.mod_lt _ (by decide)) (Nat.mod_lt _ (by decide))
    refine ⟨bb, hbb, h.trans ?_⟩
    have e3 : ((a + u) % 65521 + sumB (s.data.toList.drop (i + 1))) % 65521 = (a + sumB (s.data.toList.drop i)) % 65521 := by rw [hd]; omega
    rw [e3]
theorem sumv (s : ByteArray) (hs : s.size ≤ 30000) : ∃ bb : Nat, bb < 65521 ∧ ∀ k, 30010 ≤ k → adler_Sum.f k s = some ((bb * 65536 + (1 + sumB s.data.toList) % 65521 : Nat) : Int) := by
  obtain ⟨bb, hbb, hv⟩ := sumv_l0 s (by omega) s.size 0 30010 1 0 (by omega) (by omega) (by decide) (by decide)
  rw [List.drop_zero] at hv
  exact ⟨bb, hbb, fun k hk => mono_le (F := fun k => adler_Sum.f k s) (fun k => adler_Sum.mono s k) hk hv⟩
theorem sumB_append (a b : By) : sumB (a ++ b) = sumB a + sumB b := by unfold sumB; rw [List.map_append, List.sum_append]
theorem sumB_change (x y : By) (c d : UInt8) (h : c ≠ d) : (1 + sumB (x ++ c :: y)) % 65521 ≠ (1 + sumB (x ++ d :: y)) % 65521 := by
  have e : ∀ u : UInt8, sumB (x ++ u :: y) = sumB x + (u.toNat + sumB y) := fun u => by rw [sumB_append]; rfl
  have hc := UInt8.toNat_lt c
  have hd := UInt8.toNat_lt d
  have hne : c.toNat ≠ d.toNat := fun k => h (UInt8.toNat_inj.1 k)
  rw [e c, e d]
  omega
theorem num4_inj {a0 a1 a2 a3 b0 b1 b2 b3 : UInt8} (h : num4 a0 a1 a2 a3 = num4 b0 b1 b2 b3) : [a0, a1, a2, a3] = [b0, b1, b2, b3] := by
  have h0 := UInt8.toNat_lt a0
  have h1 := UInt8.toNat_lt a1
  have h2 := UInt8.toNat_lt a2
  have h3 := UInt8.toNat_lt a3
  have g0 := UInt8.toNat_lt b0
  have g1 := UInt8.toNat_lt b1
  have g2 := UInt8.toNat_lt b2
  have g3 := UInt8.toNat_lt b3
  unfold num4 at h
  have e0 : a0 = b0 := UInt8.toNat_inj.1 (by omega)
  have e1 : a1 = b1 := UInt8.toNat_inj.1 (by omega)
  have e2 : a2 = b2 := UInt8.toNat_inj.1 (by omega)
  have e3 : a3 = b3 := UInt8.toNat_inj.1 (by omega)
  rw [e0, e1, e2, e3]
theorem four_of_num (v : Nat) (h : v < 4294967296) : ∃ b0 b1 b2 b3, adler_Four.f (v : Int) = some (B [b0, b1, b2, b3]) ∧ num4 b0 b1 b2 b3 = v := by
  have e : num4 (UInt8.ofNat (v / 16777216)) (UInt8.ofNat (v / 65536 % 256)) (UInt8.ofNat (v / 256 % 256)) (UInt8.ofNat (v % 256)) = v := by
    unfold num4
    rw [u8_of _ (by omega), u8_of _ (by omega), u8_of _ (by omega), u8_of _ (by omega)]
    omega
  have h2 := four_number (UInt8.ofNat (v / 16777216)) (UInt8.ofNat (v / 65536 % 256)) (UInt8.ofNat (v / 256 % 256)) (UInt8.ofNat (v % 256))
  rw [e] at h2
  exact ⟨_, _, _, _, h2, e⟩
theorem read_split (T : By) (b0 b1 b2 b3 : UInt8) (v : Int) (h1 : 1 ≤ T.length) (h2 : T.length ≤ 30000) (hv : ∀ k, 30010 ≤ k → adler_Sum.f k (B T) = some v) (k : Nat) (hk : 30010 ≤ k) :
    layer_Read.f k (B (T ++ [b0, b1, b2, b3])) = layer_Read.j0 k (B (T ++ [b0, b1, b2, b3])) (T.length : Int) (((num4 b0 b1 b2 b3 : Nat) : Int) != v) := by
  have hsz : (B (T ++ [b0, b1, b2, b3])).size = T.length + 4 := by rw [B_size, List.length_append]; rfl
  have hw : wrap64 (((B (T ++ [b0, b1, b2, b3])).size : Int) - 4) = (T.length : Int) := by rw [hsz]; unfold wrap64; omega
  have x0 : (B (T ++ [b0, b1, b2, b3])).extract 0 T.length = B T := ext_mid (x := []) (y := T) (t := [b0, b1, b2, b3]) (by rw [B_data]; rfl) rfl (by omega)
  have x1 : (B (T ++ [b0, b1, b2, b3])).extract T.length (B (T ++ [b0, b1, b2, b3])).size = B [b0, b1, b2, b3] := ext_mid (x := T) (y := [b0, b1, b2, b3]) (t := []) (by rw [B_data]; simp) rfl (by rw [hsz]; rfl)
  unfold layer_Read.f
  rw [hw, if_neg (by omega), if_pos (by omega), if_pos (by rw [hsz]; omega), Int.toNat_natCast, x1, number4 _ _ _ _ _ (by omega), Option.bind_some, x0, hv k hk, Option.bind_some]
theorem read_bad (T : By) (b0 b1 b2 b3 : UInt8) (v : Int) (h1 : 1 ≤ T.length) (h2 : T.length ≤ 30000) (hv : ∀ k, 30010 ≤ k → adler_Sum.f k (B T) = some v) (hne : ((num4 b0 b1 b2 b3 : Nat) : Int) ≠ v) (k : Nat) (hk : 30010 ≤ k) : layer_Read.f k (B (T ++ [b0, b1, b2, b3])) = some ([], [12]) := by
  obtain ⟨k, rfl⟩ := Nat.exists_eq_add_of_le' (show 1 ≤ k by omega)
  rw [read_split T b0 b1 b2 b3 v h1 h2 hv (k + 1) hk, layer_Read.j0, if_pos (by simpa using hne)]
  rfl
def body (l : List En) : By := numB l.length ++ encs l
theorem body_len {l : List En} (h : LR l) : 1 ≤ (body l).length ∧ (body l).length ≤ 26000 := by
  have h1 := encs_len l h.1.rt
  have h2 := num_len l.length
  have h3 := h.2
  have h4 : 1 ≤ (numB l.length).length := by unfold numB; split <;> simp
  have h5 : l.length * 400 ≤ 64 * 400 := Nat.mul_le_mul_right _ h3
  unfold body
  rw [List.length_append]
  omega
theorem read_good (l : List En) (h : LR l) (b0 b1 b2 b3 : UInt8) (hv : ∀ k, 30010 ≤ k → adler_Sum.f k (B (body l)) = some ((num4 b0 b1 b2 b3 : Nat) : Int)) (k : Nat) (hk : 30500 ≤ k) : layer_Read.f k (B (body l ++ [b0, b1, b2, b3])) = some (l, []) := by
  obtain ⟨k, rfl⟩ := Nat.exists_eq_add_of_le' (show 1 ≤ k by omega)
  obtain ⟨l1, l2⟩ := body_len h
  have h64 := h.2
  have x0 : (B (body l ++ [b0, b1, b2, b3])).extract 0 (body l).length = B (body l) := ext_mid (x := []) (y := body l) (t := [b0, b1, b2, b3]) (by rw [B_data]; rfl) rfl (by omega)
  rw [read_split (body l) b0 b1 b2 b3 _ l1 (by omega) hv (k + 1) (by omega), layer_Read.j0, if_neg (by simp), if_pos (by omega), if_pos (by rw [B_size, List.length_append]; omega), Int.toNat_natCast, x0]
  unfold code_New.f
  rw [Option.bind_some]
  dsimp only
  unfold code_Reader_Num.f
  have n1 : numF (B (body l)) 0 64 = some ((l.length : Int), [], B (body l), ((([] ++ numB l.length : By).length : Nat) : Int)) := num_fwd (B (body l)) [] (encs l) l.length 64 (by rw [B_data]; rfl) (by rw [B_size]; omega) (by omega) (by omega)
  rw [n1, Option.bind_some]
  dsimp only
  rw [if_pos (by rfl)]
  have r := read_l0_fwd (B (body l)) (by rw [B_size]; omega) l h (by rw [B_data]; rfl) l.length 0 k (by omega) (by omega)
  have hx : (numB l.length ++ encs (l.take 0)).length = ([] ++ numB l.length).length := by simp [encs]
  rw [hx, List.take_zero] at r
  exact r
theorem lay_l0b (l : List En) (h : LR l) (F : ByteArray) (v : Int) (hF : F.size = 4) (hv : ∀ k, 30010 ≤ k → adler_Sum.f k (B (body l)) = some v) (hf : adler_Four.f v = some F) : ∀ (n i k : Nat), i + n = l.length → n + 30020 ≤ k →
    layer_Lay.l0 k (B (numB l.length ++ encs (l.take i))) l (l.length : Int) (i : Int) = some (B (body l) ++ F, []) := by
  have h64 := h.2
  have hn2 := num_len l.length
  have hbig : ∀ j, (encs (l.take j)).length ≤ 25600 := fun j => by
    have := encs_len (l.take j) (fun e he => h.1.rt e (List.mem_of_mem_take he))
    rw [List.length_take] at this
    exact Nat.le_trans this (Nat.mul_le_mul_right _ (Nat.le_trans (Nat.min_le_right _ _) h64))
  intro n
  induction n with
  | zero =>
    intro i k hi hk
    obtain ⟨k, rfl⟩ := Nat.exists_eq_add_of_le' (show 1 ≤ k by omega)
    have hb := hbig l.length
    rw [List.take_length] at hb
    rw [layer_Lay.l0, if_neg (by omega), List.take_of_length_le (by omega)]
    show (adler_Sum.f k (B (body l))).bind _ = _
    rw [hv _ (by omega), Option.bind_some, hf, Option.bind_some, if_pos (by rw [B_size, List.length_append]; omega)]
    rfl
  | succ n ih =>
    intro i k hi hk
    obtain ⟨k, rfl⟩ := Nat.exists_eq_add_of_le' (show 1 ≤ k by omega)
    have hil : i < l.length := by omega
    have hb := hbig i
    have hr := h.1.rt _ (List.getElem_mem hil)
    have he := enc_len hr
    rw [layer_Lay.l0, if_pos (by omega), if_pos (by omega), if_pos (by omega), rd_get l i hil, lay_en_k _ hr k (by omega), Option.bind_some]
    dsimp only
    rw [if_pos (by rw [B_size, B_size, List.length_append]; omega), wrap_up i (by omega), B_app, List.append_assoc, ← encs_snoc, ← List.take_succ_eq_append_getElem hil]
    exact ih (i + 1) k (by omega) (by omega)
/-- A right layer's text: its body and its sum; it is read as it was; with a byte changed it is not. -/
theorem lay_back (l : List En) (h : LR l) : ∃ s : By, 5 ≤ s.length ∧ s.length ≤ 27000 ∧ (∀ k, 31000 ≤ k → layer_Lay.f k l = some (B s, [])) ∧ (∀ k, 31000 ≤ k → layer_Read.f k (B s) = some (l, [])) ∧ ∀ (p : Nat) (d : UInt8), p < s.length → s[p]? ≠ some d → ∀ k, 31000 ≤ k → layer_Read.f k (B (s.set p d)) = some ([], [12]) := by
  obtain ⟨l1, l2⟩ := body_len h
  have h64 := h.2
  obtain ⟨bb, hbb, hv⟩ := sumv (B (body l)) (by rw [B_size]; omega)
  rw [B_data] at hv
  obtain ⟨b0, b1, b2, b3, hf, hn⟩ := four_of_num (bb * 65536 + (1 + sumB (body l)) % 65521) (by omega)
  have hv2 : ∀ k, 30010 ≤ k → adler_Sum.f k (B (body l)) = some ((num4 b0 b1 b2 b3 : Nat) : Int) := fun k hk => by rw [hn]; exact hv k hk
  refine ⟨body l ++ [b0, b1, b2, b3], by rw [List.length_append]; show 5 ≤ _ + 4; omega, by rw [List.length_append]; show _ + 4 ≤ 27000; omega, fun k hk => ?_, fun k hk => read_good l h b0 b1 b2 b3 hv2 k (by omega), fun p d hp hd k hk => ?_⟩
  · unfold layer_Lay.f
    rw [lr_eq l h.1.b k (by omega), Option.bind_some, decide_eq_true h, if_pos rfl, num_eq_k _ (by omega) k (by omega), Option.bind_some]
    have := lay_l0b l h (B [b0, b1, b2, b3]) _ rfl hv hf l.length 0 k (by omega) (by omega)
    rw [List.take_zero, show encs [] = [] from rfl, List.append_nil, B_app] at this
    exact this
  · rw [List.length_append] at hp
    have hp4 : p < (body l).length + 4 := hp
    by_cases hpl : p < (body l).length
    · rw [List.set_append, if_pos hpl]
      obtain ⟨bb2, hbb2, hv3⟩ := sumv (B ((body l).set p d)) (by rw [B_size, List.length_set]; omega)
      rw [B_data] at hv3
      refine read_bad _ b0 b1 b2 b3 _ (by rw [List.length_set]; exact l1) (by rw [List.length_set]; omega) hv3 (fun he => ?_) k (by omega)
      have hne : (body l)[p] ≠ d := fun e => hd (by rw [List.getElem?_append_left hpl, List.getElem?_eq_getElem hpl, e])
      have hs : (body l).set p d = (body l).take p ++ d :: (body l).drop (p + 1) := by rw [List.set_eq_take_append_cons_drop, if_pos hpl]
      have hs0 : body l = (body l).take p ++ (body l)[p] :: (body l).drop (p + 1) := by rw [← List.drop_eq_getElem_cons hpl, List.take_append_drop]
      have hx := sumB_change ((body l).take p) ((body l).drop (p + 1)) (body l)[p] d hne
      rw [← hs0, ← hs] at hx
      rw [hn] at he
      have m1 : (1 + sumB (body l)) % 65521 < 65521 := Nat.mod_lt _ (by decide)
      have m2 : (1 + sumB ((body l).set p d)) % 65521 < 65521 := Nat.mod_lt _ (by decide)
      generalize (1 + sumB (body l)) % 65521 = aa at *
      generalize (1 + sumB ((body l).set p d)) % 65521 = ab at *
      omega
    · rw [List.set_append, if_neg hpl]
      obtain ⟨c0, c1, c2, c3, hc⟩ := four_of (l := [b0, b1, b2, b3].set (p - (body l).length) d) (by rw [List.length_set]; rfl)
      rw [hc]
      refine read_bad _ c0 c1 c2 c3 _ l1 (by omega) hv2 (fun he => ?_) k (by omega)
      have hi := num4_inj (Int.ofNat.inj he)
      rw [← hc] at hi
      apply hd
      rw [List.getElem?_append_right (by omega), ← hi, List.getElem?_set_self (by show p - (body l).length < 4; omega)]
end Go.Proofs.YtjlflmjimibciabGreatDoor.Th
end
