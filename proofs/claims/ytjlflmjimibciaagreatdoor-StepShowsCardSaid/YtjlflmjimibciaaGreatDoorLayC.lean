/- What the printed functions of paths answer, in plain words. -/
import Derived.Test.YtjlflmjimibciaaGreatDoorThC
import Derived.Test.YtjlflmjimibciaaGreatDoorPrint2
import Derived.Test.YtjlflmjimibciaaGreatDoorPrintUn
import Derived.Test.YtjlflmjimibciaaGreatDoorPrint3
import Derived.Test.YtjlflmjimibciaaGreatDoorPrintF
import Derived.Test.YtjlflmjimibciaaGreatDoorPrintFo
import Derived.Test.YtjlflmjimibciaaGreatDoorPrint0
import Derived.Test.YtjlflmjimibciaaGreatDoorPrint1
import Derived.Test.YtjlflmjimibciaaGreatDoorPrintCl
import Derived.Test.YtjlflmjimibciaaGreatDoorPrintMe
import Derived.Test.YtjlflmjimibciaaGreatDoorWWords
import Derived.Test.YtjlflmjimibciaaGreatDoorPrintSa
section
namespace Go.Proofs.YtjlflmjimibciaaGreatDoor.Th
open Go Go.RowKit Go.Proofs.YtjlflmjimibciaaGreatDoor.Print Go.Proofs.YtjlflmjimibciaaGreatDoorW.PrintWords
set_option linter.unusedVariables false
set_option linter.unusedSimpArgs false
def B (l : By) : ByteArray := ⟨l.toArray⟩
theorem B_data (l : By) : (B l).data.toList = l := by simp [B]
theorem B_size (l : By) : (B l).size = l.length := rfl
theorem size_data (b : ByteArray) : b.size = b.data.toList.length := rfl
theorem list_data (b : ByteArray) : b.toList = b.data.toList := Lib.toList_data b
def nm (p : ByteArray) : Option (List By) := splitF p.data.toList
theorem split_eq (p : ByteArray) (h : p.size ≤ 9223372036854775807) : path_Split.f p = some (match nm p with | some l => (l.map B, []) | none => ([], [2])) := by
  unfold path_Split.f; rw [if_pos h]; rfl
theorem deep_nm (p : ByteArray) (h : p.size ≤ 9223372036854775807) : path_Deep.f p = some (match nm p with | some l => (l.length : Int) | none => -1) := by
  unfold path_Deep.f
  rw [split_eq p h, Option.bind_some]
  cases nm p with
  | none => rfl
  | some l => dsimp only; rw [if_pos (show ([] : List Int).isEmpty = true from rfl), List.length_map]

theorem count_joinB (L : List By) : (joinB L).count 47 = L.length + (L.map fun n => n.count 47).sum := by
  induction L with
  | nil => rfl
  | cons n L ih => rw [joinB_cons, List.cons_append, List.count_cons_self, List.count_append, ih]; simp; omega
theorem count_zero {n : By} (h : (47 : UInt8) ∉ n) : n.count 47 = 0 := List.count_eq_zero.2 h
theorem sum_zero {L : List By} (h : (L.map fun n => n.count 47).sum = 0) : ∀ n ∈ L, (47 : UInt8) ∉ n := by
  induction L with
  | nil => intro n hn; cases hn
  | cons m L ih =>
    rw [List.map_cons, List.sum_cons] at h
    intro n hn
    rcases List.mem_cons.1 hn with rfl | hn
    · exact List.count_eq_zero.1 (by omega)
    · exact ih (by omega) n hn
theorem sum_clean {L : List By} (h : ∀ n ∈ L, (47 : UInt8) ∉ n) : (L.map fun n => n.count 47).sum = 0 := by
  induction L with
  | nil => rfl
  | cons m L ih => rw [List.map_cons, List.sum_cons, ih (fun n hn => h n (by simp [hn])), count_zero (h m (by simp))]
theorem joinB_clean {a b : List By} (ha : ∀ n ∈ a, (47 : UInt8) ∉ n) (hb : ∀ n ∈ b, (47 : UInt8) ∉ n) (h : joinB a = joinB b) : a = b := by
  cases a with
  | nil => cases b with
    | nil => rfl
    | cons n b => simp [joinB_nil, joinB_cons] at h
  | cons n a =>
    cases b with
    | nil => simp [joinB_nil, joinB_cons] at h
    | cons m b =>
      rw [joinB_cons, joinB_cons, List.cons_append, List.cons_append] at h
      injection h with _ h
      have h1 := pieces_join n a (ha n (by simp)) (fun x hx => ha x (by simp [hx]))
      have h2 := pieces_join m b (hb m (by simp)) (fun x hx => hb x (by simp [hx]))
      rw [h, h2] at h1; exact h1.symm
theorem pieces_clean_all : ∀ (l : By) (n : By), n ∈ pieces l → (47 : UInt8) ∉ n
  | [], n, h => by simp [pieces] at h; subst h; simp
  | b :: l, n, h => by
    have ih := pieces_clean_all l
    rw [pieces] at h
    by_cases hb : b = 47
    · rw [if_pos hb] at h
      rcases List.mem_cons.1 h with rfl | h
      · simp
      · exact ih n h
    · rw [if_neg hb] at h
      cases hp : pieces l with
      | nil => exact absurd hp (pieces_ne l)
      | cons p ps =>
        rw [hp] at h
        rcases List.mem_cons.1 h with rfl | h
        · intro hm
          rcases List.mem_cons.1 hm with e | hm
          · exact hb e.symm
          · exact ih p (by rw [hp]; simp) hm
        · exact ih n (by rw [hp]; simp [h])
theorem Okn.clean {L : List By} (h : Okn L) : ∀ n ∈ L, (47 : UInt8) ∉ n := fun n hn => nameL_slash (h.2 n hn)
theorem split_join_len {L l' : List By} (hne : L ≠ []) (h : splitF (joinB L) = some l') (hl : l'.length = L.length) : l' = L ∧ Okn L := by
  rcases splitF_some h with ⟨_, rfl⟩ | ⟨e, _, ok⟩
  · exact absurd (List.eq_nil_of_length_eq_zero hl.symm) hne
  · have h1 := congrArg (List.count 47) e
    rw [count_joinB, count_joinB, sum_clean ok.clean, hl] at h1
    have := joinB_clean (sum_zero (L := L) (by omega)) ok.clean e
    subst this
    exact ⟨rfl, ok⟩

instance (L : List By) : Decidable (Okn L) := inferInstanceAs (Decidable (_ ∧ ∀ n ∈ L, nameL n = true))
def joinR (L : List By) : ByteArray × List Int := if L = [] then (B [47], []) else if Okn L then (B (joinB L), []) else (B [], [2])
theorem joinB_join {L : List By} (h : L ≠ []) : joinB L = 47 :: Lib.join L [47] := by
  cases L with
  | nil => exact absurd rfl h
  | cons x r =>
    rw [Lib.join_cons, joinB_cons, List.cons_append]
    congr 2
theorem data_map_B (L : List By) : (L.map B).map (fun b => b.data.toList) = L := by
  rw [List.map_map]
  conv => rhs; rw [← List.map_id L]
  exact List.map_congr_left fun x _ => B_data x
theorem join_eq (l : List ByteArray) (L : List By) (hL : l.map (fun b => b.data.toList) = L) (hb : L.length ≤ 6 → (joinB L).length ≤ 140737488355328) : path_Join.f l = some (joinR L) := by
  have hlen : l.length = L.length := by rw [← hL, List.length_map]
  unfold path_Join.f joinR
  by_cases h0 : L = []
  · have : l.length = 0 := by rw [hlen, h0]; rfl
    rw [if_pos (by omega), if_pos h0]; rfl
  · have hl0 : L.length ≠ 0 := fun e => h0 (List.eq_nil_of_length_eq_zero e)
    rw [if_neg (by omega), if_neg h0]
    by_cases h6 : L.length ≤ 6
    · have hjl := hb h6
      have hj := joinB_join h0
      have hjj := congrArg List.length hj
      rw [List.length_cons] at hjj
      rw [if_neg (by omega)]
      unfold strings_Join.f
      have hL' : (l.map fun x => x.data.toList) = L := hL
      rw [hL']
      have h47 : (⟨#[47]⟩ : ByteArray).data.toList = [47] := rfl
      rw [h47, if_pos ⟨by omega, by omega⟩, Option.bind_some]
      have hsz : (⟨(Lib.join L [47]).toArray⟩ : ByteArray).size = (Lib.join L [47]).length := rfl
      rw [if_pos (by rw [hsz]; omega)]
      have hp : (⟨#[47]⟩ : ByteArray) ++ (⟨(Lib.join L [47]).toArray⟩ : ByteArray) = B (joinB L) := by
        apply by_ext; rw [B_data, hj]; simp
      rw [hp, split_eq _ (by rw [B_size]; omega), Option.bind_some]
      unfold nm
      rw [B_data]
      by_cases ok : Okn L
      · rw [splitF_join ok h0, if_pos ok]
        dsimp only
        rw [if_pos (show ([] : List Int).isEmpty = true from rfl), if_pos (by rw [List.length_map, hlen])]
      · rw [if_neg ok]
        cases hs : splitF (joinB L) with
        | none => dsimp only; rw [if_neg (by decide)]; rfl
        | some l' =>
          dsimp only
          rw [if_pos (show ([] : List Int).isEmpty = true from rfl), if_neg]
          · rfl
          · rw [List.length_map, hlen]
            intro e
            exact ok (split_join_len h0 hs (by omega)).2
    · rw [if_pos (by omega), if_neg (fun k => h6 k.1)]; rfl
theorem nm_len {p : ByteArray} {l : List By} (h : nm p = some l) : p.size ≤ 54 ∧ l.length ≤ 6 := by
  rcases splitF_some h with ⟨e, rfl⟩ | ⟨e, _, ok⟩
  · rw [size_data, e]; exact ⟨by decide, by decide⟩
  · rw [size_data, e]; exact ⟨joinB_len ok, ok.1⟩
theorem nm_ok {p : ByteArray} {l : List By} (h : nm p = some l) : Okn l := by
  rcases splitF_some h with ⟨e, rfl⟩ | ⟨e, _, ok⟩
  · exact ⟨by decide, fun n hn => by cases hn⟩
  · exact ok
/-- The path of names. -/
def pathB (L : List By) : ByteArray := if L = [] then B [47] else B (joinB L)
theorem joinR_ok {L : List By} (h : Okn L) : joinR L = (pathB L, []) := by
  unfold joinR pathB
  by_cases e : L = []
  · rw [if_pos e, if_pos e]
  · rw [if_neg e, if_neg e, if_pos h]
theorem join_ok {L : List By} (h : Okn L) : path_Join.f (L.map B) = some (pathB L, []) := by
  rw [join_eq (L.map B) L (data_map_B L) (fun _ => by have := joinB_len h; omega), joinR_ok h]

def parR (p : ByteArray) : ByteArray × ByteArray × List Int := match nm p with
  | none => (B [], B [], [2])
  | some l => if h : l = [] then (B [], B [], [1]) else (pathB l.dropLast, B (l.getLast h), [])
theorem okn_take {L : List By} (h : Okn L) (n : Nat) : Okn (L.take n) := ⟨by rw [List.length_take]; have := h.1; omega, fun m hm => h.2 m (List.mem_of_mem_take hm)⟩
theorem rdOf_get (l : List ByteArray) (i : Nat) (h : i < l.length) : rdOf ByteArray.empty l (i : Int) = l[i] := by
  unfold rdOf; rw [Int.toNat_natCast, List.getD_eq_getElem?_getD, List.getElem?_eq_getElem h]; rfl
theorem parent_eq (p : ByteArray) (h : p.size ≤ 9223372036854775807) : path_Parent.f p = some (parR p) := by
  unfold path_Parent.f parR
  rw [split_eq p h, Option.bind_some]
  cases hn : nm p with
  | none => dsimp only; rw [if_neg (by decide)]; rfl
  | some l =>
    dsimp only
    rw [if_pos (show ([] : List Int).isEmpty = true from rfl)]
    by_cases h0 : l = []
    · subst h0; rw [if_pos (by rfl), dif_pos rfl]; rfl
    · have hl : 0 < l.length := List.length_pos_iff.2 h0
      have h6 := (nm_len hn).2
      have hw : wrap64 (((l.map B).length : Int) - 1) = ((l.length - 1 : Nat) : Int) := by
        rw [List.length_map]; unfold wrap64; omega
      rw [hw, dif_neg h0, if_neg (by rw [List.length_map]; omega), if_pos (by omega), if_pos (by rw [List.length_map]; omega), Int.toNat_natCast]
      have ht : (l.map B).take (l.length - 1) = (l.dropLast).map B := by rw [List.dropLast_eq_take, List.map_take]
      have hok : Okn l.dropLast := by rw [List.dropLast_eq_take]; exact okn_take (nm_ok hn) _
      rw [ht, join_ok hok, Option.bind_some, if_pos (by rw [List.length_map]; omega)]
      rw [rdOf_get _ _ (by rw [List.length_map]; omega)]
      congr 2
      rw [List.getElem_map, List.getLast_eq_getElem]

theorem parR_some {p : ByteArray} {l : List By} (h : nm p = some l) (hl : l ≠ []) : parR p = (pathB l.dropLast, B (l.getLast hl), []) := by unfold parR; rw [h]; dsimp only; rw [dif_neg hl]
end Go.Proofs.YtjlflmjimibciaaGreatDoor.Th
end

section
namespace Go.Proofs.YtjlflmjimibciaaGreatDoor.Th
open Go Go.RowKit Go.Proofs.YtjlflmjimibciaaGreatDoor.Print Go.Proofs.YtjlflmjimibciaaGreatDoorW.PrintWords
set_option linter.unusedVariables false
set_option linter.unusedSimpArgs false
def UndN (p d : ByteArray) : Prop := ∃ a b, nm p = some a ∧ nm d = some b ∧ b <+: a ∧ b.length < a.length
theorem prefix_join {a b : List By} (ha : ∀ n ∈ a, (47 : UInt8) ∉ n) (hb : ∀ n ∈ b, (47 : UInt8) ∉ n) : Und (joinB a) (joinB b) ↔ b <+: a ∧ b.length < a.length := by
  constructor
  · rintro ⟨c, hc⟩
    rw [← join_pieces c, ← joinB_append] at hc
    have := joinB_clean ha (fun n hn => by
      rcases List.mem_append.1 hn with h | h
      · exact hb n h
      · exact pieces_clean_all c n h) hc
    subst this
    refine ⟨⟨_, rfl⟩, ?_⟩
    rw [List.length_append]
    have := List.length_pos_iff.2 (pieces_ne c)
    omega
  · rintro ⟨⟨t, rfl⟩, hl⟩
    cases t with
    | nil => simp at hl
    | cons n t => exact ⟨n ++ joinB t, by rw [joinB_append, joinB_cons]; simp⟩
theorem hasPrefix_f (p q : ByteArray) : strings_HasPrefix.f p q = some (q.data.toList.isPrefixOf p.data.toList) := by
  unfold strings_HasPrefix.f stringslite_HasPrefix.f
  by_cases h1 : (p.size : Int) ≥ (q.size : Int)
  · have h2 : (p.extract 0 ((q.size : Int)).toNat).data.toList = p.data.toList.take q.size := by simp
    have hq : q.size = q.data.toList.length := rfl
    have key : (p.data.toList.take q.size == q.data.toList) = q.data.toList.isPrefixOf p.data.toList := by
      rw [Bool.eq_iff_iff, beq_iff_eq, List.isPrefixOf_iff_prefix, hq]
      constructor
      · intro h
        refine ⟨p.data.toList.drop q.data.toList.length, ?_⟩
        conv => lhs; lhs; rw [← h]
        exact List.take_append_drop _ _
      · rintro ⟨t, h⟩
        rw [← h]; simp
    have h3 : (0 : Int) ≤ (q.size : Int) := Int.natCast_nonneg _
    rw [if_pos h1, if_pos h3, if_pos (show (q.size : Int) ≤ (p.size : Int) from h1), Lib.toList_data, Lib.toList_data, h2, key]
    rfl
  · rw [if_neg h1]
    have : q.data.toList.isPrefixOf p.data.toList = false := by
      rw [Bool.eq_false_iff]; intro h
      rw [List.isPrefixOf_iff_prefix] at h
      have := h.length_le
      have e1 : q.size = q.data.toList.length := rfl
      have e2 : p.size = p.data.toList.length := rfl
      omega
    rw [this]; rfl
theorem under_eq (p d : ByteArray) (hp : p.size ≤ 9223372036854775807) (hd : d.size ≤ 9223372036854775806) : ∃ t, path_Under.f p d = some t ∧ (t = true ↔ UndN p d) := by
  unfold path_Under.f
  rw [deep_nm p hp, deep_nm d (by omega), Option.bind_some, Option.bind_some]
  unfold UndN
  cases hb : nm d with
  | none => exact ⟨false, by rw [if_neg (by decide)], by simp⟩
  | some b =>
    dsimp only
    have hb0 : (0 : Int) ≤ (b.length : Int) := Int.natCast_nonneg _
    rw [if_pos (show ((b.length : Int) ≥ 0) from hb0)]
    cases ha : nm p with
    | none => exact ⟨false, by dsimp only; rw [if_neg (by omega)], by simp⟩
    | some a =>
      dsimp only
      by_cases hl : b.length < a.length
      · rw [if_pos (by omega)]
        have ha0 : a ≠ [] := fun e => by rw [e] at hl; simp at hl
        have hpa : p.data.toList = joinB a := by
          rcases splitF_some ha with ⟨_, e⟩ | ⟨e, _, _⟩
          · exact absurd e ha0
          · exact e
        by_cases hr : d.toList = ([47] : List UInt8)
        · rw [if_pos hr]
          rw [list_data] at hr
          unfold nm at hb; rw [hr] at hb
          obtain rfl := Option.some.inj (splitF_root.symm.trans hb)
          exact ⟨true, rfl, by simpa using hl⟩
        · rw [if_neg hr, if_pos (by omega), hasPrefix_f]
          refine ⟨_, by first | rfl | (rw [Option.bind_some]), ?_⟩
          have hda : d.data.toList = joinB b := by
            rcases splitF_some hb with ⟨e, _⟩ | ⟨e, _, _⟩
            · exact absurd ((list_data d).trans e) hr
            · exact e
          have e1 : (d ++ (⟨#[47]⟩ : ByteArray)).data.toList = joinB b ++ [47] := by rw [← hda]; simp
          rw [e1, hpa, ← und_iff, prefix_join (nm_ok ha).clean (nm_ok hb).clean]
          constructor
          · rintro ⟨h1, h2⟩; exact ⟨a, b, rfl, rfl, h1, h2⟩
          · rintro ⟨a', b', e1, e2, h1, h2⟩
            obtain rfl := Option.some.inj e1; obtain rfl := Option.some.inj e2
            exact ⟨h1, h2⟩
      · rw [if_neg (by omega)]
        refine ⟨false, rfl, ?_⟩
        simp only [Bool.false_eq_true, false_iff]
        rintro ⟨a', b', e1, e2, h1, h2⟩
        obtain rfl := Option.some.inj e1; obtain rfl := Option.some.inj e2
        exact hl h2
end Go.Proofs.YtjlflmjimibciaaGreatDoor.Th
end

section
namespace Go.Proofs.YtjlflmjimibciaaGreatDoor.Th
open Go Go.RowKit Go.Proofs.YtjlflmjimibciaaGreatDoor.Print Go.Proofs.YtjlflmjimibciaaGreatDoorW.PrintWords
set_option linter.unusedVariables false
set_option linter.unusedSimpArgs false
theorem rd_get (l : List En) (i : Nat) (h : i < l.length) : rd_T41 l (i : Int) = l[i] := by
  unfold rd_T41; rw [Int.toNat_natCast, List.getD_eq_getElem?_getD, List.getElem?_eq_getElem h]; rfl
theorem rdL_get (l : List (List En)) (i : Nat) (h : i < l.length) : rd_L4 l (i : Int) = l[i] := by
  unfold rd_L4; rw [Int.toNat_natCast, List.getD_eq_getElem?_getD, List.getElem?_eq_getElem h]; rfl
theorem wrap_up (i : Nat) (h : i < 1000000) : wrap64 ((i : Int) + 1) = ((i + 1 : Nat) : Int) := by unfold wrap64; omega
theorem lst_data (b : ByteArray) : b.toList = b.data.toList := Lib.toList_data b
theorem lst_eq (a b : ByteArray) : (a.toList == b.toList) = decide (a.data.toList = b.data.toList) := by
  rw [lst_data, lst_data]; exact Bool.eq_iff_iff.2 (by simp)

theorem kd_iff (k : Int) (d : ByteArray) : (if k = 1 then (some (decide ((d.size : Int) ≤ 256))) else (if k = 2 then (some (d.toList == ([] : List UInt8))) else (if k = 3 then (some (d.toList == ([] : List UInt8))) else (if k = 4 then (some (d.toList == ([] : List UInt8))) else (some false))))) = some (decide (k = 1 ∧ d.data.toList.length ≤ 256 ∨ (k = 2 ∨ k = 3 ∨ k = 4) ∧ d.data.toList = [])) := by
  have hd : (d.toList == ([] : List UInt8)) = decide (d.data.toList = []) := by rw [lst_data]; exact Bool.eq_iff_iff.2 (by simp)
  have hs : d.size = d.data.toList.length := rfl
  rw [hd]
  by_cases k1 : k = 1
  · rw [if_pos k1]
    exact congrArg some (decide_eq_decide.2 (by rw [hs]; constructor <;> (intro h; first | (left; omega) | (rcases h with h | h <;> omega))))
  · rw [if_neg k1]
    by_cases k2 : k = 2
    · rw [if_pos k2]; exact congrArg some (decide_eq_decide.2 ⟨fun h => .inr ⟨.inl k2, h⟩, fun h => h.elim (fun h => absurd h.1 k1) (fun h => h.2)⟩)
    · rw [if_neg k2]
      by_cases k3 : k = 3
      · rw [if_pos k3]; exact congrArg some (decide_eq_decide.2 ⟨fun h => .inr ⟨.inr (.inl k3), h⟩, fun h => h.elim (fun h => absurd h.1 k1) (fun h => h.2)⟩)
      · rw [if_neg k3]
        by_cases k4 : k = 4
        · rw [if_pos k4]; exact congrArg some (decide_eq_decide.2 ⟨fun h => .inr ⟨.inr (.inr k4), h⟩, fun h => h.elim (fun h => absurd h.1 k1) (fun h => h.2)⟩)
        · rw [if_neg k4]
          exact congrArg some (decide_eq_false (by rintro (h | ⟨h | h | h, _⟩) <;> first | exact k1 h.1 | exact k2 h | exact k3 h | exact k4 h)).symm
theorem pth_nm {p : ByteArray} : Pth p.data.toList ↔ ∃ l, nm p = some l ∧ l ≠ [] := Iff.rfl
theorem pth_deep {p : ByteArray} (h : p.size ≤ 9223372036854775807) : ∃ t, path_Deep.f p = some t ∧ (t < 1 ↔ ¬ Pth p.data.toList) := by
  refine ⟨_, deep_nm p h, ?_⟩
  rw [pth_nm]
  cases hn : nm p with
  | none => simp
  | some l =>
    simp only
    constructor
    · intro h1
      rintro ⟨l', e, hne⟩
      rw [Option.some.inj e] at h1
      exact hne (List.eq_nil_of_length_eq_zero (by omega))
    · intro h1
      by_cases h0 : l = []
      · subst h0; decide
      · exact absurd ⟨l, rfl, h0⟩ h1
def pthb (p : By) : Bool := match splitF p with | some l => !l.isEmpty | none => false
instance (p : By) : Decidable (Pth p) := decidable_of_iff (pthb p = true) (by unfold Pth pthb; cases h : splitF p <;> simp)
instance (e : En) : Decidable (Rt e) := inferInstanceAs (Decidable (_ ∧ _))
theorem right_en (e : En) (h : e.f0.size ≤ 9223372036854775807) : entry_Right.f e.f0 e.f1 e.f2 = some (decide (Rt e)) := by
  unfold entry_Right.f
  obtain ⟨t, ht, hi⟩ := pth_deep h
  rw [ht, Option.bind_some, kd_iff]
  by_cases hp : Pth e.f0.data.toList
  · rw [if_neg (fun h1 => hi.1 h1 hp)]
    exact congrArg some (decide_eq_decide.2 ⟨fun h1 => ⟨hp, h1⟩, fun h1 => h1.2⟩)
  · rw [if_pos (hi.2 hp)]
    exact congrArg some (decide_eq_false (fun h1 => hp h1.1)).symm
theorem pth_size {p : ByteArray} (h : Pth p.data.toList) : p.size ≤ 54 := by obtain ⟨l, e, _⟩ := h; exact (nm_len (p := p) e).1
theorem pth_nil {p : ByteArray} (h : Pth p.data.toList) : ∃ l, nm p = some l ∧ l ≠ [] ∧ p.data.toList = joinB l ∧ parB p.data.toList = joinB l.dropLast ∧ Okn l := by
  obtain ⟨l, e, hne⟩ := h
  refine ⟨l, e, hne, ?_, ?_, nm_ok (p := p) e⟩
  · rcases splitF_some e with ⟨_, h0⟩ | ⟨h1, _⟩
    · exact absurd h0 hne
    · exact h1
  · unfold parB; rw [e]; rfl
theorem joinB_root {l : List By} (h : Okn l) : joinB l ≠ [47] := by
  cases l with
  | nil => simp [joinB_nil]
  | cons n l =>
    have := (nameL_len (h.2 n (by simp))).1
    cases n with
    | nil => simp at this
    | cons c n => rw [joinB_cons]; simp
theorem dir_of {e : En} (h : Rt e) : ∃ d c, path_Parent.f e.f0 = some (d, c, []) ∧ (parB (ky e) = [] ∧ d.data.toList = [47] ∨ parB (ky e) ≠ [] ∧ parB (ky e) ≠ [47] ∧ d.data.toList = parB (ky e)) := by
  obtain ⟨l, hn, hne, hj, hp, hok⟩ := pth_nil h.1
  refine ⟨_, _, by rw [parent_eq _ (by have := pth_size h.1; omega), parR_some hn hne], ?_⟩
  unfold ky; rw [hp]; unfold pathB
  have hd : Okn l.dropLast := by rw [List.dropLast_eq_take]; exact okn_take hok _
  by_cases h0 : l.dropLast = []
  · rw [if_pos h0, h0]; left; exact ⟨rfl, B_data _⟩
  · rw [if_neg h0]; right
    refine ⟨?_, joinB_root hd, B_data _⟩
    cases h1 : l.dropLast with
    | nil => exact absurd h1 h0
    | cons n r => rw [joinB_cons]; simp
theorem parent_some (e : En) (h : e.f0.size ≤ 9223372036854775807) : (path_Parent.f e.f0).isSome = true := by rw [parent_eq _ h]; rfl

theorem filter_take {α : Type} (q : α → Bool) : ∀ (l : List α) (m : Nat), m ≤ l.length → (∀ i (h : i < l.length), i < m ↔ q l[i] = true) → l.filter q = l.take m
  | [], m, _, _ => by simp
  | x :: l, m, hm, h => by
    cases m with
    | zero =>
      rw [List.take_zero, List.filter_eq_nil_iff]
      intro y hy hq
      obtain ⟨i, hi, e⟩ := List.getElem_of_mem hy
      have := (h i hi).2 (by rw [e]; exact hq)
      omega
    | succ m =>
      have h0 := (h 0 (by simp)).1 (by omega)
      rw [List.filter_cons, if_pos (by simpa using h0), List.take_succ_cons]
      congr 1
      refine filter_take q l m (by simpa using hm) fun i hi => ?_
      have := h (i + 1) (by simpa using hi)
      simpa using this
theorem filter_drop {α : Type} (q : α → Bool) : ∀ (l : List α) (m : Nat), m ≤ l.length → (∀ i (h : i < l.length), m ≤ i ↔ q l[i] = true) → l.filter q = l.drop m
  | [], m, _, _ => by simp
  | x :: l, m, hm, h => by
    cases m with
    | zero =>
      rw [List.drop_zero, List.filter_eq_self]
      intro y hy
      obtain ⟨i, hi, e⟩ := List.getElem_of_mem hy
      have := (h i hi).1 (by omega)
      rwa [e] at this
    | succ m =>
      have h0 : ¬ q x = true := fun hq => by have := (h 0 (by simp)).2 (by simpa using hq); omega
      rw [List.filter_cons, if_neg (by simpa using h0), List.drop_succ_cons]
      refine filter_drop q l m (by simpa using hm) fun i hi => ?_
      have := h (i + 1) (by simpa using hi)
      simpa using this
theorem cb_zero (a b : By) : Lib.compareBytes a b = 0 ↔ a = b := by
  rw [cmp_cases]
  constructor
  · intro h
    rcases bl_tri a b with h1 | h1 | h1
    · unfold bl at h1; rw [if_pos h1] at h; omega
    · exact h1
    · have h2 := bl_asymm h1
      unfold bl at h1 h2; rw [if_neg h2, if_pos h1] at h; omega
  · rintro rfl
    have h2 := bl_irrefl a
    unfold bl at h2
    rw [if_neg h2, if_neg h2]
theorem Srt.get {l : List En} (h : Srt l) {i j : Nat} (hi : i < l.length) (hj : j < l.length) (hij : i < j) : bl (ky l[i]) (ky l[j]) := List.pairwise_iff_getElem.1 h i j hi hj hij
theorem srch {l : List En} (hs : Srt l) (F : Nat → ByteArray) (hF : ∀ i (h : i < l.length), F i = (l[i]).f0) (p : ByteArray) :
    ∃ m, bsF F p l.length 0 l.length = m ∧ m ≤ l.length ∧ (∀ i (h : i < l.length), i < m ↔ bl (ky l[i]) p.data.toList) := by
  obtain ⟨h1, h2, h3⟩ := bsF_spec F p l.length (fun a b hab hb hc => by
    rw [cmp_lt] at hc ⊢
    rw [hF b hb] at hc
    rw [hF a (by omega)]
    by_cases e : a = b
    · subst e; exact hc
    · exact bl_trans (hs.get (by omega) hb (by omega)) hc) l.length 0 l.length (by omega) (Nat.le_refl _) (by omega) (fun t ht => by omega) (fun t h4 h5 => by omega)
  refine ⟨_, rfl, h1, fun i hi => ⟨fun hm => ?_, fun hb => ?_⟩⟩
  · have := h2 i hm
    rw [cmp_lt, hF i hi] at this
    exact this
  · by_cases hm : i < bsF F p l.length 0 l.length
    · exact hm
    · have := h3 i (by omega) hi
      rw [cmp_lt, hF i hi] at this
      exact absurd hb this
/-- What the search hits is what stands at the path. -/
theorem srch_hit {l : List En} (hs : Srt l) {p : By} {m : Nat} (hm : ∀ i (h : i < l.length), i < m ↔ bl (ky l[i]) p) : (m < l.length ∧ ∃ h : m < l.length, ky l[m] = p) ∨ (¬ (∃ h : m < l.length, ky l[m] = p) ∧ fnd l p = none) := by
  by_cases h : ∃ h : m < l.length, ky l[m] = p
  · exact .inl ⟨h.1, h⟩
  · refine .inr ⟨h, fnd_none.2 fun e he hk => ?_⟩
    obtain ⟨i, hi, rfl⟩ := List.getElem_of_mem he
    have h1 : ¬ i < m := fun k => by have := (hm i hi).1 k; rw [hk] at this; exact bl_irrefl _ this
    by_cases h2 : i = m
    · subst h2; exact h ⟨hi, hk⟩
    · have := hs.get (i := m) (j := i) (by omega) hi (by omega)
      rw [hk] at this
      exact absurd ((hm m (by omega)).2 this) (Nat.lt_irrefl _)
theorem at_eq {l : List En} (hs : Srt l) (p : ByteArray) (hl : l.length ≤ 100000) : ∃ m : Nat, layer_at.f l p = some ((m : Int), (fnd l p.data.toList).isSome) ∧ ∀ x, fnd l p.data.toList = some x → ∃ h : m < l.length, l[m] = x := by
  obtain ⟨m, hm, hle, hi⟩ := srch hs (fun i => (rd_T41 l (i : Int)).f0) (fun i h => by rw [rd_get l i h]) p
  refine ⟨m, ?_, ?_⟩
  · unfold layer_at.f
    rw [if_pos (by omega), hm]
    congr 2
    rcases srch_hit hs hi with ⟨_, h1, h2⟩ | ⟨h1, h2⟩
    · rw [rd_get l m h1, decide_eq_true h1, decide_eq_true (show Lib.compareBytes l[m].f0.data.toList p.data.toList = 0 from (cb_zero _ _).2 h2)]
      rw [← h2, hs.at_ (List.getElem_mem h1)]; rfl
    · rw [h2]
      by_cases h3 : m < l.length
      · rw [decide_eq_true h3, rd_get l m h3, decide_eq_false (show ¬ Lib.compareBytes l[m].f0.data.toList p.data.toList = 0 from fun k => h1 ⟨h3, (cb_zero _ _).1 k⟩)]; rfl
      · rw [decide_eq_false h3]; rfl
  · intro x hx
    rcases srch_hit hs hi with ⟨_, h1, h2⟩ | ⟨_, h2⟩
    · refine ⟨h1, ?_⟩
      have := hs.at_ (List.getElem_mem h1)
      rw [h2, hx] at this
      exact (Option.some.inj this).symm
    · rw [h2] at hx; cases hx

end Go.Proofs.YtjlflmjimibciaaGreatDoor.Th
end

section
namespace Go.Proofs.YtjlflmjimibciaaGreatDoor.Th
open Go Go.RowKit Go.Proofs.YtjlflmjimibciaaGreatDoor.Print Go.Proofs.YtjlflmjimibciaaGreatDoorW.PrintWords
set_option linter.unusedVariables false
set_option linter.unusedSimpArgs false
structure Nxt (q : List En) (x : En) : Prop where
  rt : Rt x
  lt : ∀ y, q.getLast? = some y → bl (ky y) (ky x)
  par : parB (ky x) = [] ∨ ∃ y ∈ q, ky y = parB (ky x) ∧ Hld y
theorem Srt.last {q : List En} (h : Srt q) {x : En} (hl : ∀ y, q.getLast? = some y → bl (ky y) (ky x)) : ∀ y ∈ q, bl (ky y) (ky x) := by
  intro y hy
  rcases List.eq_nil_or_concat q with rfl | ⟨r, z, rfl⟩
  · cases hy
  · rw [List.concat_eq_append] at *
    have hz := hl z (by simp)
    rcases List.mem_append.1 hy with h1 | h1
    · exact bl_trans (h.parts.2.2 y h1 z (by simp)) hz
    · rw [List.mem_singleton.1 h1]; exact hz
theorem Lyr.pre {q r : List En} (h : Lyr (q ++ r)) : Lyr q := by
  obtain ⟨h1, h2, h3⟩ := h
  have hp := h2.parts
  refine ⟨fun e he => h1 e (List.mem_append_left _ he), hp.1, fun e he => ?_⟩
  rcases h3 e (List.mem_append_left _ he) with h0 | ⟨x, hx, hk, hh⟩
  · exact .inl h0
  · rcases List.mem_append.1 hx with hx | hx
    · exact .inr ⟨x, hx, hk, hh⟩
    · have h4 := hp.2.2 e he x hx
      have h5 := (h1 e (List.mem_append_left _ he)).1.und.bl
      rw [hk] at h4
      exact absurd h5 (bl_asymm h4)
theorem Lyr.snoc {q : List En} (h : Lyr q) (x : En) : Lyr (q ++ [x]) ↔ Nxt q x := by
  constructor
  · intro k
    have hp := k.srt.parts
    refine ⟨k.rt x (by simp), fun y hy => hp.2.2 y (List.mem_of_getLast? hy) x (by simp), ?_⟩
    rcases k.par x (by simp) with h0 | ⟨y, hy, hk, hh⟩
    · exact .inl h0
    · rcases List.mem_append.1 hy with hy | hy
      · exact .inr ⟨y, hy, hk, hh⟩
      · rw [List.mem_singleton.1 hy] at hk
        have := (k.rt x (by simp)).1.und.len
        rw [← hk] at this
        omega
  · intro k
    refine ⟨fun e he => ?_, h.srt.append (List.pairwise_singleton _ _) (fun y hy z hz => by rw [List.mem_singleton.1 hz]; exact h.srt.last k.lt y hy), fun e he => ?_⟩
    · rcases List.mem_append.1 he with he | he
      · exact h.rt e he
      · rw [List.mem_singleton.1 he]; exact k.rt
    · rcases List.mem_append.1 he with he | he
      · rcases h.par e he with h0 | ⟨y, hy, hh⟩
        · exact .inl h0
        · exact .inr ⟨y, List.mem_append_left _ hy, hh⟩
      · rw [List.mem_singleton.1 he]
        rcases k.par with h0 | ⟨y, hy, hh⟩
        · exact .inl h0
        · exact .inr ⟨y, List.mem_append_left _ hy, hh⟩
theorem Lyr.nxt {q r : List En} {x : En} (h : Lyr (q ++ x :: r)) : Nxt q x := by
  have h1 : Lyr (q ++ [x]) := Lyr.pre (r := r) (by simpa using h)
  exact (h1.pre.snoc x).1 h1
theorem Tre.pre {q r : List En} (h : Tre (q ++ r)) : Tre q := ⟨h.lyr.pre, fun e he => h.kd e (List.mem_append_left _ he)⟩
theorem Hld.beq {x : En} : (x.f1 == 2 || x.f1 == 4) = decide (Hld x) := by
  refine Bool.eq_iff_iff.2 (Iff.trans ?_ (decide_eq_true_iff (p := Hld x)).symm)
  show _ ↔ x.f1 = 2 ∨ x.f1 = 4
  simp
theorem less_en (a b : En) : entry_Less.f a.f0 a.f1 a.f2 b.f0 b.f1 b.f2 = some (decide (bl (ky a) (ky b))) := by
  unfold entry_Less.f; rw [lst_data, lst_data]
  exact congrArg some (Bool.eq_iff_iff.2 (by rw [decide_eq_true_iff]; rfl))
theorem holds_en (a : En) : entry_Holds.f a.f0 a.f1 a.f2 = some (decide (Hld a)) := by
  unfold entry_Holds.f Hld
  by_cases h : a.f1 = 2
  · rw [if_pos h]; exact congrArg some (decide_eq_true (.inl h)).symm
  · rw [if_neg h]; exact congrArg some (Bool.eq_iff_iff.2 (by simp [h]))
theorem take_last (l : List En) (i : Nat) (h : i < l.length) (h0 : 0 < i) : (l.take i).getLast? = some (l[i - 1]) := by
  rw [List.getLast?_take, if_neg (by omega), List.getElem?_eq_getElem (by omega)]; rfl
theorem nxt_iff (l : List En) (i : Nat) (h : i < l.length) (hq : Lyr (l.take i)) : Lyr (l.take (i + 1)) ↔ Nxt (l.take i) l[i] := by
  rw [List.take_succ_eq_append_getElem h]; exact hq.snoc _
theorem lyr_not {l : List En} {n : Nat} (h : ¬ Lyr (l.take n)) : ¬ Lyr l := fun k => h (Lyr.pre (r := l.drop n) (by rwa [List.take_append_drop]))
theorem right_l0 (l : List En) (hb : ∀ e ∈ l, e.f0.size ≤ 9223372036854775807) (hl : l.length ≤ 64) : ∀ (n i k : Nat), i + n = l.length → 2 * n + 2 ≤ k → Lyr (l.take i) →
    ∀ r, (layer_Right.l0 k l l (l.length : Int) (i : Int) = some r ↔ some r = some true ∧ Lyr l ∨ some r = some false ∧ ¬ Lyr l) := by
  intro n
  induction n with
  | zero =>
    intro i k hn hk hq r
    obtain ⟨k, rfl⟩ := Nat.exists_eq_add_of_le' (show 1 ≤ k by omega)
    rw [layer_Right.l0, if_neg (by omega)]
    have : l.take i = l := List.take_of_length_le (by omega)
    rw [this] at hq
    cases r <;> simp [hq]
  | succ n ih =>
    intro i k hn hk hq r
    obtain ⟨k, rfl⟩ := Nat.exists_eq_add_of_le' (show 2 ≤ k by omega)
    have hi : i < l.length := by omega
    rw [layer_Right.l0, if_pos (by omega), if_pos (by omega), if_pos (by omega), rd_get l i hi, right_en _ (hb _ (List.getElem_mem hi)), Option.bind_some]
    have key := nxt_iff l i hi hq
    have no : ¬ Nxt (l.take i) l[i] → (some false = some r ↔ some r = some true ∧ Lyr l ∨ some r = some false ∧ ¬ Lyr l) := fun hnx => by
      have := lyr_not (fun h => hnx (key.1 h))
      cases r <;> simp [this]
    have jt : ∀ a b c, layer_Right.j1 (k + 1) l (i : Int) l (l.length : Int) (i : Int) true a b c = some false := fun a b c => by rw [layer_Right.j1, if_pos rfl]
    have jf : Rt l[i] → (∀ y, (l.take i).getLast? = some y → bl (ky y) (ky l[i])) → (layer_Right.j1 (k + 1) l (i : Int) l (l.length : Int) (i : Int) false l[i].f0 l[i].f1 l[i].f2 = some r ↔ some r = some true ∧ Lyr l ∨ some r = some false ∧ ¬ Lyr l) := by
      intro hrt hlt
      obtain ⟨d, c, hd, hdd⟩ := dir_of hrt
      rw [layer_Right.j1, if_neg (by decide), hd, Option.bind_some, if_pos (by omega), if_pos (by omega), Int.toNat_natCast]
      obtain ⟨m, hm, hx⟩ := at_eq hq.srt d (by rw [List.length_take]; omega)
      rw [hm, Option.bind_some]
      dsimp only
      rw [lst_data d]
      have goon : Nxt (l.take i) l[i] → (layer_Right.l0 k l l (l.length : Int) (wrap64 ((i : Int) + 1)) = some r ↔ some r = some true ∧ Lyr l ∨ some r = some false ∧ ¬ Lyr l) := fun hnx => by
        rw [wrap_up i (by omega)]
        exact ih (i + 1) k (by omega) (by omega) (key.2 hnx) r
      rcases hdd with ⟨h0, h1⟩ | ⟨h0, h0', h1⟩
      · rw [if_pos h1]
        exact goon ⟨hrt, hlt, .inl h0⟩
      · rw [if_neg (by rw [h1]; exact h0')]
        rw [h1] at hx ⊢
        cases hf : fnd (l.take i) (parB (ky l[i])) with
        | none =>
          rw [if_neg (by simp)]
          refine no fun k => ?_
          rcases k.par with h2 | ⟨y, hy, hk, _⟩
          · exact h0 h2
          · exact fnd_none.1 hf y hy hk
        | some y =>
          obtain ⟨hmi, hmy⟩ := hx y hf
          rw [List.length_take] at hmi
          rw [List.getElem_take] at hmy
          rw [if_pos (by rfl), if_pos (by omega), if_pos (by omega), rd_get l m (by omega), hmy, holds_en, Option.bind_some]
          by_cases hh : Hld y
          · rw [decide_eq_true hh, if_pos rfl]
            exact goon ⟨hrt, hlt, .inr ⟨y, (fnd_mem hf).1, (fnd_mem hf).2, hh⟩⟩
          · rw [decide_eq_false hh, if_neg (by decide)]
            refine no fun k => ?_
            rcases k.par with h2 | ⟨z, hz, hk, hhz⟩
            · exact h0 h2
            · have := hq.srt.at_ hz
              rw [hk, hf] at this
              exact hh (Option.some.inj this ▸ hhz)
    by_cases hrt : Rt l[i]
    · rw [decide_eq_true hrt, if_pos rfl]
      by_cases hi0 : 0 < i
      · rw [if_pos (by omega)]
        have hw : wrap64 ((i : Int) - 1) = ((i - 1 : Nat) : Int) := by unfold wrap64; omega
        rw [hw, if_pos (by omega), if_pos (by omega), rd_get l (i - 1) (by omega), less_en, Option.bind_some]
        by_cases hlt : bl (ky l[i - 1]) (ky l[i])
        · rw [decide_eq_true hlt]
          refine jf hrt fun y hy => ?_
          rw [take_last l i hi hi0] at hy
          exact Option.some.inj hy ▸ hlt
        · rw [decide_eq_false hlt, Bool.not_false, jt]
          exact no fun k => hlt (k.lt _ (take_last l i hi hi0))
      · rw [if_neg (by omega)]
        refine jf hrt fun y hy => ?_
        rw [show i = 0 by omega] at hy
        simp at hy
    · rw [decide_eq_false hrt, if_neg (by decide), jt]
      exact no fun k => hrt k.rt
open Classical in
theorem layer_right (l : List En) (hb : ∀ e ∈ l, e.f0.size ≤ 9223372036854775807) (k : Nat) (hk : 200 ≤ k) : layer_Right.f k l = some (decide (Lyr l ∧ l.length ≤ 64)) := by
  unfold layer_Right.f
  by_cases hl : l.length ≤ 64
  · rw [if_neg (by omega)]
    have h := right_l0 l hb hl l.length 0 k (by omega) (by omega) (by rw [List.take_zero]; exact Lyr.nil)
    by_cases hL : Lyr l
    · rw [decide_eq_true ⟨hL, hl⟩]; exact (h true).2 (.inl ⟨rfl, hL⟩)
    · rw [decide_eq_false (fun k => hL k.1)]; exact (h false).2 (.inr ⟨rfl, hL⟩)
  · rw [if_pos (by omega), decide_eq_false (fun k => hl k.2)]
end Go.Proofs.YtjlflmjimibciaaGreatDoor.Th
end

section
namespace Go.Proofs.YtjlflmjimibciaaGreatDoor.Th
open Go Go.RowKit Go.Proofs.YtjlflmjimibciaaGreatDoor.Print Go.Proofs.YtjlflmjimibciaaGreatDoorW.PrintWords
set_option linter.unusedVariables false
set_option linter.unusedSimpArgs false
theorem ifc {α : Sort _} {p q : Prop} [Decidable p] [Decidable q] {a b : α} (h : p ↔ q) : (if p then a else b) = if q then a else b := by
  by_cases hp : p
  · rw [if_pos hp, if_pos (h.1 hp)]
  · rw [if_neg hp, if_neg (fun k => hp (h.2 k))]
def Fit (l : List En) : Prop := l.length ≤ 70 ∧ ∀ e ∈ l, e.f0.size ≤ 100 ∧ e.f2.size ≤ 600
theorem Fit.b {l : List En} (h : Fit l) : ∀ e ∈ l, e.f0.size ≤ 9223372036854775807 := fun e he => by have := (h.2 e he).1; omega
open Classical in
theorem size_l0 (l : List En) (hl : l.length ≤ 70) : ∀ (n i k : Nat), i + n = l.length → n < k → shalelaw09_Size.l0 k l (i : Int) = some (if ∀ e ∈ l.drop i, e.f0.size ≤ 100 ∧ e.f2.size ≤ 600 then 1 else 0) := by
  intro n
  induction n with
  | zero =>
    intro i k hn hk
    obtain ⟨k, rfl⟩ := Nat.exists_eq_add_of_le' (show 1 ≤ k by omega)
    rw [shalelaw09_Size.l0, if_neg (by omega), List.drop_of_length_le (by omega), if_pos (by simp)]
  | succ n ih =>
    intro i k hn hk
    obtain ⟨k, rfl⟩ := Nat.exists_eq_add_of_le' (show 1 ≤ k by omega)
    have hi : i < l.length := by omega
    rw [shalelaw09_Size.l0, if_pos (by omega), if_pos (by omega), rd_get l i hi, wrap_up i (by omega), ih (i + 1) k (by omega) (by omega), List.drop_eq_getElem_cons hi]
    by_cases h1 : l[i].f0.size ≤ 100
    · rw [if_neg (by omega)]
      by_cases h2 : l[i].f2.size ≤ 600
      · rw [if_neg (by omega)]
        congr 1
        exact ifc ⟨fun h e he => by
          rcases List.mem_cons.1 he with rfl | he
          · exact ⟨h1, h2⟩
          · exact h e he, fun h e he => h e (.tail _ he)⟩
      · rw [if_pos (by omega), if_neg (fun h => h2 (h _ (List.Mem.head _)).2)]
    · rw [if_pos (by omega), if_neg (fun h => h1 (h _ (List.Mem.head _)).1)]
open Classical in
theorem size_eq (l : List En) (k : Nat) (hk : 80 ≤ k) : shalelaw09_Size.f k l = some (if Fit l then 1 else 0) := by
  unfold shalelaw09_Size.f
  by_cases hl : l.length ≤ 70
  · rw [if_neg (by omega)]
    have h := size_l0 l hl l.length 0 k (by omega) (by omega)
    rw [List.drop_zero] at h
    refine h.trans (congrArg some (ifc ?_))
    exact ⟨fun h => ⟨hl, h⟩, fun h => h.2⟩
  · rw [if_pos (by omega), if_neg (fun h => hl h.1)]
def FitS (s : List (List En)) : Prop := s.length ≤ 12 ∧ ∀ l ∈ s, Fit l
open Classical in
theorem few_l0 (s : List (List En)) (hl : s.length ≤ 12) : ∀ (n i k : Nat), i + n = s.length → n + 90 < k → shalelaw10_Few.l0 k s (i : Int) = some (if ∀ l ∈ s.drop i, Fit l then 1 else 0) := by
  intro n
  induction n with
  | zero =>
    intro i k hn hk
    obtain ⟨k, rfl⟩ := Nat.exists_eq_add_of_le' (show 1 ≤ k by omega)
    rw [shalelaw10_Few.l0, if_neg (by omega), List.drop_of_length_le (by omega), if_pos (by simp)]
  | succ n ih =>
    intro i k hn hk
    obtain ⟨k, rfl⟩ := Nat.exists_eq_add_of_le' (show 1 ≤ k by omega)
    have hi : i < s.length := by omega
    rw [shalelaw10_Few.l0, if_pos (by omega), if_pos (by omega), rdL_get s i hi, size_eq _ k (by omega), Option.bind_some, wrap_up i (by omega), ih (i + 1) k (by omega) (by omega), List.drop_eq_getElem_cons hi]
    by_cases h1 : Fit s[i]
    · rw [if_pos h1, if_neg (by decide)]
      congr 1
      exact ifc ⟨fun h e he => by
        rcases List.mem_cons.1 he with rfl | he
        · exact h1
        · exact h e he, fun h e he => h e (.tail _ he)⟩
    · rw [if_neg h1, if_pos rfl, if_neg (fun h => h1 (h _ (List.Mem.head _)))]
open Classical in
theorem few_eq (s : List (List En)) (k : Nat) (hk : 120 ≤ k) : shalelaw10_Few.f k s = some (if FitS s then 1 else 0) := by
  unfold shalelaw10_Few.f
  by_cases hl : s.length ≤ 12
  · rw [if_neg (by omega)]
    have h := few_l0 s hl s.length 0 k (by omega) (by omega)
    rw [List.drop_zero] at h
    refine h.trans (congrArg some (ifc ?_))
    exact ⟨fun h => ⟨hl, h⟩, fun h => h.2⟩
  · rw [if_pos (by omega), if_neg (fun h => hl h.1)]
open Classical
def LR (l : List En) : Prop := Lyr l ∧ l.length ≤ 64
theorem lr_eq (l : List En) (hb : ∀ e ∈ l, e.f0.size ≤ 9223372036854775807) (k : Nat) (hk : 200 ≤ k) : layer_Right.f k l = some (decide (LR l)) :=
  (layer_right l hb k hk).trans (congrArg some (decide_eq_decide.2 Iff.rfl))
theorem Lyr.b {l : List En} (h : Lyr l) : ∀ e ∈ l, e.f0.size ≤ 9223372036854775807 := fun e he => by have := pth_size (h.rt e he).1; omega
end Go.Proofs.YtjlflmjimibciaaGreatDoor.Th
end

section
namespace Go.Proofs.YtjlflmjimibciaaGreatDoor.Th
open Go Go.RowKit Go.Proofs.YtjlflmjimibciaaGreatDoor.Print Go.Proofs.YtjlflmjimibciaaGreatDoorW.PrintWords
set_option linter.unusedVariables false
set_option linter.unusedSimpArgs false
theorem under_en {x y : ByteArray} (hx : Pth x.data.toList) (hy : Pth y.data.toList) : path_Under.f x y = some (decide (Und x.data.toList y.data.toList)) := by
  obtain ⟨t, ht, hi⟩ := under_eq x y (by have := pth_size hx; omega) (by have := pth_size hy; omega)
  rw [ht]
  refine congrArg some (Bool.eq_iff_iff.2 (hi.trans ?_))
  rw [decide_eq_true_iff]
  obtain ⟨a, ha, _, hja, _, oka⟩ := pth_nil hx
  obtain ⟨b, hb, _, hjb, _, okb⟩ := pth_nil hy
  rw [hja, hjb, prefix_join oka.clean okb.clean]
  constructor
  · rintro ⟨a', b', ha', hb', h1, h2⟩
    obtain rfl := Option.some.inj (ha.symm.trans ha')
    obtain rfl := Option.some.inj (hb.symm.trans hb')
    exact ⟨h1, h2⟩
  · rintro ⟨h1, h2⟩; exact ⟨a, b, ha, hb, h1, h2⟩

theorem putG_eq {l : List En} (hs : Srt l) (x : En) : putG (fun e : En => e.f0) l x = putL l x := by
  obtain ⟨m, hm, hle, hi⟩ := srch hs (pathAt (fun e : En => e.f0) l) (fun i h => by unfold pathAt; rw [List.getElem?_eq_getElem h]; rfl) x.f0
  unfold putG
  rw [hm, putL_eq l hs x]
  have hft : l.filter (fun y => decide (bl (ky y) (ky x))) = l.take m := filter_take _ l m hle fun i h => by rw [decide_eq_true_iff]; exact hi i h
  rw [hft]
  rcases srch_hit hs hi with ⟨_, h1, h2⟩ | ⟨h1, h2⟩
  · have hp : pathAt (fun e : En => e.f0) l m = l[m].f0 := by unfold pathAt; rw [List.getElem?_eq_getElem h1]; rfl
    rw [hp, decide_eq_true h1, decide_eq_true (show Lib.compareBytes l[m].f0.data.toList x.f0.data.toList = 0 from (cb_zero _ _).2 h2), if_pos (by rfl), List.set_eq_take_append_cons_drop, if_pos h1]
    congr 2
    refine (filter_drop _ l (m + 1) h1 fun i h => ?_).symm
    rw [decide_eq_true_iff]
    have hk : ky x = ky l[m] := h2.symm
    constructor
    · intro hmi; rw [hk]; exact hs.get h1 h (by omega)
    · intro hb
      rw [hk] at hb
      by_cases hlt : m < i
      · exact hlt
      · by_cases e : i = m
        · subst e; exact absurd hb (bl_irrefl _)
        · exact absurd hb (bl_asymm (hs.get h h1 (by omega)))
  · have hd : l.filter (fun y => decide (bl (ky x) (ky y))) = l.drop m := filter_drop _ l m hle fun i h => by
      rw [decide_eq_true_iff]
      constructor
      · intro hmi
        rcases bl_tri (ky x) (ky l[i]) with h3 | h3 | h3
        · exact h3
        · exact absurd h3.symm (fnd_none.1 h2 _ (List.getElem_mem h))
        · exact absurd ((hi i h).2 h3) (by omega)
      · intro hb
        by_cases hlt : i < m
        · exact absurd hb (bl_asymm ((hi i h).1 hlt))
        · omega
    rw [hd]
    by_cases h3 : m < l.length
    · have hp : pathAt (fun e : En => e.f0) l m = l[m].f0 := by unfold pathAt; rw [List.getElem?_eq_getElem h3]; rfl
      rw [hp, decide_eq_true h3, decide_eq_false (show ¬ Lib.compareBytes l[m].f0.data.toList x.f0.data.toList = 0 from fun k => h1 ⟨h3, (cb_zero _ _).1 k⟩)]
      rw [if_neg (by decide)]
    · rw [decide_eq_false h3, if_neg (by simp)]
theorem goes_eq {x : En} {a : ByteArray} (hx : Pth (ky x)) (ha : Pth a.data.toList) : goesQ (fun e : En => e.f0) path_Under.f a x = decide (ky x = a.data.toList ∨ Und (ky x) a.data.toList) := by
  unfold goesQ
  rw [lst_eq, under_en hx ha, Option.getD_some, ← Bool.decide_or]
  rfl
theorem filter_goes {t : List En} (ht : ∀ x ∈ t, Pth (ky x)) {a : ByteArray} (ha : Pth a.data.toList) : (t.filter fun x => !goesQ (fun e : En => e.f0) path_Under.f a x) = t.filter fun x => !decide (ky x = a.data.toList ∨ Und (ky x) a.data.toList) :=
  List.filter_congr fun x hx => by rw [goes_eq (ht x hx) ha]
theorem one_eq {t : List En} (ht : Srt t) (hp : ∀ x ∈ t, Pth (ky x)) (e : En) (he : Pth (ky e)) (hl : t.length ≤ 100000) : fold_one.f t e.f0 e.f1 e.f2 = some (oneL t e) := by
  unfold fold_one.f
  rw [if_pos ⟨by omega, List.all_eq_true.2 fun x hx => by rw [under_en (hp x hx) he]; rfl⟩]
  congr 1
  unfold oneG oneL
  have h1 : (t.filter fun x => !hereQ (fun e : En => e.f0) (fun e => e.f1) e.f0 x) = t.filter fun x => !decide (ky x = ky e ∧ x.f1 = 1) := List.filter_congr fun x hx => by
    unfold hereQ; rw [lst_eq]
    congr 1
    exact Bool.eq_iff_iff.2 (by simp [ky])
  by_cases k2 : e.f1 = 2
  · rw [if_pos k2, if_pos k2, h1, putG_eq (ht.filter _)]
    congr 1
    cases e; simp only at k2; rw [k2]
  · rw [if_neg k2, if_neg k2, filter_goes hp he]
    simp only
    by_cases k3 : e.f1 = 3
    · rw [if_pos k3, if_pos k3]; rfl
    · rw [if_neg k3, if_neg k3, putG_eq (ht.filter _)]
      congr 1
      by_cases k4 : e.f1 = 4
      · rw [if_pos k4, if_pos k4]
      · rw [if_neg k4, if_neg k4]
end Go.Proofs.YtjlflmjimibciaaGreatDoor.Th
end

section
namespace Go.Proofs.YtjlflmjimibciaaGreatDoor.Th
open Go Go.RowKit Go.Proofs.YtjlflmjimibciaaGreatDoor.Print Go.Proofs.YtjlflmjimibciaaGreatDoorW.PrintWords
set_option linter.unusedVariables false
set_option linter.unusedSimpArgs false
open Classical
abbrev f0' : En → ByteArray := fun e => e.f0
theorem less_iff (a : ByteArray) (y : En) : lessQ f0' a y = true ↔ ¬ bl (ky y) a.data.toList := by
  unfold lessQ bl ky f0'
  cases Op.bytesLess y.f0.data.toList a.data.toList <;> simp
theorem mput_at {l : List En} (hs : Srt l) (a : ByteArray) : ((l.findIdx? (lessQ f0' a)).getD l.length) ≤ l.length ∧ ∀ i (h : i < l.length), i < ((l.findIdx? (lessQ f0' a)).getD l.length) ↔ bl (ky l[i]) a.data.toList := by
  cases hf : l.findIdx? (lessQ f0' a) with
  | none =>
    rw [Option.getD_none]
    refine ⟨Nat.le_refl _, fun i h => ⟨fun _ => ?_, fun _ => h⟩⟩
    have := List.findIdx?_eq_none_iff.1 hf l[i] (List.getElem_mem h)
    exact Classical.not_not.1 (fun k => by rw [(less_iff a l[i]).2 k] at this; cases this)
  | some m =>
    obtain ⟨hm, hq, hb⟩ := List.findIdx?_eq_some_iff_getElem.1 hf
    rw [Option.getD_some]
    have hq' := (less_iff a l[m]).1 hq
    refine ⟨Nat.le_of_lt hm, fun i h => ⟨fun hi => ?_, fun k => ?_⟩⟩
    · have := hb i hi
      exact Classical.not_not.1 (fun k => this ((less_iff a l[i]).2 k))
    · rcases Nat.lt_trichotomy i m with h1 | h1 | h1
      · exact h1
      · subst h1; exact absurd k hq'
      · exact absurd (bl_trans (hs.get hm h h1) k) hq'
theorem mputG_eq {l : List En} (hs : Srt l) (x : En) (hx : fnd l (ky x) = none) : mputG f0' l x = putL l x := by
  obtain ⟨hle, hi⟩ := mput_at hs x.f0
  unfold mputG
  have hf0 : f0' x = x.f0 := rfl
  rw [hf0]
  generalize (l.findIdx? (lessQ f0' x.f0)).getD l.length = m at hle hi ⊢
  rw [putL_eq l hs x]
  have hft : l.filter (fun y => decide (bl (ky y) (ky x))) = l.take m := filter_take _ l m hle fun i h => by rw [decide_eq_true_iff]; exact hi i h
  have hd : l.filter (fun y => decide (bl (ky x) (ky y))) = l.drop m := filter_drop _ l m hle fun i h => by
    rw [decide_eq_true_iff]
    constructor
    · intro hmi
      rcases bl_tri (ky x) (ky l[i]) with h3 | h3 | h3
      · exact h3
      · exact absurd h3.symm (fnd_none.1 hx _ (List.getElem_mem h))
      · exact absurd ((hi i h).2 h3) (by omega)
    · intro hb
      by_cases hlt : i < m
      · exact absurd hb (bl_asymm ((hi i h).1 hlt))
      · omega
  rw [hft, hd]
theorem set_eq {l : List En} (hs : Srt l) (m : Nat) (h : m < l.length) (x : En) (hk : ky x = ky l[m]) : l.set m x = putL l x := by
  rw [putL_eq l hs x, List.set_eq_take_append_cons_drop, if_pos h]
  congr 1
  · refine (filter_take _ l m (Nat.le_of_lt h) fun i hi => ?_).symm
    rw [decide_eq_true_iff, hk]
    constructor
    · intro hm; exact hs.get hi h hm
    · intro hb
      by_cases hlt : i < m
      · exact hlt
      · by_cases e : i = m
        · subst e; exact absurd hb (bl_irrefl _)
        · exact absurd hb (bl_asymm (hs.get h hi (by omega)))
  · congr 1
    refine (filter_drop _ l (m + 1) h fun i hi => ?_).symm
    rw [decide_eq_true_iff, hk]
    constructor
    · intro hm; exact hs.get h hi (by omega)
    · intro hb
      by_cases hlt : m < i
      · exact hlt
      · by_cases e : i = m
        · subst e; exact absurd hb (bl_irrefl _)
        · exact absurd hb (bl_asymm (hs.get hi h (by omega)))
theorem same_iff (a : ByteArray) (y : En) : sameQ f0' a y = true ↔ ky y = a.data.toList := by
  unfold sameQ f0' ky
  rw [lst_eq, decide_eq_true_iff]
theorem mone_eq {t : List En} (ht : Srt t) (hp : ∀ x ∈ t, Pth (ky x)) (e : En) (he : Pth (ky e)) (hl : t.length ≤ 100000) : merge_One.f t e.f0 e.f1 e.f2 = some (mOneL t e) := by
  unfold merge_One.f
  rw [if_pos ⟨by omega, List.all_eq_true.2 fun x hx => by rw [under_en (hp x hx) he]; rfl⟩]
  congr 1
  unfold moneG mOneL
  by_cases k2 : e.f1 = 2
  · rw [if_pos k2, if_pos k2]
    cases hf : t.findIdx? (sameQ f0' e.f0) with
    | none =>
      have hn : fnd t (ky e) = none := fnd_none.2 fun x hx h => by
        have := List.findIdx?_eq_none_iff.1 hf x hx
        rw [(same_iff e.f0 x).2 h] at this; cases this
      have hee : (⟨e.f0, 2, e.f2⟩ : En) = e := by cases e; simp only at k2; rw [k2]
      show mputG f0' t ⟨e.f0, 2, e.f2⟩ = _
      rw [hn, hee]
      exact mputG_eq ht e hn
    | some i =>
      obtain ⟨hi, hq, _⟩ := List.findIdx?_eq_some_iff_getElem.1 hf
      have hk := (same_iff e.f0 t[i]).1 hq
      have hfd : fnd t (ky e) = some t[i] := by
        have := ht.at_ (List.getElem_mem hi)
        rwa [hk] at this
      have hki : kindAt (fun e : En => e.f1) t i = t[i].f1 := by unfold kindAt; rw [List.getElem?_eq_getElem hi]; rfl
      rw [hfd]
      show (if (kindAt (fun e : En => e.f1) t i == 2 || kindAt (fun e : En => e.f1) t i == 4) = true then t else t.set i ⟨e.f0, 4, ⟨#[]⟩⟩) = _
      rw [hki]
      simp only
      by_cases hh : Hld t[i]
      · rw [if_pos hh, if_pos (by rcases hh with h | h <;> simp [h])]
      · rw [if_neg hh, if_neg (fun k => hh (by simpa [Hld] using k))]
        exact set_eq ht i hi ⟨e.f0, 4, noB⟩ hk.symm
  · rw [if_neg k2, if_neg k2]
    have hflt : (t.filter fun x => !goesQ f0' path_Under.f e.f0 x) = t.filter fun x => !decide (ky x = ky e ∨ Und (ky x) (ky e)) := filter_goes hp he
    show mputG f0' (t.filter fun x => !goesQ f0' path_Under.f e.f0 x) e = _
    rw [hflt]
    refine mputG_eq (ht.filter _) e (fnd_none.2 fun x hx h => ?_)
    have := (List.mem_filter.1 hx).2
    simp [h] at this
theorem mbot_eq (l : List En) (hl : l.length ≤ 100000) : merge_Bottom.f l = some (botL l) := by
  unfold merge_Bottom.f
  rw [if_pos (by omega)]
  congr 1
/-- What Two answers. -/
def twO (low high : List En) (b : Bool) : List En := if b = true then botL (twoL low high) else twoL low high
theorem twO_lr {low high : List En} (h1 : LR low) (h2 : LR high) (b : Bool) (h : (twO low high b).length ≤ 64) : LR (twO low high b) := by
  refine ⟨?_, h⟩
  unfold twO
  split
  · exact (botL_tre (twoL_lyr h1.1 h2.1)).lyr
  · exact twoL_lyr h1.1 h2.1
theorem twO_len (low high : List En) (b : Bool) : (twO low high b).length ≤ low.length + high.length := by
  have h1 := twoL_len low high
  have h2 := botL_len (twoL low high)
  unfold twO
  split <;> omega
end Go.Proofs.YtjlflmjimibciaaGreatDoor.Th
end

section
namespace Go.Proofs.YtjlflmjimibciaaGreatDoor.Th
open Go Go.RowKit Go.Proofs.YtjlflmjimibciaaGreatDoor.Print Go.Proofs.YtjlflmjimibciaaGreatDoorW.PrintWords
set_option linter.unusedVariables false
set_option linter.unusedSimpArgs false
theorem differ (a b : En) : (!((a.f0.toList) == (b.f0.toList)) || (!((a.f1) == (b.f1)) || (!((a.f2.toList) == (b.f2.toList))))) = true ↔ a ≠ b := by
  rw [lst_eq, lst_eq]
  constructor
  · rintro h rfl; simp at h
  · intro h
    by_cases h0 : ky a = ky b
    · by_cases h1 : a.f1 = b.f1
      · by_cases h2 : da a = da b
        · exact absurd (en_ext h0 h1 h2) h
        · unfold da at h2; simp [h2]
      · simp [h1]
    · unfold ky at h0; simp [h0]
open Classical in
theorem same_l0 (a b : List En) (hab : a.length = b.length) (hl : a.length ≤ 3000) : ∀ (n i k : Nat), i + n = a.length → n < k → shalelaw09_Same.l0 k a b (i : Int) = some (if a.drop i = b.drop i then 1 else 0) := by
  intro n
  induction n with
  | zero =>
    intro i k hn hk
    obtain ⟨k, rfl⟩ := Nat.exists_eq_add_of_le' (show 1 ≤ k by omega)
    rw [shalelaw09_Same.l0, if_neg (by omega), List.drop_of_length_le (by omega), List.drop_of_length_le (by omega), if_pos rfl]
  | succ n ih =>
    intro i k hn hk
    obtain ⟨k, rfl⟩ := Nat.exists_eq_add_of_le' (show 1 ≤ k by omega)
    have hi : i < a.length := by omega
    have hj : i < b.length := by omega
    rw [shalelaw09_Same.l0, if_pos (by omega), if_pos (by omega), if_pos (by omega), rd_get a i hi, rd_get b i hj, wrap_up i (by omega), ih (i + 1) k (by omega) (by omega), List.drop_eq_getElem_cons hi, List.drop_eq_getElem_cons hj]
    by_cases h1 : a[i] = b[i]
    · rw [if_neg (fun h => (differ _ _).1 h h1)]
      congr 1
      exact ifc (by rw [h1]; exact ⟨fun h => by rw [h], fun h => (List.cons.inj h).2⟩)
    · rw [if_pos ((differ _ _).2 h1), if_neg (fun h => h1 (List.cons.inj h).1)]
open Classical in
theorem same_eq (a b : List En) (k : Nat) (hl : a.length ≤ 2000) (hk : 2100 ≤ k) : shalelaw09_Same.f k a b = some (if a = b then 1 else 0) := by
  unfold shalelaw09_Same.f
  by_cases hab : a.length = b.length
  · rw [if_pos (by omega)]
    have h := same_l0 a b hab (by omega) a.length 0 k (by omega) (by omega)
    rwa [List.drop_zero, List.drop_zero] at h
  · rw [if_neg (by omega), if_neg (fun h => hab (by rw [h]))]
end Go.Proofs.YtjlflmjimibciaaGreatDoor.Th
end

section
namespace Go.Proofs.YtjlflmjimibciaaGreatDoor.Th
open Go Go.RowKit Go.Proofs.YtjlflmjimibciaaGreatDoor.Print Go.Proofs.YtjlflmjimibciaaGreatDoorW.PrintWords
set_option linter.unusedVariables false
set_option linter.unusedSimpArgs false
theorem lk_up (L : List (ByteArray × Bool)) (p q : ByteArray) (v : Bool) : lk (up L p v) q = if p = q then v else lk L q := by
  induction L with
  | nil => simp only [up, lk]
  | cons x r ih =>
    obtain ⟨a, y⟩ := x
    simp only [up]
    by_cases h : a = p
    · rw [if_pos h]; simp only [lk]
      by_cases h2 : p = q
      · rw [if_pos h2, if_pos h2]
      · rw [if_neg h2, if_neg h2, if_neg (by rw [h]; exact h2)]
    · rw [if_neg h]; simp only [lk]
      by_cases h2 : a = q
      · rw [if_pos h2, if_pos h2, if_neg (fun h3 => h (h2.trans h3.symm))]
      · rw [if_neg h2, if_neg h2, ih]
structure Lks (L : List (ByteArray × Bool)) (q : List En) : Prop where
  root : ∀ p : ByteArray, p.data.toList = [47] → lk L p = true
  at_ : ∀ p : ByteArray, p.data.toList ≠ [47] → (lk L p = true ↔ ∃ y ∈ q, ky y = p.data.toList ∧ Hld y)
theorem not_root {p : By} (h : Pth p) : p ≠ [47] := fun e => by
  obtain ⟨l, h1, h2⟩ := h
  rw [e, splitF_root] at h1
  exact h2 (Option.some.inj h1).symm
theorem Lks.step {L : List (ByteArray × Bool)} {q : List En} (h : Lks L q) {x : En} (hx : Nxt q x) (hq : Srt q) : Lks (up L x.f0 (x.f1 == 2 || x.f1 == 4)) (q ++ [x]) := by
  have hn := not_root hx.rt.1
  refine ⟨fun p hp => ?_, fun p hp => ?_⟩
  · rw [lk_up, if_neg (fun e => hn (by unfold ky; rw [e]; exact hp))]; exact h.root p hp
  · rw [lk_up]
    by_cases e : x.f0 = p
    · rw [if_pos e, Hld.beq, decide_eq_true_iff]
      constructor
      · intro hh; exact ⟨x, by simp, by unfold ky; rw [e], hh⟩
      · rintro ⟨y, hy, hk, hh⟩
        rcases List.mem_append.1 hy with hy | hy
        · have := hq.last hx.lt y hy
          rw [hk, ← e] at this
          exact absurd this (bl_irrefl _)
        · rwa [List.mem_singleton.1 hy] at hh
    · rw [if_neg e, h.at_ p hp]
      constructor
      · rintro ⟨y, hy, hk⟩; exact ⟨y, List.mem_append_left _ hy, hk⟩
      · rintro ⟨y, hy, hk, hh⟩
        rcases List.mem_append.1 hy with hy | hy
        · exact ⟨y, hy, hk, hh⟩
        · rw [List.mem_singleton.1 hy] at hk
          exact absurd (by_ext hk) e
abbrev tG := treeG (fun x : En => x.f0) (fun x => x.f1) (fun x => x.f2) entry_Right.f path_Parent.f
theorem dirB_eq {x : En} (h : Rt x) : ∃ d, dirB (fun x : En => x.f0) path_Parent.f x = d ∧ (parB (ky x) = [] ∧ d.data.toList = [47] ∨ parB (ky x) ≠ [] ∧ parB (ky x) ≠ [47] ∧ d.data.toList = parB (ky x)) := by
  obtain ⟨d, c, hd, hh⟩ := dir_of h
  exact ⟨d, by unfold dirB; rw [hd]; rfl, hh⟩
theorem bad_iff {q : List En} {L : List (ByteArray × Bool)} (hL : Lks L q) (x : En) (hb : x.f0.size ≤ 9223372036854775807) :
    badB (fun x : En => x.f0) (fun x => x.f1) (fun x => x.f2) entry_Right.f path_Parent.f q.getLast? L x = false ↔ Nxt q x ∧ x.f1 ≤ 2 := by
  unfold badB okB
  rw [right_en x hb, Option.getD_some]
  by_cases hrt : Rt x
  · rw [decide_eq_true hrt]
    obtain ⟨d, hd, hdd⟩ := dirB_eq hrt
    rw [hd]
    have hl : lk L d = true ↔ parB (ky x) = [] ∨ ∃ y ∈ q, ky y = parB (ky x) ∧ Hld y := by
      rcases hdd with ⟨h0, h1⟩ | ⟨h0, h0', h1⟩
      · simp [hL.root d h1, h0]
      · rw [hL.at_ d (by rw [h1]; exact h0'), h1]; simp [h0]
    cases hg : q.getLast? with
    | none =>
      simp only [Bool.or_eq_false_iff]
      constructor
      · rintro ⟨⟨⟨_, h1⟩, h2⟩, h3⟩
        exact ⟨⟨hrt, (fun y hy => by rw [hg] at hy; cases hy), hl.1 (by simpa using h2)⟩, by simpa using h1⟩
      · rintro ⟨⟨_, h1, h2⟩, h3⟩
        exact ⟨⟨⟨rfl, by simpa using h3⟩, by rw [hl.2 h2]; rfl⟩, trivial⟩
    | some z =>
      simp only [Bool.or_eq_false_iff]
      constructor
      · rintro ⟨⟨⟨_, h1⟩, h2⟩, h3⟩
        exact ⟨⟨hrt, (fun y hy => by rw [hg] at hy; obtain rfl := Option.some.inj hy; simpa [bl, ky] using h3), hl.1 (by simpa using h2)⟩, by simpa using h1⟩
      · rintro ⟨⟨_, h1, h2⟩, h3⟩
        refine ⟨⟨⟨rfl, by simpa using h3⟩, by rw [hl.2 h2]; rfl⟩, ?_⟩
        have := h1 z hg
        unfold bl ky at this
        rw [this]; rfl
  · rw [decide_eq_false hrt]
    constructor
    · intro h; simp at h
    · rintro ⟨k, _⟩; exact absurd k.rt hrt
theorem treeG_iff : ∀ (r q : List En) (L : List (ByteArray × Bool)), Lks L q → Tre q → (∀ e ∈ r, e.f0.size ≤ 9223372036854775807) → (tG q.getLast? L r = true ↔ Tre (q ++ r))
  | [], q, L, _, hq, _ => by unfold tG; rw [treeG, List.append_nil]; simp [hq]
  | x :: r, q, L, hL, hq, hb => by
    unfold tG
    rw [treeG]
    have h1 := bad_iff hL x (hb x (by simp))
    cases hbd : badB (fun x : En => x.f0) (fun x => x.f1) (fun x => x.f2) entry_Right.f path_Parent.f q.getLast? L x with
    | true =>
      rw [if_pos rfl]
      constructor
      · intro h; cases h
      · intro h
        have := h1.2 ⟨h.lyr.nxt, h.kd x (by simp)⟩
        rw [hbd] at this; cases this
    | false =>
      obtain ⟨hn, hk⟩ := h1.1 hbd
      rw [if_neg (by decide)]
      have ht : Tre (q ++ [x]) := ⟨(hq.lyr.snoc x).2 hn, fun e he => by
        rcases List.mem_append.1 he with he | he
        · exact hq.kd e he
        · rw [List.mem_singleton.1 he]; exact hk⟩
      have := treeG_iff r (q ++ [x]) _ (hL.step hn hq.lyr.srt) ht (fun e he => hb e (by simp [he]))
      rw [List.getLast?_concat, List.append_assoc] at this
      exact this
open Classical in
theorem tree_eq (l : List En) (hb : ∀ e ∈ l, e.f0.size ≤ 9223372036854775807) : fold_Tree.f l = some (decide (Tre l ∧ l.length ≤ 1024)) := by
  unfold fold_Tree.f
  rw [if_pos (List.all_eq_true.2 fun x hx => by rw [right_en x (hb x hx), parent_some x (hb x hx)]; rfl)]
  congr 1
  unfold treeF
  by_cases hl : l.length ≤ 1024
  · rw [if_neg (by omega)]
    have h := treeG_iff l [] [(⟨#[47]⟩, true)] ⟨fun p hp => by
      have : (⟨#[47]⟩ : ByteArray) = p := by_ext hp.symm
      rw [lk, if_pos this], fun p hp => by
      have : ¬ (⟨#[47]⟩ : ByteArray) = p := fun e => hp (by rw [← e])
      rw [lk, if_neg this, lk]; simp⟩ Tre.nil hb
    rw [List.nil_append] at h
    refine Bool.eq_iff_iff.2 (h.trans ?_)
    rw [decide_eq_true_iff]
    exact ⟨fun k => ⟨k, hl⟩, fun k => k.1⟩
  · rw [if_pos (by omega), decide_eq_false (fun k => hl k.2)]
end Go.Proofs.YtjlflmjimibciaaGreatDoor.Th
end

section
namespace Go.Proofs.YtjlflmjimibciaaGreatDoor.Th
open Go Go.RowKit Go.Proofs.YtjlflmjimibciaaGreatDoor.Print Go.Proofs.YtjlflmjimibciaaGreatDoorW.PrintWords
set_option linter.unusedVariables false
set_option linter.unusedSimpArgs false
open Classical
def TR (l : List En) : Prop := Tre l ∧ l.length ≤ 1024
theorem tr_eq (l : List En) (hb : ∀ e ∈ l, e.f0.size ≤ 9223372036854775807) : fold_Tree.f l = some (decide (TR l)) :=
  (tree_eq l hb).trans (congrArg some (decide_eq_decide.2 Iff.rfl))
noncomputable def ovX (t l : List En) : List En := if TR t ∧ LR l ∧ (overL t l).length ≤ 1024 then overL t l else []
theorem over_l0 (t l : List En) (ht : TR t) (hl : LR l) : ∀ (n i k : Nat), i + n = l.length → n < k → fold_Over.l0 k (overL t (l.take i)) l (l.length : Int) (i : Int) = some (ovX t l) := by
  obtain ⟨ht1, ht2⟩ := ht
  obtain ⟨hl1, hl2⟩ := hl
  intro n
  induction n with
  | zero =>
    intro i k hn hk
    obtain ⟨k, rfl⟩ := Nat.exists_eq_add_of_le' (show 1 ≤ k by omega)
    have hT := overL_tre ht1 hl1
    rw [fold_Over.l0, if_neg (by omega), List.take_of_length_le (by omega), tr_eq _ hT.lyr.b, Option.bind_some]
    unfold ovX
    by_cases hn : (overL t l).length ≤ 1024
    · rw [decide_eq_true (show TR (overL t l) from ⟨hT, hn⟩), if_pos rfl, if_pos ⟨⟨ht1, ht2⟩, ⟨hl1, hl2⟩, hn⟩]
    · rw [decide_eq_false (show ¬ TR (overL t l) from fun h => hn h.2), if_neg (by decide), if_neg (fun h => hn h.2.2)]
  | succ n ih =>
    intro i k hn hk
    obtain ⟨k, rfl⟩ := Nat.exists_eq_add_of_le' (show 1 ≤ k by omega)
    have hi : i < l.length := by omega
    have hli : Lyr (l.take i) := Lyr.pre (r := l.drop i) (by rwa [List.take_append_drop])
    have hT := overL_tre ht1 hli
    have hlen := overL_len t (l.take i)
    rw [List.length_take] at hlen
    rw [fold_Over.l0, if_pos (by omega), if_pos (by omega), if_pos (by omega), rd_get l i hi, one_eq hT.lyr.srt (fun x hx => (hT.lyr.rt x hx).1) l[i] (hl1.rt _ (List.getElem_mem hi)).1 (by omega), Option.bind_some, wrap_up i (by omega), ← overL_snoc, ← List.take_succ_eq_append_getElem hi]
    exact ih (i + 1) k (by omega) (by omega)
theorem over_eq (t l : List En) (k : Nat) (hk : 300 ≤ k) (ht : ∀ e ∈ t, e.f0.size ≤ 9223372036854775807) (hl : ∀ e ∈ l, e.f0.size ≤ 9223372036854775807) : fold_Over.f k t l = some (ovX t l) := by
  obtain ⟨k, rfl⟩ := Nat.exists_eq_add_of_le' (show 1 ≤ k by omega)
  unfold fold_Over.f
  rw [tr_eq t ht, Option.bind_some]
  by_cases hT : TR t
  · rw [decide_eq_true hT, if_pos rfl, lr_eq l hl (k + 1) (by omega), Option.bind_some]
    by_cases hL : LR l
    · rw [decide_eq_true hL, Bool.not_true, fold_Over.j0, if_neg (by decide)]
      unfold api_Entry.f
      have := hT.2
      rw [if_pos (by omega), Option.bind_some]
      have := over_l0 t l hT hL l.length 0 k (by omega) (by have := hL.2; omega)
      rwa [List.take_zero, overL_nil] at this
    · rw [decide_eq_false hL, Bool.not_false, fold_Over.j0, if_pos rfl]
      unfold ovX
      rw [if_neg (fun h => hL h.2.1)]
  · rw [decide_eq_false hT, if_neg (by decide), fold_Over.j0, if_pos rfl]
    unfold ovX
    rw [if_neg (fun h => hT h.1)]
def SR (s : List (List En)) : Prop := s.length ≤ 9 ∧ ∀ l ∈ s, LR l
noncomputable def stX (s : List (List En)) : List En := if SR s then stkL s else []
theorem SR.len {s : List (List En)} (h : ∀ l ∈ s, LR l) : (stkL s).length ≤ s.length * 64 := stkL_len s 64 fun l hl => (h l hl).2
theorem stack_l0 (s : List (List En)) (hs : s.length ≤ 9) (hb : ∀ l ∈ s, ∀ e ∈ l, e.f0.size ≤ 9223372036854775807) : ∀ (n i k : Nat), i + n = s.length → n + 400 < k → (∀ l ∈ s.take i, LR l) → fold_Stack.l0 k (stkL (s.take i)) s (s.length : Int) (i : Int) = some (stX s) := by
  intro n
  induction n with
  | zero =>
    intro i k hn hk hq
    obtain ⟨k, rfl⟩ := Nat.exists_eq_add_of_le' (show 1 ≤ k by omega)
    rw [List.take_of_length_le (by omega)] at hq ⊢
    rw [fold_Stack.l0, if_neg (by omega)]
    unfold stX
    rw [if_pos ⟨hs, hq⟩]
  | succ n ih =>
    intro i k hn hk hq
    obtain ⟨k, rfl⟩ := Nat.exists_eq_add_of_le' (show 1 ≤ k by omega)
    have hi : i < s.length := by omega
    have hm := List.getElem_mem hi
    rw [fold_Stack.l0, if_pos (by omega), if_pos (by omega), if_pos (by omega), rdL_get s i hi, lr_eq _ (hb _ hm) k (by omega), Option.bind_some]
    by_cases hL : LR s[i]
    · have hT := stkL_tre (s := s.take i) fun l hl => (hq l hl).1
      have hlen := SR.len hq
      rw [List.length_take] at hlen
      have hlen2 := overL_len (stkL (s.take i)) s[i]
      have hq2 : ∀ l ∈ s.take (i + 1), LR l := fun l hl => by
        rw [List.take_succ_eq_append_getElem hi] at hl
        rcases List.mem_append.1 hl with hl | hl
        · exact hq l hl
        · rw [List.mem_singleton.1 hl]; exact hL
      rw [decide_eq_true hL, if_pos rfl, over_eq _ _ k (by omega) hT.lyr.b (hb _ hm), Option.bind_some, wrap_up i (by omega)]
      have : ovX (stkL (s.take i)) s[i] = stkL (s.take (i + 1)) := by
        unfold ovX
        have := hL.2
        rw [if_pos ⟨⟨hT, by omega⟩, hL, by omega⟩, List.take_succ_eq_append_getElem hi, stkL_snoc]
      rw [this]
      exact ih (i + 1) k (by omega) (by omega) hq2
    · rw [decide_eq_false hL, if_neg (by decide)]
      unfold stX
      rw [if_neg (fun h => hL (h.2 _ hm))]
theorem stack_eq (s : List (List En)) (hb : ∀ l ∈ s, ∀ e ∈ l, e.f0.size ≤ 9223372036854775807) (k : Nat) (hk : 500 ≤ k) : fold_Stack.f k s = some (stX s) := by
  unfold fold_Stack.f
  by_cases hl : s.length ≤ 9
  · rw [if_neg (by omega)]
    have := stack_l0 s hl hb s.length 0 k (by omega) (by omega) (by rw [List.take_zero]; intro l hl; cases hl)
    rwa [List.take_zero] at this
  · rw [if_pos (by omega)]
    unfold stX
    rw [if_neg (fun h => hl h.1)]
theorem stX_tre (s : List (List En)) : Tre (stX s) ∧ (stX s).length ≤ 576 := by
  unfold stX
  split
  · rename_i h
    have := SR.len h.2
    have h2 := h.1
    exact ⟨stkL_tre fun l hl => (h.2 l hl).1, by omega⟩
  · exact ⟨Tre.nil, by simp⟩
end Go.Proofs.YtjlflmjimibciaaGreatDoor.Th
end
