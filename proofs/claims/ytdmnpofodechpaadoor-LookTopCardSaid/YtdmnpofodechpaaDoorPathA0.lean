/- What the printed functions of paths answer, in plain words. -/
import Derived.Test.YtdmnpofodechpaaDoorThP
import Derived.Test.YtdmnpofodechpaaDoorPrint3
namespace Go.Proofs.YtdmnpofodechpaaDoor.Th
open Go Go.RowKit Go.Proofs.YtdmnpofodechpaaDoor.Print Go.Proofs.YtdmnpofodechpaaDoorW.PrintWords
set_option linter.unusedVariables false
set_option linter.unusedSimpArgs false

def B (l : By) : ByteArray := ⟨l.toArray⟩
theorem B_data (l : By) : (B l).data.toList = l := by simp [B]
theorem B_list (l : By) : (B l).toList = l := by rw [Lib.toList_data, B_data]
theorem B_eta (b : ByteArray) : B b.data.toList = b := by_ext (B_data _)
theorem B_size (l : By) : (B l).size = l.length := rfl
theorem size_data (b : ByteArray) : b.size = b.data.toList.length := rfl
theorem list_data (b : ByteArray) : b.toList = b.data.toList := Lib.toList_data b
def nm (p : ByteArray) : Option (List By) := splitF p.data.toList
theorem split_eq (p : ByteArray) (h : p.size ≤ 9223372036854775807) : path_Split.f p = some (match nm p with | some l => (l.map B, []) | none => ([], [2])) := by
  unfold path_Split.f; rw [if_pos h]; rfl
theorem deep_nm (p : ByteArray) (h : p.size ≤ 9223372036854775807) : path_Deep.f p = some (match nm p with | some l => (l.length : Int) | none => -1) := by
  unfold path_Deep.f
  rw [split_eq p h, Option.bind_some]
  cases nm p with
  | none => rfl
  | some l => dsimp only; rw [if_pos (show ([] : List Int).isEmpty = true from rfl), List.length_map]

/-! ### slashes -/
theorem pieces_len : ∀ l : By, (pieces l).length = l.count 47 + 1
  | [] => rfl
  | b :: l => by
    have ih := pieces_len l
    rw [pieces]
    by_cases h : b = 47
    · rw [if_pos h, List.length_cons, ih, h, List.count_cons_self]
    · rw [if_neg h, List.count_cons_of_ne h, ← ih]
      cases hp : pieces l with
      | nil => exact absurd hp (pieces_ne l)
      | cons p ps => rfl
theorem count_joinB (L : List By) : (joinB L).count 47 = L.length + (L.map fun n => n.count 47).sum := by
  induction L with
  | nil => rfl
  | cons n L ih => rw [joinB_cons, List.cons_append, List.count_cons_self, List.count_append, ih]; simp; omega
theorem count_zero {n : By} (h : (47 : UInt8) ∉ n) : n.count 47 = 0 := List.count_eq_zero.2 h
theorem sum_zero {L : List By} (h : (L.map fun n => n.count 47).sum = 0) : ∀ n ∈ L, (47 : UInt8) ∉ n := by
  induction L with
  | nil => intro n hn; cases hn
  | cons m L ih =>
    rw [List.map_cons, List.sum_cons] at h
    intro n hn
    rcases List.mem_cons.1 hn with rfl | hn
    · exact List.count_eq_zero.1 (by omega)
    · exact ih (by omega) n hn
theorem sum_clean {L : List By} (h : ∀ n ∈ L, (47 : UInt8) ∉ n) : (L.map fun n => n.count 47).sum = 0 := by
  induction L with
  | nil => rfl
  | cons m L ih => rw [List.map_cons, List.sum_cons, ih (fun n hn => h n (by simp [hn])), count_zero (h m (by simp))]
theorem joinB_clean {a b : List By} (ha : ∀ n ∈ a, (47 : UInt8) ∉ n) (hb : ∀ n ∈ b, (47 : UInt8) ∉ n) (h : joinB a = joinB b) : a = b := by
  cases a with
  | nil => cases b with
    | nil => rfl
    | cons n b => simp [joinB_nil, joinB_cons] at h
  | cons n a =>
    cases b with
    | nil => simp [joinB_nil, joinB_cons] at h
    | cons m b =>
      rw [joinB_cons, joinB_cons, List.cons_append, List.cons_append] at h
      injection h with _ h
      have h1 := pieces_join n a (ha n (by simp)) (fun x hx => ha x (by simp [hx]))
      have h2 := pieces_join m b (hb m (by simp)) (fun x hx => hb x (by simp [hx]))
      rw [h, h2] at h1; exact h1.symm
theorem pieces_clean_all : ∀ (l : By) (n : By), n ∈ pieces l → (47 : UInt8) ∉ n
  | [], n, h => by simp [pieces] at h; subst h; simp
  | b :: l, n, h => by
    have ih := pieces_clean_all l
    rw [pieces] at h
    by_cases hb : b = 47
    · rw [if_pos hb] at h
      rcases List.mem_cons.1 h with rfl | h
      · simp
      · exact ih n h
    · rw [if_neg hb] at h
      cases hp : pieces l with
      | nil => exact absurd hp (pieces_ne l)
      | cons p ps =>
        rw [hp] at h
        rcases List.mem_cons.1 h with rfl | h
        · intro hm
          rcases List.mem_cons.1 hm with e | hm
          · exact hb e.symm
          · exact ih p (by rw [hp]; simp) hm
        · exact ih n (by rw [hp]; simp [h])
theorem Okn.clean {L : List By} (h : Okn L) : ∀ n ∈ L, (47 : UInt8) ∉ n := fun n hn => nameL_slash (h.2 n hn)
theorem split_join_len {L l' : List By} (hne : L ≠ []) (h : splitF (joinB L) = some l') (hl : l'.length = L.length) : l' = L ∧ Okn L := by
  rcases splitF_some h with ⟨_, rfl⟩ | ⟨e, _, ok⟩
  · exact absurd (List.eq_nil_of_length_eq_zero hl.symm) hne
  · have h1 := congrArg (List.count 47) e
    rw [count_joinB, count_joinB, sum_clean ok.clean, hl] at h1
    have := joinB_clean (sum_zero (L := L) (by omega)) ok.clean e
    subst this
    exact ⟨rfl, ok⟩

/-! ### Join -/
instance (L : List By) : Decidable (Okn L) := inferInstanceAs (Decidable (_ ∧ ∀ n ∈ L, nameL n = true))
def joinR (L : List By) : ByteArray × List Int := if L = [] then (B [47], []) else if Okn L then (B (joinB L), []) else (B [], [2])
theorem joinB_join {L : List By} (h : L ≠ []) : joinB L = 47 :: Lib.join L [47] := by
  cases L with
  | nil => exact absurd rfl h
  | cons x r =>
    rw [Lib.join_cons, joinB_cons, List.cons_append]
    congr 2
theorem data_map_B (L : List By) : (L.map B).map (fun b => b.data.toList) = L := by
  rw [List.map_map]
  conv => rhs; rw [← List.map_id L]
  exact List.map_congr_left fun x _ => B_data x
theorem join_eq (l : List ByteArray) (L : List By) (hL : l.map (fun b => b.data.toList) = L) (hb : L.length ≤ 6 → (joinB L).length ≤ 140737488355328) : path_Join.f l = some (joinR L) := by
  have hlen : l.length = L.length := by rw [← hL, List.length_map]
  unfold path_Join.f joinR
  by_cases h0 : L = []
  · have : l.length = 0 := by rw [hlen, h0]; rfl
    rw [if_pos (by omega), if_pos h0]; rfl
  · have hl0 : L.length ≠ 0 := fun e => h0 (List.eq_nil_of_length_eq_zero e)
    rw [if_neg (by omega), if_neg h0]
    by_cases h6 : L.length ≤ 6
    · have hjl := hb h6
      have hj := joinB_join h0
      have hjj := congrArg List.length hj
      rw [List.length_cons] at hjj
      rw [if_neg (by omega)]
      unfold strings_Join.f
      have hL' : (l.map fun x => x.data.toList) = L := hL
      rw [hL']
      have h47 : (⟨#[47]⟩ : ByteArray).data.toList = [47] := rfl
      rw [h47, if_pos ⟨by omega, by omega⟩, Option.bind_some]
      have hsz : (⟨(Lib.join L [47]).toArray⟩ : ByteArray).size = (Lib.join L [47]).length := rfl
      rw [if_pos (by rw [hsz]; omega)]
      have hp : (⟨#[47]⟩ : ByteArray) ++ (⟨(Lib.join L [47]).toArray⟩ : ByteArray) = B (joinB L) := by
        apply by_ext; rw [B_data, hj]; simp
      rw [hp, split_eq _ (by rw [B_size]; omega), Option.bind_some]
      unfold nm
      rw [B_data]
      by_cases ok : Okn L
      · rw [splitF_join ok h0, if_pos ok]
        dsimp only
        rw [if_pos (show ([] : List Int).isEmpty = true from rfl), if_pos (by rw [List.length_map, hlen])]
      · rw [if_neg ok]
        cases hs : splitF (joinB L) with
        | none => dsimp only; rw [if_neg (by decide)]; rfl
        | some l' =>
          dsimp only
          rw [if_pos (show ([] : List Int).isEmpty = true from rfl), if_neg]
          · rfl
          · rw [List.length_map, hlen]
            intro e
            exact ok (split_join_len h0 hs (by omega)).2
    · rw [if_pos (by omega), if_neg (fun k => h6 k.1)]; rfl
theorem nm_len {p : ByteArray} {l : List By} (h : nm p = some l) : p.size ≤ 54 ∧ l.length ≤ 6 := by
  rcases splitF_some h with ⟨e, rfl⟩ | ⟨e, _, ok⟩
  · rw [size_data, e]; exact ⟨by decide, by decide⟩
  · rw [size_data, e]; exact ⟨joinB_len ok, ok.1⟩
theorem nm_ok {p : ByteArray} {l : List By} (h : nm p = some l) : Okn l := by
  rcases splitF_some h with ⟨e, rfl⟩ | ⟨e, _, ok⟩
  · exact ⟨by decide, fun n hn => by cases hn⟩
  · exact ok
/-- The path of names. -/
def pathB (L : List By) : ByteArray := if L = [] then B [47] else B (joinB L)
theorem nm_pathB {L : List By} (h : Okn L) : nm (pathB L) = some L := by
  unfold pathB nm
  by_cases e : L = []
  · rw [if_pos e, B_data, e]; rfl
  · rw [if_neg e, B_data]; exact splitF_join h e
theorem nm_path {p : ByteArray} {l : List By} (h : nm p = some l) : p = pathB l := by
  unfold pathB
  rcases splitF_some h with ⟨e, rfl⟩ | ⟨e, hne, ok⟩
  · rw [if_pos rfl]; apply by_ext; rw [e, B_data]
  · rw [if_neg hne]; apply by_ext; rw [e, B_data]
theorem joinR_ok {L : List By} (h : Okn L) : joinR L = (pathB L, []) := by
  unfold joinR pathB
  by_cases e : L = []
  · rw [if_pos e, if_pos e]
  · rw [if_neg e, if_neg e, if_pos h]
theorem joinR_not {L : List By} (h : ¬ Okn L) : joinR L = (B [], [2]) := by
  unfold joinR
  rw [if_neg (fun e => h (by rw [e]; exact ⟨by decide, fun n hn => by cases hn⟩)), if_neg h]
theorem join_ok {L : List By} (h : Okn L) : path_Join.f (L.map B) = some (pathB L, []) := by
  rw [join_eq (L.map B) L (data_map_B L) (fun _ => by have := joinB_len h; omega), joinR_ok h]

/-! ### Parent -/
def parR (p : ByteArray) : ByteArray × ByteArray × List Int := match nm p with
  | none => (B [], B [], [2])
  | some l => if h : l = [] then (B [], B [], [1]) else (pathB l.dropLast, B (l.getLast h), [])
theorem okn_take {L : List By} (h : Okn L) (n : Nat) : Okn (L.take n) := ⟨by rw [List.length_take]; have := h.1; omega, fun m hm => h.2 m (List.mem_of_mem_take hm)⟩
theorem rdOf_get (l : List ByteArray) (i : Nat) (h : i < l.length) : rdOf ByteArray.empty l (i : Int) = l[i] := by
  unfold rdOf; rw [Int.toNat_natCast, List.getD_eq_getElem?_getD, List.getElem?_eq_getElem h]; rfl
theorem parent_eq (p : ByteArray) (h : p.size ≤ 9223372036854775807) : path_Parent.f p = some (parR p) := by
  unfold path_Parent.f parR
  rw [split_eq p h, Option.bind_some]
  cases hn : nm p with
  | none => dsimp only; rw [if_neg (by decide)]; rfl
  | some l =>
    dsimp only
    rw [if_pos (show ([] : List Int).isEmpty = true from rfl)]
    by_cases h0 : l = []
    · subst h0; rw [if_pos (by rfl), dif_pos rfl]; rfl
    · have hl : 0 < l.length := List.length_pos_iff.2 h0
      have h6 := (nm_len hn).2
      have hw : wrap64 (((l.map B).length : Int) - 1) = ((l.length - 1 : Nat) : Int) := by
        rw [List.length_map]; unfold wrap64; omega
      rw [hw, dif_neg h0, if_neg (by rw [List.length_map]; omega), if_pos (by omega), if_pos (by rw [List.length_map]; omega), Int.toNat_natCast]
      have ht : (l.map B).take (l.length - 1) = (l.dropLast).map B := by rw [List.dropLast_eq_take, List.map_take]
      have hok : Okn l.dropLast := by rw [List.dropLast_eq_take]; exact okn_take (nm_ok hn) _
      rw [ht, join_ok hok, Option.bind_some, if_pos (by rw [List.length_map]; omega)]
      rw [rdOf_get _ _ (by rw [List.length_map]; omega)]
      congr 2
      rw [List.getElem_map, List.getLast_eq_getElem]

theorem parR_none {p : ByteArray} (h : nm p = none) : parR p = (B [], B [], [2]) := by unfold parR; rw [h]
theorem parR_root {p : ByteArray} (h : nm p = some []) : parR p = (B [], B [], [1]) := by unfold parR; rw [h]; rfl
theorem parR_some {p : ByteArray} {l : List By} (h : nm p = some l) (hl : l ≠ []) : parR p = (pathB l.dropLast, B (l.getLast hl), []) := by unfold parR; rw [h]; dsimp only; rw [dif_neg hl]
end Go.Proofs.YtdmnpofodechpaaDoor.Th
