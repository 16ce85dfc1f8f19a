/- PathParents, PathOrder, PathNames, PathBack in plain words: the printed functions of the laws return true. -/
import Derived.Test.YtklcceccadlgkaaDoorPathA
import Derived.Test.YtklcceccadlgkaaDoorPrint2
import Derived.Test.YtklcceccadlgkaaDoorPrint1
import Derived.Test.YtklcceccadlgkaaDoorPrint2
import Derived.Test.YtklcceccadlgkaaDoorPrint6
namespace Go.Proofs.YtklcceccadlgkaaDoor.Th
open Go Go.RowKit Go.Proofs.YtklcceccadlgkaaDoor.Print Go.Proofs.YtklcceccadlgkaaDoorW.PrintWords
set_option linter.unusedVariables false
set_option linter.unusedSimpArgs false

theorem awake3 : shalelaw03_awake.f = some true := by kernel_rfl
theorem code_nil : fail_Code.f [] = some 0 := rfl
theorem code_one (c : Int) : fail_Code.f [c] = some c := rfl
theorem name_f (b : ByteArray) : path_Name.f b = some (nameL b.data.toList) := rfl
theorem deep_some {p : ByteArray} {l : List By} (h : nm p = some l) : path_Deep.f p = some (l.length : Int) := by
  rw [deep_nm p (by have := (nm_len h).1; omega), h]
theorem under_true {p d : ByteArray} (hp : p.size ≤ 200) (hd : d.size ≤ 200) (h : UndN p d) : path_Under.f p d = some true := by
  obtain ⟨t, ht, hi⟩ := under_eq p d (by omega) (by omega)
  rw [ht, hi.2 h]
theorem under_false {p d : ByteArray} (hp : p.size ≤ 200) (hd : d.size ≤ 200) (h : ¬ UndN p d) : path_Under.f p d = some false := by
  obtain ⟨t, ht, hi⟩ := under_eq p d (by omega) (by omega)
  rw [ht]
  cases t with
  | false => rfl
  | true => exact absurd (hi.1 rfl) h
theorem pathB_size {L : List By} (h : Okn L) : (pathB L).size ≤ 54 := (nm_len (nm_pathB h)).1
theorem undN_self (p : ByteArray) : ¬ UndN p p := by
  rintro ⟨a, b, h1, h2, h3, h4⟩
  rw [h1] at h2; obtain rfl := Option.some.inj h2; omega
theorem undN_trans {p q r : ByteArray} (h : UndN p q) (k : UndN q r) : UndN p r := by
  obtain ⟨a, b, h1, h2, h3, h4⟩ := h
  obtain ⟨b', c, k1, k2, k3, k4⟩ := k
  rw [h2] at k1; obtain rfl := Option.some.inj k1
  exact ⟨a, c, h1, k2, k3.trans h3, by omega⟩
theorem PathParents (a0 a1 : ByteArray) : ∃ k, shalelaw03_PathParents.f k a0 a1 = some true := by
  refine ⟨2, ?_⟩
  unfold shalelaw03_PathParents.f
  rw [awake3, Option.bind_some, if_pos rfl]
  have jt : shalelaw03_PathParents.j0 2 a0 a1 true = some true := by
    rw [shalelaw03_PathParents.j0, if_pos rfl, awake3]; rfl
  by_cases h0 : (a0.size : Int) > 200
  · rw [if_pos h0]; exact jt
  · rw [if_neg h0]
    by_cases h1 : (a1.size : Int) > 200
    · rw [decide_eq_true h1]; exact jt
    · rw [decide_eq_false h1, shalelaw03_PathParents.j0, if_neg (by decide), parent_eq a0 (by omega), Option.bind_some]
      cases hn : nm a0 with
      | none =>
        rw [parR_none hn]
        dsimp only
        rw [code_one, Option.bind_some, if_neg (by decide), if_pos (B_list []), if_pos (B_list []), Option.bind_some]
        have hne : a0.toList ≠ ([47] : List UInt8) := fun e => by
          rw [list_data] at e
          unfold nm at hn; rw [e] at hn; cases hn
        rw [if_pos (by rw [beq_eq_false_iff_ne.2 hne]; decide), if_neg hne, deep_nm a0 (by omega), hn]
        rfl
      | some l =>
        by_cases hl : l = []
        · subst hl
          have he : a0.toList = ([47] : List UInt8) := by
            rw [list_data]
            rcases splitF_some hn with ⟨e, _⟩ | ⟨_, h, _⟩
            · exact e
            · exact absurd rfl h
          rw [parR_root hn]
          dsimp only
          rw [code_one, Option.bind_some, if_neg (by decide), if_pos (B_list []), if_pos (B_list []), Option.bind_some, if_pos (by rw [he]; decide), if_pos he]
        · rw [parR_some hn hl]
          dsimp only
          have ok := nm_ok hn
          have okd : Okn l.dropLast := by rw [List.dropLast_eq_take]; exact okn_take ok _
          have hlen : 0 < l.length := List.length_pos_iff.2 hl
          have hd := nm_pathB okd
          have hds := pathB_size okd
          have hu : UndN a0 (pathB l.dropLast) := ⟨l, l.dropLast, hn, hd, List.dropLast_prefix l, by rw [List.length_dropLast]; omega⟩
          have hdu : ¬ UndN (pathB l.dropLast) a0 := fun k => undN_self _ (undN_trans k hu)
          have hlast : nameL (l.getLast hl) = true := ok.2 _ (List.getLast_mem hl)
          rw [code_nil, Option.bind_some, if_pos rfl, under_true (by omega) (by omega) hu, Option.bind_some, if_pos rfl, deep_some hd, Option.bind_some, deep_some hn, Option.bind_some]
          have h6 := ok.1
          have hw : (l.dropLast.length : Int) = wrap64 ((l.length : Int) - 1) := by
            rw [List.length_dropLast]; unfold wrap64; omega
          rw [if_pos hw, name_f, Option.bind_some, B_data, if_pos hlast, under_false (by omega) (by omega) (undN_self a0), Option.bind_some, if_neg (by decide), under_false (by omega) (by omega) hdu, Option.bind_some]
          rw [shalelaw03_PathParents.j1, if_neg (by decide)]
          by_cases hq : a1.toList = (pathB l.dropLast).toList
          · have e : a1 = pathB l.dropLast := by_ext (by rw [← list_data, ← list_data]; exact hq)
            rw [e, under_true (by omega) (by omega) hu, Option.bind_some, if_pos rfl]; rfl
          · have key : UndN a0 a1 ↔ UndN (pathB l.dropLast) a1 := by
              constructor
              · rintro ⟨a, b, k1, k2, k3, k4⟩
                rw [hn] at k1; obtain rfl := Option.some.inj k1
                have hb : b <+: l.dropLast := by
                  rw [List.dropLast_eq_take]
                  exact List.prefix_take_iff.2 ⟨k3, by omega⟩
                refine ⟨_, b, hd, k2, hb, ?_⟩
                rcases Nat.lt_or_ge b.length l.dropLast.length with h | h
                · exact h
                · exfalso
                  have e := hb.eq_of_length (by have := hb.length_le; omega)
                  rw [e] at k2
                  exact hq (by rw [nm_path k2])
              · intro k; exact undN_trans hu k
            by_cases hk : UndN a0 a1
            · rw [under_true (by omega) (by omega) hk, Option.bind_some, if_neg hq, under_true (by omega) (by omega) (key.1 hk)]; rfl
            · rw [under_false (by omega) (by omega) hk, Option.bind_some, if_neg hq, under_false (by omega) (by omega) (fun k => hk (key.2 k))]; rfl
/-- What lies under a path is greater, and longer. -/
theorem undN_bl {p q : ByteArray} (h : UndN p q) : bl q.data.toList p.data.toList ∧ q.size < p.size := by
  obtain ⟨a, b, h1, h2, h3, h4⟩ := h
  have hp : p.data.toList = joinB a := by
    rcases splitF_some h1 with ⟨_, e⟩ | ⟨e, _, _⟩
    · rw [e] at h4; simp at h4
    · exact e
  rcases splitF_some h2 with ⟨e, _⟩ | ⟨e, _, _⟩
  · rw [size_data, size_data, e, hp]
    have ok := nm_ok h1
    cases a with
    | nil => simp at h4
    | cons n a =>
      have hn := nameL_len (ok.2 n (by simp))
      cases n with
      | nil => simp at hn
      | cons x n =>
        rw [joinB_cons]
        exact ⟨bl_pre [47] x (n ++ joinB a), by simp⟩
  · have hu : Und (joinB a) (joinB b) := (prefix_join (nm_ok h1).clean (nm_ok h2).clean).2 ⟨h3, h4⟩
    rw [size_data, size_data, hp, e]
    exact ⟨hu.bl, hu.len⟩
theorem PathOrder (a0 a1 a2 : ByteArray) : ∃ k, shalelaw03_PathOrder.f k a0 a1 a2 = some true := by
  refine ⟨2, ?_⟩
  unfold shalelaw03_PathOrder.f
  rw [awake3, Option.bind_some, if_pos rfl]
  have jt : shalelaw03_PathOrder.j0 2 a0 a1 a2 true = some true := by
    rw [shalelaw03_PathOrder.j0, if_pos rfl, awake3]; rfl
  by_cases h0 : (a0.size : Int) > 200
  · rw [if_pos h0]; exact jt
  · rw [if_neg h0]
    by_cases h1 : (a1.size : Int) > 200
    · rw [if_pos h1]; exact jt
    · rw [if_neg h1]
      by_cases h2 : (a2.size : Int) > 200
      · rw [decide_eq_true h2]; exact jt
      · rw [decide_eq_false h2, shalelaw03_PathOrder.j0, if_neg (by decide)]
        by_cases hu : UndN a0 a1
        · obtain ⟨hb, hs⟩ := undN_bl hu
          rw [under_true (by omega) (by omega) hu, Option.bind_some, if_pos rfl, if_pos (by rw [list_data, list_data]; exact hb), decide_eq_false (by omega), shalelaw03_PathOrder.j1, if_neg (by decide), under_true (by omega) (by omega) hu, Option.bind_some, if_pos rfl]
          by_cases hr : UndN a0 a2
          · rw [under_true (by omega) (by omega) hr, Option.bind_some, if_pos rfl]
            by_cases he : a1.toList = a2.toList
            · rw [if_pos he]
            · rw [if_neg he]
              obtain ⟨a, b, k1, k2, k3, k4⟩ := hu
              obtain ⟨a', c, l1, l2, l3, l4⟩ := hr
              rw [k1] at l1; obtain rfl := Option.some.inj l1
              have hne : b ≠ c := fun e => he (by rw [nm_path k2, nm_path l2, e])
              rcases List.prefix_or_prefix_of_prefix k3 l3 with hbc | hcb
              · have hlt : b.length < c.length := by
                  rcases Nat.lt_or_ge b.length c.length with h | h
                  · exact h
                  · exact absurd (hbc.eq_of_length (by have := hbc.length_le; omega)) hne
                have hno : ¬ UndN a1 a2 := by
                  rintro ⟨x, y, m1, m2, m3, m4⟩
                  rw [k2] at m1; rw [l2] at m2
                  obtain rfl := Option.some.inj m1; obtain rfl := Option.some.inj m2
                  omega
                rw [under_false (by omega) (by omega) hno, Option.bind_some, if_neg (by decide), under_true (by omega) (by omega) ⟨c, b, l2, k2, hbc, hlt⟩]; rfl
              · have hlt : c.length < b.length := by
                  rcases Nat.lt_or_ge c.length b.length with h | h
                  · exact h
                  · exact absurd (hcb.eq_of_length (by have := hcb.length_le; omega)).symm hne
                rw [under_true (by omega) (by omega) ⟨b, c, k2, l2, hcb, hlt⟩, Option.bind_some, if_pos rfl]
          · rw [under_false (by omega) (by omega) hr, Option.bind_some, if_neg (by decide)]
        · rw [under_false (by omega) (by omega) hu, Option.bind_some, if_neg (by decide), shalelaw03_PathOrder.j1, if_neg (by decide), under_false (by omega) (by omega) hu, Option.bind_some, if_neg (by decide)]

/-! ### PathNames, PathBack: of names that are together short enough -/
def byL (l : List ByteArray) : List By := l.map fun b => b.data.toList
theorem byL_len (l : List ByteArray) : (byL l).length = l.length := List.length_map _
theorem wrap_succ (i : Nat) (h : i < 1000000) : wrap64 ((i : Int) + 1) = ((i + 1 : Nat) : Int) := by unfold wrap64; omega
theorem names_l0 (l : List ByteArray) (h40 : l.length ≤ 40) (hb : (byL l).length ≤ 6 → (joinB (byL l)).length ≤ 140737488355328) :
    ∀ (n i k : Nat) (u : Bool), i + n = l.length → n < k → (u = true ↔ l.length ≤ 6 ∧ ∀ m ∈ (byL l).take i, nameL m = true) → shalelaw03_PathNames.l0 k l u (i : Int) = some true := by
  intro n
  induction n with
  | zero =>
    intro i k u hi hk hu
    obtain ⟨k, rfl⟩ : ∃ j, k = j + 1 := ⟨k - 1, by omega⟩
    have hit : (byL l).take i = byL l := List.take_of_length_le (by rw [byL_len]; omega)
    rw [hit] at hu
    have hok : u = true ↔ Okn (byL l) := by rw [hu]; unfold Okn; rw [byL_len]
    rw [shalelaw03_PathNames.l0, if_neg (by omega), join_eq l (byL l) rfl hb, Option.bind_some]
    by_cases ok : Okn (byL l)
    · rw [hok.2 ok, joinR_ok ok]
      dsimp only
      have hds := pathB_size ok
      rw [code_nil, Option.bind_some, if_pos (by decide), if_pos rfl, deep_some (nm_pathB ok), Option.bind_some]
      rw [byL_len, beq_self_eq_true]
    · have hf : u = false := by
        cases u with
        | false => rfl
        | true => exact absurd (hok.1 rfl) ok
      rw [hf, joinR_not ok]
      dsimp only
      rw [code_one, Option.bind_some, if_pos (by decide), if_neg (by decide)]
  | succ n ih =>
    intro i k u hi hk hu
    obtain ⟨k, rfl⟩ : ∃ j, k = j + 1 := ⟨k - 1, by omega⟩
    have hlt : i < l.length := by omega
    have htk : (byL l).take (i + 1) = (byL l).take i ++ [l[i].data.toList] := by
      rw [List.take_succ_eq_append_getElem (by rw [byL_len]; exact hlt)]
      congr 2
      unfold byL; rw [List.getElem_map]
    rw [shalelaw03_PathNames.l0, if_pos (by omega), wrap_succ i (by omega)]
    cases u with
    | true =>
      rw [if_pos rfl, if_pos (by omega), rdOf_get l i hlt, name_f, Option.bind_some]
      refine ih (i + 1) k _ (by omega) (by omega) ?_
      obtain ⟨h6, hall⟩ := hu.1 rfl
      rw [htk]
      constructor
      · intro h
        refine ⟨h6, fun m hm => ?_⟩
        rcases List.mem_append.1 hm with hm | hm
        · exact hall m hm
        · rw [List.mem_singleton.1 hm]; exact h
      · rintro ⟨_, h⟩
        exact h _ (by simp)
    | false =>
      rw [if_neg (by decide)]
      refine ih (i + 1) k false (by omega) (by omega) ?_
      constructor
      · intro h; cases h
      · rintro ⟨h6, h⟩
        exact hu.2 ⟨h6, fun m hm => h m (by rw [htk]; simp [hm])⟩
theorem PathNames (l0 : List ByteArray) (hb : (byL l0).length ≤ 6 → (joinB (byL l0)).length ≤ 140737488355328) : ∃ k, shalelaw03_PathNames.f k l0 = some true := by
  refine ⟨50 + 1, ?_⟩
  unfold shalelaw03_PathNames.f
  rw [awake3, Option.bind_some, if_pos rfl]
  by_cases h : (l0.length : Int) > 40
  · rw [decide_eq_true h, shalelaw03_PathNames.j0, if_pos rfl, awake3]; rfl
  · rw [decide_eq_false h, shalelaw03_PathNames.j0, if_neg (by decide)]
    exact names_l0 l0 (by omega) hb l0.length 0 50 _ (by omega) (by omega) ⟨fun h => ⟨by have := of_decide_eq_true h; omega, fun m hm => by simp at hm⟩, fun ⟨h, _⟩ => decide_eq_true (by omega)⟩
theorem back_l0 (l x : List ByteArray) (hx : x = (byL l).map B) (h40 : l.length ≤ 40) :
    ∀ (n i k : Nat), i + n = l.length → n < k → shalelaw03_PathBack.l0 k l x [] (i : Int) = some true := by
  have hxl : x = l := by
    rw [hx]; unfold byL; rw [List.map_map]
    conv => rhs; rw [← List.map_id l]
    exact List.map_congr_left fun b _ => B_eta b
  subst hxl
  intro n
  induction n with
  | zero =>
    intro i k hi hk
    obtain ⟨k, rfl⟩ : ∃ j, k = j + 1 := ⟨k - 1, by omega⟩
    rw [shalelaw03_PathBack.l0, if_neg (by omega), code_nil, Option.bind_some, if_pos rfl, beq_self_eq_true]
  | succ n ih =>
    intro i k hi hk
    obtain ⟨k, rfl⟩ : ∃ j, k = j + 1 := ⟨k - 1, by omega⟩
    rw [shalelaw03_PathBack.l0, if_pos (by omega), if_pos rfl, if_pos (by omega), if_pos (by omega), if_pos rfl, wrap_succ i (by omega)]
    exact ih (i + 1) k (by omega) (by omega)
theorem back_j1 (l : List ByteArray) (h40 : l.length ≤ 40) (hb : (byL l).length ≤ 6 → (joinB (byL l)).length ≤ 140737488355328) : shalelaw03_PathBack.j1 51 l = some true := by
  rw [shalelaw03_PathBack.j1, join_eq l (byL l) rfl hb, Option.bind_some]
  by_cases ok : Okn (byL l)
  · rw [joinR_ok ok]
    dsimp only
    have hds := pathB_size ok
    rw [code_nil, Option.bind_some, if_pos rfl, split_eq _ (by omega), nm_pathB ok, Option.bind_some]
    exact back_l0 l _ rfl h40 l.length 0 50 (by omega) (by omega)
  · rw [joinR_not ok]
    dsimp only
    rw [code_one, Option.bind_some, if_neg (by decide), Option.bind_some, if_pos rfl, B_list]; rfl
theorem PathBack (a0 : ByteArray) (l1 : List ByteArray) (hb : (byL l1).length ≤ 6 → (joinB (byL l1)).length ≤ 140737488355328) : ∃ k, shalelaw03_PathBack.f k a0 l1 = some true := by
  refine ⟨52, ?_⟩
  unfold shalelaw03_PathBack.f
  rw [awake3, Option.bind_some, if_pos rfl]
  have jt : shalelaw03_PathBack.j0 52 a0 l1 true = some true := by
    rw [shalelaw03_PathBack.j0, if_pos rfl, awake3]; rfl
  by_cases h0 : (a0.size : Int) > 200
  · rw [if_pos h0]; exact jt
  · rw [if_neg h0]
    by_cases h1 : (l1.length : Int) > 40
    · rw [decide_eq_true h1]; exact jt
    · rw [decide_eq_false h1, shalelaw03_PathBack.j0, if_neg (by decide), split_eq a0 (by omega), Option.bind_some]
      cases hn : nm a0 with
      | none =>
        dsimp only
        rw [code_one, Option.bind_some, if_neg (by decide)]
        exact back_j1 l1 (by omega) hb
      | some l =>
        dsimp only
        rw [code_nil, Option.bind_some, if_pos rfl, join_ok (nm_ok hn), Option.bind_some, code_nil, Option.bind_some, if_pos rfl, if_pos (by rw [← nm_path hn])]
        exact back_j1 l1 (by omega) hb
end Go.Proofs.YtklcceccadlgkaaDoor.Th
