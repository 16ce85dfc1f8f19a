/- Paths in plain words: the order of bytes, what lies under what, names. -/
import Derived.Test.YtdmnpofodechpaaDoorPrint0
import Derived.Test.YtdmnpofodechpaaDoorSplitP
namespace Go.Proofs.YtdmnpofodechpaaDoor.Th
open Go Go.Proofs.YtdmnpofodechpaaDoor.Print
set_option linter.unusedVariables false
set_option linter.unusedSimpArgs false

abbrev By := List UInt8
theorem by_ext {a b : ByteArray} (h : a.data.toList = b.data.toList) : a = b := by
  cases a; cases b; congr 1; exact Array.ext' h
/-! ### the order of bytes -/
def bl (a b : By) : Prop := Op.bytesLess a b = true
instance (a b : By) : Decidable (bl a b) := inferInstanceAs (Decidable (_ = true))
theorem bl_irrefl : ∀ l : By, ¬ bl l l
  | [] => by simp [bl, Op.bytesLess]
  | a :: l => by have := bl_irrefl l; simp only [bl, Op.bytesLess] at *; simp [this]
theorem bl_cons (x : UInt8) (a : By) (y : UInt8) (b : By) : bl (x :: a) (y :: b) ↔ x < y ∨ x = y ∧ bl a b := by
  simp [bl, Op.bytesLess]
theorem bl_nil (a : By) : ¬ bl a [] := by cases a <;> simp [bl, Op.bytesLess]
theorem nil_bl (y : UInt8) (b : By) : bl [] (y :: b) := by simp [bl, Op.bytesLess]
theorem u8_lt_trans {a b c : UInt8} (h : a < b) (k : b < c) : a < c := UInt8.lt_iff_toNat_lt.2 (Nat.lt_trans (UInt8.lt_iff_toNat_lt.1 h) (UInt8.lt_iff_toNat_lt.1 k))
theorem u8_tri (a b : UInt8) : a < b ∨ a = b ∨ b < a := by
  rcases Nat.lt_trichotomy a.toNat b.toNat with h | h | h
  · exact .inl (UInt8.lt_iff_toNat_lt.2 h)
  · exact .inr (.inl (UInt8.toNat_inj.1 h))
  · exact .inr (.inr (UInt8.lt_iff_toNat_lt.2 h))
theorem bl_trans : ∀ {a b c : By}, bl a b → bl b c → bl a c
  | _, _, [], _, h => absurd h (bl_nil _)
  | [], _, z :: c, _, _ => nil_bl _ _
  | x :: a, [], _, h, _ => absurd h (bl_nil _)
  | x :: a, y :: b, z :: c, h, k => by
    rw [bl_cons] at h k ⊢
    rcases h with h | ⟨rfl, h⟩
    · rcases k with k | ⟨rfl, k⟩
      · exact .inl (u8_lt_trans h k)
      · exact .inl h
    · rcases k with k | ⟨rfl, k⟩
      · exact .inl k
      · exact .inr ⟨rfl, bl_trans h k⟩
theorem bl_asymm {a b : By} (h : bl a b) : ¬ bl b a := fun k => bl_irrefl a (bl_trans h k)
theorem bl_tri : ∀ a b : By, bl a b ∨ a = b ∨ bl b a
  | [], [] => .inr (.inl rfl)
  | [], y :: b => .inl (nil_bl _ _)
  | x :: a, [] => .inr (.inr (nil_bl _ _))
  | x :: a, y :: b => by
    rw [bl_cons, bl_cons]
    rcases u8_tri x y with h | rfl | h
    · exact .inl (.inl h)
    · rcases bl_tri a b with h | rfl | h
      · exact .inl (.inr ⟨rfl, h⟩)
      · exact .inr (.inl rfl)
      · exact .inr (.inr (.inr ⟨rfl, h⟩))
    · exact .inr (.inr (.inl h))
theorem bl_pre : ∀ (a : By) (b : UInt8) (c : By), bl a (a ++ b :: c)
  | [], _, _ => nil_bl _ _
  | x :: a, b, c => by rw [List.cons_append, bl_cons]; exact .inr ⟨rfl, bl_pre a b c⟩
theorem bl_ne {a b : By} (h : bl a b) : a ≠ b := fun e => by subst e; exact bl_irrefl _ h

/-! ### what lies under what, byte by byte -/
def Und (x y : By) : Prop := ∃ c, x = y ++ 47 :: c
theorem und_iff (x y : By) : Und x y ↔ (y ++ [47]).isPrefixOf x = true := by
  rw [List.isPrefixOf_iff_prefix]
  constructor
  · rintro ⟨c, rfl⟩; exact ⟨c, by simp⟩
  · rintro ⟨c, rfl⟩; exact ⟨c, by simp⟩
instance (x y : By) : Decidable (Und x y) := decidable_of_iff _ (und_iff x y).symm
theorem Und.trans {x y z : By} (h : Und x y) (k : Und y z) : Und x z := by
  obtain ⟨c, rfl⟩ := h; obtain ⟨d, rfl⟩ := k; exact ⟨d ++ 47 :: c, by simp⟩
theorem Und.len {x y : By} (h : Und x y) : y.length < x.length := by obtain ⟨c, rfl⟩ := h; simp
theorem Und.ne {x y : By} (h : Und x y) : x ≠ y := fun e => by have := h.len; rw [e] at this; omega
theorem Und.irrefl (x : By) : ¬ Und x x := fun h => h.ne rfl
theorem Und.bl {x y : By} (h : Und x y) : bl y x := by obtain ⟨c, rfl⟩ := h; exact bl_pre _ _ _
/-- What one thing lies under lies in line. -/
theorem Und.line {x y z : By} (h : Und x y) (k : Und x z) : y = z ∨ Und y z ∨ Und z y := by
  obtain ⟨c, rfl⟩ := h; obtain ⟨d, hd⟩ := k
  rcases List.append_eq_append_iff.1 hd with ⟨e, rfl, he⟩ | ⟨e, rfl, he⟩
  · cases e with
    | nil => left; simp
    | cons b e => simp at he; obtain ⟨rfl, rfl⟩ := he; exact .inr (.inr ⟨e, rfl⟩)
  · cases e with
    | nil => left; simp
    | cons b e => simp at he; obtain ⟨rfl, rfl⟩ := he; exact .inr (.inl ⟨e, rfl⟩)

/-! ### paths and their names -/
def joinB (l : List By) : By := l.flatMap fun n => 47 :: n
theorem joinB_nil : joinB [] = [] := rfl
theorem joinB_cons (n : By) (l : List By) : joinB (n :: l) = 47 :: n ++ joinB l := rfl
theorem joinB_append (a b : List By) : joinB (a ++ b) = joinB a ++ joinB b := by unfold joinB; rw [List.flatMap_append]
theorem joinB_snoc (a : List By) (n : By) : joinB (a ++ [n]) = joinB a ++ 47 :: n := by rw [joinB_append, joinB_cons, joinB_nil]; simp
theorem nameL_len {n : By} (h : nameL n = true) : 1 ≤ n.length ∧ n.length ≤ 8 := by
  unfold nameL at h; simp only [Bool.and_eq_true, decide_eq_true_eq] at h; exact ⟨h.1, h.2.1⟩
theorem nameL_slash {n : By} (h : nameL n = true) : (47 : UInt8) ∉ n := by
  unfold nameL at h; simp only [Bool.and_eq_true, decide_eq_true_eq, List.all_eq_true] at h
  intro hm
  have := h.2.2 47 hm
  revert this; decide
theorem pieces_ne (l : By) : pieces l ≠ [] := by
  cases l with
  | nil => simp [pieces]
  | cons b l => rw [pieces]; split <;> (try split) <;> simp
theorem pieces_clean : ∀ n : By, (47 : UInt8) ∉ n → pieces n = [n]
  | [], _ => rfl
  | b :: n, h => by
    rw [pieces, if_neg (fun e => h (by simp [e])), pieces_clean n (fun m => h (by simp [m]))]
theorem pieces_slash : ∀ (n r : By), (47 : UInt8) ∉ n → pieces (n ++ 47 :: r) = n :: pieces r
  | [], r, _ => by rw [List.nil_append, pieces, if_pos rfl]
  | b :: n, r, h => by
    rw [List.cons_append, pieces, if_neg (fun e => h (by simp [e])), pieces_slash n r (fun m => h (by simp [m]))]
theorem pieces_join : ∀ (n : By) (l : List By), (47 : UInt8) ∉ n → (∀ m ∈ l, (47 : UInt8) ∉ m) → pieces (n ++ joinB l) = n :: l
  | n, [], h, _ => by rw [joinB_nil, List.append_nil]; exact pieces_clean n h
  | n, m :: l, h, hl => by
    rw [joinB_cons, List.cons_append, pieces_slash n _ h, pieces_join m l (hl m (by simp)) (fun x hx => hl x (by simp [hx]))]
theorem join_pieces : ∀ l : By, joinB (pieces l) = 47 :: l
  | [] => rfl
  | b :: l => by
    have ih := join_pieces l
    rw [pieces]
    split
    · rename_i h; subst h; rw [joinB_cons, ih]; rfl
    · cases hp : pieces l with
      | nil => exact absurd hp (pieces_ne l)
      | cons p ps =>
        rw [hp, joinB_cons] at ih
        simp only [joinB_cons]
        simp only [List.cons_append] at ih ⊢
        injection ih with _ ih
        rw [ih]
/-- Names that a path may have. -/
def Okn (l : List By) : Prop := l.length ≤ 6 ∧ ∀ n ∈ l, nameL n = true
theorem splitF_join {l : List By} (h : Okn l) (hne : l ≠ []) : splitF (joinB l) = some l := by
  cases l with
  | nil => exact absurd rfl hne
  | cons n l =>
    have hn := nameL_len (h.2 n (by simp))
    have e1 : joinB (n :: l) ≠ [47] := by
      intro e; rw [joinB_cons] at e
      simp at e
      have : n = [] := e.1
      rw [this] at hn; simp at hn
    have hp : pieces (n ++ joinB l) = n :: l := pieces_join n l (nameL_slash (h.2 n (by simp))) (fun m hm => nameL_slash (h.2 m (by simp [hm])))
    unfold splitF
    rw [if_neg e1]
    rw [joinB_cons, List.cons_append]
    simp only
    rw [hp, if_pos ⟨h.1, List.all_eq_true.2 h.2⟩]
theorem splitF_some {p : By} {l : List By} (h : splitF p = some l) : (p = [47] ∧ l = []) ∨ (p = joinB l ∧ l ≠ [] ∧ Okn l) := by
  unfold splitF at h
  split at h
  · rename_i e; exact .inl ⟨e, (Option.some.inj h).symm⟩
  · split at h
    · rename_i rest _
      split at h
      · rename_i hc
        obtain rfl := Option.some.inj h
        exact .inr ⟨(join_pieces rest).symm, pieces_ne rest, hc.1, fun n hn => List.all_eq_true.1 hc.2 n hn⟩
      · cases h
    · cases h
theorem splitF_root : splitF [47] = some [] := rfl
theorem joinB_inj {a b : List By} (ha : Okn a) (hb : Okn b) (h : joinB a = joinB b) : a = b := by
  cases a with
  | nil => cases b with
    | nil => rfl
    | cons n b => simp [joinB_nil, joinB_cons] at h
  | cons n a =>
    cases b with
    | nil => simp [joinB_nil, joinB_cons] at h
    | cons m b =>
      have h1 := splitF_join ha (by simp)
      have h2 := splitF_join hb (by simp)
      rw [h, h2] at h1
      exact (Option.some.inj h1).symm
/-- A path's directory, byte by byte ([] of the root's entries). -/
def parB (p : By) : By := joinB ((splitF p).getD []).dropLast
/-- A path of a name or more. -/
def Pth (p : By) : Prop := ∃ l, splitF p = some l ∧ l ≠ []
theorem Pth.names {p : By} (h : Pth p) : ∃ l n, p = joinB (l ++ [n]) ∧ Okn (l ++ [n]) ∧ splitF p = some (l ++ [n]) ∧ parB p = joinB l := by
  obtain ⟨l, hl, hne⟩ := h
  rcases splitF_some hl with ⟨_, e⟩ | ⟨e, _, ok⟩
  · exact absurd e hne
  · refine ⟨l.dropLast, l.getLast hne, ?_⟩
    rw [List.dropLast_concat_getLast hne]
    exact ⟨e, ok, hl, by unfold parB; rw [hl]; rfl⟩
theorem Pth.ne {p : By} (h : Pth p) : p ≠ [] := by
  obtain ⟨l, n, rfl, _⟩ := h.names
  rw [joinB_snoc]; simp
theorem Pth.par {p : By} (h : Pth p) : ∃ n, p = parB p ++ 47 :: n ∧ nameL n = true := by
  obtain ⟨l, n, e, ok, _, hp⟩ := h.names
  refine ⟨n, ?_, ok.2 n (by simp)⟩
  rw [hp, ← joinB_snoc]; exact e
theorem Pth.und {p : By} (h : Pth p) : Und p (parB p) := by obtain ⟨n, e, _⟩ := h.par; exact ⟨n, e⟩
/-- What a path lies under is its directory, or that lies under it. -/
theorem Pth.up {p y : By} (h : Pth p) (hu : Und p y) : y = parB p ∨ Und (parB p) y := by
  obtain ⟨n, e, hn⟩ := h.par
  rcases hu.line h.und with h1 | h1 | h1
  · exact .inl h1
  · exfalso
    obtain ⟨c, hc⟩ := hu
    obtain ⟨d, hd⟩ := h1
    have hs := nameL_slash hn
    apply hs
    have e2 : parB p ++ 47 :: (d ++ 47 :: c) = parB p ++ 47 :: n := by
      rw [← e, ← List.cons_append, ← List.append_assoc, ← hd]; exact hc.symm
    have := List.append_cancel_left e2
    injection this with _ this
    rw [← this]; simp
  · exact .inr h1
theorem Pth.par_pth {p : By} (h : Pth p) (hne : parB p ≠ []) : Pth (parB p) := by
  obtain ⟨l, n, e, ok, _, hp⟩ := h.names
  have hl : l ≠ [] := fun e => hne (by rw [hp, e]; rfl)
  rw [hp]
  exact ⟨l, splitF_join ⟨by have := ok.1; simp at this; omega, fun m hm => ok.2 m (by simp [hm])⟩ hl, hl⟩
theorem Pth.not_und_nil_par {p y : By} (h : Pth p) (hp : parB p = []) (hu : Und p y) : y = [] := by
  rcases h.up hu with e | e
  · rw [e, hp]
  · rw [hp] at e; have := e.len; simp at this

theorem joinB_len {L : List By} (h : Okn L) : (joinB L).length ≤ 54 := by
  have : ∀ L : List By, (∀ n ∈ L, nameL n = true) → (joinB L).length ≤ 9 * L.length := by
    intro L
    induction L with
    | nil => intro _; exact Nat.le_refl _
    | cons n L ih =>
      intro h
      have h1 := ih (fun m hm => h m (by simp [hm]))
      have h2 := nameL_len (h n (by simp))
      rw [joinB_cons]; simp; omega
  have h1 := this L h.2
  have := h.1
  omega
end Go.Proofs.YtdmnpofodechpaaDoor.Th
