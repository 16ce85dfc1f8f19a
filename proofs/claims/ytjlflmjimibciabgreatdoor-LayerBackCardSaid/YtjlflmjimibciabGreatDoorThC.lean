/- Paths in plain words: the order of bytes, what lies under what, names. -/
import Derived.Test.YtjlflmjimibciabGreatDoorPrint0
import Derived.Test.YtjlflmjimibciabGreatDoorSplitP
import Derived.Test.YtjlflmjimibciabGreatDoorExt
section
namespace Go.Proofs.YtjlflmjimibciabGreatDoor.Th
open Go Go.Proofs.YtjlflmjimibciabGreatDoor.Print
set_option linter.unusedVariables false
set_option linter.unusedSimpArgs false
abbrev By := List UInt8
theorem by_ext {a b : ByteArray} (h : a.data.toList = b.data.toList) : a = b := by
  cases a; cases b; congr 1; exact Array.ext' h
def bl (a b : By) : Prop := Op.bytesLess a b = true
instance (a b : By) : Decidable (bl a b) := inferInstanceAs (Decidable (_ = true))
theorem bl_irrefl : ∀ l : By, ¬ bl l l
  | [] => by simp [bl, Op.bytesLess]
  | a :: l => by have := bl_irrefl l; simp only [bl, Op.bytesLess] at *; simp [this]
theorem bl_cons (x : UInt8) (a : By) (y : UInt8) (b : By) : bl (x :: a) (y :: b) ↔ x < y ∨ x = y ∧ bl a b := by
  simp [bl, Op.bytesLess]
theorem bl_nil (a : By) : ¬ bl a [] := by cases a <;> simp [bl, Op.bytesLess]
theorem nil_bl (y : UInt8) (b : By) : bl [] (y :: b) := by simp [bl, Op.bytesLess]
theorem u8_lt_trans {a b c : UInt8} (h : a < b) (k : b < c) : a < c := UInt8.lt_iff_toNat_lt.2 (Nat.lt_trans (UInt8.lt_iff_toNat_lt.1 h) (UInt8.lt_iff_toNat_lt.1 k))
theorem u8_tri (a b : UInt8) : a < b ∨ a = b ∨ b < a := by
  rcases Nat.lt_trichotomy a.toNat b.toNat with h | h | h
  · exact .inl (UInt8.lt_iff_toNat_lt.2 h)
  · exact .inr (.inl (UInt8.toNat_inj.1 h))
  · exact .inr (.inr (UInt8.lt_iff_toNat_lt.2 h))
theorem bl_trans : ∀ {a b c : By}, bl a b → bl b c → bl a c
  | _, _, [], _, h => absurd h (bl_nil _)
  | [], _, z :: c, _, _ => nil_bl _ _
  | x :: a, [], _, h, _ => absurd h (bl_nil _)
  | x :: a, y :: b, z :: c, h, k => by
    rw [bl_cons] at h k ⊢
    rcases h with h | ⟨rfl, h⟩
    · rcases k with k | ⟨rfl, k⟩
      · exact .inl (u8_lt_trans h k)
      · exact .inl h
    · rcases k with k | ⟨rfl, k⟩
      · exact .inl k
      · exact .inr ⟨rfl, bl_trans h k⟩
theorem bl_asymm {a b : By} (h : bl a b) : ¬ bl b a := fun k => bl_irrefl a (bl_trans h k)
theorem bl_tri : ∀ a b : By, bl a b ∨ a = b ∨ bl b a
  | [], [] => .inr (.inl rfl)
  | [], y :: b => .inl (nil_bl _ _)
  | x :: a, [] => .inr (.inr (nil_bl _ _))
  | x :: a, y :: b => by
    rw [bl_cons, bl_cons]
    rcases u8_tri x y with h | rfl | h
    · exact .inl (.inl h)
    · rcases bl_tri a b with h | rfl | h
      · exact .inl (.inr ⟨rfl, h⟩)
      · exact .inr (.inl rfl)
      · exact .inr (.inr (.inr ⟨rfl, h⟩))
    · exact .inr (.inr (.inl h))
theorem bl_pre : ∀ (a : By) (b : UInt8) (c : By), bl a (a ++ b :: c)
  | [], _, _ => nil_bl _ _
  | x :: a, b, c => by rw [List.cons_append, bl_cons]; exact .inr ⟨rfl, bl_pre a b c⟩
theorem bl_ne {a b : By} (h : bl a b) : a ≠ b := fun e => by subst e; exact bl_irrefl _ h

def Und (x y : By) : Prop := ∃ c, x = y ++ 47 :: c
theorem und_iff (x y : By) : Und x y ↔ (y ++ [47]).isPrefixOf x = true := by
  rw [List.isPrefixOf_iff_prefix]
  constructor
  · rintro ⟨c, rfl⟩; exact ⟨c, by simp⟩
  · rintro ⟨c, rfl⟩; exact ⟨c, by simp⟩
instance (x y : By) : Decidable (Und x y) := decidable_of_iff _ (und_iff x y).symm
theorem Und.trans {x y z : By} (h : Und x y) (k : Und y z) : Und x z := by
  obtain ⟨c, rfl⟩ := h; obtain ⟨d, rfl⟩ := k; exact ⟨d ++ 47 :: c, by simp⟩
theorem Und.len {x y : By} (h : Und x y) : y.length < x.length := by obtain ⟨c, rfl⟩ := h; simp
theorem Und.bl {x y : By} (h : Und x y) : bl y x := by obtain ⟨c, rfl⟩ := h; exact bl_pre _ _ _
/-- What one thing lies under lies in line. -/
theorem Und.line {x y z : By} (h : Und x y) (k : Und x z) : y = z ∨ Und y z ∨ Und z y := by
  obtain ⟨c, rfl⟩ := h; obtain ⟨d, hd⟩ := k
  rcases List.append_eq_append_iff.1 hd with ⟨e, rfl, he⟩ | ⟨e, rfl, he⟩
  · cases e with
    | nil => left; simp
    | cons b e => simp at he; obtain ⟨rfl, rfl⟩ := he; exact .inr (.inr ⟨e, rfl⟩)
  · cases e with
    | nil => left; simp
    | cons b e => simp at he; obtain ⟨rfl, rfl⟩ := he; exact .inr (.inl ⟨e, rfl⟩)

def joinB (l : List By) : By := l.flatMap fun n => 47 :: n
theorem joinB_nil : joinB [] = [] := rfl
theorem joinB_cons (n : By) (l : List By) : joinB (n :: l) = 47 :: n ++ joinB l := rfl
theorem joinB_append (a b : List By) : joinB (a ++ b) = joinB a ++ joinB b := by unfold joinB; rw [List.flatMap_append]
theorem joinB_snoc (a : List By) (n : By) : joinB (a ++ [n]) = joinB a ++ 47 :: n := by rw [joinB_append, joinB_cons, joinB_nil]; simp
theorem nameL_len {n : By} (h : nameL n = true) : 1 ≤ n.length ∧ n.length ≤ 8 := by
  unfold nameL at h; simp only [Bool.and_eq_true, decide_eq_true_eq] at h; exact ⟨h.1, h.2.1⟩
theorem nameL_slash {n : By} (h : nameL n = true) : (47 : UInt8) ∉ n := by
  unfold nameL at h; simp only [Bool.and_eq_true, decide_eq_true_eq, List.all_eq_true] at h
  intro hm
  have := h.2.2 47 hm
  revert this; decide
theorem pieces_ne (l : By) : pieces l ≠ [] := by
  cases l with
  | nil => simp [pieces]
  | cons b l => rw [pieces]; split <;> (try split) <;> simp
theorem pieces_clean : ∀ n : By, (47 : UInt8) ∉ n → pieces n = [n]
  | [], _ => rfl
  | b :: n, h => by
    rw [pieces, if_neg (fun e => h (by simp [e])), pieces_clean n (fun m => h (by simp [m]))]
theorem pieces_slash : ∀ (n r : By), (47 : UInt8) ∉ n → pieces (n ++ 47 :: r) = n :: pieces r
  | [], r, _ => by rw [List.nil_append, pieces, if_pos rfl]
  | b :: n, r, h => by
    rw [List.cons_append, pieces, if_neg (fun e => h (by simp [e])), pieces_slash n r (fun m => h (by simp [m]))]
theorem pieces_join : ∀ (n : By) (l : List By), (47 : UInt8) ∉ n → (∀ m ∈ l, (47 : UInt8) ∉ m) → pieces (n ++ joinB l) = n :: l
  | n, [], h, _ => by rw [joinB_nil, List.append_nil]; exact pieces_clean n h
  | n, m :: l, h, hl => by
    rw [joinB_cons, List.cons_append, pieces_slash n _ h, pieces_join m l (hl m (by simp)) (fun x hx => hl x (by simp [hx]))]
theorem join_pieces : ∀ l : By, joinB (pieces l) = 47 :: l
  | [] => rfl
  | b :: l => by
    have ih := join_pieces l
    rw [pieces]
    split
    · rename_i h; subst h; rw [joinB_cons, ih]; rfl
    · cases hp : pieces l with
      | nil => exact absurd hp (pieces_ne l)
      | cons p ps =>
        rw [hp, joinB_cons] at ih
        simp only [joinB_cons]
        simp only [List.cons_append] at ih ⊢
        injection ih with _ ih
        rw [ih]
/-- Names that a path may have. -/
def Okn (l : List By) : Prop := l.length ≤ 6 ∧ ∀ n ∈ l, nameL n = true
theorem splitF_join {l : List By} (h : Okn l) (hne : l ≠ []) : splitF (joinB l) = some l := by
  cases l with
  | nil => exact absurd rfl hne
  | cons n l =>
    have hn := nameL_len (h.2 n (by simp))
    have e1 : joinB (n :: l) ≠ [47] := by
      intro e; rw [joinB_cons] at e
      simp at e
      have : n = [] := e.1
      rw [this] at hn; simp at hn
    have hp : pieces (n ++ joinB l) = n :: l := pieces_join n l (nameL_slash (h.2 n (by simp))) (fun m hm => nameL_slash (h.2 m (by simp [hm])))
    unfold splitF
    rw [if_neg e1]
    rw [joinB_cons, List.cons_append]
    simp only
    rw [hp, if_pos ⟨h.1, List.all_eq_true.2 h.2⟩]
theorem splitF_some {p : By} {l : List By} (h : splitF p = some l) : (p = [47] ∧ l = []) ∨ (p = joinB l ∧ l ≠ [] ∧ Okn l) := by
  unfold splitF at h
  split at h
  · rename_i e; exact .inl ⟨e, (Option.some.inj h).symm⟩
  · split at h
    · rename_i rest _
      split at h
      · rename_i hc
        obtain rfl := Option.some.inj h
        exact .inr ⟨(join_pieces rest).symm, pieces_ne rest, hc.1, fun n hn => List.all_eq_true.1 hc.2 n hn⟩
      · cases h
    · cases h
/-- A path's directory, byte by byte ([] of the root's entries). -/
def parB (p : By) : By := joinB ((splitF p).getD []).dropLast
/-- A path of a name or more. -/
def Pth (p : By) : Prop := ∃ l, splitF p = some l ∧ l ≠ []
theorem Pth.names {p : By} (h : Pth p) : ∃ l n, p = joinB (l ++ [n]) ∧ Okn (l ++ [n]) ∧ splitF p = some (l ++ [n]) ∧ parB p = joinB l := by
  obtain ⟨l, hl, hne⟩ := h
  rcases splitF_some hl with ⟨_, e⟩ | ⟨e, _, ok⟩
  · exact absurd e hne
  · refine ⟨l.dropLast, l.getLast hne, ?_⟩
    rw [List.dropLast_concat_getLast hne]
    exact ⟨e, ok, hl, by unfold parB; rw [hl]; rfl⟩
theorem Pth.par {p : By} (h : Pth p) : ∃ n, p = parB p ++ 47 :: n ∧ nameL n = true := by
  obtain ⟨l, n, e, ok, _, hp⟩ := h.names
  refine ⟨n, ?_, ok.2 n (by simp)⟩
  rw [hp, ← joinB_snoc]; exact e
theorem Pth.und {p : By} (h : Pth p) : Und p (parB p) := by obtain ⟨n, e, _⟩ := h.par; exact ⟨n, e⟩
/-- What a path lies under is its directory, or that lies under it. -/
theorem Pth.up {p y : By} (h : Pth p) (hu : Und p y) : y = parB p ∨ Und (parB p) y := by
  obtain ⟨n, e, hn⟩ := h.par
  rcases hu.line h.und with h1 | h1 | h1
  · exact .inl h1
  · exfalso
    obtain ⟨c, hc⟩ := hu
    obtain ⟨d, hd⟩ := h1
    have hs := nameL_slash hn
    apply hs
    have e2 : parB p ++ 47 :: (d ++ 47 :: c) = parB p ++ 47 :: n := by
      rw [← e, ← List.cons_append, ← List.append_assoc, ← hd]; exact hc.symm
    have := List.append_cancel_left e2
    injection this with _ this
    rw [← this]; simp
  · exact .inr h1
theorem joinB_len {L : List By} (h : Okn L) : (joinB L).length ≤ 54 := by
  have : ∀ L : List By, (∀ n ∈ L, nameL n = true) → (joinB L).length ≤ 9 * L.length := by
    intro L
    induction L with
    | nil => intro _; exact Nat.le_refl _
    | cons n L ih =>
      intro h
      have h1 := ih (fun m hm => h m (by simp [hm]))
      have h2 := nameL_len (h n (by simp))
      rw [joinB_cons]; simp; omega
  have h1 := this L h.2
  have := h.1
  omega
end Go.Proofs.YtjlflmjimibciabGreatDoor.Th
end

section
namespace Go.Proofs.YtjlflmjimibciabGreatDoor.Th
open Go Go.Proofs.YtjlflmjimibciabGreatDoor.Print
set_option linter.unusedVariables false
set_option linter.unusedSimpArgs false
abbrev En := S39
def ky (e : En) : By := e.f0.data.toList
def da (e : En) : By := e.f2.data.toList
theorem en_ext {a b : En} (h0 : ky a = ky b) (h1 : a.f1 = b.f1) (h2 : da a = da b) : a = b := by
  cases a; cases b; simp only [ky, da] at h0 h2; simp only at h1
  rw [by_ext h0, h1, by_ext h2]

def Srt (l : List En) : Prop := l.Pairwise fun x y => bl (ky x) (ky y)
def fnd (l : List En) (p : By) : Option En := l.find? fun e => decide (ky e = p)
theorem fnd_cons (x : En) (l : List En) (p : By) : fnd (x :: l) p = if ky x = p then some x else fnd l p := by
  unfold fnd; rw [List.find?_cons]; by_cases h : ky x = p <;> simp [h]
theorem fnd_mem {l : List En} {p : By} {e : En} (h : fnd l p = some e) : e ∈ l ∧ ky e = p := by
  unfold fnd at h
  exact ⟨List.mem_of_find?_eq_some h, by simpa using List.find?_some h⟩
theorem fnd_none {l : List En} {p : By} : fnd l p = none ↔ ∀ e ∈ l, ky e ≠ p := by
  unfold fnd; rw [List.find?_eq_none]; simp
theorem Srt.tail {x : En} {l : List En} (h : Srt (x :: l)) : Srt l := (List.pairwise_cons.1 h).2
theorem Srt.head {x : En} {l : List En} (h : Srt (x :: l)) : ∀ y ∈ l, bl (ky x) (ky y) := (List.pairwise_cons.1 h).1
theorem Srt.cons {x : En} {l : List En} (h : ∀ y ∈ l, bl (ky x) (ky y)) (k : Srt l) : Srt (x :: l) := List.pairwise_cons.2 ⟨h, k⟩
theorem Srt.at_ {l : List En} (h : Srt l) {e : En} (he : e ∈ l) : fnd l (ky e) = some e := by
  induction l with
  | nil => cases he
  | cons x l ih =>
    rw [fnd_cons]
    rcases List.mem_cons.1 he with rfl | he
    · rw [if_pos rfl]
    · rw [if_neg (fun e1 => bl_ne (h.head e he) e1)]; exact ih h.tail he
theorem Srt.filter {l : List En} (h : Srt l) (q : En → Bool) : Srt (l.filter q) := List.Pairwise.filter q h
theorem Srt.append {a b : List En} (ha : Srt a) (hb : Srt b) (h : ∀ x ∈ a, ∀ y ∈ b, bl (ky x) (ky y)) : Srt (a ++ b) := List.pairwise_append.2 ⟨ha, hb, h⟩
theorem Srt.parts {a b : List En} (h : Srt (a ++ b)) : Srt a ∧ Srt b ∧ ∀ x ∈ a, ∀ y ∈ b, bl (ky x) (ky y) := List.pairwise_append.1 h
/-- Sorted lists in which the same stands at each path are one list. -/
theorem Srt.ext {a b : List En} (ha : Srt a) (hb : Srt b) (h : ∀ p, fnd a p = fnd b p) : a = b := by
  induction a generalizing b with
  | nil =>
    cases b with
    | nil => rfl
    | cons y b => have := h (ky y); rw [fnd_cons, if_pos rfl] at this; cases this
  | cons x a ih =>
    cases b with
    | nil => have := h (ky x); rw [fnd_cons, if_pos rfl] at this; cases this
    | cons y b =>
      have hxy : x = y := by
        have h1 := h (ky x); have h2 := h (ky y)
        rw [fnd_cons, if_pos rfl, fnd_cons] at h1
        rw [fnd_cons, fnd_cons, if_pos rfl] at h2
        by_cases e : ky y = ky x
        · rw [if_pos e] at h1; exact Option.some.inj h1
        · rw [if_neg e] at h1; rw [if_neg (fun e1 => e e1.symm)] at h2
          have k1 := hb.head x (fnd_mem h1.symm).1
          have k2 := ha.head y (fnd_mem h2).1
          exact absurd k1 (bl_asymm k2)
      subst hxy
      congr 1
      refine ih ha.tail hb.tail fun p => ?_
      have := h p
      rw [fnd_cons, fnd_cons] at this
      by_cases e : ky x = p
      · subst e
        have k1 : fnd a (ky x) = none := fnd_none.2 fun e he e1 => bl_ne (ha.head e he) e1.symm
        have k2 : fnd b (ky x) = none := fnd_none.2 fun e he e1 => bl_ne (hb.head e he) e1.symm
        rw [k1, k2]
      · rwa [if_neg e, if_neg e] at this

def putL : List En → En → List En
  | [], e => [e]
  | x :: t, e => if ky x = ky e then e :: t else if bl (ky e) (ky x) then e :: x :: t else x :: putL t e
theorem putL_mem {t : List En} {e y : En} (h : y ∈ putL t e) : y = e ∨ y ∈ t := by
  induction t with
  | nil => simp [putL] at h; exact .inl h
  | cons x t ih =>
    rw [putL] at h
    split at h
    · rcases List.mem_cons.1 h with h | h
      · exact .inl h
      · exact .inr (by simp [h])
    · split at h
      · rcases List.mem_cons.1 h with h | h
        · exact .inl h
        · exact .inr h
      · rcases List.mem_cons.1 h with h | h
        · exact .inr (by simp [h])
        · rcases ih h with h | h
          · exact .inl h
          · exact .inr (by simp [h])
theorem Srt.put {t : List En} (h : Srt t) (e : En) : Srt (putL t e) := by
  induction t with
  | nil => exact List.pairwise_singleton _ _
  | cons x t ih =>
    rw [Th.putL]
    split
    · rename_i hk
      exact Srt.cons (fun y hy => hk ▸ h.head y hy) h.tail
    · rename_i hk
      split
      · rename_i hb
        exact Srt.cons (fun y hy => by
          rcases List.mem_cons.1 hy with rfl | hy
          · exact hb
          · exact bl_trans hb (h.head y hy)) h
      · rename_i hb
        refine Srt.cons (fun y hy => ?_) (ih h.tail)
        rcases putL_mem hy with rfl | hy
        · rcases bl_tri (ky x) (ky y) with h1 | h1 | h1
          · exact h1
          · exact absurd h1 hk
          · exact absurd h1 hb
        · exact h.head y hy
end Go.Proofs.YtjlflmjimibciabGreatDoor.Th
end

section
namespace Go.Proofs.YtjlflmjimibciabGreatDoor.Th
open Go Go.Proofs.YtjlflmjimibciabGreatDoor.Print
set_option linter.unusedVariables false
set_option linter.unusedSimpArgs false
/-- A right entry. -/
def Rt (e : En) : Prop := Pth (ky e) ∧ (e.f1 = 1 ∧ (da e).length ≤ 256 ∨ (e.f1 = 2 ∨ e.f1 = 3 ∨ e.f1 = 4) ∧ da e = [])
def Hld (e : En) : Prop := e.f1 = 2 ∨ e.f1 = 4
instance (e : En) : Decidable (Hld e) := inferInstanceAs (Decidable (_ ∨ _))
theorem Rt.kind {e : En} (h : Rt e) : e.f1 = 1 ∨ e.f1 = 2 ∨ e.f1 = 3 ∨ e.f1 = 4 := by rcases h.2 with h | h <;> omega
/-- A layer, whatever its length. -/
structure Lyr (l : List En) : Prop where
  rt : ∀ e ∈ l, Rt e
  srt : Srt l
  par : ∀ e ∈ l, parB (ky e) = [] ∨ ∃ x ∈ l, ky x = parB (ky e) ∧ Hld x
/-- A tree, whatever its length. -/
structure Tre (l : List En) : Prop where
  lyr : Lyr l
  kd : ∀ e ∈ l, e.f1 ≤ 2
theorem Lyr.nil : Lyr [] := ⟨fun _ h => (by cases h), List.Pairwise.nil, fun _ h => (by cases h)⟩
theorem Tre.nil : Tre [] := ⟨Lyr.nil, fun _ h => (by cases h)⟩
/-- What an entry lies under holds. -/
theorem Lyr.up {l : List En} (h : Lyr l) : ∀ (n : Nat) (e : En), (ky e).length ≤ n → e ∈ l → ∀ y, Und (ky e) y → y ≠ [] → ∃ x ∈ l, ky x = y ∧ Hld x := by
  intro n
  induction n with
  | zero => intro e hn he y hu _; have := hu.len; omega
  | succ n ih =>
    intro e hn he y hu hy
    have hp := (h.rt e he).1
    rcases hp.up hu with e1 | e1
    · rcases h.par e he with h0 | ⟨x, hx, hk, hh⟩
      · exact absurd (e1.trans h0) hy
      · exact ⟨x, hx, hk.trans e1.symm, hh⟩
    · rcases h.par e he with h0 | ⟨x, hx, hk, hh⟩
      · rw [h0] at e1; have := e1.len; simp at this
      · have hl := hp.und.len
        exact ih x (by rw [hk]; omega) hx y (by rw [hk]; exact e1) hy
theorem Lyr.fndp {l : List En} (h : Lyr l) {e : En} (he : e ∈ l) : parB (ky e) = [] ∨ ∃ x, fnd l (parB (ky e)) = some x ∧ Hld x := by
  rcases h.par e he with h0 | ⟨x, hx, hk, hh⟩
  · exact .inl h0
  · exact .inr ⟨x, by rw [← hk]; exact h.srt.at_ hx, hh⟩

/-- Does a layer hide what lies below, at a path? -/
def Hid (l : List En) (p : By) : Prop := ∃ x ∈ l, x.f1 ≠ 2 ∧ Und p (ky x)
instance (l : List En) (p : By) : Decidable (Hid l p) := inferInstanceAs (Decidable (∃ x ∈ l, x.f1 ≠ 2 ∧ Und p (ky x)))
theorem Hid.nil (p : By) : ¬ Hid [] p := by rintro ⟨x, hx, _⟩; cases hx
theorem Hid.und {l : List En} {p q : By} (h : Hid l p) (k : Und q p) : Hid l q := by obtain ⟨x, hx, h2, hu⟩ := h; exact ⟨x, hx, h2, k.trans hu⟩
/-- A tree, by what stands at each path. -/
structure TreF (F : By → Option En) : Prop where
  rt : ∀ p e, F p = some e → ky e = p ∧ Rt e ∧ e.f1 ≤ 2
  par : ∀ p e, F p = some e → parB p = [] ∨ ∃ x, F (parB p) = some x ∧ x.f1 = 2
theorem Tre.f {t : List En} (h : Tre t) : TreF (fnd t) := by
  refine ⟨fun p e he => ?_, fun p e he => ?_⟩
  · obtain ⟨hm, hk⟩ := fnd_mem he; exact ⟨hk, h.lyr.rt e hm, h.kd e hm⟩
  · obtain ⟨hm, hk⟩ := fnd_mem he
    rw [← hk]
    rcases h.lyr.fndp hm with h0 | ⟨x, hx, hh⟩
    · exact .inl h0
    · refine .inr ⟨x, hx, ?_⟩
      have := h.kd x (fnd_mem hx).1
      rcases hh with h2 | h2 <;> omega
end Go.Proofs.YtjlflmjimibciabGreatDoor.Th
end

section
namespace Go.Proofs.YtjlflmjimibciabGreatDoor.Th
open Go Go.Proofs.YtjlflmjimibciabGreatDoor.Print
theorem cmp_lt : ∀ a b : List UInt8, (Lib.compareBytes a b < 0) ↔ Op.bytesLess a b = true
  | [], [] => by simp [Lib.compareBytes, Op.bytesLess]
  | [], y :: b => by simp [Lib.compareBytes, Op.bytesLess]
  | x :: a, [] => by simp [Lib.compareBytes, Op.bytesLess]
  | x :: a, y :: b => by
    have ih := cmp_lt a b
    simp only [Lib.compareBytes, Op.bytesLess]
    by_cases h : x < y
    · simp [h]
    · by_cases h2 : y < x
      · have : ¬ x = y := fun e => by subst e; exact UInt8.lt_irrefl _ h2
        simp [h, h2, this]
      · have : x = y := UInt8.le_antisymm (UInt8.not_lt.1 h2) (UInt8.not_lt.1 h)
        subst this
        simp [h, ih]
theorem cmp_cases (a b : List UInt8) : Lib.compareBytes a b = if Op.bytesLess a b then -1 else if Op.bytesLess b a then 1 else 0 := by
  have h1 := cmp_lt a b
  have h2 := cmp_lt b a
  have hr : ∀ a b : List UInt8, (Lib.compareBytes a b = -1 ∧ Lib.compareBytes b a = 1) ∨ (Lib.compareBytes a b = 1 ∧ Lib.compareBytes b a = -1) ∨ (Lib.compareBytes a b = 0 ∧ Lib.compareBytes b a = 0) := by
    intro a
    induction a with
    | nil => intro b; cases b <;> simp [Lib.compareBytes]
    | cons x a ih =>
      intro b
      cases b with
      | nil => simp [Lib.compareBytes]
      | cons y b =>
        simp only [Lib.compareBytes]
        by_cases h : x < y
        · have : ¬ y < x := fun h2 => UInt8.lt_irrefl _ (UInt8.lt_trans h h2)
          simp [h, this]
        · by_cases h2 : y < x
          · simp [h, h2]
          · simp [h, h2]; exact ih b
  rcases hr a b with ⟨e1, e2⟩ | ⟨e1, e2⟩ | ⟨e1, e2⟩
  · rw [if_pos (h1.1 (by omega)), e1]
  · rw [if_neg (fun h => by have := h1.2 h; omega), if_pos (h2.1 (by omega)), e1]
  · rw [if_neg (fun h => by have := h1.2 h; omega), if_neg (fun h => by have := h2.2 h; omega), e1]
theorem bsF_spec (F : Nat → ByteArray) (p : ByteArray) (N : Nat) (hm : ∀ a b, a ≤ b → b < N → Lib.compareBytes (F b).data.toList p.data.toList < 0 → Lib.compareBytes (F a).data.toList p.data.toList < 0) :
    ∀ (n lo hi : Nat), lo ≤ hi → hi ≤ N → hi - lo ≤ n → (∀ t, t < lo → Lib.compareBytes (F t).data.toList p.data.toList < 0) → (∀ t, hi ≤ t → t < N → ¬ Lib.compareBytes (F t).data.toList p.data.toList < 0) →
      bsF F p n lo hi ≤ N ∧ (∀ t, t < bsF F p n lo hi → Lib.compareBytes (F t).data.toList p.data.toList < 0) ∧ (∀ t, bsF F p n lo hi ≤ t → t < N → ¬ Lib.compareBytes (F t).data.toList p.data.toList < 0)
  | 0, lo, hi, h1, h2, h3, h4, h5 => by
    rw [bsF]
    exact ⟨by omega, h4, fun t ht => h5 t (by omega)⟩
  | n + 1, lo, hi, h1, h2, h3, h4, h5 => by
    rw [bsF]
    by_cases hl : lo < hi
    · rw [if_pos hl]
      by_cases hc : Lib.compareBytes (F ((lo + hi) / 2)).data.toList p.data.toList < 0
      · rw [if_pos hc]
        exact bsF_spec F p N hm n _ hi (by omega) h2 (by omega) (fun t ht => hm t ((lo + hi) / 2) (by omega) (by omega) hc) h5
      · rw [if_neg hc]
        exact bsF_spec F p N hm n lo _ (by omega) (by omega) (by omega) h4 (fun t h6 h7 h8 => hc (hm ((lo + hi) / 2) t h6 h7 h8))
    · rw [if_neg hl]
      exact ⟨by omega, h4, fun t ht => h5 t (by omega)⟩
end Go.Proofs.YtjlflmjimibciabGreatDoor.Th
end
