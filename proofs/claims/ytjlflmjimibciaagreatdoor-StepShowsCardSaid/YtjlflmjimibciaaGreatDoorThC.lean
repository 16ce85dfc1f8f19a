/- Paths in plain words: the order of bytes, what lies under what, names. -/
import Derived.Test.YtjlflmjimibciaaGreatDoorPrint0
import Derived.Test.YtjlflmjimibciaaGreatDoorSplitP
import Derived.Test.YtjlflmjimibciaaGreatDoorExt
section
namespace Go.Proofs.YtjlflmjimibciaaGreatDoor.Th
open Go Go.Proofs.YtjlflmjimibciaaGreatDoor.Print
set_option linter.unusedVariables false
set_option linter.unusedSimpArgs false
abbrev By := List UInt8
theorem by_ext {a b : ByteArray} (h : a.data.toList = b.data.toList) : a = b := by
  cases a; cases b; congr 1; exact Array.ext' h
def bl (a b : By) : Prop := Op.bytesLess a b = true
instance (a b : By) : Decidable (bl a b) := inferInstanceAs (Decidable (_ = true))
theorem bl_irrefl : ∀ l : By, ¬ bl l l
  | [] => by simp [bl, Op.bytesLess]
  | a :: l => by have := bl_irrefl l; simp only [bl, Op.bytesLess] at *; simp [this]
theorem bl_cons (x : UInt8) (a : By) (y : UInt8) (b : By) : bl (x :: a) (y :: b) ↔ x < y ∨ x = y ∧ bl a b := by
  simp [bl, Op.bytesLess]
theorem bl_nil (a : By) : ¬ bl a [] := by cases a <;> simp [bl, Op.bytesLess]
theorem nil_bl (y : UInt8) (b : By) : bl [] (y :: b) := by simp [bl, Op.bytesLess]
theorem u8_lt_trans {a b c : UInt8} (h : a < b) (k : b < c) : a < c := UInt8.lt_iff_toNat_lt.2 (Nat.lt_trans (UInt8.lt_iff_toNat_lt.1 h) (UInt8.lt_iff_toNat_lt.1 k))
theorem u8_tri (a b : UInt8) : a < b ∨ a = b ∨ b < a := by
  rcases Nat.lt_trichotomy a.toNat b.toNat with h | h | h
  · exact .inl (UInt8.lt_iff_toNat_lt.2 h)
  · exact .inr (.inl (UInt8.toNat_inj.1 h))
  · exact .inr (.inr (UInt8.lt_iff_toNat_lt.2 h))
theorem bl_trans : ∀ {a b c : By}, bl a b → bl b c → bl a c
  | _, _, [], _, h => absurd h (bl_nil _)
  | [], _, z :: c, _, _ => nil_bl _ _
  | x :: a, [], _, h, _ => absurd h (bl_nil _)
  | x :: a, y :: b, z :: c, h, k => by
    rw [bl_cons] at h k ⊢
    rcases h with h | ⟨rfl, h⟩
    · rcases k with k | ⟨rfl, k⟩
      · exact .inl (u8_lt_trans h k)
      · exact .inl h
    · rcases k with k | ⟨rfl, k⟩
      · exact .inl k
      · exact .inr ⟨rfl, bl_trans h k⟩
theorem bl_asymm {a b : By} (h : bl a b) : ¬ bl b a := fun k => bl_irrefl a (bl_trans h k)
theorem bl_tri : ∀ a b : By, bl a b ∨ a = b ∨ bl b a
  | [], [] => .inr (.inl rfl)
  | [], y :: b => .inl (nil_bl _ _)
  | x :: a, [] => .inr (.inr (nil_bl _ _))
  | x :: a, y :: b => by
    rw [bl_cons, bl_cons]
    rcases u8_tri x y with h | rfl | h
    · exact .inl (.inl h)
    · rcases bl_tri a b with h | rfl | h
      · exact .inl (.inr ⟨rfl, h⟩)
      · exact .inr (.inl rfl)
      · exact .inr (.inr (.inr ⟨rfl, h⟩))
    · exact .inr (.inr (.inl h))
theorem bl_pre : ∀ (a : By) (b : UInt8) (c : By), bl a (a ++ b :: c)
  | [], _, _ => nil_bl _ _
  | x :: a, b, c => by rw [List.cons_append, bl_cons]; exact .inr ⟨rfl, bl_pre a b c⟩
theorem bl_ne {a b : By} (h : bl a b) : a ≠ b := fun e => by subst e; exact bl_irrefl _ h

def Und (x y : By) : Prop := ∃ c, x = y ++ 47 :: c
theorem und_iff (x y : By) : Und x y ↔ (y ++ [47]).isPrefixOf x = true := by
  rw [List.isPrefixOf_iff_prefix]
  constructor
  · rintro ⟨c, rfl⟩; exact ⟨c, by simp⟩
  · rintro ⟨c, rfl⟩; exact ⟨c, by simp⟩
instance (x y : By) : Decidable (Und x y) := decidable_of_iff _ (und_iff x y).symm
theorem Und.trans {x y z : By} (h : Und x y) (k : Und y z) : Und x z := by
  obtain ⟨c, rfl⟩ := h; obtain ⟨d, rfl⟩ := k; exact ⟨d ++ 47 :: c, by simp⟩
theorem Und.len {x y : By} (h : Und x y) : y.length < x.length := by obtain ⟨c, rfl⟩ := h; simp
theorem Und.ne {x y : By} (h : Und x y) : x ≠ y := fun e => by have := h.len; rw [e] at this; omega
theorem Und.irrefl (x : By) : ¬ Und x x := fun h => h.ne rfl
theorem Und.bl {x y : By} (h : Und x y) : bl y x := by obtain ⟨c, rfl⟩ := h; exact bl_pre _ _ _
/-- What one thing lies under lies in line. -/
theorem Und.line {x y z : By} (h : Und x y) (k : Und x z) : y = z ∨ Und y z ∨ Und z y := by
  obtain ⟨c, rfl⟩ := h; obtain ⟨d, hd⟩ := k
  rcases List.append_eq_append_iff.1 hd with ⟨e, rfl, he⟩ | ⟨e, rfl, he⟩
  · cases e with
    | nil => left; simp
    | cons b e => simp at he; obtain ⟨rfl, rfl⟩ := he; exact .inr (.inr ⟨e, rfl⟩)
  · cases e with
    | nil => left; simp
    | cons b e => simp at he; obtain ⟨rfl, rfl⟩ := he; exact .inr (.inl ⟨e, rfl⟩)

def joinB (l : List By) : By := l.flatMap fun n => 47 :: n
theorem joinB_nil : joinB [] = [] := rfl
theorem joinB_cons (n : By) (l : List By) : joinB (n :: l) = 47 :: n ++ joinB l := rfl
theorem joinB_append (a b : List By) : joinB (a ++ b) = joinB a ++ joinB b := by unfold joinB; rw [List.flatMap_append]
theorem joinB_snoc (a : List By) (n : By) : joinB (a ++ [n]) = joinB a ++ 47 :: n := by rw [joinB_append, joinB_cons, joinB_nil]; simp
theorem nameL_len {n : By} (h : nameL n = true) : 1 ≤ n.length ∧ n.length ≤ 8 := by
  unfold nameL at h; simp only [Bool.and_eq_true, decide_eq_true_eq] at h; exact ⟨h.1, h.2.1⟩
theorem nameL_slash {n : By} (h : nameL n = true) : (47 : UInt8) ∉ n := by
  unfold nameL at h; simp only [Bool.and_eq_true, decide_eq_true_eq, List.all_eq_true] at h
  intro hm
  have := h.2.2 47 hm
  revert this; decide
theorem pieces_ne (l : By) : pieces l ≠ [] := by
  cases l with
  | nil => simp [pieces]
  | cons b l => rw [pieces]; split <;> (try split) <;> simp
theorem pieces_clean : ∀ n : By, (47 : UInt8) ∉ n → pieces n = [n]
  | [], _ => rfl
  | b :: n, h => by
    rw [pieces, if_neg (fun e => h (by simp [e])), pieces_clean n (fun m => h (by simp [m]))]
theorem pieces_slash : ∀ (n r : By), (47 : UInt8) ∉ n → pieces (n ++ 47 :: r) = n :: pieces r
  | [], r, _ => by rw [List.nil_append, pieces, if_pos rfl]
  | b :: n, r, h => by
    rw [List.cons_append, pieces, if_neg (fun e => h (by simp [e])), pieces_slash n r (fun m => h (by simp [m]))]
theorem pieces_join : ∀ (n : By) (l : List By), (47 : UInt8) ∉ n → (∀ m ∈ l, (47 : UInt8) ∉ m) → pieces (n ++ joinB l) = n :: l
  | n, [], h, _ => by rw [joinB_nil, List.append_nil]; exact pieces_clean n h
  | n, m :: l, h, hl => by
    rw [joinB_cons, List.cons_append, pieces_slash n _ h, pieces_join m l (hl m (by simp)) (fun x hx => hl x (by simp [hx]))]
theorem join_pieces : ∀ l : By, joinB (pieces l) = 47 :: l
  | [] => rfl
  | b :: l => by
    have ih := join_pieces l
    rw [pieces]
    split
    · rename_i h; subst h; rw [joinB_cons, ih]; rfl
    · cases hp : pieces l with
      | nil => exact absurd hp (pieces_ne l)
      | cons p ps =>
        rw [hp, joinB_cons] at ih
        simp only [joinB_cons]
        simp only [List.cons_append] at ih ⊢
        injection ih with _ ih
        rw [ih]
/-- Names that a path may have. -/
def Okn (l : List By) : Prop := l.length ≤ 6 ∧ ∀ n ∈ l, nameL n = true
theorem splitF_join {l : List By} (h : Okn l) (hne : l ≠ []) : splitF (joinB l) = some l := by
  cases l with
  | nil => exact absurd rfl hne
  | cons n l =>
    have hn := nameL_len (h.2 n (by simp))
    have e1 : joinB (n :: l) ≠ [47] := by
      intro e; rw [joinB_cons] at e
      simp at e
      have : n = [] := e.1
      rw [this] at hn; simp at hn
    have hp : pieces (n ++ joinB l) = n :: l := pieces_join n l (nameL_slash (h.2 n (by simp))) (fun m hm => nameL_slash (h.2 m (by simp [hm])))
    unfold splitF
    rw [if_neg e1]
    rw [joinB_cons, List.cons_append]
    simp only
    rw [hp, if_pos ⟨h.1, List.all_eq_true.2 h.2⟩]
theorem splitF_some {p : By} {l : List By} (h : splitF p = some l) : (p = [47] ∧ l = []) ∨ (p = joinB l ∧ l ≠ [] ∧ Okn l) := by
  unfold splitF at h
  split at h
  · rename_i e; exact .inl ⟨e, (Option.some.inj h).symm⟩
  · split at h
    · rename_i rest _
      split at h
      · rename_i hc
        obtain rfl := Option.some.inj h
        exact .inr ⟨(join_pieces rest).symm, pieces_ne rest, hc.1, fun n hn => List.all_eq_true.1 hc.2 n hn⟩
      · cases h
    · cases h
theorem splitF_root : splitF [47] = some [] := rfl
/-- A path's directory, byte by byte ([] of the root's entries). -/
def parB (p : By) : By := joinB ((splitF p).getD []).dropLast
/-- A path of a name or more. -/
def Pth (p : By) : Prop := ∃ l, splitF p = some l ∧ l ≠ []
theorem Pth.names {p : By} (h : Pth p) : ∃ l n, p = joinB (l ++ [n]) ∧ Okn (l ++ [n]) ∧ splitF p = some (l ++ [n]) ∧ parB p = joinB l := by
  obtain ⟨l, hl, hne⟩ := h
  rcases splitF_some hl with ⟨_, e⟩ | ⟨e, _, ok⟩
  · exact absurd e hne
  · refine ⟨l.dropLast, l.getLast hne, ?_⟩
    rw [List.dropLast_concat_getLast hne]
    exact ⟨e, ok, hl, by unfold parB; rw [hl]; rfl⟩
theorem Pth.ne {p : By} (h : Pth p) : p ≠ [] := by
  obtain ⟨l, n, rfl, _⟩ := h.names
  rw [joinB_snoc]; simp
theorem Pth.par {p : By} (h : Pth p) : ∃ n, p = parB p ++ 47 :: n ∧ nameL n = true := by
  obtain ⟨l, n, e, ok, _, hp⟩ := h.names
  refine ⟨n, ?_, ok.2 n (by simp)⟩
  rw [hp, ← joinB_snoc]; exact e
theorem Pth.und {p : By} (h : Pth p) : Und p (parB p) := by obtain ⟨n, e, _⟩ := h.par; exact ⟨n, e⟩
/-- What a path lies under is its directory, or that lies under it. -/
theorem Pth.up {p y : By} (h : Pth p) (hu : Und p y) : y = parB p ∨ Und (parB p) y := by
  obtain ⟨n, e, hn⟩ := h.par
  rcases hu.line h.und with h1 | h1 | h1
  · exact .inl h1
  · exfalso
    obtain ⟨c, hc⟩ := hu
    obtain ⟨d, hd⟩ := h1
    have hs := nameL_slash hn
    apply hs
    have e2 : parB p ++ 47 :: (d ++ 47 :: c) = parB p ++ 47 :: n := by
      rw [← e, ← List.cons_append, ← List.append_assoc, ← hd]; exact hc.symm
    have := List.append_cancel_left e2
    injection this with _ this
    rw [← this]; simp
  · exact .inr h1
theorem joinB_len {L : List By} (h : Okn L) : (joinB L).length ≤ 54 := by
  have : ∀ L : List By, (∀ n ∈ L, nameL n = true) → (joinB L).length ≤ 9 * L.length := by
    intro L
    induction L with
    | nil => intro _; exact Nat.le_refl _
    | cons n L ih =>
      intro h
      have h1 := ih (fun m hm => h m (by simp [hm]))
      have h2 := nameL_len (h n (by simp))
      rw [joinB_cons]; simp; omega
  have h1 := this L h.2
  have := h.1
  omega
end Go.Proofs.YtjlflmjimibciaaGreatDoor.Th
end

section
namespace Go.Proofs.YtjlflmjimibciaaGreatDoor.Th
open Go Go.Proofs.YtjlflmjimibciaaGreatDoor.Print
set_option linter.unusedVariables false
set_option linter.unusedSimpArgs false
abbrev En := S41
def ky (e : En) : By := e.f0.data.toList
def da (e : En) : By := e.f2.data.toList
theorem en_ext {a b : En} (h0 : ky a = ky b) (h1 : a.f1 = b.f1) (h2 : da a = da b) : a = b := by
  cases a; cases b; simp only [ky, da] at h0 h2; simp only at h1
  rw [by_ext h0, h1, by_ext h2]

def Srt (l : List En) : Prop := l.Pairwise fun x y => bl (ky x) (ky y)
def fnd (l : List En) (p : By) : Option En := l.find? fun e => decide (ky e = p)
theorem fnd_nil (p : By) : fnd [] p = none := rfl
theorem fnd_cons (x : En) (l : List En) (p : By) : fnd (x :: l) p = if ky x = p then some x else fnd l p := by
  unfold fnd; rw [List.find?_cons]; by_cases h : ky x = p <;> simp [h]
theorem fnd_mem {l : List En} {p : By} {e : En} (h : fnd l p = some e) : e ∈ l ∧ ky e = p := by
  unfold fnd at h
  exact ⟨List.mem_of_find?_eq_some h, by simpa using List.find?_some h⟩
theorem fnd_none {l : List En} {p : By} : fnd l p = none ↔ ∀ e ∈ l, ky e ≠ p := by
  unfold fnd; rw [List.find?_eq_none]; simp
theorem fnd_append (a b : List En) (p : By) : fnd (a ++ b) p = (fnd a p).or (fnd b p) := by
  unfold fnd; rw [List.find?_append]
theorem Srt.tail {x : En} {l : List En} (h : Srt (x :: l)) : Srt l := (List.pairwise_cons.1 h).2
theorem Srt.head {x : En} {l : List En} (h : Srt (x :: l)) : ∀ y ∈ l, bl (ky x) (ky y) := (List.pairwise_cons.1 h).1
theorem Srt.cons {x : En} {l : List En} (h : ∀ y ∈ l, bl (ky x) (ky y)) (k : Srt l) : Srt (x :: l) := List.pairwise_cons.2 ⟨h, k⟩
theorem Srt.at_ {l : List En} (h : Srt l) {e : En} (he : e ∈ l) : fnd l (ky e) = some e := by
  induction l with
  | nil => cases he
  | cons x l ih =>
    rw [fnd_cons]
    rcases List.mem_cons.1 he with rfl | he
    · rw [if_pos rfl]
    · rw [if_neg (fun e1 => bl_ne (h.head e he) e1)]; exact ih h.tail he
theorem Srt.filter {l : List En} (h : Srt l) (q : En → Bool) : Srt (l.filter q) := List.Pairwise.filter q h
theorem Srt.append {a b : List En} (ha : Srt a) (hb : Srt b) (h : ∀ x ∈ a, ∀ y ∈ b, bl (ky x) (ky y)) : Srt (a ++ b) := List.pairwise_append.2 ⟨ha, hb, h⟩
theorem Srt.parts {a b : List En} (h : Srt (a ++ b)) : Srt a ∧ Srt b ∧ ∀ x ∈ a, ∀ y ∈ b, bl (ky x) (ky y) := List.pairwise_append.1 h
theorem fnd_filter {l : List En} (h : Srt l) (q : En → Bool) (p : By) : fnd (l.filter q) p = (fnd l p).filter q := by
  induction l with
  | nil => rfl
  | cons x l ih =>
    rw [List.filter_cons, fnd_cons]
    by_cases hx : ky x = p
    · rw [if_pos hx]
      cases hq : q x with
      | true => rw [if_pos rfl, fnd_cons, if_pos hx, Option.filter_some_pos hq]
      | false =>
        rw [if_neg (by simp), ih h.tail]
        have : fnd l p = none := fnd_none.2 fun e he e1 => bl_ne (h.head e he) (hx.trans e1.symm)
        rw [this, Option.filter_some_neg (by simp [hq])]; rfl
    · rw [if_neg hx, ← ih h.tail]
      split
      · rw [fnd_cons, if_neg hx]
      · rfl
/-- Sorted lists in which the same stands at each path are one list. -/
theorem Srt.ext {a b : List En} (ha : Srt a) (hb : Srt b) (h : ∀ p, fnd a p = fnd b p) : a = b := by
  induction a generalizing b with
  | nil =>
    cases b with
    | nil => rfl
    | cons y b => have := h (ky y); rw [fnd_cons, if_pos rfl] at this; cases this
  | cons x a ih =>
    cases b with
    | nil => have := h (ky x); rw [fnd_cons, if_pos rfl] at this; cases this
    | cons y b =>
      have hxy : x = y := by
        have h1 := h (ky x); have h2 := h (ky y)
        rw [fnd_cons, if_pos rfl, fnd_cons] at h1
        rw [fnd_cons, fnd_cons, if_pos rfl] at h2
        by_cases e : ky y = ky x
        · rw [if_pos e] at h1; exact Option.some.inj h1
        · rw [if_neg e] at h1; rw [if_neg (fun e1 => e e1.symm)] at h2
          have k1 := hb.head x (fnd_mem h1.symm).1
          have k2 := ha.head y (fnd_mem h2).1
          exact absurd k1 (bl_asymm k2)
      subst hxy
      congr 1
      refine ih ha.tail hb.tail fun p => ?_
      have := h p
      rw [fnd_cons, fnd_cons] at this
      by_cases e : ky x = p
      · subst e
        have k1 : fnd a (ky x) = none := fnd_none.2 fun e he e1 => bl_ne (ha.head e he) e1.symm
        have k2 : fnd b (ky x) = none := fnd_none.2 fun e he e1 => bl_ne (hb.head e he) e1.symm
        rw [k1, k2]
      · rwa [if_neg e, if_neg e] at this

def putL : List En → En → List En
  | [], e => [e]
  | x :: t, e => if ky x = ky e then e :: t else if bl (ky e) (ky x) then e :: x :: t else x :: putL t e
theorem putL_mem {t : List En} {e y : En} (h : y ∈ putL t e) : y = e ∨ y ∈ t := by
  induction t with
  | nil => simp [putL] at h; exact .inl h
  | cons x t ih =>
    rw [putL] at h
    split at h
    · rcases List.mem_cons.1 h with h | h
      · exact .inl h
      · exact .inr (by simp [h])
    · split at h
      · rcases List.mem_cons.1 h with h | h
        · exact .inl h
        · exact .inr h
      · rcases List.mem_cons.1 h with h | h
        · exact .inr (by simp [h])
        · rcases ih h with h | h
          · exact .inl h
          · exact .inr (by simp [h])
theorem Srt.put {t : List En} (h : Srt t) (e : En) : Srt (putL t e) := by
  induction t with
  | nil => exact List.pairwise_singleton _ _
  | cons x t ih =>
    rw [Th.putL]
    split
    · rename_i hk
      exact Srt.cons (fun y hy => hk ▸ h.head y hy) h.tail
    · rename_i hk
      split
      · rename_i hb
        exact Srt.cons (fun y hy => by
          rcases List.mem_cons.1 hy with rfl | hy
          · exact hb
          · exact bl_trans hb (h.head y hy)) h
      · rename_i hb
        refine Srt.cons (fun y hy => ?_) (ih h.tail)
        rcases putL_mem hy with rfl | hy
        · rcases bl_tri (ky x) (ky y) with h1 | h1 | h1
          · exact h1
          · exact absurd h1 hk
          · exact absurd h1 hb
        · exact h.head y hy
theorem fnd_putL (t : List En) (h : Srt t) (e : En) (p : By) : fnd (putL t e) p = if p = ky e then some e else fnd t p := by
  induction t with
  | nil => rw [putL, fnd_cons]; simp [eq_comm]
  | cons x t ih =>
    rw [putL]
    split
    · rename_i hk
      rw [fnd_cons, fnd_cons]
      by_cases hp : p = ky e
      · rw [if_pos hp.symm, if_pos hp]
      · rw [if_neg (Ne.symm hp), if_neg hp, if_neg (by rw [hk]; exact Ne.symm hp)]
    · rename_i hk
      split
      · rw [fnd_cons]
        by_cases hp : p = ky e
        · rw [if_pos hp.symm, if_pos hp]
        · rw [if_neg (Ne.symm hp), if_neg hp]
      · rw [fnd_cons, ih h.tail, fnd_cons]
        by_cases hp : p = ky e
        · rw [if_pos hp, if_neg (by rw [hp]; exact hk), if_pos hp]
        · rw [if_neg hp, if_neg hp]
theorem putL_len (t : List En) (e : En) : (putL t e).length ≤ t.length + 1 := by
  induction t with
  | nil => simp [putL]
  | cons x t ih => rw [putL]; split <;> (try split) <;> simp <;> omega
/-- Put in its place: what is less, it, what is greater. -/
theorem putL_eq (t : List En) (h : Srt t) (e : En) : putL t e = t.filter (fun x => decide (bl (ky x) (ky e))) ++ e :: t.filter (fun x => decide (bl (ky e) (ky x))) := by
  induction t with
  | nil => rfl
  | cons x t ih =>
    rw [putL]
    split
    · rename_i hk
      have h1 : ∀ y ∈ t, bl (ky e) (ky y) := fun y hy => hk ▸ h.head y hy
      rw [List.filter_cons, if_neg (by simp [hk]; exact bl_irrefl _), List.filter_cons, if_neg (by simp [hk]; exact bl_irrefl _)]
      rw [List.filter_eq_nil_iff.2 (fun y hy => by simp; exact bl_asymm (h1 y hy)), List.filter_eq_self.2 (fun y hy => by simp; exact h1 y hy)]
      rfl
    · rename_i hk
      split
      · rename_i hb
        have h1 : ∀ y ∈ x :: t, bl (ky e) (ky y) := fun y hy => by
          rcases List.mem_cons.1 hy with rfl | hy
          · exact hb
          · exact bl_trans hb (h.head y hy)
        rw [List.filter_eq_nil_iff.2 (fun y hy => by simp; exact bl_asymm (h1 y hy)), List.filter_eq_self.2 (fun y hy => by simp; exact h1 y hy)]
        rfl
      · rename_i hb
        have hb2 : bl (ky x) (ky e) := by
          rcases bl_tri (ky x) (ky e) with h1 | h1 | h1
          · exact h1
          · exact absurd h1 hk
          · exact absurd h1 hb
        rw [List.filter_cons, if_pos (by simp; exact hb2), List.filter_cons, if_neg (by simp; exact hb), ih h.tail]
        rfl
end Go.Proofs.YtjlflmjimibciaaGreatDoor.Th
end

section
namespace Go.Proofs.YtjlflmjimibciaaGreatDoor.Th
open Go Go.Proofs.YtjlflmjimibciaaGreatDoor.Print
set_option linter.unusedVariables false
set_option linter.unusedSimpArgs false
def noB : ByteArray := ⟨#[]⟩
/-- A right entry. -/
def Rt (e : En) : Prop := Pth (ky e) ∧ (e.f1 = 1 ∧ (da e).length ≤ 256 ∨ (e.f1 = 2 ∨ e.f1 = 3 ∨ e.f1 = 4) ∧ da e = [])
def Hld (e : En) : Prop := e.f1 = 2 ∨ e.f1 = 4
instance (e : En) : Decidable (Hld e) := inferInstanceAs (Decidable (_ ∨ _))
theorem Rt.kind {e : En} (h : Rt e) : e.f1 = 1 ∨ e.f1 = 2 ∨ e.f1 = 3 ∨ e.f1 = 4 := by rcases h.2 with h | h <;> omega
theorem Rt.noda {e : En} (h : Rt e) (k : e.f1 ≠ 1) : e.f2 = noB := by
  rcases h.2 with h | h
  · exact absurd h.1 k
  · exact by_ext h.2
theorem Rt.turn {e : En} (h : Rt e) (k : e.f1 ≠ 1) {n : Int} (hn : n = 2 ∨ n = 3 ∨ n = 4) : Rt ⟨e.f0, n, e.f2⟩ := by
  refine ⟨h.1, .inr ⟨hn, ?_⟩⟩
  rcases h.2 with h | h
  · exact absurd h.1 k
  · exact h.2
/-- A layer, whatever its length. -/
structure Lyr (l : List En) : Prop where
  rt : ∀ e ∈ l, Rt e
  srt : Srt l
  par : ∀ e ∈ l, parB (ky e) = [] ∨ ∃ x ∈ l, ky x = parB (ky e) ∧ Hld x
/-- A tree, whatever its length. -/
structure Tre (l : List En) : Prop where
  lyr : Lyr l
  kd : ∀ e ∈ l, e.f1 ≤ 2
theorem Lyr.nil : Lyr [] := ⟨fun _ h => (by cases h), List.Pairwise.nil, fun _ h => (by cases h)⟩
theorem Tre.nil : Tre [] := ⟨Lyr.nil, fun _ h => (by cases h)⟩
/-- What an entry lies under holds. -/
theorem Lyr.up {l : List En} (h : Lyr l) : ∀ (n : Nat) (e : En), (ky e).length ≤ n → e ∈ l → ∀ y, Und (ky e) y → y ≠ [] → ∃ x ∈ l, ky x = y ∧ Hld x := by
  intro n
  induction n with
  | zero => intro e hn he y hu _; have := hu.len; omega
  | succ n ih =>
    intro e hn he y hu hy
    have hp := (h.rt e he).1
    rcases hp.up hu with e1 | e1
    · rcases h.par e he with h0 | ⟨x, hx, hk, hh⟩
      · exact absurd (e1.trans h0) hy
      · exact ⟨x, hx, hk.trans e1.symm, hh⟩
    · rcases h.par e he with h0 | ⟨x, hx, hk, hh⟩
      · rw [h0] at e1; have := e1.len; simp at this
      · have hl := hp.und.len
        exact ih x (by rw [hk]; omega) hx y (by rw [hk]; exact e1) hy
theorem Lyr.fndp {l : List En} (h : Lyr l) {e : En} (he : e ∈ l) : parB (ky e) = [] ∨ ∃ x, fnd l (parB (ky e)) = some x ∧ Hld x := by
  rcases h.par e he with h0 | ⟨x, hx, hk, hh⟩
  · exact .inl h0
  · exact .inr ⟨x, by rw [← hk]; exact h.srt.at_ hx, hh⟩

def oneL (t : List En) (e : En) : List En :=
  if e.f1 = 2 then putL (t.filter fun x => !decide (ky x = ky e ∧ x.f1 = 1)) e
  else
    let t' := t.filter fun x => !decide (ky x = ky e ∨ Und (ky x) (ky e))
    if e.f1 = 3 then t' else putL t' (if e.f1 = 4 then ⟨e.f0, 2, e.f2⟩ else e)
/-- What is shown of an entry. -/
def shw (e : En) : Option En := if e.f1 = 3 then none else if e.f1 = 4 then some ⟨e.f0, 2, e.f2⟩ else some e
def lay1 (F : By → Option En) (e : En) (p : By) : Option En :=
  if e.f1 = 2 then if p = ky e then some e else F p
  else if p = ky e then shw e else if Und p (ky e) then none else F p
theorem oneL_srt {t : List En} (h : Srt t) (e : En) : Srt (oneL t e) := by
  unfold oneL
  split
  · exact (h.filter _).put _
  · simp only
    split
    · exact h.filter _
    · exact (h.filter _).put _
theorem fnd_ky {t : List En} {p : By} {x : En} (h : fnd t p = some x) : ky x = p := (fnd_mem h).2
theorem fnd_oneL {t : List En} (h : Srt t) (e : En) (p : By) : fnd (oneL t e) p = lay1 (fnd t) e p := by
  unfold oneL lay1
  split
  · rw [fnd_putL _ (h.filter _), fnd_filter h]
    split
    · rfl
    · rename_i hp
      cases hf : fnd t p with
      | none => rfl
      | some x =>
        have := fnd_ky hf
        rw [Option.filter_some, if_pos]
        simp; exact .inl fun e1 => hp (this.symm.trans e1)
  · simp only
    have key : p ≠ ky e → fnd (t.filter fun x => !decide (ky x = ky e ∨ Und (ky x) (ky e))) p = if Und p (ky e) then none else fnd t p := by
      intro hp
      rw [fnd_filter h]
      cases hf : fnd t p with
      | none => simp
      | some x =>
        have hk := fnd_ky hf
        rw [Option.filter_some, hk]
        by_cases hu : Und p (ky e)
        · rw [if_pos hu, if_neg]; simp [hu]
        · rw [if_neg hu, if_pos]; simp [hu, hp]
    have key0 : fnd (t.filter fun x => !decide (ky x = ky e ∨ Und (ky x) (ky e))) (ky e) = none := by
      rw [fnd_filter h]
      cases hf : fnd t (ky e) with
      | none => rfl
      | some x =>
        have hk := fnd_ky hf
        rw [Option.filter_some, hk, if_neg]; simp
    split
    · rename_i h3
      by_cases hp : p = ky e
      · rw [if_pos hp, hp, key0]; simp [shw, h3]
      · rw [if_neg hp, key hp]
    · rename_i h3
      rw [fnd_putL _ (h.filter _)]
      have hke : ky (if e.f1 = 4 then ⟨e.f0, 2, e.f2⟩ else e) = ky e := by split <;> rfl
      rw [hke]
      by_cases hp : p = ky e
      · rw [if_pos hp, if_pos hp, shw, if_neg h3]; split <;> rfl
      · rw [if_neg hp, if_neg hp, key hp]
theorem oneL_len (t : List En) (e : En) : (oneL t e).length ≤ t.length + 1 := by
  unfold oneL
  split
  · exact Nat.le_trans (putL_len _ _) (Nat.succ_le_succ (List.length_filter_le _ _))
  · simp only
    split
    · exact Nat.le_succ_of_le (List.length_filter_le _ _)
    · exact Nat.le_trans (putL_len _ _) (Nat.succ_le_succ (List.length_filter_le _ _))

/-- Does a layer hide what lies below, at a path? -/
def Hid (l : List En) (p : By) : Prop := ∃ x ∈ l, x.f1 ≠ 2 ∧ Und p (ky x)
instance (l : List En) (p : By) : Decidable (Hid l p) := inferInstanceAs (Decidable (∃ x ∈ l, x.f1 ≠ 2 ∧ Und p (ky x)))
theorem Hid.nil (p : By) : ¬ Hid [] p := by rintro ⟨x, hx, _⟩; cases hx
theorem Hid.und {l : List En} {p q : By} (h : Hid l p) (k : Und q p) : Hid l q := by obtain ⟨x, hx, h2, hu⟩ := h; exact ⟨x, hx, h2, k.trans hu⟩
theorem hid_snoc (l : List En) (e : En) (p : By) : Hid (l ++ [e]) p ↔ Hid l p ∨ (e.f1 ≠ 2 ∧ Und p (ky e)) := by
  unfold Hid; simp only [List.mem_append, List.mem_singleton]
  constructor
  · rintro ⟨x, hx | rfl, h⟩
    · exact .inl ⟨x, hx, h⟩
    · exact .inr h
  · rintro (⟨x, hx, h⟩ | h)
    · exact ⟨x, .inl hx, h⟩
    · exact ⟨e, .inr rfl, h⟩
def ovr (F : By → Option En) (l : List En) (p : By) : Option En := match fnd l p with
  | some e => shw e
  | none => if Hid l p then none else F p
theorem ovr_nil (F : By → Option En) : ovr F [] = F := by
  funext p; unfold ovr; rw [fnd_nil]; simp only; rw [if_neg (Hid.nil p)]
theorem shw_two {e : En} (h : e.f1 = 2) : shw e = some e := by unfold shw; rw [if_neg (by omega), if_neg (by omega)]
/-- Behind all that is less: nothing of them stands at, or under, what is greater. -/
theorem snoc_none {l : List En} {e : En} (h : Srt (l ++ [e])) {p : By} (hp : p = ky e ∨ Und p (ky e)) : fnd l p = none := by
  refine fnd_none.2 fun x hx e1 => ?_
  have h1 := h.parts.2.2 x hx e (by simp)
  rcases hp with rfl | hu
  · exact bl_ne h1 e1
  · rw [e1] at h1; exact bl_asymm h1 hu.bl
theorem ovr_snoc (F : By → Option En) (l : List En) (e : En) (h : Srt (l ++ [e])) : lay1 (ovr F l) e = ovr F (l ++ [e]) := by
  funext p
  unfold lay1
  by_cases hp : p = ky e
  · have hn : fnd l p = none := snoc_none h (.inl hp)
    have : ovr F (l ++ [e]) p = shw e := by
      unfold ovr; rw [fnd_append, hn, Option.none_or, fnd_cons, if_pos hp.symm]
    rw [this]
    by_cases h2 : e.f1 = 2
    · rw [if_pos h2, if_pos hp, shw_two h2]
    · rw [if_neg h2, if_pos hp]
  · have hf : fnd (l ++ [e]) p = fnd l p := by rw [fnd_append, fnd_cons, if_neg (Ne.symm hp), fnd_nil, Option.or_none]
    have hq : ovr F (l ++ [e]) p = match fnd l p with
      | some x => shw x
      | none => if Hid l p ∨ (e.f1 ≠ 2 ∧ Und p (ky e)) then none else F p := by
      unfold ovr; rw [hf]; cases fnd l p with
      | some x => rfl
      | none =>
        simp only
        by_cases hh : Hid (l ++ [e]) p
        · rw [if_pos hh, if_pos ((hid_snoc l e p).1 hh)]
        · rw [if_neg hh, if_neg (fun k => hh ((hid_snoc l e p).2 k))]
    rw [hq]
    by_cases h2 : e.f1 = 2
    · rw [if_pos h2, if_neg hp]
      unfold ovr
      cases fnd l p with
      | some x => rfl
      | none =>
        simp only
        by_cases hh : Hid l p
        · rw [if_pos hh, if_pos (.inl hh)]
        · rw [if_neg hh, if_neg (by rintro (k | k); exact hh k; exact k.1 h2)]
    · rw [if_neg h2, if_neg hp]
      by_cases hu : Und p (ky e)
      · rw [if_pos hu, snoc_none h (.inr hu)]
        simp only
        rw [if_pos (.inr ⟨h2, hu⟩)]
      · rw [if_neg hu]
        unfold ovr
        cases fnd l p with
        | some x => rfl
        | none =>
          simp only
          by_cases hh : Hid l p
          · rw [if_pos hh, if_pos (.inl hh)]
          · rw [if_neg hh, if_neg (by rintro (k | k); exact hh k; exact hu k.2)]
/-- A layer laid over a list. -/
def overL (t l : List En) : List En := l.foldl oneL t
theorem overL_snoc (t l : List En) (e : En) : overL t (l ++ [e]) = oneL (overL t l) e := by unfold overL; rw [List.foldl_append]; rfl
theorem overL_nil (t : List En) : overL t [] = t := rfl
theorem snoc_ind {P : List En → Prop} (h0 : P []) (h1 : ∀ l e, P l → P (l ++ [e])) : ∀ l, P l := by
  intro l
  have : ∀ r : List En, P r.reverse := by
    intro r
    induction r with
    | nil => exact h0
    | cons e r ih => rw [List.reverse_cons]; exact h1 _ _ ih
  have h := this l.reverse
  rwa [List.reverse_reverse] at h
theorem overL_srt {t : List En} (h : Srt t) (l : List En) : Srt (overL t l) := by
  induction l using snoc_ind with
  | h0 => exact h
  | h1 l e ih => rw [overL_snoc]; exact oneL_srt ih e
theorem fnd_overL {t : List En} (h : Srt t) (l : List En) (hl : Srt l) : fnd (overL t l) = ovr (fnd t) l := by
  induction l using snoc_ind with
  | h0 => rw [overL_nil, ovr_nil]
  | h1 l e ih =>
    rw [overL_snoc, ← ovr_snoc _ _ _ hl]
    funext p
    rw [fnd_oneL (overL_srt h l), ih hl.parts.1]
theorem overL_len (t l : List En) : (overL t l).length ≤ t.length + l.length := by
  induction l using snoc_ind with
  | h0 => exact Nat.le_refl _
  | h1 l e ih => rw [overL_snoc, List.length_append]; have := oneL_len (overL t l) e; simp; omega
/-- A tree, by what stands at each path. -/
structure TreF (F : By → Option En) : Prop where
  rt : ∀ p e, F p = some e → ky e = p ∧ Rt e ∧ e.f1 ≤ 2
  par : ∀ p e, F p = some e → parB p = [] ∨ ∃ x, F (parB p) = some x ∧ x.f1 = 2
theorem Tre.f {t : List En} (h : Tre t) : TreF (fnd t) := by
  refine ⟨fun p e he => ?_, fun p e he => ?_⟩
  · obtain ⟨hm, hk⟩ := fnd_mem he; exact ⟨hk, h.lyr.rt e hm, h.kd e hm⟩
  · obtain ⟨hm, hk⟩ := fnd_mem he
    rw [← hk]
    rcases h.lyr.fndp hm with h0 | ⟨x, hx, hh⟩
    · exact .inl h0
    · refine .inr ⟨x, hx, ?_⟩
      have := h.kd x (fnd_mem hx).1
      rcases hh with h2 | h2 <;> omega
theorem TreF.tre {t : List En} (h : Srt t) (hf : TreF (fnd t)) : Tre t := by
  refine ⟨⟨fun e he => (hf.rt _ e (h.at_ he)).2.1, h, fun e he => ?_⟩, fun e he => (hf.rt _ e (h.at_ he)).2.2⟩
  rcases hf.par _ e (h.at_ he) with h0 | ⟨x, hx, h2⟩
  · exact .inl h0
  · exact .inr ⟨x, (fnd_mem hx).1, (fnd_mem hx).2, .inl h2⟩
theorem shw_some {e x : En} (h : shw e = some x) : ky x = ky e ∧ (Rt e → Rt x ∧ x.f1 ≤ 2) ∧ (Hld e → x.f1 = 2) ∧ e.f1 ≠ 3 := by
  unfold shw at h
  split at h
  · cases h
  · rename_i h3
    split at h
    · rename_i h4
      obtain rfl := Option.some.inj h
      exact ⟨rfl, fun hr => ⟨hr.turn (by omega) (.inl rfl), by simp⟩, fun _ => rfl, h3⟩
    · rename_i h4
      obtain rfl := Option.some.inj h
      refine ⟨rfl, fun hr => ⟨hr, by have := hr.kind; omega⟩, fun hh => ?_, h3⟩
      rcases hh with h2 | h2
      · exact h2
      · exact absurd h2 h4
theorem shw_hld {e : En} (h : Hld e) : ∃ x, shw e = some x ∧ x.f1 = 2 := by
  unfold shw
  rcases h with h | h
  · exact ⟨e, by rw [if_neg (by omega), if_neg (by omega)], h⟩
  · exact ⟨⟨e.f0, 2, e.f2⟩, by rw [if_neg (by omega), if_pos h], rfl⟩
theorem ovr_tre {F : By → Option En} (hF : TreF F) {l : List En} (hl : Lyr l) : TreF (ovr F l) := by
  have hpar : ∀ p e, ovr F l p = some e → Pth p ∧ ky e = p ∧ Rt e ∧ e.f1 ≤ 2 := by
    intro p e he
    unfold ovr at he
    cases hf : fnd l p with
    | some x =>
      rw [hf] at he
      obtain ⟨hm, hk⟩ := fnd_mem hf
      obtain ⟨h1, h2, _, _⟩ := shw_some he
      have hr := hl.rt x hm
      exact ⟨hk ▸ hr.1, h1.trans hk, h2 hr⟩
    | none =>
      rw [hf] at he; simp only at he
      split at he
      · cases he
      · obtain ⟨h1, h2, h3⟩ := hF.rt p e he
        exact ⟨h1 ▸ h2.1, h1, h2, h3⟩
  refine ⟨fun p e he => (hpar p e he).2, fun p e he => ?_⟩
  have hP := (hpar p e he).1
  unfold ovr at he
  cases hf : fnd l p with
  | some x =>
    obtain ⟨hm, hk⟩ := fnd_mem hf
    rcases hl.fndp hm with h0 | ⟨y, hy, hh⟩
    · left; rw [← hk]; exact h0
    · right
      obtain ⟨z, hz, h2⟩ := shw_hld hh
      refine ⟨z, ?_, h2⟩
      unfold ovr
      rw [← hk, hy]; exact hz
  | none =>
    rw [hf] at he; simp only at he
    split at he
    · cases he
    · rename_i hh
      rcases hF.par p e he with h0 | ⟨x, hx, h2⟩
      · exact .inl h0
      · right
        unfold ovr
        cases hg : fnd l (parB p) with
        | some y =>
          obtain ⟨hm, hk⟩ := fnd_mem hg
          have hy2 : y.f1 = 2 := by
            rcases Decidable.em (y.f1 = 2) with h | h
            · exact h
            · exact absurd ⟨y, hm, h, by rw [hk]; exact hP.und⟩ hh
          exact ⟨y, shw_two hy2, hy2⟩
        | none =>
          simp only
          rw [if_neg (fun k => hh (k.und hP.und))]
          exact ⟨x, hx, h2⟩
theorem overL_tre {t l : List En} (ht : Tre t) (hl : Lyr l) : Tre (overL t l) := by
  refine TreF.tre (overL_srt ht.lyr.srt l) ?_
  rw [fnd_overL ht.lyr.srt l hl.srt]
  exact ovr_tre ht.f hl
/-- A stack folded. -/
def stkL (s : List (List En)) : List En := s.foldl overL []
theorem stkL_snoc (s : List (List En)) (l : List En) : stkL (s ++ [l]) = overL (stkL s) l := by unfold stkL; rw [List.foldl_append]; rfl
theorem foldl_tre (s : List (List En)) (hs : ∀ l ∈ s, Lyr l) : ∀ t, Tre t → Tre (s.foldl overL t) := by
  induction s with
  | nil => intro t ht; exact ht
  | cons l s ih => intro t ht; exact ih (fun x hx => hs x (by simp [hx])) _ (overL_tre ht (hs l (by simp)))
theorem stkL_tre {s : List (List En)} (hs : ∀ l ∈ s, Lyr l) : Tre (stkL s) := foldl_tre s hs [] Tre.nil
/-- What a stack shows, path by path. -/
def shows (s : List (List En)) : By → Option En := s.foldl ovr (fun _ => none)
theorem foldl_shows (s : List (List En)) (hs : ∀ l ∈ s, Srt l) : ∀ t, Srt t → fnd (s.foldl overL t) = s.foldl ovr (fnd t) := by
  induction s with
  | nil => intro t _; rfl
  | cons l s ih =>
    intro t ht
    rw [List.foldl_cons, List.foldl_cons, ih (fun x hx => hs x (by simp [hx])) _ (overL_srt ht l), fnd_overL ht l (hs l (by simp))]
theorem fnd_stkL {s : List (List En)} (hs : ∀ l ∈ s, Srt l) : fnd (stkL s) = shows s := foldl_shows s hs [] List.Pairwise.nil
theorem shows_append (s r : List (List En)) : shows (s ++ r) = r.foldl ovr (shows s) := by unfold shows; rw [List.foldl_append]
theorem stkL_srt {s : List (List En)} (hs : ∀ l ∈ s, Lyr l) : Srt (stkL s) := (stkL_tre hs).lyr.srt
theorem stkL_len (s : List (List En)) (n : Nat) (h : ∀ l ∈ s, l.length ≤ n) : (stkL s).length ≤ s.length * n := by
  have : ∀ (s : List (List En)) (t : List En), (∀ l ∈ s, l.length ≤ n) → (s.foldl overL t).length ≤ t.length + s.length * n := by
    intro s
    induction s with
    | nil => intro t _; simp
    | cons l s ih =>
      intro t h
      have h1 := ih (overL t l) (fun x hx => h x (by simp [hx]))
      have h2 := overL_len t l
      have h3 := h l (by simp)
      rw [List.foldl_cons, List.length_cons, Nat.add_mul]; omega
  have := this s [] h
  unfold stkL
  simpa using this

def botL (l : List En) : List En := (l.filter fun x => !decide (x.f1 = 3)).map fun x => if x.f1 = 4 then ⟨x.f0, 2, x.f2⟩ else x
theorem botL_srt {l : List En} (h : Srt l) : Srt (botL l) := by
  unfold botL Srt
  rw [List.pairwise_map]
  refine (h.filter _).imp fun {a b} hab => ?_
  have e : ∀ x : En, ky (if x.f1 = 4 then ⟨x.f0, 2, x.f2⟩ else x) = ky x := fun x => by split <;> rfl
  rw [e, e]; exact hab
theorem fnd_botL {l : List En} (h : Srt l) (p : By) : fnd (botL l) p = (fnd l p).bind shw := by
  unfold botL
  have : ∀ l : List En, fnd (l.map fun x => if x.f1 = 4 then ⟨x.f0, 2, x.f2⟩ else x) p = (fnd l p).map fun x => if x.f1 = 4 then ⟨x.f0, 2, x.f2⟩ else x := by
    intro l
    induction l with
    | nil => rfl
    | cons x l ih =>
      have e : ky (if x.f1 = 4 then ⟨x.f0, 2, x.f2⟩ else x) = ky x := by split <;> rfl
      rw [List.map_cons, fnd_cons, fnd_cons, e, ih]
      split <;> rfl
  rw [this, fnd_filter h]
  cases fnd l p with
  | none => rfl
  | some e =>
    rw [Option.filter_some, Option.bind_some]
    unfold shw
    by_cases h3 : e.f1 = 3
    · rw [if_neg (by simp [h3]), if_pos h3]; rfl
    · rw [if_pos (by simp [h3]), if_neg h3]
      rw [Option.map_some]; split <;> rfl
theorem shows_one (l : List En) (h : Srt l) : shows [l] = fnd (botL l) := by
  funext p
  rw [fnd_botL h]
  unfold shows
  simp only [List.foldl_cons, List.foldl_nil]
  unfold ovr
  cases fnd l p with
  | none => simp
  | some e => rfl
theorem stkL_one {l : List En} (h : Lyr l) : stkL [l] = botL l := by
  refine (stkL_srt (s := [l]) (by simpa using h)).ext (botL_srt h.srt) fun p => ?_
  rw [fnd_stkL (by simpa using h.srt), shows_one l h.srt]
theorem botL_tre {l : List En} (h : Lyr l) : Tre (botL l) := by rw [← stkL_one h]; exact stkL_tre (by simpa using h)
theorem botL_id {t : List En} (h : Tre t) : botL t = t := by
  unfold botL
  rw [List.filter_eq_self.2 (fun x hx => by have := h.kd x hx; simp; omega)]
  conv => rhs; rw [← List.map_id t]
  refine List.map_congr_left fun x hx => ?_
  have := h.kd x hx
  rw [if_neg (by omega)]; rfl
theorem botL_len (l : List En) : (botL l).length ≤ l.length := by unfold botL; rw [List.length_map]; exact List.length_filter_le _ _

end Go.Proofs.YtjlflmjimibciaaGreatDoor.Th
end

section
namespace Go.Proofs.YtjlflmjimibciaaGreatDoor.Th
open Go Go.Proofs.YtjlflmjimibciaaGreatDoor.Print
theorem cmp_lt : ∀ a b : List UInt8, (Lib.compareBytes a b < 0) ↔ Op.bytesLess a b = true
  | [], [] => by simp [Lib.compareBytes, Op.bytesLess]
  | [], y :: b => by simp [Lib.compareBytes, Op.bytesLess]
  | x :: a, [] => by simp [Lib.compareBytes, Op.bytesLess]
  | x :: a, y :: b => by
    have ih := cmp_lt a b
    simp only [Lib.compareBytes, Op.bytesLess]
    by_cases h : x < y
    · simp [h]
    · by_cases h2 : y < x
      · have : ¬ x = y := fun e => by subst e; exact UInt8.lt_irrefl _ h2
        simp [h, h2, this]
      · have : x = y := UInt8.le_antisymm (UInt8.not_lt.1 h2) (UInt8.not_lt.1 h)
        subst this
        simp [h, ih]
theorem cmp_cases (a b : List UInt8) : Lib.compareBytes a b = if Op.bytesLess a b then -1 else if Op.bytesLess b a then 1 else 0 := by
  have h1 := cmp_lt a b
  have h2 := cmp_lt b a
  have hr : ∀ a b : List UInt8, (Lib.compareBytes a b = -1 ∧ Lib.compareBytes b a = 1) ∨ (Lib.compareBytes a b = 1 ∧ Lib.compareBytes b a = -1) ∨ (Lib.compareBytes a b = 0 ∧ Lib.compareBytes b a = 0) := by
    intro a
    induction a with
    | nil => intro b; cases b <;> simp [Lib.compareBytes]
    | cons x a ih =>
      intro b
      cases b with
      | nil => simp [Lib.compareBytes]
      | cons y b =>
        simp only [Lib.compareBytes]
        by_cases h : x < y
        · have : ¬ y < x := fun h2 => UInt8.lt_irrefl _ (UInt8.lt_trans h h2)
          simp [h, this]
        · by_cases h2 : y < x
          · simp [h, h2]
          · simp [h, h2]; exact ih b
  rcases hr a b with ⟨e1, e2⟩ | ⟨e1, e2⟩ | ⟨e1, e2⟩
  · rw [if_pos (h1.1 (by omega)), e1]
  · rw [if_neg (fun h => by have := h1.2 h; omega), if_pos (h2.1 (by omega)), e1]
  · rw [if_neg (fun h => by have := h1.2 h; omega), if_neg (fun h => by have := h2.2 h; omega), e1]
theorem bsF_spec (F : Nat → ByteArray) (p : ByteArray) (N : Nat) (hm : ∀ a b, a ≤ b → b < N → Lib.compareBytes (F b).data.toList p.data.toList < 0 → Lib.compareBytes (F a).data.toList p.data.toList < 0) :
    ∀ (n lo hi : Nat), lo ≤ hi → hi ≤ N → hi - lo ≤ n → (∀ t, t < lo → Lib.compareBytes (F t).data.toList p.data.toList < 0) → (∀ t, hi ≤ t → t < N → ¬ Lib.compareBytes (F t).data.toList p.data.toList < 0) →
      bsF F p n lo hi ≤ N ∧ (∀ t, t < bsF F p n lo hi → Lib.compareBytes (F t).data.toList p.data.toList < 0) ∧ (∀ t, bsF F p n lo hi ≤ t → t < N → ¬ Lib.compareBytes (F t).data.toList p.data.toList < 0)
  | 0, lo, hi, h1, h2, h3, h4, h5 => by
    rw [bsF]
    exact ⟨by omega, h4, fun t ht => h5 t (by omega)⟩
  | n + 1, lo, hi, h1, h2, h3, h4, h5 => by
    rw [bsF]
    by_cases hl : lo < hi
    · rw [if_pos hl]
      by_cases hc : Lib.compareBytes (F ((lo + hi) / 2)).data.toList p.data.toList < 0
      · rw [if_pos hc]
        exact bsF_spec F p N hm n _ hi (by omega) h2 (by omega) (fun t ht => hm t ((lo + hi) / 2) (by omega) (by omega) hc) h5
      · rw [if_neg hc]
        exact bsF_spec F p N hm n lo _ (by omega) (by omega) (by omega) h4 (fun t h6 h7 h8 => hc (hm ((lo + hi) / 2) t h6 h7 h8))
    · rw [if_neg hl]
      exact ⟨by omega, h4, fun t ht => h5 t (by omega)⟩
end Go.Proofs.YtjlflmjimibciaaGreatDoor.Th
end

section
namespace Go.Proofs.YtjlflmjimibciaaGreatDoor.Th
open Go Go.Proofs.YtjlflmjimibciaaGreatDoor.Print
set_option linter.unusedVariables false
set_option linter.unusedSimpArgs false
def mOneL (l : List En) (e : En) : List En :=
  if e.f1 = 2 then match fnd l (ky e) with
    | none => putL l e
    | some x => if Hld x then l else putL l ⟨e.f0, 4, noB⟩
  else putL (l.filter fun x => !decide (ky x = ky e ∨ Und (ky x) (ky e))) e
def twoL (low high : List En) : List En := high.foldl mOneL low
theorem twoL_snoc (a l : List En) (e : En) : twoL a (l ++ [e]) = mOneL (twoL a l) e := by unfold twoL; rw [List.foldl_append]; rfl
theorem mOneL_srt {t : List En} (h : Srt t) (e : En) : Srt (mOneL t e) := by
  unfold mOneL
  split
  · split
    · exact h.put _
    · split
      · exact h
      · exact h.put _
  · exact (h.filter _).put _
theorem twoL_srt {t : List En} (h : Srt t) (l : List En) : Srt (twoL t l) := by
  induction l using snoc_ind with
  | h0 => exact h
  | h1 l e ih => rw [twoL_snoc]; exact mOneL_srt ih e
theorem mOneL_len (t : List En) (e : En) : (mOneL t e).length ≤ t.length + 1 := by
  unfold mOneL
  split
  · split
    · exact putL_len _ _
    · split
      · exact Nat.le_succ _
      · exact putL_len _ _
  · exact Nat.le_trans (putL_len _ _) (Nat.succ_le_succ (List.length_filter_le _ _))
theorem twoL_len (t l : List En) : (twoL t l).length ≤ t.length + l.length := by
  induction l using snoc_ind with
  | h0 => exact Nat.le_refl _
  | h1 l e ih => rw [twoL_snoc, List.length_append]; have := mOneL_len (twoL t l) e; simp; omega
/-- A directory of the high layer over what the low one has. -/
def dirOver (e : En) : Option En → En
  | none => e
  | some x => if Hld x then x else ⟨e.f0, 4, noB⟩
def mrg (F : By → Option En) (high : List En) (p : By) : Option En := match fnd high p with
  | some e => if e.f1 = 2 then some (dirOver e (if Hid high p then none else F p)) else some e
  | none => if Hid high p then none else F p
theorem fnd_mOneL {t : List En} (h : Srt t) (e : En) (p : By) : fnd (mOneL t e) p =
    if p = ky e then (if e.f1 = 2 then some (dirOver e (fnd t p)) else some e) else if e.f1 ≠ 2 ∧ Und p (ky e) then none else fnd t p := by
  unfold mOneL
  split
  · rename_i h2
    have hn : ¬ (e.f1 ≠ 2 ∧ Und p (ky e)) := fun k => k.1 h2
    by_cases hp : p = ky e
    · rw [if_pos hp]
      subst hp
      cases hf : fnd t (ky e) with
      | none => simp only; rw [fnd_putL _ h, if_pos rfl]; rfl
      | some x =>
        unfold dirOver
        by_cases hh : Hld x
        · simp only [if_pos hh]; exact hf
        · simp only [if_neg hh]; rw [fnd_putL _ h, if_pos (by rfl)]
    · rw [if_neg hp, if_neg hn]
      split
      · rw [fnd_putL _ h, if_neg hp]
      · split
        · rfl
        · rw [fnd_putL _ h, if_neg (by exact hp)]
  · rename_i h2
    rw [fnd_putL _ (h.filter _)]
    by_cases hp : p = ky e
    · rw [if_pos hp, if_pos hp]
    · rw [if_neg hp, if_neg hp, fnd_filter h]
      cases hf : fnd t p with
      | none => simp
      | some x =>
        have hk := fnd_ky hf
        rw [Option.filter_some, hk]
        by_cases hu : Und p (ky e)
        · rw [if_neg (by simp [hu]), if_pos ⟨h2, hu⟩]
        · rw [if_pos (by simp [hu, hp]), if_neg (fun k => hu k.2)]
theorem fnd_twoL {low : List En} (h : Srt low) (high : List En) (hh : Srt high) : fnd (twoL low high) = mrg (fnd low) high := by
  induction high using snoc_ind with
  | h0 => funext p; unfold mrg; rw [fnd_nil]; simp only; rw [if_neg (Hid.nil p)]; rfl
  | h1 l e ih =>
    funext p
    rw [twoL_snoc, fnd_mOneL (twoL_srt h l), ih hh.parts.1]
    by_cases hp : p = ky e
    · rw [if_pos hp]
      have hn : fnd l p = none := snoc_none hh (.inl hp)
      have hu : ¬ Und p (ky e) := by rw [hp]; exact Und.irrefl _
      have h1 : mrg (fnd low) l p = if Hid l p then none else fnd low p := by unfold mrg; rw [hn]
      have h2 : mrg (fnd low) (l ++ [e]) p = if e.f1 = 2 then some (dirOver e (if Hid (l ++ [e]) p then none else fnd low p)) else some e := by
        unfold mrg; rw [fnd_append, hn, Option.none_or, fnd_cons, if_pos hp.symm]
      have h3 : (if Hid (l ++ [e]) p then none else fnd low p) = if Hid l p then none else fnd low p := by
        by_cases hk : Hid l p
        · rw [if_pos hk, if_pos ((hid_snoc l e p).2 (.inl hk))]
        · rw [if_neg hk, if_neg (fun k => by rcases (hid_snoc l e p).1 k with k | k; exact hk k; exact hu k.2)]
      rw [h1, h2, h3]
    · rw [if_neg hp]
      have hf : fnd (l ++ [e]) p = fnd l p := by rw [fnd_append, fnd_cons, if_neg (Ne.symm hp), fnd_nil, Option.or_none]
      by_cases hu : e.f1 ≠ 2 ∧ Und p (ky e)
      · rw [if_pos hu]
        have hn : fnd l p = none := snoc_none hh (.inr hu.2)
        unfold mrg
        rw [hf, hn]
        simp only
        rw [if_pos ((hid_snoc l e p).2 (.inr hu))]
      · rw [if_neg hu]
        unfold mrg
        rw [hf]
        have hi : Hid (l ++ [e]) p ↔ Hid l p := (hid_snoc l e p).trans ⟨fun k => k.elim id (fun k => absurd k hu), .inl⟩
        by_cases hk : Hid l p
        · rw [if_pos hk, if_pos (hi.2 hk)]
        · rw [if_neg hk, if_neg (fun k => hk (hi.1 k))]
theorem dirOver_ok {e : En} (h2 : e.f1 = 2) (hr : Rt e) (o : Option En) (ho : ∀ x, o = some x → ky x = ky e ∧ Rt x) : ky (dirOver e o) = ky e ∧ Rt (dirOver e o) ∧ Hld (dirOver e o) ∧ shw (dirOver e o) = some e := by
  have he : e.f2 = noB := hr.noda (by omega)
  have heq : ∀ x : En, ky x = ky e → x.f1 = 2 → x.f2 = noB → x = e := fun x h0 h1 h3 => en_ext h0 (h1.trans h2.symm) (by unfold da; rw [h3, he])
  cases o with
  | none => exact ⟨rfl, hr, .inl h2, shw_two h2⟩
  | some x =>
    obtain ⟨hk, hx⟩ := ho x rfl
    have hd : dirOver e (some x) = if Hld x then x else ⟨e.f0, 4, noB⟩ := rfl
    rw [hd]
    by_cases hh : Hld x
    · rw [if_pos hh]
      refine ⟨hk, hx, hh, ?_⟩
      have hx2 : x.f2 = noB := hx.noda (by rcases hh with h | h <;> omega)
      rcases hh with h | h
      · rw [shw_two h]; exact congrArg some (heq x hk h hx2)
      · unfold shw; rw [if_neg (by omega), if_pos h]; exact congrArg some (heq _ hk rfl hx2)
    · rw [if_neg hh]
      refine ⟨rfl, ⟨hr.1, .inr ⟨.inr (.inr rfl), rfl⟩⟩, .inr rfl, ?_⟩
      unfold shw
      rw [if_neg (by simp), if_pos rfl]
      exact congrArg some (heq _ rfl rfl rfl)
/-- A layer, by what stands at each path. -/
structure LyrF (F : By → Option En) : Prop where
  rt : ∀ p e, F p = some e → ky e = p ∧ Rt e
  par : ∀ p e, F p = some e → parB p = [] ∨ ∃ x, F (parB p) = some x ∧ Hld x
theorem Lyr.f {t : List En} (h : Lyr t) : LyrF (fnd t) := by
  refine ⟨fun p e he => ?_, fun p e he => ?_⟩
  · obtain ⟨hm, hk⟩ := fnd_mem he; exact ⟨hk, h.rt e hm⟩
  · obtain ⟨hm, hk⟩ := fnd_mem he
    rw [← hk]
    exact h.fndp hm
theorem LyrF.lyr {t : List En} (h : Srt t) (hf : LyrF (fnd t)) : Lyr t := by
  refine ⟨fun e he => (hf.rt _ e (h.at_ he)).2, h, fun e he => ?_⟩
  rcases hf.par _ e (h.at_ he) with h0 | ⟨x, hx, h2⟩
  · exact .inl h0
  · exact .inr ⟨x, (fnd_mem hx).1, (fnd_mem hx).2, h2⟩
theorem mrg_lyr {F : By → Option En} (hF : LyrF F) {l : List En} (hl : Lyr l) : LyrF (mrg F l) := by
  have hdo : ∀ p e, fnd l p = some e → e.f1 = 2 → ky (dirOver e (if Hid l p then none else F p)) = ky e ∧ Rt (dirOver e (if Hid l p then none else F p)) ∧ Hld (dirOver e (if Hid l p then none else F p)) := by
    intro p e he h2
    obtain ⟨hm, hk⟩ := fnd_mem he
    have := dirOver_ok h2 (hl.rt e hm) (if Hid l p then none else F p) (fun x hx => by
      split at hx
      · cases hx
      · obtain ⟨a, b⟩ := hF.rt p x hx; exact ⟨a.trans hk.symm, b⟩)
    exact ⟨this.1, this.2.1, this.2.2.1⟩
  have hrt : ∀ p e, mrg F l p = some e → Pth p ∧ ky e = p ∧ Rt e := by
    intro p e he
    unfold mrg at he
    cases hf : fnd l p with
    | some x =>
      rw [hf] at he; simp only at he
      obtain ⟨hm, hk⟩ := fnd_mem hf
      have hr := hl.rt x hm
      split at he
      · rename_i h2
        obtain ⟨a, b, _⟩ := hdo p x hf h2
        obtain rfl := Option.some.inj he
        exact ⟨hk ▸ hr.1, a.trans hk, b⟩
      · obtain rfl := Option.some.inj he
        exact ⟨hk ▸ hr.1, hk, hr⟩
    | none =>
      rw [hf] at he; simp only at he
      split at he
      · cases he
      · obtain ⟨h1, h2⟩ := hF.rt p e he
        exact ⟨h1 ▸ h2.1, h1, h2⟩
  refine ⟨fun p e he => (hrt p e he).2, fun p e he => ?_⟩
  have hP := (hrt p e he).1
  unfold mrg at he
  cases hf : fnd l p with
  | some x =>
    obtain ⟨hm, hk⟩ := fnd_mem hf
    rcases hl.fndp hm with h0 | ⟨y, hy, hh⟩
    · left; rw [← hk]; exact h0
    · right
      rw [hk] at hy
      unfold mrg
      rw [hy]
      simp only
      split
      · rename_i h2
        exact ⟨_, rfl, (hdo _ _ hy h2).2.2⟩
      · exact ⟨y, rfl, hh⟩
  | none =>
    rw [hf] at he; simp only at he
    split at he
    · cases he
    · rename_i hh
      rcases hF.par p e he with h0 | ⟨x, hx, h2⟩
      · exact .inl h0
      · right
        unfold mrg
        have hnh : ¬ Hid l (parB p) := fun k => hh (k.und hP.und)
        cases hg : fnd l (parB p) with
        | some y =>
          obtain ⟨hm, hk⟩ := fnd_mem hg
          have hy2 : y.f1 = 2 := by
            rcases Decidable.em (y.f1 = 2) with h | h
            · exact h
            · exact absurd ⟨y, hm, h, by rw [hk]; exact hP.und⟩ hh
          simp only
          rw [if_pos hy2]
          exact ⟨_, rfl, (hdo _ _ hg hy2).2.2⟩
        | none =>
          simp only
          rw [if_neg hnh]
          exact ⟨x, hx, h2⟩
theorem twoL_lyr {low high : List En} (h : Lyr low) (hh : Lyr high) : Lyr (twoL low high) := by
  refine LyrF.lyr (twoL_srt h.srt high) ?_
  rw [fnd_twoL h.srt high hh.srt]
  exact mrg_lyr h.f hh
/-- A stack shows the same with both, and with the one. -/
theorem ovr_two (F : By → Option En) {low high : List En} (h : Lyr low) (hh : Lyr high) : ovr F (twoL low high) = ovr (ovr F low) high := by
  funext p
  have hs := twoL_srt h.srt high
  have hf := congrFun (fnd_twoL h.srt high hh.srt)
  -- what hides in the one
  have hhid : ∀ p, ¬ Hid high p → fnd low p = none → (Hid (twoL low high) p ↔ Hid low p) := by
    intro p hn hl
    constructor
    · rintro ⟨x, hx, h2, hu⟩
      have h1 := hs.at_ hx
      rw [hf] at h1
      unfold mrg at h1
      cases hq : fnd high (ky x) with
      | some e =>
        rw [hq] at h1; simp only at h1
        obtain ⟨hm, hk⟩ := fnd_mem hq
        split at h1
        · rename_i he2
          rw [if_neg (fun k => hn (k.und hu))] at h1
          have h1 := Option.some.inj h1
          cases hlo : fnd low (ky x) with
          | none => rw [hlo] at h1; unfold dirOver at h1; subst h1; exact absurd he2 h2
          | some y =>
            obtain ⟨hm2, hk2⟩ := fnd_mem hlo
            rw [hlo] at h1; unfold dirOver at h1
            refine ⟨y, hm2, fun e2 => ?_, by rw [hk2]; exact hu⟩
            simp only at h1
            rw [if_pos (.inl e2)] at h1
            subst h1; exact h2 e2
        · rename_i he2
          exact absurd ⟨e, hm, he2, by rw [hk]; exact hu⟩ hn
      | none =>
        rw [hq] at h1; simp only at h1
        split at h1
        · cases h1
        · exact ⟨x, (fnd_mem h1).1, h2, hu⟩
    · rintro ⟨y, hy, h2, hu⟩
      have hlo := h.srt.at_ hy
      cases hq : fnd high (ky y) with
      | some e =>
        obtain ⟨hm, hk⟩ := fnd_mem hq
        have he2 : e.f1 = 2 := by
          rcases Decidable.em (e.f1 = 2) with k | k
          · exact k
          · exact absurd ⟨e, hm, k, by rw [hk]; exact hu⟩ hn
        have h3 : fnd (twoL low high) (ky y) = some (dirOver e (some y)) := by
          rw [hf]; unfold mrg; rw [hq]; simp only
          rw [if_pos he2, if_neg (fun k => hn (k.und hu)), hlo]
        obtain ⟨hm3, hk3⟩ := fnd_mem h3
        refine ⟨_, hm3, ?_, by rw [hk3]; exact hu⟩
        unfold dirOver; simp only
        split
        · exact h2
        · simp
      | none =>
        have h3 : fnd (twoL low high) (ky y) = some y := by
          rw [hf]; unfold mrg; rw [hq]; simp only
          rw [if_neg (fun k => hn (k.und hu)), hlo]
        exact ⟨y, (fnd_mem h3).1, h2, hu⟩
  have hall : ovr F (twoL low high) p = match mrg (fnd low) high p with
      | some e => shw e
      | none => if Hid (twoL low high) p then none else F p := by unfold ovr; rw [hf]; (try rfl)
  rw [hall]
  unfold mrg
  conv => rhs; unfold ovr
  cases hq : fnd high p with
  | some e =>
    simp only
    obtain ⟨hm, hk⟩ := fnd_mem hq
    by_cases h2 : e.f1 = 2
    · rw [if_pos h2]
      simp only
      have := dirOver_ok h2 (hh.rt e hm) (if Hid high p then none else fnd low p) (fun x hx => by
        split at hx
        · cases hx
        · obtain ⟨a, b⟩ := fnd_mem hx; exact ⟨b.trans hk.symm, h.rt x a⟩)
      rw [this.2.2.2, shw_two h2]
    · rw [if_neg h2]
  | none =>
    simp only
    by_cases hd : Hid high p
    · rw [if_pos hd, if_pos hd]
      simp only
      rw [if_pos]
      obtain ⟨x, hx, h2, hu⟩ := hd
      have h3 : fnd (twoL low high) (ky x) = some x := by
        rw [hf]; unfold mrg; rw [hh.srt.at_ hx]; simp only; rw [if_neg h2]
      exact ⟨x, (fnd_mem h3).1, h2, hu⟩
    · rw [if_neg hd, if_neg hd]
      cases hl : fnd low p with
      | some y => simp only [ovr, hl]
      | none =>
        simp only [ovr, hl]
        have := hhid p hd hl
        by_cases k : Hid low p
        · rw [if_pos (this.2 k), if_pos k]
        · rw [if_neg (fun j => k (this.1 j)), if_neg k]
end Go.Proofs.YtjlflmjimibciaaGreatDoor.Th
end

section
namespace Go.Proofs.YtjlflmjimibciaaGreatDoor.Th
open Go Go.Proofs.YtjlflmjimibciaaGreatDoor.Print
set_option linter.unusedVariables false
set_option linter.unusedSimpArgs false
theorem shows_two {low high : List En} (h : Lyr low) (hh : Lyr high) (s r : List (List En)) : shows (s ++ [low, high] ++ r) = shows (s ++ [twoL low high] ++ r) := by
  rw [shows_append, shows_append, shows_append, shows_append]
  congr 1
  simp only [List.foldl_cons, List.foldl_nil]
  rw [ovr_two _ h hh]
theorem shows_bot {l : List En} (h : Lyr l) (r : List (List En)) : shows ([botL l] ++ r) = shows ([l] ++ r) := by
  rw [shows_append, shows_append, shows_one l h.srt, shows_one (botL l) (botL_srt h.srt), botL_id (botL_tre h)]
end Go.Proofs.YtjlflmjimibciaaGreatDoor.Th
end
