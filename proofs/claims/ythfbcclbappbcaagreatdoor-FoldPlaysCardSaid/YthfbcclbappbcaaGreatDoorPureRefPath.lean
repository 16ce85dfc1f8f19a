/- The references of names and paths in plain words (lines of PurePathPlays, for prints that lack the laws of paths). -/
import Derived.Test.YthfbcclbappbcaaGreatDoorThC
import Derived.Test.YthfbcclbappbcaaGreatDoorPrint7
import Derived.Test.YthfbcclbappbcaaGreatDoorPrint8
namespace Go.Proofs.YthfbcclbappbcaaGreatDoor.ThR
open Go Go.RowKit Go.Proofs.YthfbcclbappbcaaGreatDoor.Print Go.Proofs.YthfbcclbappbcaaGreatDoor.Th Go.Proofs.YthfbcclbappbcaaGreatDoorW.PrintWords
set_option linter.unusedVariables false
set_option linter.unusedSimpArgs false
def B (l : By) : ByteArray := ⟨l.toArray⟩
theorem B_data (l : By) : (B l).data.toList = l := by simp [B]
theorem B_list (l : By) : (B l).toList = l := by rw [Lib.toList_data, B_data]
theorem B_eta (b : ByteArray) : B b.data.toList = b := by_ext (B_data _)
theorem B_size (l : By) : (B l).size = l.length := rfl
theorem size_data (b : ByteArray) : b.size = b.data.toList.length := rfl
theorem list_data (b : ByteArray) : b.toList = b.data.toList := Lib.toList_data b
theorem wrap_succ (i : Nat) (h : i < 1000000) : wrap64 ((i : Int) + 1) = ((i + 1 : Nat) : Int) := by unfold wrap64; omega
def nm (p : ByteArray) : Option (List By) := splitF p.data.toList
theorem sign_all : ((List.range 256).all fun n => signs.contains (UInt8.ofNat n) == (decide (97 ≤ n ∧ n ≤ 122) || (decide (48 ≤ n ∧ n ≤ 57) || (decide (n = 45) || decide (n = 95))))) = true := by decide +kernel
theorem sign_iff (b : UInt8) : signs.contains b = true ↔ (97 ≤ b.toNat ∧ b.toNat ≤ 122) ∨ (48 ≤ b.toNat ∧ b.toNat ≤ 57) ∨ b.toNat = 45 ∨ b.toNat = 95 := by
 have h := eq_of_beq (List.all_eq_true.1 sign_all b.toNat (List.mem_range.2 (UInt8.toNat_lt b)))
 rw [UInt8.ofNat_toNat] at h
 rw [h]; simp
theorem bt_get (s : ByteArray) (i : Nat) (h : i < s.size) : bt s (i : Int) = ((s.data.toList[i]'h).toNat : Int) := by
 rw [← bt_at s (i : Int) h, Array.getElem_toList]; rfl
theorem rname_step (s : ByteArray) (k i : Nat) (h : i < s.size) (hs : s.size ≤ 1000) : z23.l0 (k + 1) s (i : Int) = if signs.contains (s.data.toList[i]'h) = true then z23.l0 k s ((i + 1 : Nat) : Int) else some false := by
 rw [z23.l0, if_pos (by omega), if_pos (by omega), wrap_succ i (by omega), bt_get s i h]
 have hi := sign_iff (s.data.toList[i]'h)
 generalize s.data.toList[i]'h = b at hi
 generalize z23.l0 k s ((i + 1 : Nat) : Int) = X
 by_cases hc : signs.contains b = true
 ·rw [if_pos hc]
  rcases hi.1 hc with ⟨h1, h2⟩ | ⟨h1, h2⟩ | h1 | h1
  ·rw [if_pos (by omega), if_pos (by omega)]
  ·rw [if_neg (by omega), if_pos (by omega), if_pos (by omega)]
  ·rw [if_neg (by omega), if_neg (by omega), if_pos (by omega)]
  ·rw [if_neg (by omega), if_pos (by omega), if_neg (by omega), if_neg (by omega), if_pos (by omega)]
 ·rw [if_neg hc]
  have h97 : ¬ (97 ≤ b.toNat ∧ b.toNat ≤ 122) := fun k => hc (hi.2 (.inl k))
  have h48 : ¬ (48 ≤ b.toNat ∧ b.toNat ≤ 57) := fun k => hc (hi.2 (.inr (.inl k)))
  have h45 : b.toNat ≠ 45 := fun k => hc (hi.2 (.inr (.inr (.inl k))))
  have h95 : b.toNat ≠ 95 := fun k => hc (hi.2 (.inr (.inr (.inr k))))
  clear hi hc
  by_cases c1 : (b.toNat : Int) ≥ 97
  ·rw [if_pos c1, if_neg (by omega), if_pos (by omega), if_neg (by omega), if_neg (by omega), if_neg (by omega)]
  ·rw [if_neg c1]
   by_cases c2 : (b.toNat : Int) ≥ 48
   ·rw [if_pos c2, if_neg (by omega), if_neg (by omega), if_neg (by omega)]
   ·rw [if_neg c2, if_neg (by omega), if_neg (by omega)]
theorem rname_l0 (s : ByteArray) (hs : s.size ≤ 1000) : ∀ (n i k : Nat), i + n = s.size → n < k → z23.l0 k s (i : Int) = some ((s.data.toList.drop i).all signs.contains && decide (1 ≤ s.size ∧ s.size ≤ 8)) := by
 intro n
 induction n with
 | zero =>
  intro i k hi hk
  obtain ⟨k, rfl⟩ : ∃ j, k = j + 1 := ⟨k - 1, by omega⟩
  have hd : s.data.toList.drop i = [] := List.drop_eq_nil_of_le (by show s.size ≤ i; omega)
  rw [z23.l0, if_neg (by omega), hd]
  rw [List.all_nil, Bool.true_and]
  by_cases h1 : (s.size : Int) ≥ 1
  ·rw [if_pos h1]
   exact congrArg some (decide_eq_decide.2 (by omega))
  ·rw [if_neg h1, decide_eq_false (by omega)]
 | succ n ih =>
  intro i k hi hk
  obtain ⟨k, rfl⟩ : ∃ j, k = j + 1 := ⟨k - 1, by omega⟩
  have hlt : i < s.size := by omega
  rw [rname_step s k i hlt hs, ih (i + 1) k (by omega) (by omega), List.drop_eq_getElem_cons (show i < s.data.toList.length from hlt), List.all_cons]
  cases signs.contains (s.data.toList[i]'hlt) with
  | true => rw [if_pos rfl, Bool.true_and]
  | false => rw [if_neg (by decide), Bool.false_and, Bool.false_and]
theorem rname_eq (s : ByteArray) (hs : s.size ≤ 1000) (k : Nat) (hk : s.size < k) : z23.f k s = some (nameL s.data.toList) := by
 unfold z23.f
 have := rname_l0 s hs s.size 0 k (by omega) hk
 rw [show ((0 : Nat) : Int) = 0 from rfl] at this
 rw [this, List.drop_zero]
 unfold nameL
 congr 1
 have e : s.data.toList.length = s.size := rfl
 rw [e]
 cases s.data.toList.all signs.contains <;> by_cases h1 : 1 ≤ s.size <;> by_cases h2 : s.size ≤ 8 <;> simp [h1, h2]

/-- What comes of the parts that are left. -/
def restR (out : List ByteArray) (ps : List By) : List ByteArray × Bool := if (∀ n ∈ ps, nameL n = true) ∧ out.length + ps.length ≤ 6 then (out ++ ps.map B, true) else ([], false)
theorem rsplit_l0 (p : ByteArray) (hp : p.size ≤ 1000) : ∀ (n i f k : Nat) (out : List ByteArray), i + n = p.size + 1 → f ≤ i → i ≤ p.size → out.length ≤ 6 → (47 : UInt8) ∉ (p.data.toList.drop f).take (i - f) → 2 * n + 1100 < k →
  z11.l0 k p out (f : Int) (i : Int) = some (restR out (pieces (p.data.toList.drop f))) := by
 have hlen : p.data.toList.length = p.size := rfl
 intro n
 induction n with
 | zero => intro i f k out hi hf hip; omega
 | succ n ih =>
  intro i f k out hi hf hip ho hcl hk
  obtain ⟨k, rfl⟩ : ∃ j, k = j + 1 + 1 := ⟨k - 2, by omega⟩
  -- a part ends here
  have part : ∀ (more : List By), pieces (p.data.toList.drop f) = (p.data.toList.drop f).take (i - f) :: more →
    (∀ o : List ByteArray, o.length ≤ 6 → z11.l0 k p o ((i + 1 : Nat) : Int) ((i + 1 : Nat) : Int) = some (restR o more)) →
    z11.j2 (k + 1) p out (f : Int) (i : Int) true = some (restR out (pieces (p.data.toList.drop f))) := by
   intro more hpc hgo
   rw [z11.j2, if_pos rfl, if_pos (by omega), if_pos (by omega), if_pos (by omega), Int.toNat_natCast, Int.toNat_natCast]
   have hx : (p.extract f i).data.toList = (p.data.toList.drop f).take (i - f) := by simp [List.take_drop]
   have hxs : (p.extract f i).size ≤ 1000 := by
    show (p.extract f i).data.toList.length ≤ 1000
    rw [hx, List.length_take, List.length_drop, hlen]; omega
   rw [rname_eq _ hxs k (by omega), hx, Option.bind_some, hpc]
   unfold restR
   by_cases hn : nameL ((p.data.toList.drop f).take (i - f)) = true
   ·rw [if_pos hn]
    by_cases h6 : out.length = 6
    ·rw [if_pos (by omega), if_neg]
     rintro ⟨_, h⟩; simp at h; omega
    ·rw [if_neg (by omega), if_pos (by omega), wrap_succ i (by omega), hgo _ (by simp; omega)]
     unfold restR
     have hb : p.extract f i = B ((p.data.toList.drop f).take (i - f)) := by rw [← hx, B_eta]
     by_cases hr : (∀ n ∈ more, nameL n = true) ∧ (out ++ [p.extract f i]).length + more.length ≤ 6
     ·rw [if_pos hr, if_pos]
      ·rw [List.map_cons, ← hb]; simp
      ·refine ⟨fun m hm => ?_, ?_⟩
       ·rcases List.mem_cons.1 hm with rfl | hm
        ·exact hn
        ·exact hr.1 m hm
       ·have := hr.2; simp at this ⊢; omega
     ·rw [if_neg hr, if_neg]
      rintro ⟨h1, h2⟩
      exact hr ⟨fun m hm => h1 m (by simp [hm]), by simp at h2 ⊢; omega⟩
   ·rw [if_neg hn, if_neg]
    rintro ⟨h, _⟩
    exact hn (h _ (by simp))
  rw [z11.l0, if_pos (by omega)]
  by_cases he : i = p.size
  ·rw [if_pos (by omega)]
   have htk : (p.data.toList.drop f).take (i - f) = p.data.toList.drop f := List.take_of_length_le (by rw [List.length_drop, hlen]; omega)
   refine part [] ?_ ?_
   ·rw [htk] at hcl ⊢
    exact pieces_clean _ hcl
   ·intro o ho
    obtain ⟨k, rfl⟩ : ∃ j, k = j + 1 := ⟨k - 1, by omega⟩
    rw [z11.l0, if_neg (by omega)]
    unfold restR
    rw [if_pos ⟨fun n hn => (by cases hn), (by simpa using ho)⟩]; simp
  ·have hlt : i < p.size := by omega
   rw [if_neg (by omega), if_pos (by omega), if_pos (by omega), bt_get p i hlt]
   have hsplit : p.data.toList.drop f = (p.data.toList.drop f).take (i - f) ++ (p.data.toList[i]'hlt) :: p.data.toList.drop (i + 1) := by
    conv => lhs; rw [← List.take_append_drop (i - f) (p.data.toList.drop f)]
    rw [List.drop_drop, Nat.add_sub_cancel' hf, List.drop_eq_getElem_cons (show i < p.data.toList.length from hlt)]
   by_cases hb : p.data.toList[i]'hlt = 47
   ·have e47 : ((((p.data.toList[i]'hlt).toNat : Int)) == 47) = true := by rw [hb]; rfl
    rw [e47]
    refine part (pieces (p.data.toList.drop (i + 1))) ?_ ?_
    ·conv => lhs; rw [hsplit, hb]
     exact pieces_slash _ _ hcl
    ·intro o ho
     by_cases hi1 : i + 1 ≤ p.size
     ·exact ih (i + 1) (i + 1) k o (by omega) (Nat.le_refl _) hi1 ho (by simp) (by omega)
     ·omega
   ·have e47 : ((((p.data.toList[i]'hlt).toNat : Int)) == 47) = false := by
     rw [beq_eq_false_iff_ne]; intro h
     exact hb (UInt8.toNat_inj.1 (by show (p.data.toList[i]'hlt).toNat = 47; omega))
    rw [e47, z11.j2, if_neg (by decide), wrap_succ i (by omega)]
    refine ih (i + 1) f k out (by omega) (by omega) (by omega) ho ?_ (by omega)
    have hi1 : i + 1 - f = (i - f) + 1 := by omega
    have hl : i - f < (p.data.toList.drop f).length := by rw [List.length_drop, hlen]; omega
    rw [hi1, List.take_succ_eq_append_getElem hl]
    intro hm
    rcases List.mem_append.1 hm with hm | hm
    ·exact hcl hm
    ·rw [List.mem_singleton, List.getElem_drop] at hm
     apply hb
     rw [hm]
     congr 1; omega
theorem rsplit_eq (p : ByteArray) (hp : p.size ≤ 1000) (k : Nat) (hk : 3200 < k) : z11.f k p = some (match nm p with | some l => (l.map B, true) | none => ([], false)) := by
 obtain ⟨k, rfl⟩ : ∃ j, k = j + 1 := ⟨k - 1, by omega⟩
 have hlen : p.data.toList.length = p.size := rfl
 unfold z11.f nm splitF
 by_cases h1 : p.toList = ([47] : List UInt8)
 ·rw [if_pos h1]
  rw [list_data] at h1
  rw [if_pos h1]; rfl
 ·rw [if_neg h1]
  rw [list_data] at h1
  rw [if_neg h1]
  cases hd : p.data.toList with
  | nil =>
   have : p.size = 0 := by rw [← hlen, hd]; rfl
   rw [if_pos (by omega), z11.j0, if_pos rfl]
  | cons b r =>
   have hs : p.size = r.length + 1 := by rw [← hlen, hd]; rfl
   rw [if_neg (by omega), if_pos (by omega)]
   have hb0 : bt p 0 = (b.toNat : Int) := by
    have := bt_get p 0 (by omega)
    rw [show ((0 : Nat) : Int) = 0 from rfl] at this
    rw [this]
    congr 2
    simp only [hd]; rfl
   rw [hb0]
   by_cases hb : b = 47
   ·subst hb
    rw [show (((47 : UInt8).toNat : Int) != 47) = false from rfl, z11.j0, if_neg (by decide)]
    have hd1 : p.data.toList.drop 1 = r := by rw [hd]; rfl
    have := rsplit_l0 p hp p.size 1 1 k [] (by omega) (Nat.le_refl _) (by omega) (by decide) (by simp) (by omega)
    rw [show ((1 : Nat) : Int) = 1 from rfl] at this
    rw [this, hd1]
    unfold restR
    show _ = some (match (if (pieces r).length ≤ 6 ∧ (pieces r).all nameL = true then some (pieces r) else none) with | some l => (l.map B, true) | none => ([], false))
    by_cases hc : (pieces r).length ≤ 6 ∧ (pieces r).all nameL = true
    ·rw [if_pos hc, if_pos ⟨fun n hn => List.all_eq_true.1 hc.2 n hn, by simpa using hc.1⟩]; rfl
    ·rw [if_neg hc, if_neg]
     rintro ⟨h1, h2⟩
     exact hc ⟨by simpa using h2, List.all_eq_true.2 h1⟩
   ·have hne : ((b.toNat : Int) != 47) = true := by
     rw [bne_iff_ne]; intro h
     exact hb (UInt8.toNat_inj.1 (by show b.toNat = 47; omega))
    rw [hne, z11.j0, if_pos rfl]
    simp [hb]

end Go.Proofs.YthfbcclbappbcaaGreatDoor.ThR
