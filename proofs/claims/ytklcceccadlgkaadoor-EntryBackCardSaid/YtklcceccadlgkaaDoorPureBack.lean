/- EntryBack and EntryOnly in plain words: what is laid is read as it was, and what is read is laid as it stands. -/
import Derived.Test.YtklcceccadlgkaaDoorPureEnc
import Derived.Test.YtklcceccadlgkaaDoorThP
import Derived.Test.YtklcceccadlgkaaDoorPrint3
import Derived.Test.YtklcceccadlgkaaDoorPrint3
import Derived.Test.YtklcceccadlgkaaDoorPrint4
namespace Go.Proofs.YtklcceccadlgkaaDoor.Pure
open Go.RowKit Go.Proofs.YtklcceccadlgkaaDoor.Print Go.Proofs.YtklcceccadlgkaaDoorW.PrintWords
set_option linter.unusedVariables false
set_option linter.unusedSimpArgs false
def BB (l : List UInt8) : ByteArray := ⟨l.toArray⟩
theorem BB_data (l : List UInt8) : (BB l).data.toList = l := by simp [BB]
theorem bb_ext {a b : ByteArray} (h : a.data.toList = b.data.toList) : a = b := by
  cases a; cases b; congr 1; exact Array.ext' h
theorem BB_eta (b : ByteArray) : BB b.data.toList = b := bb_ext (BB_data _)
theorem BB_list (l : List UInt8) : (BB l).toList = l := by rw [Lib.toList_data, BB_data]
theorem u8_of (n : Nat) (h : n < 256) : (UInt8.ofNat n).toNat = n := by
  have h2 : (UInt8.ofNat n).toNat = n % 256 := by simp
  omega
theorem emp_if {α : Type} (x y : Option α) : (if (([] : List Int).isEmpty = true) then x else y) = x := rfl
/-- A number's bytes are read as the number. -/
theorem numL_numB (n : Nat) (h : n ≤ 600) (z : List UInt8) : numL 9 0 0 (numB n ++ z) = some ((n : Int), (numB n).length) := by
  unfold numB
  have o0 : ∀ b : UInt8, orD 0 b 0 = ((b.toNat % 128 : Nat) : Int) := fun b => by
    have := orD_eq 0 0 b (by decide) (by decide)
    simpa using this
  by_cases hn : n < 128
  · rw [if_pos hn, List.singleton_append, numL, u8_of n (by omega), if_pos hn, o0, u8_of n (by omega), Nat.mod_eq_of_lt hn, if_pos ⟨.inr rfl, by omega⟩]
    rfl
  · rw [if_neg hn, List.cons_append, List.singleton_append, numL, u8_of _ (by omega), if_neg (by omega), o0, u8_of _ (by omega)]
    have o1 := orD_eq ((n % 128 + 128) % 128) 1 (UInt8.ofNat (n / 128)) (by decide) (by omega)
    rw [u8_of _ (by omega)] at o1
    have e : (n % 128 + 128) % 128 + n / 128 % 128 * 128 ^ 1 = n := by omega
    rw [e] at o1
    rw [numL, u8_of _ (by omega), if_pos (by omega), o1, if_pos ⟨.inl (by omega), by omega⟩]
    rfl
theorem numL_big : ∀ (m k v : Nat) (l : List UInt8) (n : Int) (c : Nat), k + m = 9 → v < 128 ^ k → 1 ≤ k → numL m k (v : Int) l = some (n, c) → ((128 ^ k : Nat) : Int) ≤ n
  | 0, _, _, _, _, _, _, _, _, h => by simp [numL] at h
  | m + 1, k, v, [], n, c, _, _, _, h => by simp [numL] at h
  | m + 1, k, v, b :: l, n, c, hkm, hv, hk, h => by
    have ho := orD_eq v k b (by omega) hv
    rw [numL] at h
    split at h
    · rename_i hb
      split at h
      · rename_i hc
        obtain ⟨rfl, rfl⟩ := Prod.mk.inj (Option.some.inj h)
        rw [ho]
        have h1 : 1 ≤ b.toNat % 128 := by
          rcases hc.1 with h | h
          · omega
          · omega
        have := Nat.mul_le_mul_right (128 ^ k) h1
        omega
      · cases h
    · rw [ho] at h
      have hlt : v + b.toNat % 128 * 128 ^ k < 128 ^ (k + 1) := by
        have hm : b.toNat % 128 ≤ 127 := by omega
        have := Nat.mul_le_mul_right (128 ^ k) hm
        rw [Nat.pow_succ]; omega
      have := numL_big m (k + 1) _ l n c (by omega) hlt (by omega) h
      have h2 : 128 ^ k ≤ 128 ^ (k + 1) := Nat.pow_le_pow_right (by decide) (by omega)
      omega
/-- A small number that is read stands there as its bytes. -/
theorem numB_of (l : List UInt8) (n : Int) (c : Nat) (h : numL 9 0 0 l = some (n, c)) (hn : n ≤ 600) : ∃ N : Nat, n = N ∧ N ≤ 600 ∧ ∃ z, l = numB N ++ z ∧ c = (numB N).length := by
  have o0 : ∀ b : UInt8, orD 0 b 0 = ((b.toNat % 128 : Nat) : Int) := fun b => by
    have := orD_eq 0 0 b (by decide) (by decide)
    simpa using this
  cases l with
  | nil => simp [numL] at h
  | cons b l =>
    have hb := UInt8.toNat_lt b
    rw [numL] at h
    split at h
    · rename_i h1
      split at h
      · obtain ⟨rfl, rfl⟩ := Prod.mk.inj (Option.some.inj h)
        rw [o0] at hn ⊢
        refine ⟨b.toNat, by rw [Nat.mod_eq_of_lt h1], by omega, l, ?_, ?_⟩
        · unfold numB; rw [if_pos h1, UInt8.ofNat_toNat]; rfl
        · unfold numB; rw [if_pos h1]; rfl
      · cases h
    · rename_i h1
      rw [o0] at h
      cases l with
      | nil => simp [numL] at h
      | cons d l =>
        have hd := UInt8.toNat_lt d
        have o1 := orD_eq (b.toNat % 128) 1 d (by decide) (by omega)
        rw [numL] at h
        split at h
        · rename_i h2
          split at h
          · rename_i hc
            obtain ⟨rfl, rfl⟩ := Prod.mk.inj (Option.some.inj h)
            rw [o1] at hn ⊢
            have hpos : 0 < d.toNat := by
              rcases hc.1 with h | h
              · exact h
              · cases h
            have e1 : (b.toNat % 128 + d.toNat % 128 * 128 ^ 1) % 128 + 128 = b.toNat := by omega
            have e2 : (b.toNat % 128 + d.toNat % 128 * 128 ^ 1) / 128 = d.toNat := by omega
            refine ⟨_, rfl, by omega, l, ?_, ?_⟩
            · unfold numB; rw [if_neg (by omega), e1, e2, UInt8.ofNat_toNat, UInt8.ofNat_toNat]; rfl
            · unfold numB; rw [if_neg (by omega)]; rfl
          · cases h
        · rw [o1] at h
          have := numL_big 7 2 _ l n c (by decide) (by omega) (by decide) h
          omega
theorem awakeN (m : Nat) : shalelaw08_awake.f (5 + m) = some true := by
  induction m with
  | zero => exact awake5
  | succ m ih => exact shalelaw08_awake.mono (5 + m) _ ih
theorem layN (m : Nat) (a : ByteArray) (k : Int) (d : ByteArray) (r : ByteArray × List Int) (h : entry_Lay.f 6 a k d = some r) : entry_Lay.f (6 + m) a k d = some r := by
  induction m with
  | zero => exact h
  | succ m ih => exact entry_Lay.mono a k d (6 + m) _ ih
theorem right_short {a : ByteArray} {k : Int} {d : ByteArray} (h : rightOf a k d = true) : a.size ≤ 54 ∧ d.size ≤ 256 := by
  unfold rightOf at h
  rw [Bool.and_eq_true] at h
  have h1 := of_decide_eq_true h.1
  have ha : a.size ≤ 54 := by
    unfold deepOf at h1
    cases hs : splitF a.data.toList with
    | none => rw [hs] at h1; exact absurd h1 (by decide)
    | some l =>
      show a.data.toList.length ≤ 54
      rcases Th.splitF_some hs with ⟨e, _⟩ | ⟨e, _, ok⟩
      · rw [e]; decide
      · rw [e]; exact Th.joinB_len ok
  refine ⟨ha, ?_⟩
  have h2 := h.2
  split at h2
  · have := of_decide_eq_true h2; omega
  · split at h2
    · have := eq_of_beq h2
      show d.data.toList.length ≤ 256
      rw [← Lib.toList_data, this]; decide
    · cases h2
theorem enc_data (a : ByteArray) (k : Int) (d : ByteArray) (z : List UInt8) : (BB (enc a k d) ++ BB z).data.toList = numB k.toNat ++ (numB a.size ++ (a.data.toList ++ (numB d.size ++ (d.data.toList ++ z)))) := by
  have : (BB (enc a k d) ++ BB z).data.toList = (BB (enc a k d)).data.toList ++ (BB z).data.toList := by simp
  rw [this, BB_data, BB_data]
  simp [enc]
theorem num_one (k : Nat) (h : k < 128) : (numB k).length = 1 := by unfold numB; rw [if_pos h]; rfl
/-- What Read answers of a text that begins with a right entry's bytes. -/
theorem read_enc (a : ByteArray) (k : Int) (d : ByteArray) (S : ByteArray) (z : List UInt8) (h : rightOf a k d = true) (hS : S.data.toList = numB k.toNat ++ (numB a.size ++ (a.data.toList ++ (numB d.size ++ (d.data.toList ++ z))))) (hsz : S.size ≤ 9223372036854775000) :
    entry_Read.f S 0 = some (a, k, d, [], S, ((S.size - z.length : Nat) : Int)) := by
  obtain ⟨ha, hd⟩ := right_short h
  have hk := kind_le a k d h
  obtain ⟨K, rfl⟩ : ∃ K : Nat, k = K := ⟨k.toNat, by omega⟩
  rw [Int.toNat_natCast] at hS
  have hK : K ≤ 4 := by omega
  have l1 := num_one K (by omega)
  have l2 := num_one a.size (by omega)
  have l3 := num_len d.size
  have la : a.data.toList.length = a.size := rfl
  have ld : d.data.toList.length = d.size := rfl
  have lS : S.data.toList.length = S.size := rfl
  have hlen := congrArg List.length hS
  simp only [List.length_append, l1, l2, la, ld, lS] at hlen
  have dr : ∀ (n : Nat) (x y : List UInt8), S.data.toList = x ++ y → x.length = n → S.data.toList.drop n = y := fun n x y e hx => by rw [e, List.drop_append_of_le_length (by omega), List.drop_of_length_le (by omega)]; rfl
  unfold entry_Read.f code_Reader_Num.f numF
  rw [if_pos ⟨Int.le_refl _, by omega, hsz⟩]
  rw [show (0 : Int).toNat = 0 from rfl, List.drop_zero, hS, numL_numB K (by omega)]
  dsimp only
  rw [if_pos (show (K : Int) ≤ 4 by omega), Option.bind_some]
  dsimp only
  rw [emp_if, l1]
  unfold code_Reader_Str.f strF
  rw [show (0 : Int) + ((1 : Nat) : Int) = ((1 : Nat) : Int) from rfl]
  rw [if_pos ⟨by omega, by omega, hsz⟩, Int.toNat_natCast, dr 1 _ _ hS l1, numL_numB a.size (by omega)]
  dsimp only
  rw [Int.toNat_natCast, l2, if_pos ⟨by omega, by omega⟩, Option.bind_some]
  dsimp only
  rw [emp_if]
  have hS2 : S.data.toList = (numB K ++ (numB a.size ++ a.data.toList)) ++ (numB d.size ++ (d.data.toList ++ z)) := by rw [hS]; simp
  rw [if_pos ⟨by omega, by omega, hsz⟩, Int.toNat_natCast, dr (1 + 1 + a.size) _ _ hS2 (by simp [l1, l2, la]; omega), numL_numB d.size (by omega)]
  dsimp only
  rw [Int.toNat_natCast, if_pos ⟨by omega, by omega⟩, Option.bind_some]
  dsimp only
  rw [emp_if]
  have ex : ∀ (x y t : List UInt8) (i j : Nat), S.data.toList = x ++ (y ++ t) → x.length = i → i + y.length = j → S.extract i j = BB y := fun x y t i j e hx hy => by
    apply bb_ext
    rw [BB_data]
    have : (S.extract i j).data.toList = (S.data.toList.drop i).take (j - i) := by simp [List.take_drop]
    rw [this, e, List.drop_append_of_le_length (by omega), List.drop_of_length_le (by omega), List.nil_append, List.take_append_of_le_length (by omega), List.take_of_length_le (by omega)]
  have e1 : S.extract (1 + 1) (1 + 1 + a.size) = a := by
    rw [ex (numB K ++ numB a.size) a.data.toList (numB d.size ++ (d.data.toList ++ z)) (1 + 1) (1 + 1 + a.size) (by rw [hS]; simp) (by simp [l1, l2]) (by omega), BB_eta]
  have e2 : S.extract (1 + 1 + a.size + (numB d.size).length) (1 + 1 + a.size + (numB d.size).length + d.size) = d := by
    rw [ex (numB K ++ (numB a.size ++ (a.data.toList ++ numB d.size))) d.data.toList z _ _ (by rw [hS]; simp) (by simp [l1, l2, la]; omega) (by omega), BB_eta]
  rw [e1, e2, right_eq _ _ _ (by omega), h, Option.bind_some]
  rw [if_pos rfl]
  have e3 : 1 + 1 + a.size + (numB d.size).length + d.size = S.size - z.length := by omega
  rw [e3]
theorem EntryBack (a0_0 : ByteArray) (a0_1 : Int) (a0_2 : ByteArray) (a1 : ByteArray) : ∃ k, shalelaw08_EntryBack.f k a0_0 a0_1 a0_2 a1 = some true := by
  refine ⟨6 + 1, ?_⟩
  have w0 : shalelaw08_awake.f (6 + 1) = some true := awakeN 2
  have w1 : shalelaw08_awake.f 6 = some true := awakeN 1
  have jt : shalelaw08_EntryBack.j0 (6 + 1) a1 true a0_0 a0_1 a0_2 = some true := by
    rw [shalelaw08_EntryBack.j0, if_pos rfl, w1]; rfl
  unfold shalelaw08_EntryBack.f
  rw [w0, Option.bind_some, if_pos rfl, few_eq, Option.bind_some]
  by_cases hf : a0_0.size ≤ 600 ∧ a0_2.size ≤ 600
  · rw [if_pos (decide_eq_true hf)]
    by_cases h1 : (a1.size : Int) > 600
    · rw [decide_eq_true h1]; exact jt
    · rw [decide_eq_false h1, shalelaw08_EntryBack.j0, if_neg (by decide)]
      cases hr : rightOf a0_0 a0_1 a0_2 with
      | false =>
        rw [lay_wrong 6 _ _ _ hf.1 hr, Option.bind_some]
        dsimp only
        have c1 : fail_Code.f [1] = some 1 := rfl
        rw [c1, Option.bind_some, if_neg (by decide), Option.bind_some, if_pos rfl, if_pos (show (⟨#[]⟩ : ByteArray).toList = [] from BB_list []), right_eq _ _ _ (by omega), hr]
        rfl
      | true =>
        rw [lay_right _ _ _ hf.1 hf.2 hr, Option.bind_some]
        dsimp only
        have c0 : fail_Code.f [] = some 0 := rfl
        obtain ⟨ha, hd⟩ := right_short hr
        have l1 := num_len a0_1.toNat
        have l2 := num_len a0_0.size
        have l3 := num_len a0_2.size
        have hel : (⟨(enc a0_0 a0_1 a0_2).toArray⟩ : ByteArray).size = (enc a0_0 a0_1 a0_2).length := rfl
        have hel2 : (enc a0_0 a0_1 a0_2).length ≤ 600 := by
          unfold enc
          simp only [List.length_append]
          have la : a0_0.data.toList.length = a0_0.size := rfl
          have ld : a0_2.data.toList.length = a0_2.size := rfl
          omega
        rw [c0, Option.bind_some, if_pos rfl, if_pos (by rw [hel]; omega)]
        unfold code_New.f
        rw [Option.bind_some]
        dsimp only
        have hS := enc_data a0_0 a0_1 a0_2 a1.data.toList
        rw [BB_eta] at hS
        have hsz : (BB (enc a0_0 a0_1 a0_2) ++ a1).size = (enc a0_0 a0_1 a0_2).length + a1.size := by rw [ByteArray.size_append]; rfl
        have hR := read_enc a0_0 a0_1 a0_2 (BB (enc a0_0 a0_1 a0_2) ++ a1) a1.data.toList hr hS (by rw [hsz]; omega)
        have hB : (⟨(enc a0_0 a0_1 a0_2).toArray⟩ : ByteArray) = BB (enc a0_0 a0_1 a0_2) := rfl
        rw [hB, hR, Option.bind_some]
        dsimp only
        rw [c0, Option.bind_some, if_pos rfl, if_pos (by simp)]
        unfold code_Reader_Left.f
        rw [Option.bind_some]
        dsimp only
        have la1 : a1.data.toList.length = a1.size := rfl
        rw [if_pos (by rw [hsz, la1]; unfold wrap64; omega), right_eq _ _ _ (by omega), hr]
        rfl
  · rw [if_neg (by rw [decide_eq_false hf]; decide)]
    exact jt
theorem extract_mid {S : ByteArray} {x y t : List UInt8} {i j : Nat} (e : S.data.toList = x ++ (y ++ t)) (hx : x.length = i) (hy : i + y.length = j) : S.extract i j = BB y := by
  apply bb_ext
  rw [BB_data]
  have : (S.extract i j).data.toList = (S.data.toList.drop i).take (j - i) := by simp [List.take_drop]
  rw [this, e, List.drop_append_of_le_length (by omega), List.drop_of_length_le (by omega), List.nil_append, List.take_append_of_le_length (by omega), List.take_of_length_le (by omega)]
theorem BB_size (l : List UInt8) : (BB l).size = l.length := rfl
/-- Whatever Str reads. -/
theorem str_any (S : ByteArray) (x z : List UInt8) (most : Int) (hS : S.data.toList = x ++ z) (hsz : S.size ≤ 600) (hm : most ≤ 600) :
    strF S ((x.length : Nat) : Int) most = some (⟨#[]⟩, [13], S, ((x.length : Nat) : Int)) ∨ ∃ (b : ByteArray) (z2 : List UInt8), b.size ≤ most ∧ z = numB b.size ++ (b.data.toList ++ z2) ∧ strF S ((x.length : Nat) : Int) most = some (b, [], S, (((x ++ (numB b.size ++ b.data.toList)).length : Nat) : Int)) := by
  have lS : S.data.toList.length = S.size := rfl
  have hlen := congrArg List.length hS
  rw [List.length_append, lS] at hlen
  have hd : S.data.toList.drop x.length = z := by rw [hS]; simp
  unfold strF
  rw [if_pos ⟨by omega, by omega, by omega⟩, Int.toNat_natCast, hd]
  cases hn : numL 9 0 0 z with
  | none => exact Or.inl rfl
  | some r =>
    obtain ⟨n, c⟩ := r
    dsimp only
    by_cases hc : n ≤ most ∧ x.length + c + n.toNat ≤ S.size
    · right
      rw [if_pos hc]
      obtain ⟨M, rfl, hM, z1, rfl, rfl⟩ := numB_of z n c hn (by omega)
      rw [Int.toNat_natCast] at hc ⊢
      rw [List.length_append] at hlen
      have hz1 : z1 = z1.take M ++ z1.drop M := (List.take_append_drop M z1).symm
      have lt : (z1.take M).length = M := by rw [List.length_take]; omega
      have lb : (BB (z1.take M)).size = M := by rw [BB_size, lt]
      refine ⟨BB (z1.take M), z1.drop M, by rw [lb]; exact hc.1, by rw [lb, BB_data, ← hz1], ?_⟩
      rw [extract_mid (x := x ++ numB M) (y := z1.take M) (t := z1.drop M) (by rw [hS, ← hz1]; simp) (by simp) (by rw [lt]), lb, BB_data]
      have : x.length + (numB M).length + M = (x ++ (numB M ++ z1.take M)).length := by simp [lt]; omega
      rw [this]
    · left
      rw [if_neg hc]
/-- Whatever Read reads of a short text. -/
theorem read_any (S : ByteArray) (hsz : S.size ≤ 600) : (∃ p, entry_Read.f S 0 = some (⟨#[]⟩, 0, ⟨#[]⟩, [13], S, p)) ∨ ∃ (a : ByteArray) (k : Int) (d : ByteArray) (z : List UInt8), rightOf a k d = true ∧ S.data.toList = numB k.toNat ++ (numB a.size ++ (a.data.toList ++ (numB d.size ++ (d.data.toList ++ z)))) := by
  unfold entry_Read.f code_Reader_Num.f numF
  rw [if_pos ⟨Int.le_refl _, by omega, by omega⟩]
  rw [show (0 : Int).toNat = 0 from rfl, List.drop_zero]
  cases hn : numL 9 0 0 S.data.toList with
  | none => exact Or.inl ⟨_, rfl⟩
  | some r =>
    obtain ⟨n, c⟩ := r
    dsimp only
    by_cases h4 : n ≤ 4
    · rw [if_pos h4, Option.bind_some]
      obtain ⟨K, rfl, hK, z1, hz1, rfl⟩ := numB_of _ n c hn (by omega)
      dsimp only
      rw [emp_if, Int.zero_add]
      unfold code_Reader_Str.f
      rcases str_any S (numB K) z1 54 hz1 hsz (by decide) with e | ⟨a, z2, ha, rfl, e⟩
      · left; rw [e]; exact ⟨_, rfl⟩
      · rw [e, Option.bind_some]
        dsimp only
        rw [emp_if]
        have hS2 : S.data.toList = (numB K ++ (numB a.size ++ a.data.toList)) ++ z2 := by rw [hz1]; simp
        rcases str_any S _ z2 256 hS2 hsz (by decide) with e2 | ⟨d, z3, hd, rfl, e2⟩
        · left; rw [e2]; exact ⟨_, rfl⟩
        · rw [e2, Option.bind_some]
          dsimp only
          rw [emp_if, right_eq _ _ _ (by omega), Option.bind_some]
          cases hr : rightOf a K d with
          | false =>
            left
            rw [if_neg (by decide)]
            exact ⟨_, rfl⟩
          | true =>
            right
            refine ⟨a, K, d, z3, hr, ?_⟩
            rw [Int.toNat_natCast, hz1]
    · left
      rw [if_neg h4]
      exact ⟨_, rfl⟩
theorem EntryOnly (a0 : ByteArray) : ∃ k, shalelaw08_EntryOnly.f k a0 = some true := by
  refine ⟨6 + 1, ?_⟩
  have w0 : shalelaw08_awake.f (6 + 1) = some true := awakeN 2
  have w1 : shalelaw08_awake.f 6 = some true := awakeN 1
  unfold shalelaw08_EntryOnly.f
  rw [w0, Option.bind_some, if_pos rfl]
  by_cases h1 : (a0.size : Int) > 600
  · rw [decide_eq_true h1, shalelaw08_EntryOnly.j0, if_pos rfl, w1]; rfl
  · rw [decide_eq_false h1, shalelaw08_EntryOnly.j0, if_neg (by decide)]
    unfold code_New.f
    rw [Option.bind_some]
    dsimp only
    rcases read_any a0 (by omega) with ⟨p, e⟩ | ⟨a, k, d, z, hr, hS⟩
    · rw [e, Option.bind_some]
      dsimp only
      have c1 : fail_Code.f [13] = some 13 := rfl
      rw [c1, Option.bind_some, if_neg (by decide), Option.bind_some, if_pos rfl]
      have hb : (⟨#[]⟩ : ByteArray).toList = [] := BB_list []
      rw [hb]
      rfl
    · rw [read_enc a k d a0 z hr hS (by omega), Option.bind_some]
      dsimp only
      have c0 : fail_Code.f [] = some 0 := rfl
      obtain ⟨ha, hd⟩ := right_short hr
      rw [c0, Option.bind_some, if_pos rfl, lay_right _ _ _ (by omega) (by omega) hr, Option.bind_some]
      dsimp only
      rw [c0, Option.bind_some, if_pos rfl]
      unfold code_Reader_Left.f
      rw [Option.bind_some]
      dsimp only
      have hE : a0.data.toList = enc a k d ++ z := by rw [hS]; simp [enc]
      have hlen := congrArg List.length hE
      have lS : a0.data.toList.length = a0.size := rfl
      rw [List.length_append, lS] at hlen
      have hB : (⟨(enc a k d).toArray⟩ : ByteArray) = BB (enc a k d) := rfl
      rw [hB, BB_size, if_pos (by unfold wrap64; omega), if_pos (by omega), if_pos (by omega), Int.toNat_natCast,
        extract_mid (x := []) (y := enc a k d) (t := z) (i := 0) (j := (enc a k d).length) hE rfl (by omega)]
      exact congrArg some (beq_self_eq_true _)
end Go.Proofs.YtklcceccadlgkaaDoor.Pure
