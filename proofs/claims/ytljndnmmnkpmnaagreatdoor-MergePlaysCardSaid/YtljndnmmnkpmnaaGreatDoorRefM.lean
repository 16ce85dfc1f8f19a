/- The document's Two, as the printed function tells it, in plain words. -/
import Derived.Test.YtljndnmmnkpmnaaGreatDoorRefW
import Derived.Test.YtljndnmmnkpmnaaGreatDoorRefM0
import Derived.Test.YtljndnmmnkpmnaaGreatDoorPrintRTwo
namespace Go.Proofs.YtljndnmmnkpmnaaGreatDoor.Th
open Go Go.RowKit Go.Proofs.YtljndnmmnkpmnaaGreatDoor.Print Go.Proofs.YtljndnmmnkpmnaaGreatDoorW.PrintWords
set_option linter.unusedVariables false
set_option linter.unusedSimpArgs false
open Classical
theorem rfind_l0 (l : List En) (p : ByteArray) (hl : l.length ≤ 100000) : ∀ (n i k : Nat), i + n = l.length → n < k → ∃ t : Int, z19.l0 k l p (i : Int) = some t ∧ (0 ≤ t ↔ (fnd (l.drop i) p.data.toList).isSome = true) := by
 intro n
 induction n with
 | zero =>
  intro i k hn hk
  obtain ⟨k, rfl⟩ := Nat.exists_eq_add_of_le' (show 1 ≤ k by omega)
  refine ⟨-1, by rw [z19.l0, if_neg (by omega)], ?_⟩
  rw [List.drop_of_length_le (by omega), fnd_nil]; simp
 | succ n ih =>
  intro i k hn hk
  obtain ⟨k, rfl⟩ := Nat.exists_eq_add_of_le' (show 1 ≤ k by omega)
  have hi : i < l.length := by omega
  rw [z19.l0, if_pos (by omega), if_pos (by omega), rd_get l i hi, wrap_up i (by omega), lst_data, lst_data, List.drop_eq_getElem_cons hi, fnd_cons]
  by_cases h : ky l[i] = p.data.toList
  ·rw [if_pos (show l[i].f0.data.toList = p.data.toList from h), if_pos h]
   exact ⟨_, rfl, by simp⟩
  ·rw [if_neg (show ¬ l[i].f0.data.toList = p.data.toList from h), if_neg h]
   exact ih (i + 1) k (by omega) (by omega)
theorem rfind_eq (l : List En) (p : ByteArray) (hl : l.length ≤ 1000) (k : Nat) (hk : 1100 ≤ k) : ∃ t : Int, z19.f k l p = some t ∧ (0 ≤ t ↔ (fnd l p.data.toList).isSome = true) := by
 unfold z19.f
 have := rfind_l0 l p (by omega) l.length 0 k (by omega) (by omega)
 rwa [List.drop_zero] at this
theorem ex_cons {α : Type} {Q : α → Prop} {x : α} {r : List α} : (∃ h ∈ x :: r, Q h) ↔ Q x ∨ ∃ h ∈ r, Q h := by
 constructor
 ·rintro ⟨h, hm, hq⟩
  rcases List.mem_cons.1 hm with rfl | hm
  ·exact .inl hq
  ·exact .inr ⟨h, hm, hq⟩
 ·rintro (h | ⟨h, hm, hq⟩)
  ·exact ⟨x, List.mem_cons_self .., h⟩
  ·exact ⟨h, List.mem_cons_of_mem _ hm, hq⟩
/-- A question's answer, by one choice alone. -/
noncomputable def dB (P : Prop) : Bool := @decide P (Classical.propDecidable P)
theorem dB_true {P : Prop} (h : P) : dB P = true := @decide_eq_true P (Classical.propDecidable P) h
theorem dB_false {P : Prop} (h : ¬ P) : dB P = false := @decide_eq_false P (Classical.propDecidable P) h
theorem dB_congr {P Q : Prop} (h : P ↔ Q) : dB P = dB Q := by rw [propext h]
theorem dB_or (P Q : Prop) : dB (P ∨ Q) = (dB P || dB Q) := by
 by_cases hp : P
 ·rw [dB_true (.inl hp), dB_true hp, Bool.true_or]
 ·by_cases hq : Q
  ·rw [dB_true (.inr hq), dB_true hq, Bool.or_true]
  ·rw [dB_false (fun k => k.elim hp hq), dB_false hp, dB_false hq]; rfl
/-- Small: paths that a text may bear, few of them. -/
def Sml (l : List En) : Prop := l.length ≤ 70 ∧ ∀ e ∈ l, e.f0.size ≤ 1000
section
variable {low high : List En}
theorem rtwo_l1 (hlo : Sml low) (hhi : Sml high) (bt : Bool) (acc : List En) (i : Nat) (hi : i < low.length) (r : Option (List En)) (K0 : Nat) : ∀ (n j k : Nat) (b : Bool), j + n = high.length → K0 + n ≤ k →
  (∀ k, K0 ≤ k → z25.l1 k low high bt acc (i : Int) (b || dB (∃ h ∈ high.drop j, h.f1 ≠ 2 ∧ (ky h = ky low[i] ∨ Und (ky low[i]) (ky h)))) (high.length : Int) = r) → z25.l1 k low high bt acc (i : Int) b (j : Int) = r := by
 have h70 := hlo.1
 have h71 := hhi.1
 intro n
 induction n with
 | zero =>
  intro j k b hn hk hend
  obtain rfl : j = high.length := by omega
  have := hend k (by omega)
  rw [List.drop_of_length_le (Nat.le_refl _), dB_false (by rintro ⟨h, hm, _⟩; cases hm), Bool.or_false] at this
  exact this
 | succ n ih =>
  intro j k b hn hk hend
  obtain ⟨k, rfl⟩ := Nat.exists_eq_add_of_le' (show 1 ≤ k by omega)
  have hj : j < high.length := by omega
  have hz := hhi.2 _ (List.getElem_mem hj)
  have hz2 := hlo.2 _ (List.getElem_mem hi)
  rw [List.drop_eq_getElem_cons hj] at hend
  have next : ∀ b2 : Bool, (b2 = (b || dB (high[j].f1 ≠ 2 ∧ (ky high[j] = ky low[i] ∨ Und (ky low[i]) (ky high[j]))))) → z25.l1 k low high bt acc (i : Int) b2 ((j + 1 : Nat) : Int) = r := fun b2 hb2 => by
   refine ih (j + 1) k b2 (by omega) (by omega) fun k' hk' => ?_
   have := hend k' hk'
   have e : (b2 || dB (∃ h ∈ high.drop (j + 1), h.f1 ≠ 2 ∧ (ky h = ky low[i] ∨ Und (ky low[i]) (ky h)))) = (b || dB (∃ h ∈ high[j] :: high.drop (j + 1), h.f1 ≠ 2 ∧ (ky h = ky low[i] ∨ Und (ky low[i]) (ky h)))) := by
    rw [dB_congr (ex_cons (Q := fun h : En => h.f1 ≠ 2 ∧ (ky h = ky low[i] ∨ Und (ky low[i]) (ky h)))), hb2, dB_or, Bool.or_assoc]
   rw [e]; exact this
  rw [z25.l1, if_pos (by omega), if_pos (by omega), rd_get high j hj, rd_get low i hi, wrap_up j (by omega)]
  by_cases h2 : high[j].f1 = 2
  ·rw [if_pos h2]
   exact next b (by rw [dB_false (fun k => k.1 h2), Bool.or_false])
  ·rw [if_neg h2, if_pos (by omega), if_pos (by omega), lst_data, lst_data]
   by_cases hs : ky high[j] = ky low[i]
   ·rw [if_pos (show high[j].f0.data.toList = low[i].f0.data.toList from hs)]
    exact next true (by rw [dB_true ⟨h2, .inl hs⟩, Bool.or_true])
   ·rw [if_neg (show ¬ high[j].f0.data.toList = low[i].f0.data.toList from hs), ref_underD _ _ hz2 hz, Option.bind_some]
    by_cases hu : Und (ky low[i]) (ky high[j])
    ·rw [decide_eq_true (show Und low[i].f0.data.toList high[j].f0.data.toList from hu), if_pos rfl]
     exact next true (by rw [dB_true ⟨h2, .inr hu⟩, Bool.or_true])
    ·rw [decide_eq_false (show ¬ Und low[i].f0.data.toList high[j].f0.data.toList from hu), if_neg (by decide)]
     exact next b (by rw [dB_false (fun k => k.2.elim hs hu), Bool.or_false])
theorem rtwo_l0 (hlo : Sml low) (hhi : Sml high) (bt : Bool) (r : Option (List En)) (K0 : Nat) (hK0 : 1200 ≤ K0) : ∀ (n i k : Nat) (acc : List En), i + n = low.length → acc.length ≤ i → K0 + n * 90 + 10 ≤ k →
  (∀ k, K0 ≤ k → z25.l2 k low high bt (acc ++ (low.drop i).filter (fun x => decide (keepP high x))) 0 = r) → z25.l0 k low high bt acc (i : Int) = r := by
 have h70 := hlo.1
 have h71 := hhi.1
 intro n
 induction n with
 | zero =>
  intro i k acc hn ha hk hend
  obtain ⟨k, rfl⟩ := Nat.exists_eq_add_of_le' (show 1 ≤ k by omega)
  rw [z25.l0, if_neg (by omega)]
  have := hend k (by omega)
  rw [List.drop_of_length_le (by omega), List.filter_nil, List.append_nil] at this
  exact this
 | succ n ih =>
  intro i k acc hn ha hk hend
  obtain ⟨k, rfl⟩ := Nat.exists_eq_add_of_le' (show 1 ≤ k by omega)
  have hi : i < low.length := by omega
  have hz2 := hlo.2 _ (List.getElem_mem hi)
  rw [List.drop_eq_getElem_cons hi, List.filter_cons] at hend
  rw [z25.l0, if_pos (by omega), show (0 : Int) = ((0 : Nat) : Int) from rfl]
  refine rtwo_l1 hlo hhi bt acc i hi r (K0 + n * 90 + 20) high.length 0 k false (by omega) (by omega) fun k' hk' => ?_
  rw [List.drop_zero, Bool.false_or]
  obtain ⟨k', rfl⟩ := Nat.exists_eq_add_of_le' (show 1 ≤ k' by omega)
  obtain ⟨t, ht, hti⟩ := rfind_eq high low[i].f0 (by omega) k' (by omega)
  rw [z25.l1, if_neg (by omega), if_pos (by omega), if_pos (by omega), rd_get low i hi, ht, Option.bind_some, wrap_up i (by omega)]
  have skip : ¬ keepP high low[i] → z25.l0 k' low high bt acc ((i + 1 : Nat) : Int) = r := fun hno => by
   rw [if_neg (by rw [decide_eq_true_iff]; exact hno)] at hend
   exact ih (i + 1) k' acc (by omega) (by omega) (by omega) hend
  have keep : keepP high low[i] → (if acc.length < 3518437208883 then (z25.l0 k' low high bt (acc ++ [(⟨low[i].f0, low[i].f1, low[i].f2⟩ : En)]) ((i + 1 : Nat) : Int)) else (none)) = r := fun hyes => by
   rw [if_pos (decide_eq_true hyes)] at hend
   rw [if_pos (by omega)]
   refine ih (i + 1) k' (acc ++ [low[i]]) (by omega) (by rw [List.length_append, List.length_singleton]; omega) (by omega) fun k2 hk2 => ?_
   rw [List.append_assoc, List.singleton_append]
   exact hend k2 hk2
  by_cases hh : hidB high low[i]
  ·rw [dB_true (show ∃ h ∈ high, h.f1 ≠ 2 ∧ (ky h = ky low[i] ∨ Und (ky low[i]) (ky h)) from hh), if_pos rfl]
   exact skip fun k => k.1 hh
  ·rw [dB_false (show ¬ ∃ h ∈ high, h.f1 ≠ 2 ∧ (ky h = ky low[i] ∨ Und (ky low[i]) (ky h)) from hh), if_neg (by decide)]
   by_cases h0 : t < 0
   ·have hf : fnd high (ky low[i]) = none := by
     cases hq : fnd high (ky low[i]) with
     | none => rfl
     | some x => have := hti.2 (by rw [show low[i].f0.data.toList = ky low[i] from rfl, hq]; rfl); omega
    rw [if_pos h0]; exact keep ⟨hh, .inl hf⟩
   ·rw [if_neg h0]
    by_cases h2 : low[i].f1 = 2
    ·rw [if_pos h2]; exact keep ⟨hh, .inr (.inl h2)⟩
    ·rw [if_neg h2]
     by_cases h4 : low[i].f1 = 4
     ·rw [if_pos h4]; exact keep ⟨hh, .inr (.inr h4)⟩
     ·rw [if_neg h4]
      refine skip ?_
      rintro ⟨_, k | k | k⟩
      ·have := hti.1 (by omega)
       rw [show low[i].f0.data.toList = ky low[i] from rfl, k] at this; cases this
      ·exact h2 k
      ·exact h4 k
theorem rtwo_l3 (hhi : Sml high) (bt : Bool) (acc : List En) (m : Nat) (hm : m < high.length) (t : Int) (e : En) (he : e.f0.size ≤ 1000) (r : Option (List En)) (K0 : Nat) : ∀ (n j k : Nat) (b : Bool), j + n = m → K0 + n ≤ k →
  (∀ k, K0 ≤ k → z25.l3 k low high bt acc (m : Int) t (b || dB (∃ h ∈ (high.take m).drop j, h.f1 ≠ 2 ∧ Und (ky e) (ky h))) (m : Int) e.f0 e.f1 e.f2 = r) → z25.l3 k low high bt acc (m : Int) t b (j : Int) e.f0 e.f1 e.f2 = r := by
 have h71 := hhi.1
 intro n
 induction n with
 | zero =>
  intro j k b hn hk hend
  obtain rfl : j = m := by omega
  have := hend k (by omega)
  rw [List.drop_of_length_le (by rw [List.length_take]; omega), dB_false (by rintro ⟨h, hm, _⟩; cases hm), Bool.or_false] at this
  exact this
 | succ n ih =>
  intro j k b hn hk hend
  obtain ⟨k, rfl⟩ := Nat.exists_eq_add_of_le' (show 1 ≤ k by omega)
  have hj : j < high.length := by omega
  have hz := hhi.2 _ (List.getElem_mem hj)
  have hjt : j < (high.take m).length := by rw [List.length_take]; omega
  rw [List.drop_eq_getElem_cons hjt, List.getElem_take] at hend
  have next : ∀ b2 : Bool, (b2 = (b || dB (high[j].f1 ≠ 2 ∧ Und (ky e) (ky high[j])))) → z25.l3 k low high bt acc (m : Int) t b2 ((j + 1 : Nat) : Int) e.f0 e.f1 e.f2 = r := fun b2 hb2 => by
   refine ih (j + 1) k b2 (by omega) (by omega) fun k' hk' => ?_
   have := hend k' hk'
   have e1 : (b2 || dB (∃ h ∈ (high.take m).drop (j + 1), h.f1 ≠ 2 ∧ Und (ky e) (ky h))) = (b || dB (∃ h ∈ high[j] :: (high.take m).drop (j + 1), h.f1 ≠ 2 ∧ Und (ky e) (ky h))) := by
    rw [dB_congr (ex_cons (Q := fun h : En => h.f1 ≠ 2 ∧ Und (ky e) (ky h))), hb2, dB_or, Bool.or_assoc]
   rw [e1]; exact this
  rw [z25.l3, if_pos (by omega), wrap_up j (by omega)]
  cases b with
  | true => rw [if_pos rfl]; exact next true (by rw [Bool.true_or])
  | false =>
   rw [if_neg (by decide), if_pos (by omega), if_pos (by omega), rd_get high j hj]
   by_cases h2 : high[j].f1 = 2
   ·rw [if_pos h2]
    exact next false (by rw [dB_false (fun k => k.1 h2)]; rfl)
   ·rw [if_neg h2, ref_underD _ _ he hz, Option.bind_some]
    refine next _ ?_
    rw [Bool.false_or]
    by_cases hu : Und e.f0.data.toList high[j].f0.data.toList
    ·rw [decide_eq_true hu, dB_true ⟨h2, hu⟩]
    ·rw [decide_eq_false hu, dB_false (fun k => hu k.2)]
/-- What is kept while it grows. -/
def Acc (m : Nat) (acc : List En) : Prop := Srt acc ∧ (∀ x ∈ acc, x.f0.size ≤ 1000) ∧ acc.length ≤ 70 + m
theorem acc_put {m : Nat} {acc : List En} (h : Acc m acc) {e : En} (he : e.f0.size ≤ 1000) : Acc (m + 1) (putL acc e) := by
 refine ⟨h.1.put e, fun x hx => ?_, ?_⟩
 ·rcases putL_mem hx with rfl | hx
  ·exact he
  ·exact h.2.1 x hx
 ·have := putL_len acc e; have := h.2.2; omega
theorem rtwo_l2 (hlo : Sml low) (hhi : Sml high) (bt : Bool) (r : Option (List En)) (K0 : Nat) (hK0 : 9000 ≤ K0) : ∀ (n m k : Nat) (acc : List En), m + n = high.length → Acc m acc → K0 + n * 80 + 10 ≤ k →
  (∀ k, K0 ≤ k → z25.l2 k low high bt (hiL low acc (high.take m) (high.drop m)) (high.length : Int) = r) → z25.l2 k low high bt acc (m : Int) = r := by
 have h70 := hlo.1
 have h71 := hhi.1
 intro n
 induction n with
 | zero =>
  intro m k acc hn ha hk hend
  obtain rfl : m = high.length := by omega
  have := hend k (by omega)
  rw [List.drop_of_length_le (Nat.le_refl _), hiL] at this
  exact this
 | succ n ih =>
  intro m k acc hn ha hk hend
  obtain ⟨k, rfl⟩ := Nat.exists_eq_add_of_le' (show 1 ≤ k by omega)
  have hm : m < high.length := by omega
  have hz := hhi.2 _ (List.getElem_mem hm)
  have hal := ha.2.2
  rw [List.drop_eq_getElem_cons hm, hiL, ← List.take_succ_eq_append_getElem hm] at hend
  obtain ⟨t, ht, hti⟩ := rfind_eq acc high[m].f0 (by omega) k (by omega)
  rw [z25.l2, if_pos (by omega), if_pos (by omega), rd_get high m hm, ht, Option.bind_some]
  by_cases h0 : t ≥ 0
  ·have hs : hiS low acc (high.take m) high[m] = acc := by unfold hiS; exact if_pos (hti.1 h0)
   rw [hs] at hend
   rw [if_pos h0, wrap_up m (by omega)]
   exact ih (m + 1) k acc (by omega) ⟨ha.1, ha.2.1, by omega⟩ (by omega) hend
  ·have hn0 : ¬ (fnd acc (ky high[m])).isSome = true := fun k => h0 (hti.2 k)
   have hs : hiS low acc (high.take m) high[m] = putL acc (if high[m].f1 = 2 ∧ (fnd low (ky high[m])).isSome = true ∧ ¬ overP (high.take m) high[m] then ⟨high[m].f0, 4, high[m].f2⟩ else high[m]) := by unfold hiS; exact if_neg hn0
   rw [hs] at hend
   obtain ⟨t2, ht2, hti2⟩ := rfind_eq low high[m].f0 (by omega) k (by omega)
   rw [if_neg h0, ht2, Option.bind_some, show (0 : Int) = ((0 : Nat) : Int) from rfl]
   refine rtwo_l3 hhi bt acc m hm t2 high[m] hz r (K0 + n * 80 + 15) m 0 k false (by omega) (by omega) fun k' hk' => ?_
   rw [List.drop_zero, Bool.false_or]
   obtain ⟨k', rfl⟩ := Nat.exists_eq_add_of_le' (show 1 ≤ k' by omega)
   have plain : ¬ (high[m].f1 = 2 ∧ (fnd low (ky high[m])).isSome = true ∧ ¬ overP (high.take m) high[m]) → ((z22.f k' acc high[m].f0 high[m].f1 high[m].f2).bind fun t291 => (z25.l2 k' low high bt t291 (wrap64 ((m : Int) + 1)))) = r := fun hno => by
    rw [if_neg hno] at hend
    rw [with_any acc high[m] ha.1 ha.2.1 hz (by omega) k' (by omega), Option.bind_some, wrap_up m (by omega)]
    exact ih (m + 1) k' _ (by omega) (acc_put ha hz) (by omega) hend
   have four : (high[m].f1 = 2 ∧ (fnd low (ky high[m])).isSome = true ∧ ¬ overP (high.take m) high[m]) → ((z22.f k' acc high[m].f0 4 high[m].f2).bind fun t294 => (z25.l2 k' low high bt t294 (wrap64 ((m : Int) + 1)))) = r := fun hyes => by
    rw [if_pos hyes] at hend
    have := with_any acc ⟨high[m].f0, 4, high[m].f2⟩ ha.1 ha.2.1 hz (by omega) k' (by omega)
    dsimp only at this
    rw [this, Option.bind_some, wrap_up m (by omega)]
    exact ih (m + 1) k' _ (by omega) (acc_put (e := ⟨high[m].f0, 4, high[m].f2⟩) ha hz) (by omega) hend
   rw [z25.l3, if_neg (by omega)]
   by_cases h2 : high[m].f1 = 2
   ·rw [if_pos h2]
    by_cases hl : t2 ≥ 0
    ·rw [if_pos hl]
     by_cases ho : overP (high.take m) high[m]
     ·rw [dB_true (show ∃ h ∈ high.take m, h.f1 ≠ 2 ∧ Und (ky high[m]) (ky h) from ho), if_pos rfl]
      exact plain fun k => k.2.2 ho
     ·rw [dB_false (show ¬ ∃ h ∈ high.take m, h.f1 ≠ 2 ∧ Und (ky high[m]) (ky h) from ho), if_neg (by decide)]
      exact four ⟨h2, hti2.1 hl, ho⟩
    ·rw [if_neg hl]
     exact plain fun k => hl (hti2.2 k.2.1)
   ·rw [if_neg h2]
    exact plain fun k => h2 k.1
end
theorem bot_cons (x : En) (r : List En) : botL (x :: r) = (if x.f1 = 3 then [] else [if x.f1 = 4 then (⟨x.f0, 2, x.f2⟩ : En) else x]) ++ botL r := by
 unfold botL
 rw [List.filter_cons]
 by_cases h : x.f1 = 3
 ·rw [if_neg (by simp [h]), if_pos h, List.nil_append]
 ·rw [if_pos (by simp [h]), if_neg h, List.map_cons, List.singleton_append]
theorem rtwo_l4 (x : List En) (hx : x.length ≤ 1000) : ∀ (n i k : Nat) (acc : List En), i + n = x.length → acc.length ≤ i → n < k → z25.l4 k x acc (i : Int) = some (acc ++ botL (x.drop i)) := by
 intro n
 induction n with
 | zero =>
  intro i k acc hn ha hk
  obtain ⟨k, rfl⟩ := Nat.exists_eq_add_of_le' (show 1 ≤ k by omega)
  rw [z25.l4, if_neg (by omega), List.drop_of_length_le (by omega)]
  rw [show botL [] = [] from rfl, List.append_nil]
 | succ n ih =>
  intro i k acc hn ha hk
  obtain ⟨k, rfl⟩ := Nat.exists_eq_add_of_le' (show 1 ≤ k by omega)
  have hi : i < x.length := by omega
  rw [z25.l4, if_pos (by omega), if_pos (by omega), rd_get x i hi, wrap_up i (by omega), List.drop_eq_getElem_cons hi, bot_cons]
  by_cases h4 : x[i].f1 = 4
  ·rw [if_pos h4, if_neg (by decide), if_pos (by omega), if_neg (by omega), if_pos h4, ← List.append_assoc]
   exact ih (i + 1) k _ (by omega) (by rw [List.length_append, List.length_singleton]; omega) (by omega)
  ·rw [if_neg h4]
   by_cases h3 : x[i].f1 = 3
   ·rw [if_pos h3, if_pos h3, List.nil_append]
    exact ih (i + 1) k acc (by omega) (by omega) (by omega)
   ·rw [if_neg h3, if_pos (by omega), if_neg h3, if_neg h4, ← List.append_assoc]
    exact ih (i + 1) k (acc ++ [x[i]]) (by omega) (by rw [List.length_append, List.length_singleton]; omega) (by omega)
theorem hiL_len (low : List En) : ∀ (rest out pre : List En), (hiL low out pre rest).length ≤ out.length + rest.length
 | [], out, pre => Nat.le_refl _
 | e :: r, out, pre => by
  rw [hiL, List.length_cons]
  have h := hiL_len low r (hiS low out pre e) (pre ++ [e])
  have : (hiS low out pre e).length ≤ out.length + 1 := by
   unfold hiS
   split
   ·omega
   ·exact putL_len _ _
  omega
theorem rtwo_f (low high : List En) (hlo : Sml low) (hhi : Sml high) (hs : Srt low) (bt : Bool) (k : Nat) (hk : 30000 ≤ k) : z25.f k low high bt = some (if bt = true then botL (rtwo low high) else rtwo low high) := by
 have h70 := hlo.1
 have h71 := hhi.1
 unfold z25.f
 rw [show (0 : Int) = ((0 : Nat) : Int) from rfl]
 refine rtwo_l0 hlo hhi bt _ 20000 (by omega) low.length 0 k [] (by omega) (by simp) (by omega) fun k1 hk1 => ?_
 rw [List.drop_zero, List.nil_append, show (0 : Int) = ((0 : Nat) : Int) from rfl]
 have hll : (low.filter fun x => decide (keepP high x)).length ≤ low.length := List.length_filter_le _ _
 refine rtwo_l2 hlo hhi bt _ 10000 (by omega) high.length 0 k1 _ (by omega) ⟨hs.filter _, fun x hx => hlo.2 x (List.mem_filter.1 hx).1, by omega⟩ (by omega) fun k2 hk2 => ?_
 rw [List.take_zero, List.drop_zero]
 have hr : hiL low (low.filter fun x => decide (keepP high x)) [] high = rtwo low high := rfl
 rw [hr]
 have hlen : (rtwo low high).length ≤ 200 := by
  have := hiL_len low high (lowL low high) []
  have h2 : (lowL low high).length ≤ low.length := List.length_filter_le _ _
  have h3 : (rtwo low high).length ≤ (lowL low high).length + high.length := this
  omega
 obtain ⟨k2, rfl⟩ := Nat.exists_eq_add_of_le' (show 1 ≤ k2 by omega)
 rw [z25.l2, if_neg (by omega)]
 cases bt with
 | true =>
  rw [if_pos rfl, if_pos rfl]
  have := rtwo_l4 (rtwo low high) (by omega) (rtwo low high).length 0 k2 [] (by omega) (by simp) (by omega)
  rw [List.drop_zero, List.nil_append] at this
  exact this
 | false => rw [if_neg (by decide), if_neg (by decide)]
end Go.Proofs.YtljndnmmnkpmnaaGreatDoor.Th
