/- LayerReads: the law's function answers true. -/
import Derived.Test.YtjlflmjimibciabGreatDoorLayC
import Derived.Test.YtjlflmjimibciabGreatDoorPrintRd
import Derived.Test.YtjlflmjimibciabGreatDoorPrintLay
import Derived.Test.YtjlflmjimibciabGreatDoorPrintLayerReads
namespace Go.Proofs.YtjlflmjimibciabGreatDoor.Th
open Go Go.RowKit Go.Proofs.YtjlflmjimibciabGreatDoor.Print Go.Proofs.YtjlflmjimibciabGreatDoorW.PrintWords
set_option linter.unusedVariables false
set_option linter.unusedSimpArgs false
open Classical
theorem awake09_0 : shalelaw09_awake.f 60 = some true := by kernel_rfl
theorem awake09 (k : Nat) (hk : 60 ≤ k) : shalelaw09_awake.f k = some true := mono_le (fun k => shalelaw09_awake.mono k) hk awake09_0
theorem code_nil9 : fail_Code.f [] = some 0 := rfl
theorem code_one9 (c : Int) : fail_Code.f [c] = some c := rfl
theorem wraps32 (n : Int) (h0 : 0 ≤ n) (h1 : n < 2 ^ 32) : IntKind.u32.wrap n = n := by
  rw [IntKind.wrap_u32]; omega
theorem or32 (a b : Nat) (ha : a < 16777216) (hb : b < 256) : Go.bits .or .u32 (((a : Int) * 256) % 4294967296) ((b : Int) % 4294967296) = ((a * 256 + b : Nat) : Int) := by
  have e1 : ((a : Int) * 256) % 4294967296 = ((a * 256 : Nat) : Int) := by omega
  have e2 : (b : Int) % 4294967296 = ((b : Nat) : Int) := by omega
  rw [e1, e2, (bits_nat .u32 32 (by decide) wraps32 (a * 256) b (by omega) (by omega)).2]
  congr 1
  have := Nat.two_pow_add_eq_or_of_lt (i := 8) hb a
  rw [Nat.mul_comm a 256]
  exact this.symm
theorem number_step (k : Nat) (s : ByteArray) (x i : Nat) (hi : i < 4) (hs : s.size = 4) (hx : x < 16777216) : adler_Number.l0 (k + 1) s (x : Int) (i : Int) = adler_Number.l0 k s ((x * 256 + (bt s (i : Int)).toNat : Nat) : Int) ((i + 1 : Nat) : Int) := by
  obtain ⟨h0, h1⟩ := bt_range s (i : Int)
  have hb : bt s (i : Int) = (((bt s (i : Int)).toNat : Nat) : Int) := by omega
  have := or32 x (bt s (i : Int)).toNat hx (by omega)
  rw [← hb] at this
  rw [adler_Number.l0, if_pos (by omega), if_pos (by omega), if_pos (by omega), this, wrap_up i (by omega)]
def num4 (b0 b1 b2 b3 : UInt8) : Nat := ((b0.toNat * 256 + b1.toNat) * 256 + b2.toNat) * 256 + b3.toNat
theorem number4 (b0 b1 b2 b3 : UInt8) (k : Nat) (hk : 5 ≤ k) : adler_Number.f k (B [b0, b1, b2, b3]) = some ((num4 b0 b1 b2 b3 : Nat) : Int) := by
  obtain ⟨k, rfl⟩ := Nat.exists_eq_add_of_le' hk
  have hs : (B [b0, b1, b2, b3]).size = 4 := rfl
  have c0 : (bt (B [b0, b1, b2, b3]) ((0 : Nat) : Int)).toNat = b0.toNat := rfl
  have c1 : (bt (B [b0, b1, b2, b3]) ((0 + 1 : Nat) : Int)).toNat = b1.toNat := rfl
  have c2 : (bt (B [b0, b1, b2, b3]) ((0 + 1 + 1 : Nat) : Int)).toNat = b2.toNat := rfl
  have c3 : (bt (B [b0, b1, b2, b3]) ((0 + 1 + 1 + 1 : Nat) : Int)).toNat = b3.toNat := rfl
  have l0 := UInt8.toNat_lt b0
  have l1 := UInt8.toNat_lt b1
  have l2 := UInt8.toNat_lt b2
  have l3 := UInt8.toNat_lt b3
  unfold adler_Number.f
  have s0 := number_step (k + 1 + 1 + 1 + 1) (B [b0, b1, b2, b3]) 0 0 (by decide) hs (by decide)
  rw [c0] at s0
  have s1 := number_step (k + 1 + 1 + 1) (B [b0, b1, b2, b3]) (0 * 256 + b0.toNat) (0 + 1) (by decide) hs (by omega)
  rw [c1] at s1
  have s2 := number_step (k + 1 + 1) (B [b0, b1, b2, b3]) ((0 * 256 + b0.toNat) * 256 + b1.toNat) (0 + 1 + 1) (by decide) hs (by omega)
  rw [c2] at s2
  have s3 := number_step (k + 1) (B [b0, b1, b2, b3]) (((0 * 256 + b0.toNat) * 256 + b1.toNat) * 256 + b2.toNat) (0 + 1 + 1 + 1) (by decide) hs (by omega)
  rw [c3] at s3
  have s4 : adler_Number.l0 (k + 1) (B [b0, b1, b2, b3]) (((((0 * 256 + b0.toNat) * 256 + b1.toNat) * 256 + b2.toNat) * 256 + b3.toNat : Nat) : Int) ((0 + 1 + 1 + 1 + 1 : Nat) : Int) = some ((num4 b0 b1 b2 b3 : Nat) : Int) := by
    rw [adler_Number.l0, if_neg (by omega)]
    unfold num4
    rw [Nat.zero_mul, Nat.zero_add]
  exact s0.trans (s1.trans (s2.trans (s3.trans s4)))
theorem four_number (b0 b1 b2 b3 : UInt8) : adler_Four.f ((num4 b0 b1 b2 b3 : Nat) : Int) = some (B [b0, b1, b2, b3]) := by
  unfold adler_Four.f
  congr 1
  apply by_ext
  rw [strOfNums_data, B_data]
  have l0 := UInt8.toNat_lt b0
  have l1 := UInt8.toNat_lt b1
  have l2 := UInt8.toNat_lt b2
  have l3 := UInt8.toNat_lt b3
  have hn : num4 b0 b1 b2 b3 = ((b0.toNat * 256 + b1.toNat) * 256 + b2.toNat) * 256 + b3.toNat := rfl
  have e0 : (((num4 b0 b1 b2 b3 : Nat) : Int) / 16777216 % 256).toNat = b0.toNat := by omega
  have e1 : (((num4 b0 b1 b2 b3 : Nat) : Int) / 65536 % 256).toNat = b1.toNat := by omega
  have e2 : (((num4 b0 b1 b2 b3 : Nat) : Int) / 256 % 256).toNat = b2.toNat := by omega
  have e3 : (((num4 b0 b1 b2 b3 : Nat) : Int) % 256).toNat = b3.toNat := by omega
  simp only [List.map_cons, List.map_nil]
  rw [e0, e1, e2, e3, UInt8.ofNat_toNat, UInt8.ofNat_toNat, UInt8.ofNat_toNat, UInt8.ofNat_toNat]
theorem sum_l0 (s : ByteArray) (hs : s.size ≤ 500000) : ∀ (n i k : Nat) (a b : Int), i + n = s.size → n < k → ∃ v, adler_Sum.l0 k s a b (s.size : Int) (i : Int) = some v := by
  intro n
  induction n with
  | zero =>
    intro i k a b hi hk
    obtain ⟨k, rfl⟩ := Nat.exists_eq_add_of_le' (show 1 ≤ k by omega)
    rw [adler_Sum.l0, if_neg (by omega)]
    exact ⟨_, rfl⟩
  | succ n ih =>
    intro i k a b hi hk
    obtain ⟨k, rfl⟩ := Nat.exists_eq_add_of_le' (show 1 ≤ k by omega)
    rw [adler_Sum.l0, if_pos (by omega), if_pos (by omega), if_pos (by omega), wrap_up i (by omega)]
    exact ih (i + 1) k _ _ (by omega) (by omega)
theorem sum_ex (s : ByteArray) (hs : s.size ≤ 6000) : ∃ v, ∀ k, 6500 ≤ k → adler_Sum.f k s = some v := by
  obtain ⟨v, hv⟩ := sum_l0 s (by omega) s.size 0 6500 1 0 (by omega) (by omega)
  exact ⟨v, fun k hk => mono_le (F := fun k => adler_Sum.f k s) (fun k => adler_Sum.mono s k) hk hv⟩
def encs (l : List En) : By := l.flatMap encE
theorem encs_snoc (l : List En) (e : En) : encs (l ++ [e]) = encs l ++ encE e := by unfold encs; rw [List.flatMap_append]; simp
theorem encs_len (l : List En) (h : ∀ e ∈ l, Rt e) : (encs l).length ≤ l.length * 400 := by
  induction l with
  | nil => exact Nat.le_refl _
  | cons x l ih =>
    have h1 := enc_len (h x List.mem_cons_self)
    have h2 := ih (fun e he => h e (List.mem_cons_of_mem _ he))
    have h3 : encs (x :: l) = encE x ++ encs l := rfl
    rw [h3, List.length_append, List.length_cons]
    omega
theorem rt_b {l : List En} (h : ∀ e ∈ l, Rt e) : ∀ e ∈ l, e.f0.size ≤ 9223372036854775807 := fun e he => by have := pth_size (h e he).1; omega
theorem read_l0 (S : ByteArray) (hsz : S.size ≤ 600000) (N : Nat) (hN : N ≤ 64) : ∀ (n : Nat) (out : List En) (k : Nat) (z : By), out.length + n = N → n + 300 ≤ k → (∀ e ∈ out, Rt e) → S.data.toList = (numB N ++ encs out) ++ z →
    layer_Read.l0 k out (N : Int) (out.length : Int) S (((numB N ++ encs out).length : Nat) : Int) = some ([], [13]) ∨ ∃ l, LR l ∧ l.length = N ∧ S.data.toList = numB N ++ encs l ∧ layer_Read.l0 k out (N : Int) (out.length : Int) S (((numB N ++ encs out).length : Nat) : Int) = some (l, []) := by
  intro n
  induction n with
  | zero =>
    intro out k z hn hk hR hS
    obtain ⟨k, rfl⟩ := Nat.exists_eq_add_of_le' (show 1 ≤ k by omega)
    have lS : S.data.toList.length = S.size := rfl
    have hlen := congrArg List.length hS
    rw [List.length_append, lS] at hlen
    rw [layer_Read.l0, if_neg (by omega)]
    unfold code_Reader_Left.f
    rw [Option.bind_some]
    dsimp only
    by_cases hz : z = []
    · subst hz
      rw [List.append_nil] at hS
      rw [if_neg (by rw [hlen]; unfold wrap64; simp), lr_eq out (rt_b hR) k (by omega), Option.bind_some]
      by_cases hL : LR out
      · right
        rw [decide_eq_true hL, if_pos rfl]
        exact ⟨out, hL, by omega, hS, rfl⟩
      · left
        rw [decide_eq_false hL, if_neg (by decide)]
        rfl
    · left
      have hz0 : 0 < z.length := List.length_pos_iff.2 hz
      rw [if_pos (by unfold wrap64; omega)]
      rfl
  | succ n ih =>
    intro out k z hn hk hR hS
    obtain ⟨k, rfl⟩ := Nat.exists_eq_add_of_le' (show 1 ≤ k by omega)
    rw [layer_Read.l0, if_pos (by omega)]
    rcases read_at S (numB N ++ encs out) z hS hsz with ⟨p, e⟩ | ⟨en, z2, hr, rfl, e⟩
    · left
      rw [e, Option.bind_some]
      dsimp only
      rw [if_neg (by decide)]
    · have hx : (numB N ++ encs out) ++ encE en = numB N ++ encs (out ++ [en]) := by rw [encs_snoc, List.append_assoc]
      have := ih (out ++ [en]) k z2 (by rw [List.length_append, List.length_singleton]; omega) (by omega) (by
        intro x hx2
        rcases List.mem_append.1 hx2 with h | h
        · exact hR x h
        · rw [List.mem_singleton.1 h]; exact hr) (by rw [← hx, hS]; simp only [List.append_assoc])
      rw [e, Option.bind_some]
      dsimp only
      rw [if_pos (by rfl), if_pos (by omega), wrap_up _ (by omega), hx]
      rw [List.length_append, List.length_singleton] at this
      exact this
theorem take_zero_data (s : ByteArray) (n : Nat) (h : n ≤ s.size) : (s.extract 0 n).data.toList = s.data.toList.take n := by
  have : (s.extract 0 n).data.toList = (s.data.toList.drop 0).take (n - 0) := by simp [List.take_drop]
  rw [this, List.drop_zero, Nat.sub_zero]
theorem drop_data (s : ByteArray) (n : Nat) (h : n ≤ s.size) : (s.extract n s.size).data.toList = s.data.toList.drop n := by
  have : (s.extract n s.size).data.toList = (s.data.toList.drop n).take (s.size - n) := by simp [List.take_drop]
  rw [this, List.take_of_length_le]
  have : s.data.toList.length = s.size := rfl
  rw [List.length_drop]; omega
theorem four_of {l : By} (h : l.length = 4) : ∃ b0 b1 b2 b3, l = [b0, b1, b2, b3] := by
  match l, h with
  | [a, b, c, d], _ => exact ⟨a, b, c, d, rfl⟩
/-- What Read answers. -/
theorem read_eq (s : ByteArray) (hs : s.size ≤ 5000) (k : Nat) (hk : 7000 ≤ k) : (∃ c : Int, (c = 12 ∨ c = 13) ∧ layer_Read.f k s = some ([], [c])) ∨
    ∃ (l : List En) (F : ByteArray) (v : Int), LR l ∧ layer_Read.f k s = some (l, []) ∧ s = B (numB l.length ++ encs l) ++ F ∧ F.size = 4 ∧ (∀ k, 6500 ≤ k → adler_Sum.f k (B (numB l.length ++ encs l)) = some v) ∧ adler_Four.f v = some F := by
  obtain ⟨k, rfl⟩ := Nat.exists_eq_add_of_le' (show 1 ≤ k by omega)
  have ls : s.data.toList.length = s.size := rfl
  unfold layer_Read.f
  by_cases h5 : s.size < 5
  · left
    rw [if_pos (by unfold wrap64; omega), layer_Read.j0, if_pos rfl]
    exact ⟨12, Or.inl rfl, rfl⟩
  · have hw : wrap64 ((s.size : Int) - 4) = ((s.size - 4 : Nat) : Int) := by unfold wrap64; omega
    rw [hw, if_neg (by omega), if_pos (by omega), if_pos (by omega), Int.toNat_natCast]
    have d1 := drop_data s (s.size - 4) (by omega)
    have d0 := take_zero_data s (s.size - 4) (by omega)
    obtain ⟨b0, b1, b2, b3, hF⟩ := four_of (l := s.data.toList.drop (s.size - 4)) (by rw [List.length_drop]; omega)
    rw [hF] at d1
    have hF2 : s.extract (s.size - 4) s.size = B [b0, b1, b2, b3] := by_ext (by rw [d1, B_data])
    obtain ⟨S, hS⟩ : ∃ S, S = s.extract 0 (s.size - 4) := ⟨_, rfl⟩
    rw [← hS] at d0
    have lS : S.data.toList.length = S.size := rfl
    have hSs : S.size = s.size - 4 := by rw [← lS, d0, List.length_take]; omega
    obtain ⟨v, hv⟩ := sum_ex S (by omega)
    rw [hF2, number4 _ _ _ _ _ (by omega), Option.bind_some, ← hS, hv _ (by omega), Option.bind_some]
    by_cases he : ((num4 b0 b1 b2 b3 : Nat) : Int) = v
    · subst he
      rw [layer_Read.j0, if_neg (by simp), if_pos (by omega), if_pos (by omega), Int.toNat_natCast, ← hS]
      unfold code_New.f
      rw [Option.bind_some]
      dsimp only
      unfold code_Reader_Num.f
      rcases num_any S [] S.data.toList 64 rfl (by omega) (by decide) with e | ⟨N, z, hN, hz, e⟩
      · left
        have e' : numF S 0 64 = some (0, [13], S, 0) := e
        rw [e', Option.bind_some]
        dsimp only
        rw [if_neg (by decide)]
        exact ⟨13, Or.inr rfl, rfl⟩
      · have e' : numF S 0 64 = some ((N : Int), [], S, ((([] ++ numB N : By).length : Nat) : Int)) := e
        rw [e', Option.bind_some]
        dsimp only
        rw [if_pos (by rfl)]
        rcases read_l0 S (by omega) N (by omega) N [] k z (by simp) (by omega) (by intro e he; cases he) (by rw [hz]; simp [encs]) with r | ⟨l, hL, hlN, hSl, r⟩
        · left
          refine ⟨13, Or.inr rfl, ?_⟩
          have hx : (numB N ++ encs []).length = ([] ++ numB N).length := by simp [encs]
          rw [hx] at r
          exact r
        · right
          have hx : (numB N ++ encs []).length = ([] ++ numB N).length := by simp [encs]
          rw [hx] at r
          have hSB : S = B (numB l.length ++ encs l) := by_ext (by rw [hSl, B_data, hlN])
          refine ⟨l, B [b0, b1, b2, b3], _, hL, r, ?_, rfl, ?_, four_number b0 b1 b2 b3⟩
          · rw [← hSB]
            apply by_ext
            have : (S ++ B [b0, b1, b2, b3]).data.toList = S.data.toList ++ (B [b0, b1, b2, b3]).data.toList := by simp
            rw [this, B_data, d0, ← hF, List.take_append_drop]
          · rw [← hSB]; exact hv
    · left
      rw [layer_Read.j0, if_pos (by simpa using he)]
      exact ⟨12, Or.inl rfl, rfl⟩
theorem lay_en_k (e : En) (h : Rt e) (k : Nat) (hk : 6 ≤ k) : entry_Lay.f k e.f0 e.f1 e.f2 = some (B (encE e), []) :=
  mono_le (F := fun k => entry_Lay.f k e.f0 e.f1 e.f2) (fun k => entry_Lay.mono e.f0 e.f1 e.f2 k) hk (lay_en e h)
theorem num_eq_k (n : Nat) (h : n ≤ 600) (k : Nat) (hk : 6 ≤ k) : code_Num.f k (n : Int) = some (B (numB n)) :=
  mono_le (F := fun k => code_Num.f k (n : Int)) (fun k => code_Num.mono (n : Int) k) hk (num_eq n h)
theorem lay_l0 (l : List En) (h : LR l) (F : ByteArray) (v : Int) (hF : F.size = 4) (hv : ∀ k, 6500 ≤ k → adler_Sum.f k (B (numB l.length ++ encs l)) = some v) (hf : adler_Four.f v = some F) : ∀ (n i k : Nat), i + n = l.length → n + 6600 ≤ k →
    layer_Lay.l0 k (B (numB l.length ++ encs (l.take i))) l (l.length : Int) (i : Int) = some (B (numB l.length ++ encs l) ++ F, []) := by
  have h64 := h.2
  have hn2 := num_len l.length
  have hbig : ∀ j, (encs (l.take j)).length ≤ 25600 := fun j => by
    have := encs_len (l.take j) (fun e he => h.1.rt e (List.mem_of_mem_take he))
    rw [List.length_take] at this
    exact Nat.le_trans this (Nat.mul_le_mul_right _ (Nat.le_trans (Nat.min_le_right _ _) h64))
  intro n
  induction n with
  | zero =>
    intro i k hi hk
    obtain ⟨k, rfl⟩ := Nat.exists_eq_add_of_le' (show 1 ≤ k by omega)
    have hb := hbig l.length
    rw [List.take_length] at hb
    rw [layer_Lay.l0, if_neg (by omega), List.take_of_length_le (by omega), hv _ (by omega), Option.bind_some, hf, Option.bind_some, if_pos (by rw [B_size, List.length_append]; omega)]
  | succ n ih =>
    intro i k hi hk
    obtain ⟨k, rfl⟩ := Nat.exists_eq_add_of_le' (show 1 ≤ k by omega)
    have hil : i < l.length := by omega
    have hb := hbig i
    have hr := h.1.rt _ (List.getElem_mem hil)
    have he := enc_len hr
    rw [layer_Lay.l0, if_pos (by omega), if_pos (by omega), if_pos (by omega), rd_get l i hil, lay_en_k _ hr k (by omega), Option.bind_some]
    dsimp only
    rw [if_pos (by rw [B_size, B_size, List.length_append]; omega), wrap_up i (by omega), B_app, List.append_assoc, ← encs_snoc, ← List.take_succ_eq_append_getElem hil]
    exact ih (i + 1) k (by omega) (by omega)
theorem lay_eq (l : List En) (h : LR l) (F : ByteArray) (v : Int) (hF : F.size = 4) (hv : ∀ k, 6500 ≤ k → adler_Sum.f k (B (numB l.length ++ encs l)) = some v) (hf : adler_Four.f v = some F) (k : Nat) (hk : 6700 ≤ k) : layer_Lay.f k l = some (B (numB l.length ++ encs l) ++ F, []) := by
  have h64 := h.2
  unfold layer_Lay.f
  rw [lr_eq l h.1.b k (by omega), Option.bind_some, decide_eq_true h, if_pos rfl, num_eq_k _ (by omega) k (by omega), Option.bind_some]
  have := lay_l0 l h F v hF hv hf l.length 0 k (by omega) (by omega)
  rw [List.take_zero, show encs [] = [] from rfl, List.append_nil] at this
  exact this
theorem LayerReads (a0 : ByteArray) : ∃ k, shalelaw09_LayerReads.f k a0 = some true := by
  obtain ⟨K, hK⟩ : ∃ K, 9000 ≤ K := ⟨9000, Nat.le_refl _⟩
  refine ⟨K + 1, ?_⟩
  unfold shalelaw09_LayerReads.f
  rw [awake09 _ (by omega), Option.bind_some, if_pos rfl]
  by_cases h5 : (a0.size : Int) > 5000
  · rw [decide_eq_true h5, shalelaw09_LayerReads.j0, if_pos rfl, awake09 _ (by omega), Option.bind_some]
  · rw [decide_eq_false h5, shalelaw09_LayerReads.j0, if_neg (by decide)]
    rcases read_eq a0 (by omega) K (by omega) with ⟨c, hc, e⟩ | ⟨l, F, v, hL, e, hs, hF, hv, hf⟩
    · rw [e, Option.bind_some]
      dsimp only
      rw [code_one9, Option.bind_some, if_neg (by omega), if_pos (by rfl), Option.bind_some]
      rcases hc with rfl | rfl
      · rw [if_pos rfl]
      · rw [if_neg (by decide), Option.bind_some]; rfl
    · rw [e, Option.bind_some]
      dsimp only
      rw [code_nil9, Option.bind_some, if_pos rfl, lay_eq l hL F v hF hv hf K (by omega), Option.bind_some, lr_eq l hL.1.b K (by omega), Option.bind_some, decide_eq_true hL, if_pos rfl]
      dsimp only
      rw [code_nil9, Option.bind_some, if_pos rfl, ← hs]
      exact congrArg some (beq_self_eq_true _)
end Go.Proofs.YtjlflmjimibciabGreatDoor.Th
