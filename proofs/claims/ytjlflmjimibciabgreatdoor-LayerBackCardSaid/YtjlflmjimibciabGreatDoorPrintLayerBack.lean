import Derived.Test.YtjlflmjimibciabGreatDoorLayC
import Derived.Lib.ConvBytes
import Derived.Laws.IdiomStrings
import Derived.IntWalk
namespace Go.Proofs.YtjlflmjimibciabGreatDoor.Print
open Go Go.RowKit Go.Proofs.YtjlflmjimibciabGreatDoorW.PrintWords Go.Proofs.YtjlflmjimibciabGreatDoorW.PrintLast Go.Proofs.YtjlflmjimibciabGreatDoorW.PrintMore Go.Proofs.YtjlflmjimibciabGreatDoor.Th
set_option linter.unusedVariables false
set_option linter.unusedSimpArgs false
open Classical
abbrev SE := S39
/-- A goal that the walk's steps leave as it stands. -/
def Hold (p : Prop) : Prop := p
theorem hold {p : Prop} (h : Hold p) : p := h
theorem bt {a b c : World} (h : Below a.heap.size a b) (k : Below b.heap.size b c) : Below a.heap.size a c := h.trans (k.mono h.size)
theorem drawn_below {w w' : World} (h : Drawn0 w w') : Below w.heap.size w w' := by
 obtain ⟨n, rfl⟩ := h
 exact pw_below_drewN (Below.refl _ _) n
theorem code_R {W : World} {T base : Nat} {ok : Nat → Prop} {v : Value} {er : List Int} (h : Kd.R kdF T W base ok v er) (hG : Gl W) (c : Int) (hc : er.headD 0 = c) : Calls Tryz.prog 9 #[errV v] W fun e w' => e = .returned (.int .i64 c) ∧ Below W.heap.size W w' := by
 subst hc
 obtain ⟨A, c, rfl⟩ := Kd.R_slice h
 obtain ⟨_, hl, hc⟩ := Kd.R_reads' h
 exact fail_Code.calls A c er (er.headD 0) W hc hl hG rfl
theorem awake9 (W : World) (hG : Gl W) : Calls Tryz.prog 6 #[] W fun e w' => e = .returned (.bool true) ∧ Below W.heap.size W w' := shalelaw09_awake.calls 60 true W hG (awake09 60 (Nat.le_refl _))
theorem size_9 {W V : World} {A : Option Addr} {c : Nat} {l : List SE} (r : Int) (hr : r = if Fit l then 1 else 0) (hC : Kd.C k39 W A l.length l) (hc : l.length ≤ c) (hV : Below W.heap.size W V) : Calls Tryz.prog 7 #[.slice A l.length c] V fun e w' => e = .returned (.int .i64 r) ∧ Below V.heap.size V w' :=
 (shalelaw09_Size.calls 100 A c l r V (Kd.C_below hC hV) hc (by rw [size_eq l 100 (by omega), hr])).mono fun e w' h => ⟨h.1, drawn_below h.2⟩
theorem right_no9 {W V : World} {A : Option Addr} {c : Nat} {l : List SE} (hf : ¬ LR l) (hb : Fit l) (hC : Kd.C k39 W A l.length l) (hc : l.length ≤ c) (hV : Below W.heap.size W V) : Calls Tryz.prog 10 #[.slice A l.length c] V fun e w' => e = .returned (.bool false) ∧ Below V.heap.size V w' :=
 layer_Right.calls 300 A c l false V (Kd.C_below hC hV) hc (by rw [lr_eq l hb.b 300 (by omega), decide_eq_false hf])
theorem lay_no9 {W V : World} {A : Option Addr} {c : Nat} {l : List SE} (hf : ¬ LR l) (hb : Fit l) (hC : Kd.C k39 W A l.length l) (hc : l.length ≤ c) (hV : Below W.heap.size W V) : Calls Tryz.prog 8 #[.slice A l.length c] V fun e w' => ∃ v1 : Value, e = .returned (.tuple #[.string ⟨#[]⟩, errV v1]) ∧ Kd.R kdF 82 w' V.heap.size (fun _ => True) v1 [1] ∧ Below V.heap.size V w' :=
 layer_Lay.calls 300 A c l ⟨#[]⟩ [1] V (Kd.C_below hC hV) hc (by unfold layer_Lay.f; rw [lr_eq l hb.b 300 (by omega), Option.bind_some, decide_eq_false hf, if_neg (by decide)]; rfl)
theorem same_9 {V : World} {T0 b0 : Nat} {o0 : Nat → Prop} {v0 : Value} {A1 : Option Addr} {c1 : Nat} {a : List SE} (hl : a.length ≤ 2000) (h0 : Kd.R k39 T0 V b0 o0 v0 a) (hC1 : Kd.C k39 V A1 a.length a) (hc1 : a.length ≤ c1) : Calls Tryz.prog 12 #[v0, .slice A1 a.length c1] V fun e w' => e = .returned (.int .i64 1) ∧ Below V.heap.size V w' := by
 obtain ⟨A0, c0, rfl⟩ := Kd.R_slice h0
 obtain ⟨_, l0, k0⟩ := Kd.R_reads' h0
 exact (shalelaw09_Same.calls 3000 A0 c0 a A1 c1 a 1 V k0 l0 hC1 hc1 (by rw [same_eq a a 3000 hl (by omega), if_pos rfl])).mono fun e w' h => ⟨h.1, drawn_below h.2⟩
theorem xor8 (a b : Nat) (ha : a < 256) (hb : b < 256) : ∃ d : UInt8, Go.bits .xor .u8 (a : Int) (b : Int) = ((d.toNat : Nat) : Int) ∧ (d.toNat = a ↔ b = 0) := by
 have hx : a ^^^ b < 256 := Nat.xor_lt_two_pow (n := 8) ha hb
 refine ⟨UInt8.ofNat (a ^^^ b), ?_, ?_⟩
 ·rw [u8_of _ hx]
  have ha' : a % 2 ^ IntKind.u8.bits = a := Nat.mod_eq_of_lt ha
  have hb' : b % 2 ^ IntKind.u8.bits = b := Nat.mod_eq_of_lt hb
  simp only [Go.bits, BitVec.ofInt_natCast, BitVec.toNat_xor, BitVec.toNat_ofNat, ha', hb']
  exact wraps_u8 _ (Int.natCast_nonneg _) (by exact_mod_cast hx)
 ·rw [u8_of _ hx]
  constructor
  ·intro h
   have : a ^^^ (a ^^^ b) = a ^^^ a := by rw [h]
   rw [← Nat.xor_assoc, Nat.xor_self, Nat.zero_xor] at this
   exact this
  ·rintro rfl; exact Nat.xor_zero a
theorem conv_below (w : World) (e : TypeId) (s : ByteArray) : Below w.heap.size w (Lib.bytesWorld w e s) := by
 refine ⟨rfl, rfl, rfl, by rw [Lib.bytesWorld_size]; omega, fun k hk => Lib.bytesWorld_at_old w e s k hk⟩
theorem conv_frozen (w : World) (e : TypeId) (s : ByteArray) (j : Nat) (hj : j < s.size) : (Lib.bytesWorld w e s).frozen? ⟨w.heap.size, j, none⟩ = false := by
 have hc : s.size ≤ (Lib.bytesCells w e s).size := by
  have : s.data.size = s.size := rfl
  simp [Lib.bytesCells]
 unfold World.frozen?
 rw [Lib.bytesWorld_at_new]
 simp
 omega
theorem conv_set_cell (w : World) (e : TypeId) (s : ByteArray) (p j : Nat) (u : Value) (hp : p < s.size) (hj : j < s.size) : ((Lib.bytesWorld w e s).setCell ⟨w.heap.size, p, none⟩ u).cell? ⟨w.heap.size, j, none⟩ = if j = p then some u else (Lib.bytesWorld w e s).cell? ⟨w.heap.size, j, none⟩ := by
 have hc : s.size ≤ (Lib.bytesCells w e s).size := by
  have : s.data.size = s.size := rfl
  simp [Lib.bytesCells]
 have h := Lib.bytesWorld_at_new w e s
 have h2 : ((Lib.bytesWorld w e s).setCell ⟨w.heap.size, p, none⟩ u).heap[w.heap.size]? = some (.cells ((Lib.bytesCells w e s).setIfInBounds p u) e ((Lib.bytesCells w e s).size, (Lib.bytesCells w e s).size + 1)) := by
  simp [World.setCell, Array.getElem?_modify, h]
 rw [cell_of_row _ _ _ _ _ _ h2, cell_of_row _ _ _ _ _ _ h, Array.getElem?_setIfInBounds]
 by_cases hjp : j = p
 ·subst hjp; rw [if_pos rfl, if_pos rfl, if_pos (by omega)]
 ·rw [if_neg (fun k => hjp k.symm), if_neg hjp]
theorem conv_back (w : World) (s : By) (S : ByteArray) (hS : S = B s) (n p cap : Nat) (hn : s.length = n) (hp : p < n) (d : UInt8) :
  (convert 34 9 (.slice (some ⟨w.heap.size, 0, none⟩) n cap)).run Tryz.prog ((Lib.bytesWorld w 5 S).setCell ⟨w.heap.size, p, none⟩ (.int .u8 (d.toNat : Int))) = .ok (.string (B (s.set p d))) ((Lib.bytesWorld w 5 S).setCell ⟨w.heap.size, p, none⟩ (.int .u8 (d.toNat : Int))) := by
 have hSn : S.size = n := by rw [hS, B_size, hn]
 have hl : (s.set p d).length = n := by rw [List.length_set, hn]
 have h := run_convert_bytes_back (P := Tryz.prog) ((Lib.bytesWorld w 5 S).setCell ⟨w.heap.size, p, none⟩ (.int .u8 (d.toNat : Int))) 34 9 5 ⟨w.heap.size, 0, none⟩ cap (s.set p d) Tryz.underlying34 Tryz.underlying5 Tryz.underlying9 (fun j hj => by
  rw [hl] at hj
  have e : (⟨w.heap.size, 0, none⟩ : Addr).add j = ⟨w.heap.size, j, none⟩ := by simp only [Addr.add]; split <;> simp_all
  rw [e, conv_set_cell w _ S p j _ (by omega) (by omega)]
  by_cases hjp : j = p
  ·subst hjp; rw [if_pos rfl, List.getElem_set_self]
  ·rw [if_neg hjp, List.getElem_set_ne (fun k => hjp k.symm), Lib.bytesWorld_cell w _ S j (by omega), hS, B_data, List.getD_eq_getElem?_getD, List.getElem?_eq_getElem (by omega)]
   rfl)
 rw [hl] at h
 exact h
def shalelaw09_LayerBack.f (k : Nat) (l0 : List S39) (a1 : Int) (a2 : Int) : Option Bool := if (0 ≤ a1 ∧ a1 ≤ 65535) ∧ 0 ≤ a2 ∧ a2 ≤ 255 then some true else none
set_option maxHeartbeats 80000000 in
set_option maxRecDepth 100000 in
theorem shalelaw09_LayerBack.calls (k : Nat) (A0 : Option Addr) (c0 : Nat) (l0 : List S39) (a1 : Int) (a2 : Int) (r : Bool) (w0 : World) (hr0 : Kd.C k39 w0 A0 l0.length l0) (hc0 : l0.length ≤ c0) (hG : Gl w0) (h : shalelaw09_LayerBack.f k l0 a1 a2 = some r) (hr : r = true) :
  Calls Tryz.prog 3 #[.slice A0 l0.length c0, .int .u16 a1, .int .u8 a2] w0 fun e w' => e = .returned (.bool r) ∧ Below w0.heap.size w0 w' := by
 subst hr
 obtain ⟨⟨ha0, ha1⟩, hb0, hb1⟩ : (0 ≤ a1 ∧ a1 ≤ 65535) ∧ 0 ≤ a2 ∧ a2 ≤ 255 := by
  unfold shalelaw09_LayerBack.f at h
  split at h
  ·assumption
  ·cases h
 clear h
 have HG := Aside0.mk (fun (V : World) (h : Below w0.heap.size w0 V) => hG.below h)
 have Z0 := Aside0.mk (Below.refl w0.heap.size w0)
 have HR0 := Aside0.mk hr0
 have HC0 := Aside0.mk hc0
 clear hr0 hc0 hG
 by_cases hq0 : Fit l0
 case neg =>
  have HN := Aside0.mk hq0
  clear hq0
  go_enter Tryz.func3, Tryz.ntmps3
  go_wp2_with (first | (go_at_call 6; refine hold ?_))
  unfold Hold
  refine (awake9 w0 (HG.out _ Z0.out)).mono ?_
  rintro e w1 ⟨rfl, b1⟩
  have B1 := Aside0.mk b1
  have Z1 := Aside0.mk (bt Z0.out b1)
  clear b1
  go_wp2_with (first | (go_at_call 7; refine hold ?_))
  unfold Hold
  refine (size_9 0 (if_neg HN.out).symm HR0.out HC0.out Z1.out).mono ?_
  rintro e w2 ⟨rfl, b2⟩
  have B2 := Aside0.mk b2
  have Z2 := Aside0.mk (bt Z1.out b2)
  clear b2
  go_wp2_with (first | (go_at_call 6; refine hold ?_))
  unfold Hold
  refine (awake9 w2 (HG.out _ Z2.out)).mono ?_
  rintro e w3 ⟨rfl, b3⟩
  have B3 := Aside0.mk b3
  have Z3 := Aside0.mk (bt Z2.out b3)
  clear b3
  go_wp2
  go_ret
  exact ⟨rfl, Z3.out⟩
 have HF0 := Aside0.mk hq0
 clear hq0
 by_cases hL : LR l0
 case neg =>
  have HNL := Aside0.mk hL
  clear hL
  go_enter Tryz.func3, Tryz.ntmps3
  go_wp2_with (first | (go_at_call 6; refine hold ?_))
  unfold Hold
  refine (awake9 w0 (HG.out _ Z0.out)).mono ?_
  rintro e w1 ⟨rfl, b1⟩
  have B1 := Aside0.mk b1
  have Z1 := Aside0.mk (bt Z0.out b1)
  clear b1
  go_wp2_with (first | (go_at_call 7; refine hold ?_))
  unfold Hold
  refine (size_9 1 (if_pos HF0.out).symm HR0.out HC0.out Z1.out).mono ?_
  rintro e w2 ⟨rfl, b2⟩
  have B2 := Aside0.mk b2
  have Z2 := Aside0.mk (bt Z1.out b2)
  clear b2
  go_wp2_with (first | (go_at_call 8; refine hold ?_))
  unfold Hold
  refine (lay_no9 HNL.out HF0.out HR0.out HC0.out Z2.out).mono ?_
  rintro e w3 ⟨u3, rfl, p3, b3⟩
  have B3 := Aside0.mk b3
  have Z3 := Aside0.mk (bt Z2.out b3)
  clear b3
  have E3 := Aside0.mk p3
  clear p3
  go_wp2_with (first | (go_at_call 9; refine hold ?_))
  unfold Hold
  refine (code_R E3.out (HG.out _ Z3.out) 1 rfl).mono ?_
  rintro e w4 ⟨rfl, b4⟩
  have B4 := Aside0.mk b4
  have Z4 := Aside0.mk (bt Z3.out b4)
  clear b4
  go_wp2_with (first | (go_at_call 9; refine hold ?_))
  unfold Hold
  refine (code_R (Kd.R_below E3.out B4.out) (HG.out _ Z4.out) 1 rfl).mono ?_
  rintro e w5 ⟨rfl, b5⟩
  have B5 := Aside0.mk b5
  have Z5 := Aside0.mk (bt Z4.out b5)
  clear b5
  go_wp2_with (first | (go_at_call 10; refine hold ?_))
  unfold Hold
  refine (right_no9 HNL.out HF0.out HR0.out HC0.out Z5.out).mono ?_
  rintro e w6 ⟨rfl, b6⟩
  have B6 := Aside0.mk b6
  have Z6 := Aside0.mk (bt Z5.out b6)
  clear b6
  go_wp2
  go_ret
  exact ⟨by first | rfl | (simp; done) | (simp; omega), Z6.out⟩
 have HL0 := Aside0.mk hL
 clear hL
 obtain ⟨s, hs5, hsm, hlay, hread, hchg⟩ := lay_back l0 HL0.out
 obtain ⟨n, hn⟩ : ∃ n, s.length = n := ⟨_, rfl⟩
 obtain ⟨S, hS⟩ : ∃ S, S = B s := ⟨_, rfl⟩
 have hSn : S.size = n := by rw [hS, B_size, hn]
 obtain ⟨p, hp⟩ : ∃ p : Nat, a1 % (n : Int) = (p : Int) := ⟨(a1 % (n : Int)).toNat, by have := Int.emod_nonneg a1 (show (n : Int) ≠ 0 by omega); omega⟩
 have hpn : p < n := by have := Int.emod_lt_of_pos a1 (show (0 : Int) < (n : Int) by omega); omega
 have hps : p < s.length := by rw [hn]; exact hpn
 obtain ⟨by8, hby⟩ : ∃ b : Nat, a2 = (b : Int) := ⟨a2.toNat, by omega⟩
 subst hby
 have hu := UInt8.toNat_lt s[p]
 obtain ⟨d, hxd, hd0⟩ := xor8 s[p].toNat by8 hu (by omega)
 have HLAY := Aside0.mk (fun (V : World) (hV : Below w0.heap.size w0 V) => (layer_Lay.calls 31000 A0 c0 l0 (B s) [] V (Kd.C_below HR0.out hV) HC0.out (hlay 31000 (Nat.le_refl _))))
 have HREAD := Aside0.mk (fun (V : World) => layer_Read.calls 31000 (B s) l0 [] V (hread 31000 (Nat.le_refl _)))
 rw [← hS] at HLAY HREAD
 obtain ⟨l2, er2, hl2, hread2⟩ : ∃ (l2 : List SE) (er2 : List Int), (by8 = 0 ∧ er2 = [] ∨ by8 ≠ 0 ∧ l2 = [] ∧ er2 = [12]) ∧ layer_Read.f 31000 (B (s.set p d)) = some (l2, er2) := by
  by_cases h0 : by8 = 0
  ·have hds : d = s[p] := UInt8.toNat_inj.1 (hd0.2 h0)
   refine ⟨l0, [], .inl ⟨h0, rfl⟩, ?_⟩
   rw [hds, List.set_getElem_self]
   exact hread 31000 (Nat.le_refl _)
  ·refine ⟨[], [12], .inr ⟨h0, rfl, rfl⟩, hchg p d hps (fun e => ?_) 31000 (Nat.le_refl _)⟩
   rw [List.getElem?_eq_getElem hps] at e
   exact h0 (hd0.1 (by rw [Option.some.inj e]))
 have HREAD2 := Aside0.mk (fun (V : World) => layer_Read.calls 31000 (B (s.set p d)) l2 er2 V hread2)
 have hconv : ∀ V : World, (convert 9 34 (.string S)).run Tryz.prog V = .ok (.slice (some ⟨V.heap.size, 0, none⟩) n (grownCap V n 0 5)) (Lib.bytesWorld V 5 S) := fun V => by rw [← hSn]; exact Lib.run_convert_string_bytes V _ _ _ S Tryz.underlying9 Tryz.underlying34 Tryz.underlying5
 have HCONV := Aside0.mk hconv
 have HCELL := Aside0.mk (fun (V : World) (j : Nat) (hj : j < n) => (by
  have h := Lib.bytesWorld_cell V 5 S j (by rw [hSn]; exact hj)
  rw [show S.data.toList = s from by rw [hS, B_data]] at h
  exact h : (Lib.bytesWorld V 5 S).cell? ⟨V.heap.size, j, none⟩ = some (.int .u8 ((s.getD j 0).toNat : Int))))
 have hgd : s.getD p 0 = s[p] := by rw [List.getD_eq_getElem?_getD, List.getElem?_eq_getElem hps]; rfl
 have hxd2 : Go.bits .xor .u8 ((s.getD p 0).toNat : Int) (by8 : Int) = ((d.toNat : Nat) : Int) := by rw [hgd]; exact hxd
 obtain ⟨c, hc⟩ : ∃ c : UInt8, s.getD p 0 = c := ⟨_, rfl⟩
 rw [hc] at hxd2
 have HCC := Aside0.mk hc
 clear hxd hu hc
 have HL2 := Aside0.mk hl2
 have HN := Aside0.mk hn
 have HSS := Aside0.mk (And.intro hS hSn)
 have HP := Aside0.mk (And.intro hpn hps)
 have HB := Aside0.mk (show n ≤ 27000 by omega)
 clear hs5 hsm hlay hread hchg hread2 hl2 hconv hgd hd0 hps hn hS hSn
 go_enter Tryz.func3, Tryz.ntmps3
 go_wp2_with (first | (go_at_call 6; refine hold ?_))
 unfold Hold
 refine (awake9 w0 (HG.out _ Z0.out)).mono ?_
 rintro e w1 ⟨rfl, b1⟩
 have B1 := Aside0.mk b1
 have Z1 := Aside0.mk (bt Z0.out b1)
 clear b1
 go_wp2_with (first | (go_at_call 7; refine hold ?_))
 unfold Hold
 refine (size_9 1 (if_pos HF0.out).symm HR0.out HC0.out Z1.out).mono ?_
 rintro e w2 ⟨rfl, b2⟩
 have B2 := Aside0.mk b2
 have Z2 := Aside0.mk (bt Z1.out b2)
 clear b2
 go_wp2_with (first | (go_at_call 8; refine hold ?_))
 unfold Hold
 refine (HLAY.out _ Z2.out).mono ?_
 rintro e w3 ⟨u3, rfl, p3, b3⟩
 have B3 := Aside0.mk b3
 have Z3 := Aside0.mk (bt Z2.out b3)
 clear b3
 have E3 := Aside0.mk p3
 clear p3
 go_wp2_with (first | (go_at_call 9; refine hold ?_))
 unfold Hold
 refine (code_R E3.out (HG.out _ Z3.out) 0 rfl).mono ?_
 rintro e w4 ⟨rfl, b4⟩
 have B4 := Aside0.mk b4
 have Z4 := Aside0.mk (bt Z3.out b4)
 clear b4
 go_wp2_with (first | (go_at_call 11; refine hold ?_))
 unfold Hold
 refine (HREAD.out w4).mono ?_
 rintro e w5 ⟨v5, u5, rfl, o5, p5, b5⟩
 have B5 := Aside0.mk b5
 have Z5 := Aside0.mk (bt Z4.out b5)
 clear b5
 have X5 := Aside0.mk o5
 have E5 := Aside0.mk p5
 clear o5 p5
 have hconv := HCONV.out w5
 have x6 := HCELL.out w5 p HP.out.1
 rw [HCC.out] at x6
 have z6 := conv_frozen w5 5 S p (by rw [HSS.out.2]; exact HP.out.1)
 have hback := conv_back w5 s S HSS.out.1 n p (grownCap w5 n 0 5) HN.out HP.out.1 d
 have hp0 : (0 : Int) ≤ (p : Int) := by omega
 have hp1 : (p : Int) < (n : Int) := by have := HP.out.1; omega
 have hb6 : Below w5.heap.size w5 ((Lib.bytesWorld w5 5 S).setCell ⟨w5.heap.size, p, none⟩ (.int .u8 (d.toNat : Int))) := (conv_below _ _ _).setCell (p := ⟨w5.heap.size, p, none⟩) (Nat.le_refl _) _
 have B6 := Aside0.mk hb6
 clear hb6
 go_wp2_with (first | (go_at_call 11; refine hold ?_))
 unfold Hold
 obtain ⟨w6, hw6⟩ : ∃ w6, w6 = (Lib.bytesWorld w5 5 S).setCell ⟨w5.heap.size, p, none⟩ (.int .u8 (d.toNat : Int)) := ⟨_, rfl⟩
 rw [← hw6]
 rw [← hw6] at B6
 have Z6 := Aside0.mk (bt Z5.out B6.out)
 clear hconv x6 z6 hback hw6
 refine (HREAD2.out w6).mono ?_
 rintro e w7 ⟨v7, u7, rfl, o7, p7, b7⟩
 have B7 := Aside0.mk b7
 have Z7 := Aside0.mk (bt Z6.out b7)
 have X7 := Aside0.mk o7
 have E7 := Aside0.mk p7
 clear o7 p7 b7
 obtain ⟨A7, c7, rfl⟩ := Kd.R_slice X7.out
 rcases HL2.out with ⟨h0, rfl⟩ | ⟨h0, rfl, rfl⟩
 ·skip
  subst h0
  have hz2 : ((0 : Nat) : Int) = 0 := rfl
  go_wp2_with (first | (go_at_call 9; refine hold ?_))
  unfold Hold
  refine (code_R (Kd.R_below E5.out (bt B6.out B7.out)) (HG.out _ Z7.out) 0 rfl).mono ?_
  rintro e w8 ⟨rfl, b8⟩
  have B8 := Aside0.mk b8
  have Z8 := Aside0.mk (bt Z7.out b8)
  clear b8
  go_wp2_with (first | (go_at_call 12; refine hold ?_))
  unfold Hold
  refine (same_9 (by have := HL0.out.2; omega) (Kd.R_below X5.out (bt B6.out (bt B7.out B8.out))) (Kd.C_below HR0.out Z8.out) HC0.out).mono ?_
  rintro e w9 ⟨rfl, b9⟩
  have B9 := Aside0.mk b9
  have Z9 := Aside0.mk (bt Z8.out b9)
  clear b9
  go_wp2_with (first | (go_at_call 9; refine hold ?_))
  unfold Hold
  refine (code_R (Kd.R_below E7.out (bt B8.out B9.out)) (HG.out _ Z9.out) 0 rfl).mono ?_
  rintro e w10 ⟨rfl, b10⟩
  have B10 := Aside0.mk b10
  have Z10 := Aside0.mk (bt Z9.out b10)
  clear b10
  go_wp2
  go_ret
  exact ⟨by first | rfl | (simp; done) | (simp; omega), Z10.out⟩
 ·skip
  have hz2 : ¬ ((by8 : Nat) : Int) = 0 := by omega
  go_wp2_with (first | (go_at_call 9; refine hold ?_))
  unfold Hold
  refine (code_R (Kd.R_below E5.out (bt B6.out B7.out)) (HG.out _ Z7.out) 0 rfl).mono ?_
  rintro e w8 ⟨rfl, b8⟩
  have B8 := Aside0.mk b8
  have Z8 := Aside0.mk (bt Z7.out b8)
  clear b8
  go_wp2_with (first | (go_at_call 12; refine hold ?_))
  unfold Hold
  refine (same_9 (by have := HL0.out.2; omega) (Kd.R_below X5.out (bt B6.out (bt B7.out B8.out))) (Kd.C_below HR0.out Z8.out) HC0.out).mono ?_
  rintro e w9 ⟨rfl, b9⟩
  have B9 := Aside0.mk b9
  have Z9 := Aside0.mk (bt Z8.out b9)
  clear b9
  go_wp2_with (first | (go_at_call 9; refine hold ?_))
  unfold Hold
  refine (code_R (Kd.R_below E7.out (bt B8.out B9.out)) (HG.out _ Z9.out) 12 rfl).mono ?_
  rintro e w10 ⟨rfl, b10⟩
  have B10 := Aside0.mk b10
  have Z10 := Aside0.mk (bt Z9.out b10)
  clear b10
  go_wp2
  go_ret
  exact ⟨by first | rfl | (simp; done) | (simp; omega), Z10.out⟩
end Go.Proofs.YtjlflmjimibciabGreatDoor.Print
