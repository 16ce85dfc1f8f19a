/- merge.put, merge.One: an entry laid over a layer, on rows of entries. -/
import Derived.Test.YtdmnpofodechpaaGreatDoorWX
import Derived.Test.YtdmnpofodechpaaGreatDoorTree3
section
namespace Go.Proofs.YtdmnpofodechpaaGreatDoor.Print
open Go Go.RowKit Go.Proofs.YtdmnpofodechpaaGreatDoorW.PrintWords Go.Proofs.YtdmnpofodechpaaGreatDoorW.PrintLast Go.Proofs.YtdmnpofodechpaaGreatDoorW.PrintMore
set_option linter.unusedVariables false
set_option linter.unusedSimpArgs false
set_option maxHeartbeats 4000000 in
theorem mholds3 (a : ByteArray) (k : Int) (c : ByteArray) (w : World) :
    Calls Tryz.prog 71 #[.agg #[.string a, .int .i64 k, .string c]] w fun e w' => e = .returned (.bool (k == 2 || k == 4)) ∧ Below w.heap.size w w' := by
  have HB : Aside0 (Below w.heap.size w (w.alloc (.cells #[.string a, .int .i64 k, .string c] 28))) := ⟨(Below.refl _ _).alloc (Nat.le_refl _) _⟩
  cases h2 : (k == 2) with
  | true =>
    rw [Bool.true_or]
    go_enter Tryz.func71, Tryz.ntmps71
    go_wp2
    go_ret
    exact ⟨rfl, HB.out⟩
  | false =>
    rw [Bool.false_or]
    go_enter Tryz.func71, Tryz.ntmps71
    go_wp2
    go_ret
    exact ⟨rfl, HB.out⟩
section
variable {α : Type} (P : α → ByteArray) (K : α → Int) (D : α → ByteArray)
theorem own_base {w : World} {base base' : Nat} {ok ok' : Nat → Prop} {v : Value} {xs : List α} (h : Own3 P K D w base ok v xs) (hb : base' ≤ base) (hok : ∀ k, base ≤ k → ok k → ok' k) : Own3 P K D w base' ok' v xs := by
  rcases R_raw3 P K D h with ⟨rfl, rfl⟩ | ⟨g, cap, cur, rfl, hge, hg0, hg, hnc, hcm, hcs, ht⟩
  · exact Kd.R_nil _ _ _ _ _
  · exact R_shut (flat3 P K D) (Nat.le_trans hb hge) (hok g hge hg0) hg rfl hnc hcm hcs ht
theorem indexFunc3 (S : Nat → Prop) (v : Value) (xs : List α) (G : Nat) (caps : Array Value) (q : α → Bool) (w0 w : World) (eg : ∀ args w, (callFunc G args).run Tryz.prog w = .ok (.enter G args) w)
    (ho : Own3 P K D w w0.heap.size S v xs) (hn : xs.length < 4611686018427387904) (hq : ∀ W, Below w.heap.size w W → Gives P K D G caps q W xs) :
    Calls Tryz.prog 132 #[v, .func (.func G) #[] caps] w fun e w' => e = .returned (.int .i64 (idx3 q xs)) ∧ Below w.heap.size w w' := by
  rcases R_raw3 P K D ho with ⟨rfl, rfl⟩ | ⟨g, cap, cur, rfl, hge, hok, hg, hnc, hcm, hcs, ht⟩
  · refine (indexFunc_nil _ w).mono ?_
    rintro e w' ⟨rfl, rfl⟩
    exact ⟨rfl, Below.refl _ _⟩
  · exact indexFunc_at P K D ⟨g, 0, none⟩ cap xs G caps q w eg hn (hg.at3 P K D ht) hq
def lessQ (a : ByteArray) (x : α) : Bool := !Op.bytesLess (P x).data.toList a.data.toList
set_option maxHeartbeats 4000000 in
theorem mput1_any (x : α) (a d : ByteArray) (k : Int) (b : Nat) (w : World) (hb : Blk w b 28 [.string a, .int .i64 k, .string d]) :
    Calls Tryz.prog 155 #[.agg #[.string (P x), .int .i64 (K x), .string (D x)], .pointer (some ⟨b, 0, none⟩)] w fun e w' => e = .returned (.bool (lessQ P a x)) ∧ Below w.heap.size w w' := by
  have hb0 : Below w.heap.size w (w.alloc (.cells #[.string (P x), .int .i64 (K x), .string (D x)] 28)) := (Below.refl _ _).alloc (Nat.le_refl _) _
  have x0 := (hb.below hb0).cell (j := 0) rfl
  have x1 := (hb.below hb0).cell (j := 1) rfl
  have x2 := (hb.below hb0).cell (j := 2) rfl
  have HB := Aside0.mk hb0
  have HC := Aside0.mk (less3 (P x) a (K x) k (D x) d (w.alloc (.cells #[.string (P x), .int .i64 (K x), .string (D x)] 28)))
  clear hb hb0
  unfold lessQ
  go_enter Tryz.func155, Tryz.ntmps155
  go_wp2_with (go_at_call 68; refine HC.out.mono ?_; rintro e w' ⟨rfl, hb'⟩)
  go_ret
  exact ⟨rfl, HB.out.trans (hb'.mono HB.out.size)⟩
/-- Where no one is less, it is put. -/
def mputG (xs : List α) (x : α) : List α :=
  xs.take ((xs.findIdx? (lessQ P (P x))).getD xs.length) ++ x :: xs.drop ((xs.findIdx? (lessQ P (P x))).getD xs.length)
set_option maxHeartbeats 16000000 in
set_option maxRecDepth 100000 in
theorem mergePut3 (S : Nat → Prop) (v : Value) (xs : List α) (x : α) (w0 w : World) (hB : Below w0.heap.size w0 w) (ho : Own3 P K D w w0.heap.size S v xs) (hl : (xs.length + 1) * 40 ≤ 140737488355328) :
    Calls Tryz.prog 135 #[v, .agg #[.string (P x), .int .i64 (K x), .string (D x)]] w (InsEnd P K D w0 w S (mputG P xs x)) := by
  have hb0 : Below w.heap.size w (w.alloc (.cells #[.string (P x), .int .i64 (K x), .string (D x)] 28)) := (Below.refl _ _).alloc (Nat.le_refl _) _
  have hX : Blk (w.alloc (.cells #[.string (P x), .int .i64 (K x), .string (D x)] 28)) w.heap.size 28 [.string (P x), .int .i64 (K x), .string (D x)] := Blk.new w _ _
  have eg : ∀ args w, (callFunc 155 args).run Tryz.prog w = .ok (.enter 155 args) w := fun _ _ => by kernel_rfl
  have ho1 := Kd.R_below (Kd.R_mono (Kd.R_bound ho) (fun k hk => ⟨hk.1, hk.2.2.1⟩) : Own3 P K D w w0.heap.size (fun k => S k ∧ k < w.heap.size) v xs) hb0
  have hidx : Calls Tryz.prog 132 #[v, .func (.func 155) #[] #[.pointer (some ⟨w.heap.size, 0, none⟩)]] (w.alloc (.cells #[.string (P x), .int .i64 (K x), .string (D x)] 28)) fun e w' => e = .returned (.int .i64 (idx3 (lessQ P (P x)) xs)) ∧ Below (w.alloc (.cells #[.string (P x), .int .i64 (K x), .string (D x)] 28)).heap.size (w.alloc (.cells #[.string (P x), .int .i64 (K x), .string (D x)] 28)) w' :=
    indexFunc3 P K D _ v xs _ _ (lessQ P (P x)) w0 _ eg ho1 (by omega) (fun W hW y _ => mput1_any P K D y (P x) (D x) (K x) w.heap.size W (hX.below hW))
  have HI := Aside0.mk hidx
  have HO := Aside0.mk ho
  have HB := Aside0.mk hB
  have HB0 := Aside0.mk hb0
  have HL := Aside0.mk hl
  clear hidx hX ho ho1 hB hb0 hl eg
  have hput : ∀ (res : Nat) (w2 : World) (A : Option Addr) (c : Nat), v = .slice A xs.length c → res ≤ xs.length → Below w.heap.size w w2 → Calls Tryz.prog 97 #[.slice A xs.length c, .int .i64 (res : Nat), .slice (some ⟨w2.heap.size, 0, none⟩) 1 1] (w2.alloc (.cells #[.string (P x), .int .i64 (K x), .string (D x)] 28)) (InsEnd P K D w0 w S (xs.take res ++ x :: xs.drop res)) := by
    rintro res w2 A c rfl hle hbw
    have hbl : Below w.heap.size w (w2.alloc (.cells #[.string (P x), .int .i64 (K x), .string (D x)] 28)) := hbw.alloc hbw.size _
    have hi3 := insert3 P K D (fun k => S k ∧ k < w.heap.size) (.slice A xs.length c) xs res hle x w2.heap.size 1 w0 _ (HB.out.trans (hbl.mono HB.out.size))
      (Kd.R_below (Kd.R_mono (Kd.R_bound HO.out) (fun k hk => ⟨hk.1, hk.2.2.1⟩)) hbl) (Blk.new w2 _ _) (fun h => by have := hbw.size; omega) HL.out
    refine hi3.mono ?_
    intro e w3 h3
    exact InsEnd.monoS P K D (fun k hk => hk.1) (InsEnd.lift P K D hbl h3)
  have HPUT := Aside0.mk hput
  clear hput
  obtain ⟨A, c, rfl⟩ := Kd.R_slice HO.out
  unfold mputG
  cases hf : xs.findIdx? (lessQ P (P x)) with
  | none =>
    have hi : idx3 (lessQ P (P x)) xs = -1 := by unfold idx3; rw [hf]
    rw [hi] at HI
    rw [Option.getD_none]
    clear hi hf
    go_enter Tryz.func135, Tryz.ntmps135
    go_wp2_with (go_at_call 132; refine hold ?_)
    unfold Hold
    refine HI.out.mono ?_
    rintro e w2 ⟨rfl, hb2⟩
    obtain ⟨b0, b1, b2⟩ := box3 hb2
    have HP := Aside0.mk (HPUT.out xs.length w2 A c rfl (Nat.le_refl _) (HB0.out.trans (hb2.mono HB0.out.size)))
    clear hb2
    go_wp2_with (go_at_call 97; refine hold ?_)
    unfold Hold
    refine HP.out.mono ?_
    rintro e w3 h3
    have HE := Aside0.mk h3
    obtain ⟨v3, rfl, _⟩ := h3
    go_wp2
    go_ret
    exact HE.out
  | some i =>
    have hi : idx3 (lessQ P (P x)) xs = (i : Int) := by unfold idx3; rw [hf]
    have hle : i ≤ xs.length := Nat.le_of_lt (List.findIdx?_eq_some_iff_getElem.1 hf).1
    rw [hi] at HI
    rw [Option.getD_some]
    clear hi hf
    have hi0 : ¬ (i : Int) < 0 := by omega
    go_enter Tryz.func135, Tryz.ntmps135
    go_wp2_with (go_at_call 132; refine hold ?_)
    unfold Hold
    refine HI.out.mono ?_
    rintro e w2 ⟨rfl, hb2⟩
    obtain ⟨b0, b1, b2⟩ := box3 hb2
    have HP := Aside0.mk (HPUT.out i w2 A c rfl hle (HB0.out.trans (hb2.mono HB0.out.size)))
    clear hb2
    go_wp2_with (go_at_call 97; refine hold ?_)
    unfold Hold
    refine HP.out.mono ?_
    rintro e w3 h3
    have HE := Aside0.mk h3
    obtain ⟨v3, rfl, _⟩ := h3
    go_wp2
    go_ret
    exact HE.out
def sameQ (a : ByteArray) (x : α) : Bool := (P x).toList == a.toList
set_option maxHeartbeats 4000000 in
theorem mone1_any (x : α) (a d : ByteArray) (k : Int) (b : Nat) (w : World) (hb : Blk w b 28 [.string a, .int .i64 k, .string d]) :
    Calls Tryz.prog 133 #[.agg #[.string (P x), .int .i64 (K x), .string (D x)], .pointer (some ⟨b, 0, none⟩)] w fun e w' => e = .returned (.bool (sameQ P a x)) ∧ Below w.heap.size w w' := by
  have hb0 : Below w.heap.size w (w.alloc (.cells #[.string (P x), .int .i64 (K x), .string (D x)] 28)) := (Below.refl _ _).alloc (Nat.le_refl _) _
  have x0 := (hb.below hb0).cell (j := 0) rfl
  have HB := Aside0.mk hb0
  clear hb hb0
  unfold sameQ
  go_enter Tryz.func133, Tryz.ntmps133
  go_wp2
  go_ret
  exact ⟨rfl, HB.out⟩
variable (UF : ByteArray → ByteArray → Option Bool)
set_option maxHeartbeats 4000000 in
theorem mone2_any (hU : UnderOk UF) (x : α) (a d : ByteArray) (k : Int) (b : Nat) (w : World) (hb : Blk w b 28 [.string a, .int .i64 k, .string d]) (hx : (P x).toList ≠ a.toList → (UF (P x) a).isSome = true) :
    Calls Tryz.prog 134 #[.agg #[.string (P x), .int .i64 (K x), .string (D x)], .pointer (some ⟨b, 0, none⟩)] w fun e w' => e = .returned (.bool (goesQ P UF a x)) ∧ Below w.heap.size w w' := by
  have hb0 : Below w.heap.size w (w.alloc (.cells #[.string (P x), .int .i64 (K x), .string (D x)] 28)) := (Below.refl _ _).alloc (Nat.le_refl _) _
  have x0 := (hb.below hb0).cell (j := 0) rfl
  have HB := Aside0.mk hb0
  clear hb hb0
  unfold goesQ
  cases he : ((P x).toList == a.toList) with
  | true =>
    clear hx
    rw [Bool.true_or]
    go_enter Tryz.func134, Tryz.ntmps134
    go_wp2
    go_ret
    exact ⟨rfl, HB.out⟩
  | false =>
    rw [Bool.false_or]
    obtain ⟨r, hr⟩ := Option.isSome_iff_exists.1 (hx (by simpa using he))
    rw [hr, Option.getD_some]
    have HC := Aside0.mk (hU (P x) a r (w.alloc (.cells #[.string (P x), .int .i64 (K x), .string (D x)] 28)) hr)
    clear hx hr
    go_enter Tryz.func134, Tryz.ntmps134
    go_wp2_with (go_at_call 60; refine HC.out.mono ?_; rintro e w' ⟨rfl, hb'⟩)
    go_ret
    exact ⟨rfl, HB.out.trans (hb'.mono HB.out.size)⟩
variable (mk : ByteArray → Int → ByteArray → α)
/-- Go's steps: an entry laid over a layer. -/
def moneG (xs : List α) (a : ByteArray) (k : Int) (d : ByteArray) : List α :=
  if k = 2 then match xs.findIdx? (sameQ P a) with
    | none => mputG P xs (mk a 2 d)
    | some i => if (kindAt K xs i == 2 || kindAt K xs i == 4) = true then xs else xs.set i (mk a 4 ⟨#[]⟩)
  else mputG P (xs.filter fun x => !goesQ P UF a x) (mk a k d)
/-- What comes of merge.One: a row of the call's own. -/
def OwnEnd (w : World) (ys : List α) (e : Ending) (w' : World) : Prop := ∃ v : Value, e = .returned v ∧ Own3 P K D w' w.heap.size (fun _ => True) v ys ∧ Below w.heap.size w w'
theorem InsEnd.own {w w3 : World} {S : Nat → Prop} {ys : List α} {e : Ending} {w' : World} (h : InsEnd P K D w w3 S ys e w') : OwnEnd P K D w ys e w' := by
  obtain ⟨v, rfl, h1, h2, _⟩ := h
  exact ⟨v, rfl, Kd.R_mono h1 (fun _ _ => trivial), h2⟩
set_option maxHeartbeats 16000000 in
set_option maxRecDepth 100000 in
theorem mergeOne3 (hU : UnderOk UF) (hmP : ∀ a k d, P (mk a k d) = a) (hmK : ∀ a k d, K (mk a k d) = k) (hmD : ∀ a k d, D (mk a k d) = d) (A0 : Option Addr) (c0 : Nat) (xs : List α) (a d : ByteArray) (k : Int) (w : World) (hr0 : Kd.C (kd3 P K D) w A0 xs.length xs) (hc0 : xs.length ≤ c0)
    (hl : (xs.length + 1) * 40 ≤ 140737488355328) (hx : k ≠ 2 → ∀ x ∈ xs, (P x).toList ≠ a.toList → (UF (P x) a).isSome = true) :
    Calls Tryz.prog 98 #[.slice A0 xs.length c0, .agg #[.string a, .int .i64 k, .string d]] w (OwnEnd P K D w (moneG P K UF mk xs a k d)) := by
  have e1 : ∀ args w, (callFunc 133 args).run Tryz.prog w = .ok (.enter 133 args) w := fun _ _ => by kernel_rfl
  have e2 : ∀ args w, (callFunc 134 args).run Tryz.prog w = .ok (.enter 134 args) w := fun _ _ => by kernel_rfl
  obtain ⟨w1, hw1⟩ : ∃ w1, w1 = w.alloc (.cells #[.string a, .int .i64 k, .string d] 28) := ⟨_, rfl⟩
  have hb0 : Below w.heap.size w w1 := by rw [hw1]; exact (Below.refl _ _).alloc (Nat.le_refl _) _
  have hX : Blk w1 w.heap.size 28 [.string a, .int .i64 k, .string d] := by rw [hw1]; exact Blk.new w _ _
  have hs1 : w1.heap.size = w.heap.size + 1 := by rw [hw1]; simp
  -- the copy; the search
  have hclone : Calls Tryz.prog 85 #[.slice A0 xs.length c0] w1 fun e w2 => ∃ v : Value, e = .returned v ∧ Own3 P K D w2 w.heap.size (fun j => w1.heap.size ≤ j) v xs ∧ Below w1.heap.size w1 w2 :=
    (clone3 P K D A0 c0 xs w1 (Kd.C_below hr0 hb0) hc0 (by omega)).mono fun e w2 h => by
      obtain ⟨v, rfl, ho, hb⟩ := h
      exact ⟨v, rfl, own_base P K D ho (by omega) (fun j hj _ => hj), hb⟩
  have hidx : ∀ (v : Value) (w2 : World), Own3 P K D w2 w.heap.size (fun j => w1.heap.size ≤ j) v xs → Below w1.heap.size w1 w2 → Calls Tryz.prog 132 #[v, .func (.func 133) #[] #[.pointer (some ⟨w.heap.size, 0, none⟩)]] w2 fun e w' => e = .returned (.int .i64 (idx3 (sameQ P a) xs)) ∧ Below w2.heap.size w2 w' := fun v w2 ho hb =>
    indexFunc3 P K D _ v xs _ _ (sameQ P a) w w2 e1 ho (by omega) (fun W hW y _ => mone1_any P K D y a d k w.heap.size W ((hX.below hb).below hW))
  have hbox : ∀ W, Below w1.heap.size w1 W → Blk W w.heap.size 28 [.string a, .int .i64 k, .string d] := fun W hW => hX.below hW
  have hput : ∀ (ys : List α) (v : Value) (w2 : World) (S : Nat → Prop) (k' : Int), ys.length ≤ xs.length → Own3 P K D w2 w.heap.size S v ys → Below w.heap.size w w2 → Calls Tryz.prog 135 #[v, .agg #[.string a, .int .i64 k', .string d]] w2 (OwnEnd P K D w (mputG P ys (mk a k' d))) := fun ys v w2 S k' hy ho hb => by
    have hp := mergePut3 P K D S v ys (mk a k' d) w w2 hb ho (by omega)
    rw [hmP, hmK, hmD] at hp
    exact hp.mono fun e w' h => h.own
  have hdel : k ≠ 2 → ∀ (v : Value) (w2 : World), Own3 P K D w2 w.heap.size (fun j => w1.heap.size ≤ j) v xs → Below w1.heap.size w1 w2 → Calls Tryz.prog 107 #[v, .func (.func 134) #[] #[.pointer (some ⟨w.heap.size, 0, none⟩)]] w2 fun e w3 => ∃ v3 : Value, e = .returned v3 ∧ Own3 P K D w3 w.heap.size (fun _ => True) v3 (xs.filter fun x => !goesQ P UF a x) ∧ Below w.heap.size w w3 ∧ Blk w3 w.heap.size 28 [.string a, .int .i64 k, .string d] := fun h2 v w2 ho hb => by
    have hbx := hX.below hb
    refine (deleteFunc3 P K D (fun j => w1.heap.size ≤ j) v xs 134 #[.pointer (some ⟨w.heap.size, 0, none⟩)] (goesQ P UF a) w w2 e2 (hb0.trans (hb.mono hb0.size)) ho (by omega) (fun W hk x hxm => mone2_any P K D UF hU x a d k w.heap.size W (hbx.kept hk (fun h => by omega)) (hx h2 x hxm))).mono ?_
    rintro e w3 ⟨v3, rfl, h1, h3, h4⟩
    exact ⟨v3, rfl, Kd.R_mono h1 (fun _ _ => trivial), h3, hbx.kept h4 (fun h => by omega)⟩
  have HCL := Aside0.mk hclone
  have HIX := Aside0.mk hidx
  have HBX := Aside0.mk hbox
  have HPUT := Aside0.mk hput
  have HDEL := Aside0.mk hdel
  have HB0 := Aside0.mk hb0
  have HM := Aside0.mk (And.intro hmP (And.intro hmK hmD))
  have HL := Aside0.mk hl
  have HS1 := Aside0.mk hs1
  clear hclone hidx hbox hput hdel hb0 hX hmP hmK hmD hr0 hx hl hc0 hU hs1
  subst hw1
  by_cases h2 : k = 2
  · subst h2
    unfold moneG
    rw [if_pos rfl]
    clear HDEL
    cases hf : xs.findIdx? (sameQ P a) with
    | none =>
      have hi : idx3 (sameQ P a) xs = -1 := by unfold idx3; rw [hf]
      rw [hi] at HIX
      clear hi hf
      dsimp only
      go_enter Tryz.func98, Tryz.ntmps98
      go_wp2_with (go_at_call 85; refine hold ?_)
      unfold Hold
      refine HCL.out.mono ?_
      rintro e w2 ⟨v2, rfl, o2, b2⟩
      have HI := Aside0.mk (HIX.out v2 w2 o2 b2)
      have HO := Aside0.mk o2
      have HB2 := Aside0.mk b2
      clear o2 b2
      go_wp2_with (go_at_call 132; refine hold ?_)
      unfold Hold
      refine HI.out.mono ?_
      rintro e w3 ⟨rfl, b3⟩
      have hb3 := HB2.out.trans (b3.mono HB2.out.size)
      have hx2 := HBX.out w3 hb3
      have x0 := hx2.cell (j := 0) rfl
      have x1 := hx2.cell (j := 1) rfl
      have x2 := hx2.cell (j := 2) rfl
      have HP := Aside0.mk (HPUT.out xs v2 w3 _ 2 (Nat.le_refl _) (Kd.R_below HO.out b3) (HB0.out.trans (hb3.mono HB0.out.size)))
      clear b3 hb3 hx2
      go_wp2_with (go_at_call 135; refine hold ?_)
      unfold Hold
      refine HP.out.mono ?_
      rintro e w4 h4
      have HE := Aside0.mk h4
      obtain ⟨v4, rfl, _⟩ := h4
      go_wp2
      go_ret
      exact HE.out
    | some i =>
      have hi : idx3 (sameQ P a) xs = (i : Int) := by unfold idx3; rw [hf]
      have hlt : i < xs.length := (List.findIdx?_eq_some_iff_getElem.1 hf).1
      rw [hi] at HIX
      clear hi hf
      dsimp only
      have hxi : xs[i]? = some xs[i] := List.getElem?_eq_getElem hlt
      have hki : kindAt K xs i = K xs[i] := by unfold kindAt; rw [hxi]; rfl
      rw [hki]
      generalize xs[i] = x at hxi hki ⊢
      have HX := Aside0.mk hxi
      clear hxi hki
      have hho : ∀ w3, Calls Tryz.prog 71 #[.agg #[.string (P x), .int .i64 (K x), .string (D x)]] w3 fun e w' => e = .returned (.bool (K x == 2 || K x == 4)) ∧ Below w3.heap.size w3 w' := fun w3 => mholds3 (P x) (K x) (D x) w3
      generalize (K x == 2 || K x == 4) = hh at hho ⊢
      have HHO := Aside0.mk hho
      clear hho
      have hset : ∀ (g cap : Nat) (cur : List Value) (w5 : World), w.heap.size ≤ g → Blk w5 g 28 (splice cur (i * 3) [.string a, .int .i64 4, .string ⟨#[]⟩]) → xs.length ≤ cap → cap ≤ 9223372036854775807 → cur.length = cap * 3 → cur.take (xs.length * 3) = c3 P K D xs → Below w.heap.size w w5 → OwnEnd P K D w (xs.set i (mk a 4 ⟨#[]⟩)) (.returned (.slice (some ⟨g, 0, none⟩) xs.length cap)) w5 := fun g cap cur w5 hge hg5 hnc hcm hcs ht hb5 => by
        have he3 : e3 P K D (mk a 4 ⟨#[]⟩) = [.string a, .int .i64 4, .string ⟨#[]⟩] := by unfold e3; rw [HM.out.1, HM.out.2.1, HM.out.2.2]
        rw [← he3] at hg5
        have hsl : i * 3 + (e3 P K D (mk a 4 ⟨#[]⟩)).length ≤ cur.length := by rw [hcs]; simp [e3]; omega
        refine ⟨_, rfl, R_shut (flat3 P K D) hge trivial hg5 (by rw [List.length_set]) (by rw [List.length_set]; exact hnc) hcm (by rw [length_splice _ _ _ hsl]; exact hcs) ?_, hb5⟩
        rw [List.length_set, sz3]
        have e1 : xs.length * 3 = (i * 3 + (e3 P K D (mk a 4 ⟨#[]⟩)).length) + (xs.length - (i + 1)) * 3 := by simp [e3]; omega
        have e2 : i * 3 + (e3 P K D (mk a 4 ⟨#[]⟩)).length = (i + 1) * 3 := by simp [e3]; omega
        show List.take _ _ = c3 P K D (xs.set i (mk a 4 ⟨#[]⟩))
        rw [c3_set P K D xs i (mk a 4 ⟨#[]⟩) hlt, ← ht, e1, List.take_add, splice_take2 hsl, splice_drop hsl, List.take_take, Nat.min_eq_left (by omega), e2, List.drop_take]
        congr 2
        omega
      have HSET := Aside0.mk hset
      clear hset HPUT HM
      have hneg : ¬ (i : Int) < 0 := by omega
      have hi0 : (0 : Int) ≤ (i : Int) := by omega
      have hi1 : (i : Int) < (xs.length : Int) := by omega
      have HLT := Aside0.mk hlt
      clear hlt
      cases hh with
      | true =>
        rw [if_pos rfl]
        clear HSET
        go_enter Tryz.func98, Tryz.ntmps98
        go_wp2_with (go_at_call 85; refine hold ?_)
        unfold Hold
        refine HCL.out.mono ?_
        rintro e w2 ⟨v2, rfl, o2, b2⟩
        have HI := Aside0.mk (HIX.out v2 w2 o2 b2)
        have HO := Aside0.mk o2
        have HB2 := Aside0.mk b2
        clear o2 b2
        go_wp2_with (go_at_call 132; refine hold ?_)
        unfold Hold
        refine HI.out.mono ?_
        rintro e w3 ⟨rfl, b3⟩
        have hb3 := HB2.out.trans (b3.mono HB2.out.size)
        have hx2 := HBX.out w3 hb3
        have x0 := hx2.cell (j := 0) rfl
        have x1 := hx2.cell (j := 1) rfl
        have x2 := hx2.cell (j := 2) rfl
        have HO3 := Aside0.mk (Kd.R_below HO.out b3)
        have HB3 := Aside0.mk hb3
        have HH := Aside0.mk (HHO.out w3)
        clear b3 hb3 hx2 HO HI HIX HCL HHO
        obtain ⟨g, cap, cur, rfl, hge, hok, hg, hnc, hcm, hcs, ht⟩ : ∃ (g cap : Nat) (cur : List Value), v2 = .slice (some ⟨g, 0, none⟩) xs.length cap ∧ w.heap.size ≤ g ∧ True ∧ Blk w3 g 28 cur ∧ xs.length ≤ cap ∧ cap ≤ 9223372036854775807 ∧ cur.length = cap * 3 ∧ cur.take (xs.length * 3) = c3 P K D xs := by
          rcases R_raw3 P K D HO3.out with ⟨rfl, rfl⟩ | ⟨g, cap, cur, h1, h2, h3, h4⟩
          · exact absurd HLT.out (by simp)
          · exact ⟨g, cap, cur, h1, h2, trivial, h4⟩
        have hcell : ∀ m u, m < 3 → (e3 P K D x)[m]? = some u → w3.cell? ⟨g, i * 3 + m, none⟩ = some u := fun m u hm hu => by
          refine hg.cell ?_
          rw [← hu, ← c3_get P K D HX.out m hm, ← ht, List.getElem?_take, if_pos (by have := HLT.out; omega)]
        have cc0 := hcell 0 _ (by omega) rfl
        have cc1 := hcell 1 _ (by omega) rfl
        have cc2 := hcell 2 _ (by omega) rfl
        rw [Nat.add_zero] at cc0
        have HG := Aside0.mk hg
        have HC := Aside0.mk hcs
        have HT := Aside0.mk ht
        clear hcell hg hcs ht
        go_wp2_with (go_at_call 71; refine hold ?_)
        unfold Hold
        refine HH.out.mono ?_
        rintro e w4 ⟨rfl, b4⟩
        have HE := Aside0.mk (⟨_, rfl, Kd.R_mono (Kd.R_below HO3.out b4) (fun _ _ => trivial), (HB0.out.trans (HB3.out.mono HB0.out.size)).trans (b4.mono (HB0.out.trans (HB3.out.mono HB0.out.size)).size)⟩ : OwnEnd P K D w xs (.returned (.slice (some ⟨g, 0, none⟩) xs.length cap)) w4)
        clear b4
        go_wp2
        go_ret
        exact HE.out
      | false =>
        rw [if_neg (by decide)]
        go_enter Tryz.func98, Tryz.ntmps98
        go_wp2_with (go_at_call 85; refine hold ?_)
        unfold Hold
        refine HCL.out.mono ?_
        rintro e w2 ⟨v2, rfl, o2, b2⟩
        have HI := Aside0.mk (HIX.out v2 w2 o2 b2)
        have HO := Aside0.mk o2
        have HB2 := Aside0.mk b2
        clear o2 b2
        go_wp2_with (go_at_call 132; refine hold ?_)
        unfold Hold
        refine HI.out.mono ?_
        rintro e w3 ⟨rfl, b3⟩
        have hb3 := HB2.out.trans (b3.mono HB2.out.size)
        have hx2 := HBX.out w3 hb3
        have x0 := hx2.cell (j := 0) rfl
        have x1 := hx2.cell (j := 1) rfl
        have x2 := hx2.cell (j := 2) rfl
        have HO3 := Aside0.mk (Kd.R_below HO.out b3)
        have HB3 := Aside0.mk hb3
        have HH := Aside0.mk (HHO.out w3)
        clear b3 hb3 hx2 HO HI HIX HCL HHO
        obtain ⟨g, cap, cur, rfl, hge, hok, hg, hnc, hcm, hcs, ht⟩ : ∃ (g cap : Nat) (cur : List Value), v2 = .slice (some ⟨g, 0, none⟩) xs.length cap ∧ w.heap.size ≤ g ∧ True ∧ Blk w3 g 28 cur ∧ xs.length ≤ cap ∧ cap ≤ 9223372036854775807 ∧ cur.length = cap * 3 ∧ cur.take (xs.length * 3) = c3 P K D xs := by
          rcases R_raw3 P K D HO3.out with ⟨rfl, rfl⟩ | ⟨g, cap, cur, h1, h2, h3, h4⟩
          · exact absurd HLT.out (by simp)
          · exact ⟨g, cap, cur, h1, h2, trivial, h4⟩
        have hcell : ∀ m u, m < 3 → (e3 P K D x)[m]? = some u → w3.cell? ⟨g, i * 3 + m, none⟩ = some u := fun m u hm hu => by
          refine hg.cell ?_
          rw [← hu, ← c3_get P K D HX.out m hm, ← ht, List.getElem?_take, if_pos (by have := HLT.out; omega)]
        have cc0 := hcell 0 _ (by omega) rfl
        have cc1 := hcell 1 _ (by omega) rfl
        have cc2 := hcell 2 _ (by omega) rfl
        rw [Nat.add_zero] at cc0
        have HG := Aside0.mk hg
        have HC := Aside0.mk hcs
        have HT := Aside0.mk ht
        clear hcell hg hcs ht
        go_wp2_with (go_at_call 71; refine hold ?_)
        unfold Hold
        refine HH.out.mono ?_
        rintro e w4 ⟨rfl, b4⟩
        have y0 := b4.cell (World.block_lt_of_cell? _ _ x0)
        rw [x0] at y0
        have HB4 := Aside0.mk b4
        clear b4 x0 x1 x2 cc0 cc1 cc2
        go_wp2_with (first
          | ((with_reducible refine gate_st3 (x := .tmp 40) (y := .tmp 39) rfl ?_); refine hold ?_))
        unfold Hold
        have hbw4 : Below w.heap.size w w4 := (HB0.out.trans (HB3.out.mono HB0.out.size)).trans (HB4.out.mono (HB0.out.trans (HB3.out.mono HB0.out.size)).size)
        refine wp_store_blk rfl 28 (.tmp 40) (.tmp 39) rfl 3 Tryz.size3 g (i * 3) rfl _ rfl [.string a, .int .i64 4, .string ⟨#[]⟩] rfl rfl cur 28 (HG.out.below HB4.out) ?hf (by intro u hu; simp at hu; rcases hu with rfl | rfl | rfl <;> rfl) (B := w.heap.size) (w0 := w) hbw4 hge ?_
        case hf => rw [HC.out]; have := HLT.out; simp; omega
        intro w5 hg5 hk5 hb5
        have HE := Aside0.mk (HSET.out g cap cur w5 hge hg5.out hnc hcm HC.out HT.out hb5.out)
        clear hg5 hk5 hb5
        go_wp2
        go_ret
        exact HE.out
  · unfold moneG
    rw [if_neg h2]
    have k2b : (k == 2) = false := beq_eq_false_iff_ne.2 h2
    have k2n : (k != 2) = true := bne_iff_ne.2 h2
    have HDL := Aside0.mk (HDEL.out h2)
    clear h2 HDEL
    go_enter Tryz.func98, Tryz.ntmps98
    go_wp2_with (go_at_call 85; refine hold ?_)
    unfold Hold
    refine HCL.out.mono ?_
    rintro e w2 ⟨v2, rfl, o2, b2⟩
    have HI := Aside0.mk (HIX.out v2 w2 o2 b2)
    have HO := Aside0.mk o2
    have HB2 := Aside0.mk b2
    clear o2 b2
    go_wp2_with (go_at_call 132; refine hold ?_)
    unfold Hold
    refine HI.out.mono ?_
    rintro e w3 ⟨rfl, b3⟩
    have hb3 := HB2.out.trans (b3.mono HB2.out.size)
    have hx2 := HBX.out w3 hb3
    have x1 := hx2.cell (j := 1) rfl
    have HD3 := Aside0.mk (HDL.out v2 w3 (Kd.R_below HO.out b3) hb3)
    clear b3 hb3 hx2
    go_wp2_with (go_at_call 107; refine hold ?_)
    unfold Hold
    refine HD3.out.mono ?_
    rintro e w4 ⟨v4, rfl, o4, b4, hx4⟩
    have y0 := hx4.cell (j := 0) rfl
    have y1 := hx4.cell (j := 1) rfl
    have y2 := hx4.cell (j := 2) rfl
    have HP := Aside0.mk (HPUT.out _ v4 w4 _ k (List.length_filter_le _ _) o4 b4)
    clear o4 b4 hx4 x1
    go_wp2_with (go_at_call 135; refine hold ?_)
    unfold Hold
    refine HP.out.mono ?_
    rintro e w5 h5
    have HE := Aside0.mk h5
    obtain ⟨v5, rfl, _⟩ := h5
    go_wp2
    go_ret
    exact HE.out
end
end Go.Proofs.YtdmnpofodechpaaGreatDoor.Print
end
section
namespace Go.Proofs.YtdmnpofodechpaaGreatDoor.Print
open Go Go.RowKit Go.Proofs.YtdmnpofodechpaaGreatDoorW.PrintWords Go.Proofs.YtdmnpofodechpaaGreatDoorW.PrintLast Go.Proofs.YtdmnpofodechpaaGreatDoorW.PrintMore
set_option linter.unusedVariables false
set_option linter.unusedSimpArgs false
theorem Tryz.sizeI3 : (Tryz.prog.info? 3).map (·.size) = some 1 := by kernel_rfl
section
variable {α : Type} (P : α → ByteArray) (K : α → Int) (D : α → ByteArray)
set_option maxHeartbeats 4000000 in
theorem mbot1_any (x : α) (w : World) :
    Calls Tryz.prog 108 #[.agg #[.string (P x), .int .i64 (K x), .string (D x)]] w fun e w' => e = .returned (.bool (K x == 3)) ∧ Below w.heap.size w w' := by
  have HB := Aside0.mk (show Below w.heap.size w (w.alloc (.cells #[.string (P x), .int .i64 (K x), .string (D x)] 28)) from (Below.refl _ _).alloc (Nat.le_refl _) _)
  go_enter Tryz.func108, Tryz.ntmps108
  go_wp2
  go_ret
  exact ⟨rfl, HB.out⟩
variable (mk : ByteArray → Int → ByteArray → α)
def bot1 (x : α) : α := if K x = 4 then mk (P x) 2 (D x) else x
/-- Go's steps: whiteouts go, opaque directories become plain ones. -/
def botG (xs : List α) : List α := (xs.filter fun x => !(K x == 3)).map (bot1 P K D mk)
/-- The list behind so many rounds. -/
def botN (ys : List α) (i : Nat) : List α := (ys.take i).map (bot1 P K D mk) ++ ys.drop i
theorem botN_len (ys : List α) (i : Nat) : (botN P K D mk ys i).length = ys.length := by
  unfold botN; rw [List.length_append, List.length_map, List.length_take, List.length_drop]; omega
theorem botN_get (ys : List α) (i : Nat) (h : i < ys.length) : (botN P K D mk ys i)[i]? = some ys[i] := by
  unfold botN
  rw [List.getElem?_append_right (by rw [List.length_map, List.length_take]; omega), List.length_map, List.length_take, Nat.min_eq_left (by omega), Nat.sub_self, List.getElem?_drop, Nat.add_zero, List.getElem?_eq_getElem h]
theorem botN_succ (ys : List α) (i : Nat) (h : i < ys.length) : botN P K D mk ys (i + 1) = (botN P K D mk ys i).set i (bot1 P K D mk ys[i]) := by
  have hl : ((ys.take i).map (bot1 P K D mk)).length = i := by rw [List.length_map, List.length_take]; omega
  unfold botN
  rw [List.set_append_right _ _ (by omega), hl, Nat.sub_self, List.drop_eq_getElem_cons h, List.set_cons_zero, List.take_succ_eq_append_getElem h, List.map_append, List.map_singleton, List.append_assoc, List.singleton_append]
theorem botN_id (ys : List α) (i : Nat) (h : i < ys.length) (hk : K ys[i] ≠ 4) : botN P K D mk ys (i + 1) = botN P K D mk ys i := by
  rw [botN_succ P K D mk ys i h]
  have : bot1 P K D mk ys[i] = ys[i] := by unfold bot1; rw [if_neg hk]
  rw [this]
  have hl : i < (botN P K D mk ys i).length := by rw [botN_len]; exact h
  have hg := botN_get P K D mk ys i h
  rw [List.getElem?_eq_getElem hl] at hg
  rw [← Option.some.inj hg, List.set_getElem_self]
/-- One cell of a row is written: an entry's kind. -/
theorem c3_kind (xs : List α) (i : Nat) (x y : α) (hx : xs[i]? = some x) (hP : P y = P x) (hD : D y = D x) (cur : List Value) (ht : cur.take (xs.length * 3) = c3 P K D xs) (hc : xs.length * 3 ≤ cur.length) :
    (splice cur (i * 3 + 1) [.int .i64 (K y)]).take (xs.length * 3) = c3 P K D (xs.set i y) := by
  obtain ⟨hl, hxe⟩ := List.getElem?_eq_some_iff.1 hx
  refine List.ext_getElem? fun n => ?_
  by_cases hn : n < xs.length * 3
  · rw [List.getElem?_take, if_pos hn]
    have hsp : (splice cur (i * 3 + 1) [.int .i64 (K y)])[n]? = if n = i * 3 + 1 then some (.int .i64 (K y)) else cur[n]? := by
      unfold splice
      by_cases e : n = i * 3 + 1
      · rw [if_pos e, e]
        rw [List.getElem?_append_right (by rw [List.length_take]; omega), List.length_take, Nat.min_eq_left (by omega), Nat.sub_self]; rfl
      · rw [if_neg e]
        by_cases h2 : n < i * 3 + 1
        · rw [List.getElem?_append_left (by rw [List.length_take]; omega), List.getElem?_take, if_pos h2]
        · rw [List.getElem?_append_right (by rw [List.length_take]; omega), List.length_take, Nat.min_eq_left (by omega), List.getElem?_append_right (by rw [List.length_singleton]; omega), List.getElem?_drop, List.length_singleton]
          congr 1
          omega
    rw [hsp]
    obtain ⟨q, r, hr, hq⟩ : ∃ q r, r < 3 ∧ n = q * 3 + r := ⟨n / 3, n % 3, by omega, by omega⟩
    have hql : q < xs.length := by omega
    have hc0 : ∀ (m : Nat) (z : α), xs[q]? = some z → m < 3 → cur[q * 3 + m]? = (e3 P K D z)[m]? := fun m z hz hm => by
      rw [← c3_get P K D hz m hm, ← ht, List.getElem?_take, if_pos (by omega)]
    subst hq
    by_cases e : q = i
    · subst e
      have hy : (xs.set q y)[q]? = some y := by rw [List.getElem?_set_self hql]
      rw [c3_get P K D hy r hr]
      by_cases e1 : r = 1
      · subst e1; rw [if_pos rfl]; rfl
      · rw [if_neg (by omega), hc0 r x hx hr]
        have : r = 0 ∨ r = 2 := by omega
        rcases this with rfl | rfl
        · show some (Value.string (P x)) = some (.string (P y)); rw [hP]
        · show some (Value.string (D x)) = some (.string (D y)); rw [hD]
    · have hz : xs[q]? = some xs[q] := List.getElem?_eq_getElem hql
      have hz2 : (xs.set i y)[q]? = some xs[q] := by rw [List.getElem?_set_ne (fun k => e k.symm), hz]
      rw [if_neg (by omega), c3_get P K D hz2 r hr, hc0 r _ hz hr]
  · rw [List.getElem?_eq_none (by rw [List.length_take]; omega), List.getElem?_eq_none (by rw [c3_len, List.length_set]; omega)]
set_option maxHeartbeats 16000000 in
set_option maxRecDepth 100000 in
theorem mergeBottom3 (hmP : ∀ a k d, P (mk a k d) = a) (hmK : ∀ a k d, K (mk a k d) = k) (hmD : ∀ a k d, D (mk a k d) = d) (A0 : Option Addr) (c0 : Nat) (xs : List α) (w : World) (hr0 : Kd.C (kd3 P K D) w A0 xs.length xs) (hc0 : xs.length ≤ c0)
    (hl : xs.length * 40 ≤ 140737488355328) :
    Calls Tryz.prog 66 #[.slice A0 xs.length c0] w (OwnEnd P K D w (botG P K D mk xs)) := by
  have e1 : ∀ args w, (callFunc 108 args).run Tryz.prog w = .ok (.enter 108 args) w := fun _ _ => by kernel_rfl
  have HCL := Aside0.mk (clone3 P K D A0 c0 xs w hr0 hc0 hl)
  have hdel : ∀ (v : Value) (w2 : World), Own3 P K D w2 w.heap.size (fun _ => True) v xs → Below w.heap.size w w2 → Calls Tryz.prog 107 #[v, .func (.func 108) #[] #[]] w2 (InsEnd P K D w w2 (fun _ => True) (xs.filter fun x => !(K x == 3))) := fun v w2 ho hb =>
    deleteFunc3 P K D (fun _ => True) v xs 108 #[] (fun x => K x == 3) w w2 e1 hb ho (by omega) (fun W _ x _ => mbot1_any P K D x W)
  have HDEL := Aside0.mk hdel
  have HM := Aside0.mk (And.intro hmP (And.intro hmK hmD))
  have HL := Aside0.mk hl
  clear hdel hmP hmK hmD hr0 hc0 hl e1
  have hys : (xs.filter fun x => !(K x == 3)).length ≤ xs.length := List.length_filter_le _ _
  have hbot : botG P K D mk xs = (xs.filter fun x => !(K x == 3)).map (bot1 P K D mk) := rfl
  rw [hbot]
  generalize (xs.filter fun x => !(K x == 3)) = ys at hys HDEL ⊢
  have HYS := Aside0.mk hys
  clear hbot hys
  have hfin : ∀ (g cap : Nat) (cj : List Value) (wr : World), w.heap.size ≤ g → Blk wr g 28 cj → cj.length = cap * 3 → ys.length ≤ cap → cap ≤ 9223372036854775807 → cj.take (ys.length * 3) = c3 P K D (botN P K D mk ys ys.length) → Below w.heap.size w wr → OwnEnd P K D w (ys.map (bot1 P K D mk)) (.returned (.slice (some ⟨g, 0, none⟩) ys.length cap)) wr := fun g cap cj wr hge hg hcs hnc hcm ht hb => by
    have e : botN P K D mk ys ys.length = ys.map (bot1 P K D mk) := by unfold botN; rw [List.take_length, List.drop_length, List.append_nil]
    rw [e] at ht
    exact ⟨_, rfl, R_shut (flat3 P K D) hge trivial hg (by rw [List.length_map]) (by rw [List.length_map]; exact hnc) hcm hcs (by rw [List.length_map]; exact ht), hb⟩
  have HFIN := Aside0.mk hfin
  clear hfin
  go_enter Tryz.func66, Tryz.ntmps66
  go_wp2_with (go_at_call 85; refine hold ?_)
  unfold Hold
  refine HCL.out.mono ?_
  rintro e w2 ⟨v2, rfl, o2, b2⟩
  have HD2 := Aside0.mk (HDEL.out v2 w2 o2 b2)
  clear o2 b2 HCL HDEL
  go_wp2_with (go_at_call 107; refine hold ?_)
  unfold Hold
  refine HD2.out.mono ?_
  rintro e w3 ⟨v3, rfl, o3, b3, _⟩
  clear HD2
  rcases R_raw3 P K D o3 with ⟨rfl, rfl⟩ | ⟨g, cap, cur, rfl, hge, hok, hg, hnc, hcm, hcs, ht⟩
  · have HE := Aside0.mk (⟨_, rfl, Kd.R_nil _ _ _ _ _, b3⟩ : OwnEnd P K D w (([] : List α).map (bot1 P K D mk)) (.returned (.slice none 0 0)) w3)
    clear o3 b3
    go_wp2
    refine wp_loop_rounds 1 ?_
    rw [rounds_succ]
    go_wp2
    go_ret
    exact HE.out
  · have HB3 := Aside0.mk b3
    have HG := Aside0.mk hg
    have HC := Aside0.mk hcs
    have HT := Aside0.mk ht
    clear o3 b3 hg hcs ht hok
    generalize hlen : ys.length = n at hnc
    have HN := Aside0.mk hlen
    clear hlen
    go_wp2
    go_loopg [4, 5, 11] n (fun gg _ _ s11 wr => ∃ (i : Nat) (cj : List Value), s11 = .int .i64 i ∧ i ≤ n ∧ n - i ≤ gg ∧ Aside0 (Blk wr g 28 cj) ∧ Aside0 (Below w.heap.size w wr) ∧ Aside0 (cj.length = cap * 3) ∧ Aside0 (cj.take (n * 3) = c3 P K D (botN P K D mk ys i)))
    case atStart =>
      refine ⟨0, cur, rfl, Nat.zero_le _, by omega, HG, HB3, HC, ⟨?_⟩⟩
      have : botN P K D mk ys 0 = ys := by unfold botN; simp
      rw [this, ← HN.out]; exact HT.out
    case round =>
      obtain ⟨i, cj, rfl, hin, hgg, BL, BB, LL, TT⟩ := hrel
      by_cases hlt : i < n
      · have hltz : (i : Int) < (n : Int) := by omega
        have hi0 : (0 : Int) ≤ (i : Int) := by omega
        have hiy : i < ys.length := by rw [HN.out]; exact hlt
        have hget := botN_get P K D mk ys i hiy
        have hcell : ∀ m u, m < 3 → (e3 P K D ys[i])[m]? = some u → wr.cell? ⟨g, i * 3 + m, none⟩ = some u := fun m u hm hu => by
          refine BL.out.cell ?_
          rw [← hu, ← c3_get P K D hget m hm, ← TT.out, List.getElem?_take, if_pos (by omega)]
        have cc0 := hcell 0 _ (by omega) rfl
        have cc1 := hcell 1 _ (by omega) rfl
        have cc2 := hcell 2 _ (by omega) rfl
        rw [Nat.add_zero] at cc0
        have hnx : botN P K D mk ys (i + 1) = (botN P K D mk ys i).set i (bot1 P K D mk ys[i]) := botN_succ P K D mk ys i hiy
        have hid := botN_id P K D mk ys i hiy
        have hb1 : K ys[i] = 4 → bot1 P K D mk ys[i] = mk (P ys[i]) 2 (D ys[i]) := fun h => by unfold bot1; rw [if_pos h]
        generalize ys[i] = x at *
        have hblen := botN_len P K D mk ys i
        have HX := Aside0.mk (And.intro hget (And.intro hnx (And.intro hid (And.intro hb1 hblen))))
        clear hcell hget hnx hid hb1 hblen hiy
        have BB1 : Aside0 (Below w.heap.size w (wr.alloc (.cells #[.string (P x), .int .i64 (K x), .string (D x)] 28))) := ⟨BB.out.alloc BB.out.size _⟩
        have BL1 : Aside0 (Blk (wr.alloc (.cells #[.string (P x), .int .i64 (K x), .string (D x)] 28)) g 28 cj) := ⟨BL.out.below ((Below.refl _ _).alloc (Nat.le_refl _) _)⟩
        by_cases h4 : K x = 4
        · have k4 : (K x == 4) = true := beq_iff_eq.2 h4
          have H4 := Aside0.mk h4
          clear h4
          go_wp2_with (first
            | ((with_reducible refine gate_st3 (x := .tmp 22) (y := .const (.int .i64 2)) rfl ?_); refine hold ?_))
          unfold Hold
          refine wp_store_blk rfl 3 (.tmp 22) (.const (.int .i64 2)) rfl 1 Tryz.sizeI3 g (i * 3 + 1) rfl _ rfl [.int .i64 2] rfl rfl cj 28 BL1.out ?hf (by intro u hu; simp at hu; subst hu; rfl) (B := w.heap.size) (w0 := w) BB1.out hge ?_
          case hf => rw [LL.out]; simp; omega
          intro w5 hg5 hk5 hb5
          go_wp2
          go_roundg (n - (i + 1))
          case measure => omega
          case rel =>
            refine ⟨i + 1, splice cj (i * 3 + 1) [.int .i64 2], by go_num, by omega, by omega, hg5, hb5, ⟨?_⟩, ⟨?_⟩⟩
            · rw [length_splice _ _ _ (by rw [LL.out]; simp; omega)]; exact LL.out
            · have hy : K (mk (P x) 2 (D x)) = 2 := HM.out.2.1 _ _ _
              have := c3_kind P K D (botN P K D mk ys i) i x (mk (P x) 2 (D x)) HX.out.1 (HM.out.1 _ _ _) (HM.out.2.2 _ _ _) cj (by rw [HX.out.2.2.2.2, HN.out]; exact TT.out) (by rw [HX.out.2.2.2.2, HN.out, LL.out]; omega)
              rw [hy, HX.out.2.2.2.2, HN.out] at this
              rw [HX.out.2.1, HX.out.2.2.2.1 H4.out]
              exact this
        · have k4 : (K x == 4) = false := beq_eq_false_iff_ne.2 h4
          have H4 := Aside0.mk h4
          clear h4
          go_wp2
          go_roundg (n - (i + 1))
          case measure => omega
          case rel =>
            refine ⟨i + 1, cj, by go_num, by omega, by omega, BL1, BB1, LL, ⟨?_⟩⟩
            rw [HX.out.2.2.1 H4.out]; exact TT.out
      · have hltz : ¬ (i : Int) < (n : Int) := by omega
        obtain rfl : i = n := by omega
        have HE := Aside0.mk (HFIN.out g cap cj wr hge BL.out LL.out (by rw [HN.out]; exact hnc) hcm (by rw [HN.out]; exact TT.out) BB.out)
        rw [HN.out] at HE
        go_wp2
        go_ret
        exact HE.out
end
end Go.Proofs.YtdmnpofodechpaaGreatDoor.Print
end
