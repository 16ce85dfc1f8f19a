/- fold.Tree: the walk (its map told as a list). -/
import Derived.Test.YtklcceccadlgkaaDoorMap3
import Derived.Lib.QuietBelow
import Derived.BigQuiet
import Derived.Lib.QuietBelow
import Derived.BigQuiet
import Derived.Carry
namespace Go.Proofs.YtklcceccadlgkaaDoor.Print
open Go Go.RowKit Go.Proofs.YtklcceccadlgkaaDoorW.PrintWords Go.Proofs.YtklcceccadlgkaaDoorW.PrintLast Go.Proofs.YtklcceccadlgkaaDoorW.PrintMore
set_option linter.unusedVariables false
set_option linter.unusedSimpArgs false
set_option maxHeartbeats 4000000 in
theorem holds3 (a d : ByteArray) (k : Int) (w : World) :
    Calls Tryd.prog 42 #[.agg #[.string a, .int .i64 k, .string d]] w fun e w' => e = .returned (.bool (k == 2 || k == 4)) ∧ Below w.heap.size w w' := by
  have HB : Aside0 (Below w.heap.size w (w.alloc (.cells #[.string a, .int .i64 k, .string d] 23))) := ⟨(Below.refl _ _).alloc (Nat.le_refl _) _⟩
  cases h2 : (k == 2) with
  | true =>
    have h2b : (k != 2) = false := by simpa using h2
    rw [Bool.true_or]
    go_enter Tryd.func42, Tryd.ntmps42
    go_wp2
    go_ret
    exact ⟨rfl, HB.out⟩
  | false =>
    rw [Bool.false_or]
    go_enter Tryd.func42, Tryd.ntmps42
    go_wp2
    go_ret
    exact ⟨rfl, HB.out⟩
theorem belowNext {w2 W W' : World} (hb : Below W.heap.size W W') (h0 : Below w2.heap.size w2 W) : Below w2.heap.size w2 W' := h0.trans (hb.mono h0.size)
section
variable {α : Type} (P : α → ByteArray) (K : α → Int) (D : α → ByteArray)
variable (RF : ByteArray → Int → ByteArray → Option Bool) (DF : ByteArray → Option (ByteArray × ByteArray × List Int))
def RightOk : Prop := ∀ (a : ByteArray) (k : Int) (d : ByteArray) (r : Bool) (w : World), RF a k d = some r → Calls Tryd.prog 23 #[.agg #[.string a, .int .i64 k, .string d]] w fun e w' => e = .returned (.bool r) ∧ Below w.heap.size w w'
def ParentOk : Prop := ∀ (a r1 r2 : ByteArray) (r3 : List Int) (w : World), DF a = some (r1, r2, r3) → Calls Tryd.prog 34 #[.string a] w fun e w' => ∃ v2 : Value, e = .returned (.tuple #[.string r1, .string r2, v2]) ∧ Below w.heap.size w w'
def okB (x : α) : Bool := (RF (P x) (K x) (D x)).getD false
def dirB (x : α) : ByteArray := ((DF (P x)).map (·.1)).getD ⟨#[]⟩
/-- Is the next entry at fault? -/
def badB (pr : Option α) (L : List (ByteArray × Bool)) (x : α) : Bool :=
  !okB P K D RF x || decide (2 < K x) || !lk L (dirB P DF x) || (match pr with | some y => !Op.bytesLess (P y).data.toList (P x).data.toList | none => false)
def treeG : Option α → List (ByteArray × Bool) → List α → Bool
  | _, _, [] => true
  | pr, L, x :: r => if badB P K D RF DF pr L x then false else treeG (some x) (up L (P x) (K x == 2 || K x == 4)) r
def treeF (xs : List α) : Bool := if 1024 < xs.length then false else treeG P K D RF DF none [(⟨#[47]⟩, true)] xs
set_option maxHeartbeats 1000000 in
set_option maxRecDepth 100000 in
theorem tree_at (hR : RightOk RF) (hP : ParentOk DF) (ad : Addr) (c : Nat) (xs : List α) (w : World) (hA : At3 P K D w ad xs) (hlt0 : ad.block < w.heap.size) (hn : xs.length ≤ 1024) (hall : ∀ x ∈ xs, (RF (P x) (K x) (D x)).isSome = true ∧ (DF (P x)).isSome = true) :
    Calls Tryd.prog 49 #[.slice (some ad) xs.length c] w fun e w' => e = .returned (.bool (treeG P K D RF DF none [(⟨#[47]⟩, true)] xs)) ∧ Below w.heap.size w w' := by
  have hmm := @run_makeMap Tryd.prog
  have HA := Aside0.mk hA
  have HALL := Aside0.mk hall
  have HLT := Aside0.mk hlt0
  have hm0 : MapB (w.alloc (.map #[] 0)) w.heap.size [] := ⟨#[], 0, by simpa using heap_alloc_new w _, rfl⟩
  obtain ⟨w1, hw1, hM1, hk1, hB1⟩ := update_run (Pg := Tryd.prog) Tryd.underlying95 Tryd.underlying9 hm0 ⟨#[47]⟩ true
  have hb1 : Below w.heap.size w w1 := hB1 _ _ ((Below.refl _ _).alloc (Nat.le_refl _) _) (Nat.le_refl _)
  have HM1 := Aside0.mk hM1
  have HB1 := Aside0.mk hb1
  have HW := Aside0.mk hw1
  clear hA hall hlt0 hm0 hM1 hk1 hB1 hb1 hw1
  generalize hres : treeG P K D RF DF none [(⟨#[47]⟩, true)] xs = res
  have RES := Aside0.mk hres
  clear hres
  generalize hlen : xs.length = n at hn ⊢
  have HN := Aside0.mk hlen
  clear hlen
  go_enter Tryd.func49, Tryd.ntmps49
  go_wp2_with ((with_reducible refine gate_insert (t := 95) (m := .tmp 12) rfl ?_); refine hold ?_)
  unfold Hold
  refine wp_insert_run rfl _ _ _ _ rfl _ _ _ rfl rfl rfl w1 HW.out ?_
  go_wp2
  go_loopg [16] n (fun gg s16 wr => ∃ (j : Nat) (L : List (ByteArray × Bool)), s16 = .int .i64 j ∧ j ≤ n ∧ n - j ≤ gg ∧ Aside0 (Below w.heap.size w wr) ∧ Aside0 (MapB wr w.heap.size L) ∧ Aside0 (treeG P K D RF DF (if j = 0 then none else xs[j - 1]?) L (xs.drop j) = res))
  case atStart => exact ⟨0, _, rfl, by omega, by omega, HB1, HM1, RES⟩
  case round =>
    obtain ⟨j, L, rfl, hjn, hgg, BB, MM, RR⟩ := hrel
    by_cases hlt : j < n
    · have hltz : (j : Int) < (n : Int) := by omega
      obtain ⟨x, hx⟩ : ∃ x, xs[j]? = some x := ⟨_, List.getElem?_eq_getElem (by rw [HN.out]; exact hlt)⟩
      have hat := At3.below P K D HA.out BB.out
      obtain ⟨cc0, cc1, cc2⟩ := At3.get P K D hat hx
      obtain ⟨hrs, hds⟩ := HALL.out x (List.mem_of_getElem? hx)
      obtain ⟨r, hr⟩ := Option.isSome_iff_exists.1 hrs
      obtain ⟨⟨d1, d2, d3⟩, hd⟩ := Option.isSome_iff_exists.1 hds
      have hok : okB P K D RF x = r := by unfold okB; rw [hr]; rfl
      have hdir : dirB P DF x = d1 := by unfold dirB; rw [hd]; rfl
      have hdrop : xs.drop j = x :: xs.drop (j + 1) := by
        obtain ⟨h1, h2⟩ := List.getElem?_eq_some_iff.1 hx
        rw [List.drop_eq_getElem_cons h1, h2]
      have hrr := RR.out
      rw [hdrop, treeG] at hrr
      have hbad : badB P K D RF DF (if j = 0 then none else xs[j - 1]?) L x = (!r || decide (2 < K x) || !lk L d1 || (match (if j = 0 then none else xs[j - 1]?) with | some y => !Op.bytesLess (P y).data.toList (P x).data.toList | none => false)) := by unfold badB; rw [hok, hdir]
      rw [hbad] at hrr
      have RR2 := Aside0.mk hrr
      have HX := Aside0.mk hx
      have HR1 := Aside0.mk (hR (P x) (K x) (D x) r · hr)
      have HP1 := Aside0.mk (hP (P x) d1 d2 d3 · hd)
      have hlk : ∃ b, lk L d1 = b := ⟨_, rfl⟩
      obtain ⟨b, hlk⟩ := hlk
      rw [hlk] at RR2
      have HLK := Aside0.mk hlk
      have hkk : ∃ b, decide (2 < K x) = b := ⟨_, rfl⟩
      obtain ⟨bk, hkk⟩ := hkk
      rw [hkk] at RR2
      clear hx hrs hds hr hd hok hdir hdrop hrr hbad hlk RR
      have HAT := Aside0.mk hat
      clear hat
      go_wp2_with (go_at_call 34; refine hold ?_)
      unfold Hold
      refine (HP1.out _).mono ?_
      rintro e w2 ⟨v2, rfl, hb2⟩
      have hw : Below w.heap.size w w2 := (BB.out.alloc BB.out.size _).trans (hb2.mono (by simp; have := BB.out.size; omega))
      have hw2 : Below wr.heap.size wr w2 := ((Below.refl _ _).alloc (Nat.le_refl _) _).trans (hb2.mono (by simp))
      have hMM : MapB w2 w.heap.size L := (MM.out.below ((Below.refl _ _).alloc (Nat.le_refl _) _)).below hb2
      obtain ⟨b0, b1, b2⟩ := box3 hb2
      have k0 := cell_regrown b0
      have k1 := cell_regrown b1
      have k2 := cell_regrown b2
      have kl : ∀ d os, (Instr.lookup 95 (.map (some w.heap.size)) (.string d1) false).run Tryd.prog (Sort.grow (redrawn w2 d) os) = .ok (.bool b) (Sort.grow (redrawn w2 d) os) := fun d os => by
        rw [← HLK.out]
        exact lookup_run Tryd.underlying95 Tryd.underlying9 (fun w => by kernel_rfl) (hMM.below (below_regrown w2 d os)) d1
      have kr : ∀ d os, Calls Tryd.prog 23 #[.agg #[.string (P x), .int .i64 (K x), .string (D x)]] (Sort.grow (redrawn w2 d) os) fun e w'' => e = .returned (.bool r) ∧ ∃ p : Regrown, w'' = Sort.grow (redrawn w2 p.d) p.os := fun d os => Calls.regrown_of (HR1.out _)
      have B0 := Aside0.mk b0
      have B1 := Aside0.mk b1
      have B2 := Aside0.mk b2
      have HW2 := Aside0.mk hw
      have HWR := Aside0.mk hw2
      have HMM := Aside0.mk hMM
      have HMB : Aside0 (wr.heap.size ≠ w.heap.size) := ⟨by have := MM.out.lt; omega⟩
      clear hb2 hw hw2 hMM MM BB b0 b1 b2
      have hgo : ∀ w5, Below w2.heap.size w2 w5 → ∃ w6, (Instr.mapUpdate 95 (.map (some w.heap.size)) (.string (P x)) (.bool (K x == 2 || K x == 4))).run Tryd.prog w5 = .ok () w6 ∧ MapB w6 w.heap.size (up L (P x) (K x == 2 || K x == 4)) ∧ Below w.heap.size w w6 ∧ KB w5 w6 w.heap.size := fun w5 h5 => by
        obtain ⟨w6, e1, e2, e3, e4⟩ := update_run (Pg := Tryd.prog) Tryd.underlying95 Tryd.underlying9 (HMM.out.below h5) (P x) (K x == 2 || K x == 4)
        exact ⟨w6, e1, e2, e4 _ _ (HW2.out.trans (h5.mono HW2.out.size)) (Nat.le_refl _), e3⟩
      have HGO := Aside0.mk hgo
      clear hgo
      rcases Nat.eq_zero_or_pos j with hj0 | hj0
      · subst hj0
        have RR3 : Aside0 ((if (!r || bk || !b) = true then false else treeG P K D RF DF (some x) (up L (P x) (K x == 2 || K x == 4)) (xs.drop (0 + 1))) = res) := ⟨by have := RR2.out; simpa using this⟩
        clear RR2 HLK
        cases r with
        | false =>
          go_wp2
          refine wp_region_quiet_below (by kernel_rfl) (by kernel_rfl) ?_
          repeat (first | go_big_quiet_step (first | (go_at_call 23; exact kr _ _)) | quiet_step (first | (go_at_call 23; exact kr _ _)))
          refine wpQuiet_nil ?_
          intro _ hw'
          obtain ⟨⟨dq, osq⟩, hw''⟩ := hw'
          subst hw''
          have hre : false = res := by have := RR3.out; simpa using this
          subst hre
          go_wp2
          go_ret
          exact ⟨rfl, HW2.out.trans ((below_regrown w2 dq osq).mono HW2.out.size)⟩
        | true =>
          cases bk with
          | true =>
            go_wp2
            refine wp_region_quiet_below (by kernel_rfl) (by kernel_rfl) ?_
            repeat (first | go_big_quiet_step (first | (go_at_call 23; exact kr _ _)) | quiet_step (first | (go_at_call 23; exact kr _ _)))
            refine wpQuiet_nil ?_
            intro _ hw'
            obtain ⟨⟨dq, osq⟩, hw''⟩ := hw'
            subst hw''
            have hre : false = res := by have := RR3.out; simpa using this
            subst hre
            go_wp2
            go_ret
            exact ⟨rfl, HW2.out.trans ((below_regrown w2 dq osq).mono HW2.out.size)⟩
          | false =>
            cases b with
            | false =>
              go_wp2
              refine wp_region_quiet_below (by kernel_rfl) (by kernel_rfl) ?_
              repeat (first | go_big_quiet_step (first | (go_at_call 23; exact kr _ _)) | quiet_step (first | (go_at_call 23; exact kr _ _)))
              refine wpQuiet_nil ?_
              intro _ hw'
              obtain ⟨⟨dq, osq⟩, hw''⟩ := hw'
              subst hw''
              have hre : false = res := by have := RR3.out; simpa using this
              subst hre
              go_wp2
              go_ret
              exact ⟨rfl, HW2.out.trans ((below_regrown w2 dq osq).mono HW2.out.size)⟩
            | true =>
              go_wp2
              refine wp_region_quiet_below (by kernel_rfl) (by kernel_rfl) ?_
              repeat (first | go_big_quiet_step (first | (go_at_call 23; exact kr _ _)) | quiet_step (first | (go_at_call 23; exact kr _ _)))
              refine wpQuiet_nil ?_
              intro _ hw'
              obtain ⟨⟨dq, osq⟩, hw''⟩ := hw'
              subst hw''
              have HRE : Aside0 (treeG P K D RF DF (some x) (up L (P x) (K x == 2 || K x == 4)) (xs.drop (0 + 1)) = res) := ⟨by have := RR3.out; simpa using this⟩
              have hbq := below_regrown w2 dq osq
              have g0 := pw_cell_below hbq B0.out
              have g1 := pw_cell_below hbq B1.out
              have g2 := pw_cell_below hbq B2.out
              have HBQ := Aside0.mk hbq
              clear hbq k0 k1 k2 kl kr 
              generalize Sort.grow (redrawn w2 dq) osq = w3 at HBQ g0 g1 g2 ⊢
              go_wp2
              have hBD : Below w2.heap.size w2 w3.drew := below_drew HBQ.out
              have hmb := HMB.out
              go_region_held3 (fun W => W.cell? ⟨wr.heap.size, 0, none⟩ = some (.string (P x)) ∧ W.cell? ⟨wr.heap.size, 1, none⟩ = some (.int .i64 (K x)) ∧ W.cell? ⟨wr.heap.size, 2, none⟩ = some (.string (D x))) (first | exact ⟨g0, g1, g2⟩ | exact ⟨pw_cell_below hb4 g0, pw_cell_below hb4 g1, pw_cell_below hb4 g2⟩ | exact ⟨e4.cell (pw_cell_below hb4 g0) hmb, e4.cell (pw_cell_below hb4 g1) hmb, e4.cell (pw_cell_below hb4 g2) hmb⟩)
                  (first | (go_at_call 42; refine (holds3 _ _ _ _).mono ?_; rintro e w4 ⟨rfl, hb4⟩; obtain ⟨w6, e1, e2, e3, e4⟩ := HGO.out w4 (hBD.trans (hb4.mono hBD.size)); have E2 := Aside0.mk e2; have E3 := Aside0.mk e3; clear e2 e3))
              go_wp2
              go_roundg (n - (0 + 1))
              case measure => omega
              case rel => exact ⟨0 + 1, _, by go_num, by omega, Nat.le_refl _, E3, E2, ⟨by rw [if_neg (by omega)]; show treeG P K D RF DF xs[0]? _ _ = res; rw [HX.out]; exact HRE.out⟩⟩
      · have hj1 : (0 : Int) < (j : Int) := by omega
        have hj2 : ¬ j = 0 := by omega
        have hj3 : IntKind.i64.wrap ((j : Int) - 1) = (j : Int) - 1 := IntWalk.i64_in _ (by omega)
        have hj4 : (0 : Int) ≤ (j : Int) - 1 := by omega
        have hj5 : (j : Int) - 1 < (n : Int) := by omega
        have hj6 : ((j : Int) - 1).toNat = j - 1 := by omega
        obtain ⟨y, hy⟩ : ∃ y, xs[j - 1]? = some y := ⟨_, List.getElem?_eq_getElem (by rw [HN.out]; omega)⟩
        obtain ⟨p0, p1, p2⟩ := At3.get P K D (At3.below P K D HAT.out HWR.out) hy
        have q0 := cell_regrown p0
        have q1 := cell_regrown p1
        have q2 := cell_regrown p2
        have hls : ∃ s, Op.bytesLess (P y).data.toList (P x).data.toList = s := ⟨_, rfl⟩
        obtain ⟨ls, hls⟩ := hls
        have kls : ∀ d os, Calls Tryd.prog 27 #[.agg #[.string (P y), .int .i64 (K y), .string (D y)], .agg #[.string (P x), .int .i64 (K x), .string (D x)]] (Sort.grow (redrawn w2 d) os) fun e w'' => e = .returned (.bool ls) ∧ ∃ p : Regrown, w'' = Sort.grow (redrawn w2 p.d) p.os := fun d os => Calls.regrown_of (by have := less3 (P y) (P x) (K y) (K x) (D y) (D x) (Sort.grow (redrawn w2 d) os); rwa [hls] at this)
        have RR3 : Aside0 ((if (!r || bk || !b || !ls) = true then false else treeG P K D RF DF (some x) (up L (P x) (K x == 2 || K x == 4)) (xs.drop (j + 1))) = res) := ⟨by have := RR2.out; rw [if_neg hj2, hy] at this; simp only [hls] at this; exact this⟩
        clear RR2 HLK hy p0 p1 p2 hls
        cases r with
        | false =>
          go_wp2
          refine wp_region_quiet_below (by kernel_rfl) (by kernel_rfl) ?_
          repeat (first | go_big_quiet_step (first | (go_at_call 23; exact kr _ _) | (go_at_call 27; exact kls _ _)) | quiet_step (first | (go_at_call 23; exact kr _ _) | (go_at_call 27; exact kls _ _)))
          refine wpQuiet_nil ?_
          intro _ hw'
          obtain ⟨⟨dq, osq⟩, hw''⟩ := hw'
          subst hw''
          have hre : false = res := by have := RR3.out; simpa using this
          subst hre
          go_wp2
          go_ret
          exact ⟨rfl, HW2.out.trans ((below_regrown w2 dq osq).mono HW2.out.size)⟩
        | true =>
          cases bk with
          | true =>
            go_wp2
            refine wp_region_quiet_below (by kernel_rfl) (by kernel_rfl) ?_
            repeat (first | go_big_quiet_step (first | (go_at_call 23; exact kr _ _) | (go_at_call 27; exact kls _ _)) | quiet_step (first | (go_at_call 23; exact kr _ _) | (go_at_call 27; exact kls _ _)))
            refine wpQuiet_nil ?_
            intro _ hw'
            obtain ⟨⟨dq, osq⟩, hw''⟩ := hw'
            subst hw''
            have hre : false = res := by have := RR3.out; simpa using this
            subst hre
            go_wp2
            go_ret
            exact ⟨rfl, HW2.out.trans ((below_regrown w2 dq osq).mono HW2.out.size)⟩
          | false =>
            cases b with
            | false =>
              go_wp2
              refine wp_region_quiet_below (by kernel_rfl) (by kernel_rfl) ?_
              repeat (first | go_big_quiet_step (first | (go_at_call 23; exact kr _ _) | (go_at_call 27; exact kls _ _)) | quiet_step (first | (go_at_call 23; exact kr _ _) | (go_at_call 27; exact kls _ _)))
              refine wpQuiet_nil ?_
              intro _ hw'
              obtain ⟨⟨dq, osq⟩, hw''⟩ := hw'
              subst hw''
              have hre : false = res := by have := RR3.out; simpa using this
              subst hre
              go_wp2
              go_ret
              exact ⟨rfl, HW2.out.trans ((below_regrown w2 dq osq).mono HW2.out.size)⟩
            | true =>
              cases ls with
              | false =>
                go_wp2
                refine wp_region_quiet_below (by kernel_rfl) (by kernel_rfl) ?_
                repeat (first | go_big_quiet_step (first | (go_at_call 23; exact kr _ _) | (go_at_call 27; exact kls _ _)) | quiet_step (first | (go_at_call 23; exact kr _ _) | (go_at_call 27; exact kls _ _)))
                refine wpQuiet_nil ?_
                intro _ hw'
                obtain ⟨⟨dq, osq⟩, hw''⟩ := hw'
                subst hw''
                have hre : false = res := by have := RR3.out; simpa using this
                subst hre
                go_wp2
                go_ret
                exact ⟨rfl, HW2.out.trans ((below_regrown w2 dq osq).mono HW2.out.size)⟩
              | true =>
                go_wp2
                refine wp_region_quiet_below (by kernel_rfl) (by kernel_rfl) ?_
                repeat (first | go_big_quiet_step (first | (go_at_call 23; exact kr _ _) | (go_at_call 27; exact kls _ _)) | quiet_step (first | (go_at_call 23; exact kr _ _) | (go_at_call 27; exact kls _ _)))
                refine wpQuiet_nil ?_
                intro _ hw'
                obtain ⟨⟨dq, osq⟩, hw''⟩ := hw'
                subst hw''
                have HRE : Aside0 (treeG P K D RF DF (some x) (up L (P x) (K x == 2 || K x == 4)) (xs.drop (j + 1)) = res) := ⟨by have := RR3.out; simpa using this⟩
                have hbq := below_regrown w2 dq osq
                have g0 := pw_cell_below hbq B0.out
                have g1 := pw_cell_below hbq B1.out
                have g2 := pw_cell_below hbq B2.out
                have HBQ := Aside0.mk hbq
                clear hbq k0 k1 k2 kl kr kls q0 q1 q2
                generalize Sort.grow (redrawn w2 dq) osq = w3 at HBQ g0 g1 g2 ⊢
                go_wp2
                have hBD : Below w2.heap.size w2 w3.drew := below_drew HBQ.out
                have hmb := HMB.out
                go_region_held3 (fun W => W.cell? ⟨wr.heap.size, 0, none⟩ = some (.string (P x)) ∧ W.cell? ⟨wr.heap.size, 1, none⟩ = some (.int .i64 (K x)) ∧ W.cell? ⟨wr.heap.size, 2, none⟩ = some (.string (D x))) (first | exact ⟨g0, g1, g2⟩ | exact ⟨pw_cell_below hb4 g0, pw_cell_below hb4 g1, pw_cell_below hb4 g2⟩ | exact ⟨e4.cell (pw_cell_below hb4 g0) hmb, e4.cell (pw_cell_below hb4 g1) hmb, e4.cell (pw_cell_below hb4 g2) hmb⟩)
                    (first | (go_at_call 42; refine (holds3 _ _ _ _).mono ?_; rintro e w4 ⟨rfl, hb4⟩; obtain ⟨w6, e1, e2, e3, e4⟩ := HGO.out w4 (hBD.trans (hb4.mono hBD.size)); have E2 := Aside0.mk e2; have E3 := Aside0.mk e3; clear e2 e3))
                go_wp2
                go_roundg (n - (j + 1))
                case measure => omega
                case rel => exact ⟨j + 1, _, by go_num, by omega, Nat.le_refl _, E3, E2, ⟨by rw [if_neg (by omega)]; show treeG P K D RF DF xs[j]? _ _ = res; rw [HX.out]; exact HRE.out⟩⟩
    · obtain rfl : j = n := by omega
      have hre : true = res := by
        have := RR.out
        rwa [List.drop_eq_nil_of_le (by rw [HN.out]; omega), treeG] at this
      subst hre
      go_wp2
      go_ret
      exact ⟨rfl, BB.out⟩
set_option maxHeartbeats 4000000 in
set_option maxRecDepth 100000 in
theorem tree_zero (A : Option Addr) (c : Nat) (w : World) : Calls Tryd.prog 49 #[.slice A 0 c] w fun e w' => e = .returned (.bool true) ∧ Below w.heap.size w w' := by
  have hmm := @run_makeMap Tryd.prog
  have hm0 : MapB (w.alloc (.map #[] 0)) w.heap.size [] := ⟨#[], 0, by simpa using heap_alloc_new w _, rfl⟩
  obtain ⟨w1, hw1, hM1, hk1, hB1⟩ := update_run (Pg := Tryd.prog) Tryd.underlying95 Tryd.underlying9 hm0 ⟨#[47]⟩ true
  have hb1 : Below w.heap.size w w1 := hB1 _ _ ((Below.refl _ _).alloc (Nat.le_refl _) _) (Nat.le_refl _)
  have HB1 := Aside0.mk hb1
  have HW := Aside0.mk hw1
  clear hm0 hM1 hk1 hB1 hb1 hw1
  go_enter Tryd.func49, Tryd.ntmps49
  go_wp2_with ((with_reducible refine gate_insert (t := 95) (m := .tmp 12) rfl ?_); refine hold ?_)
  unfold Hold
  refine wp_insert_run rfl _ _ _ _ rfl _ _ _ rfl rfl rfl w1 HW.out ?_
  go_wp2
  refine wp_loop_rounds 1 ?_
  rw [rounds_succ]
  go_wp2
  go_ret
  exact ⟨rfl, HB1.out⟩
set_option maxHeartbeats 4000000 in
theorem tree_many (A : Option Addr) (n c : Nat) (w : World) (h : 1024 < n) (hn : n ≤ 9223372036854775807) : Calls Tryd.prog 49 #[.slice A n c] w fun e w' => e = .returned (.bool false) ∧ Below w.heap.size w w' := by
  have h1 : decide (1024 < (n : Int)) = true := decide_eq_true (by omega)
  go_enter Tryd.func49, Tryd.ntmps49
  go_wp2
  go_ret
  exact ⟨rfl, Below.refl _ _⟩
/-- fold.Tree. -/
theorem tree3 (hR : RightOk RF) (hP : ParentOk DF) (A : Option Addr) (c : Nat) (xs : List α) (w : World) (hC : Kd.C (kd3 P K D) w A xs.length xs) (hall : ∀ x ∈ xs, (RF (P x) (K x) (D x)).isSome = true ∧ (DF (P x)).isSome = true) :
    Calls Tryd.prog 49 #[.slice A xs.length c] w fun e w' => e = .returned (.bool (treeF P K D RF DF xs)) ∧ Below w.heap.size w w' := by
  unfold treeF
  split
  · rename_i h
    exact tree_many A xs.length c w h hC.2.1
  · rename_i h
    cases xs with
    | nil => exact tree_zero A c w
    | cons x r =>
      obtain ⟨ad, rfl, hc⟩ := C_cells (flat3 P K D) hC (by simp)
      have h0 := hc 0 (.string (P x)) rfl
      have hlt := World.block_lt_of_cell? w _ h0
      rw [add_block] at hlt
      exact tree_at P K D RF DF hR hP ad c (x :: r) w hc hlt (by omega) hall
end
end Go.Proofs.YtklcceccadlgkaaDoor.Print
