-- Written by pr.py out of the translation (no hand typed it); Lean checks it.
import Derived.Test.YtklcceccadlgkaaDoorPrint0
import Derived.Test.YtklcceccadlgkaaDoorPrint1
import Derived.Test.YtklcceccadlgkaaDoorPrint2
import Derived.Test.YtklcceccadlgkaaDoorPrint3
namespace Go.Proofs.YtklcceccadlgkaaDoor.Print
open Go.RowKit Go.Proofs.YtklcceccadlgkaaDoorW.PrintWords Go.Proofs.YtklcceccadlgkaaDoorW.PrintLast Go.Proofs.YtklcceccadlgkaaDoorW.PrintMore
attribute [local go_sem] max2_int min2_int max_two min_two max_three min_three max_four min_four   -- for this text's walks alone
set_option linter.unusedVariables false
set_option linter.unusedSimpArgs false

attribute [local go_sem high] eqA23
/-! ### shalelaw08_EntryOnly: function 12 -/
def shalelaw08_EntryOnly.j0 : Nat → ByteArray → Bool → Option (Bool)
  | 0, _, _ => none
  | k + 1, x0, x14 => if x14 = true then ((shalelaw08_awake.f k).bind fun t184 => (some t184)) else ((code_New.f x0).bind fun bt185 => ((entry_Read.f bt185.1 bt185.2).bind fun bt188 => ((fail_Code.f bt188.2.2.2.1).bind fun t197 => (if t197 = 0 then ((entry_Lay.f k bt188.1 bt188.2.1 bt188.2.2.1).bind fun bt198 => ((fail_Code.f bt198.2).bind fun t202 => (if t202 = 0 then ((code_Reader_Left.f bt188.2.2.2.2.1 bt188.2.2.2.2.2).bind fun bt203 => (if (bt198.1.size : Int) = (wrap64 ((x0.size : Int) - bt203.1)) then (if 0 ≤ (bt198.1.size : Int) then (if (bt198.1.size : Int) ≤ (x0.size : Int) then (some ((x0.extract 0 ((bt198.1.size : Int) : Int).toNat).toList == bt198.1.toList)) else (none)) else (none)) else (some false))) else (some false)))) else ((fail_Code.f bt188.2.2.2.1).bind fun t206 => (if t206 = 13 then (some (bt188.1.toList == ([] : List UInt8) && (bt188.2.1 == 0 && (bt188.2.2.1.toList == ([] : List UInt8))))) else (some false)))))))
def shalelaw08_EntryOnly.f (k : Nat) (a0 : ByteArray) : Option (Bool) := (shalelaw08_awake.f k).bind fun t183 => (if t183 = true then (shalelaw08_EntryOnly.j0 k a0 (decide ((a0.size : Int) > 600))) else (shalelaw08_EntryOnly.j0 k a0 true))
theorem shalelaw08_EntryOnly.mono_l : ∀ k, (∀ y0 y1, LeO (shalelaw08_EntryOnly.j0 k y0 y1) (shalelaw08_EntryOnly.j0 (k + 1) y0 y1))
  | 0 => fun _ _ r h => by simp [shalelaw08_EntryOnly.j0] at h
  | k + 1 => by
    have ih0 := shalelaw08_EntryOnly.mono_l k
    · intro y0 y1
      unfold shalelaw08_EntryOnly.j0
      repeat' first
      | (with_reducible exact ih0 _ _)
      | (with_reducible exact entry_Lay.mono _ _ _ _)
      | (with_reducible exact shalelaw08_awake.mono _)
      | (with_reducible exact LeO.refl _)
      | (with_reducible exact LeO.none _)
      | (with_reducible refine LeO.ite ?_ ?_)
      | (with_reducible refine LeO.bind ?_ (fun _ => ?_))
      | exact ih0 _ _
      | exact entry_Lay.mono _ _ _ _
      | exact shalelaw08_awake.mono _
      | exact LeO.none _
      | refine LeO.ite ?_ ?_
      | refine LeO.bind ?_ (fun _ => ?_)
theorem shalelaw08_EntryOnly.mono : ∀ a0 k, LeO (shalelaw08_EntryOnly.f k a0) (shalelaw08_EntryOnly.f (k + 1) a0) := by
  intro a0 k
  have ih0 := shalelaw08_EntryOnly.mono_l k
  unfold shalelaw08_EntryOnly.f
  repeat' first
      | (with_reducible exact ih0 _ _)
      | (with_reducible exact entry_Lay.mono _ _ _ _)
      | (with_reducible exact shalelaw08_awake.mono _)
      | (with_reducible exact LeO.refl _)
      | (with_reducible exact LeO.none _)
      | (with_reducible refine LeO.ite ?_ ?_)
      | (with_reducible refine LeO.bind ?_ (fun _ => ?_))
      | exact ih0 _ _
      | exact entry_Lay.mono _ _ _ _
      | exact shalelaw08_awake.mono _
      | exact LeO.none _
      | refine LeO.ite ?_ ?_
      | refine LeO.bind ?_ (fun _ => ?_)
set_option maxHeartbeats 8000000 in
set_option maxRecDepth 100000 in
theorem shalelaw08_EntryOnly.calls (k : Nat) (a0 : ByteArray) (r : Bool) (w : World) (hG : Gl w) (h : shalelaw08_EntryOnly.f k a0 = some r) :
    Calls Tryd.prog 12 #[.string a0] w fun e w' => e = .returned (.bool r) ∧ Below w.heap.size w w' := by
  have hu23 := Tryd.underlying23
  have HB := Aside0.mk (Below.refl w.heap.size w)
  have HG_ := Aside0.mk hG
  clear hG
  have H : ((shalelaw08_awake.f k).bind fun t183 => (if t183 = true then (shalelaw08_EntryOnly.j0 k a0 (decide ((a0.size : Int) > 600))) else (shalelaw08_EntryOnly.j0 k a0 true))) = some r := h
  clear h
  have HC2 := Aside0.mk H
  clear H
  go_enter Tryd.func12, Tryd.ntmps12
  go_upto_region 1 with (fail)
  go_cut [14] (fun v14 wc => ∃ (kq : Nat) (x14_1 : Bool), v14 = .bool x14_1 ∧ Aside0 (shalelaw08_EntryOnly.j0 kq a0 x14_1 = some r) ∧ Aside0 (kq ≤ k) ∧ Aside0 (Below w.heap.size w wc))
  case first =>
    have H := HC2.out
    clear HC2
    replace H := Option.bind_eq_some_iff.mp H
    obtain ⟨t183, A30, H⟩ := H
    replace H : (if t183 = true then (shalelaw08_EntryOnly.j0 k a0 (decide ((a0.size : Int) > 600))) else (shalelaw08_EntryOnly.j0 k a0 true)) = some r := H
    have A3 := Aside0.mk A30
    clear A30
    by_cases c4 : t183 = true
    · subst c4
      have H1 : (shalelaw08_EntryOnly.j0 k a0 (decide ((a0.size : Int) > 600))) = some r := by rw [if_pos rfl] at H; exact H
      clear H
      have H := H1
      clear H1
      have H' := Aside0.mk H
      clear H
      go_wp2_with (first | ((with_reducible refine gate_callee (f := 21) rfl ?_); refine goesL_ (some 8) rfl rfl Tryd.func21 (by kernel_rfl) rfl #[] rfl (by (try simp only [List.map_toArray, List.map_cons, List.map_nil]); first | done | rfl | (simp only [List.length_drop, List.length_take]; rfl)) ?_; (with_reducible refine (shalelaw08_awake.calls k  true _ ?side1 A3.out).mono ?_); (case side1 => exact Gl.below HG_.out (by repeat (first | (with_reducible first | exact HB.out | apply below_alloc | apply pw_below_drewN | apply below_drew1) | exact HB.out))); rintro e w5 ⟨rfl, hb⟩; refine ⟨_, rfl, ?_⟩; have n0_ := Aside0.mk (below_step (by repeat (first | (with_reducible first | exact HB.out | apply below_alloc | apply pw_below_drewN | apply below_drew1) | exact HB.out)) hb); clear HB; have HB := n0_; clear n0_; (try clear hb); (try clear hb2); (try clear hk); (try clear hi)))
      go_meet
      case rel => exact ⟨_, (decide ((a0.size : Int) > 600)), (by first | rfl | (simp; done) | (simp [*]; done)), H', ⟨by first | omega | exact Nat.le_refl _⟩, ⟨by repeat (first | (with_reducible first | exact HB.out | apply below_alloc | apply pw_below_drewN | apply below_drew1) | exact HB.out)⟩⟩
    · replace c4 := Bool.eq_false_iff.mpr c4
      subst c4
      have H1 : (shalelaw08_EntryOnly.j0 k a0 true) = some r := by rw [if_neg (show ¬ (false = true) by decide)] at H; exact H
      clear H
      have H := H1
      clear H1
      have H' := Aside0.mk H
      clear H
      go_wp2_with (first | ((with_reducible refine gate_callee (f := 21) rfl ?_); refine goesL_ (some 8) rfl rfl Tryd.func21 (by kernel_rfl) rfl #[] rfl (by (try simp only [List.map_toArray, List.map_cons, List.map_nil]); first | done | rfl | (simp only [List.length_drop, List.length_take]; rfl)) ?_; (with_reducible refine (shalelaw08_awake.calls k  false _ ?side1 A3.out).mono ?_); (case side1 => exact Gl.below HG_.out (by repeat (first | (with_reducible first | exact HB.out | apply below_alloc | apply pw_below_drewN | apply below_drew1) | exact HB.out))); rintro e w6 ⟨rfl, hb⟩; refine ⟨_, rfl, ?_⟩; have n0_ := Aside0.mk (below_step (by repeat (first | (with_reducible first | exact HB.out | apply below_alloc | apply pw_below_drewN | apply below_drew1) | exact HB.out)) hb); clear HB; have HB := n0_; clear n0_; (try clear hb); (try clear hb2); (try clear hk); (try clear hi)))
      go_meet
      case rel => exact ⟨_, (true), (by first | rfl | (simp; done) | (simp [*]; done)), H', ⟨by first | omega | exact Nat.le_refl _⟩, ⟨by repeat (first | (with_reducible first | exact HB.out | apply below_alloc | apply pw_below_drewN | apply below_drew1) | exact HB.out)⟩⟩
  case rest =>
    clear HC2
    try clear c1
    try clear c2
    try clear p2
    try clear c4
    obtain ⟨kq, x14_1, rfl, HA, HJ1, HB⟩ := hcut
    cases kq with
    | zero => exact absurd HA.out (by simp [shalelaw08_EntryOnly.j0])
    | succ kj1 =>
      have H := HA.out
      clear HA
      simp only [shalelaw08_EntryOnly.j0] at H
      by_cases c7 : x14_1 = true
      · subst c7
        have H1 : ((shalelaw08_awake.f kj1).bind fun t184 => (some t184)) = some r := by rw [if_pos rfl] at H; exact H
        clear H
        have H := H1
        clear H1
        replace H := Option.bind_eq_some_iff.mp H
        obtain ⟨t184, A80, H⟩ := H
        replace H : (some t184) = some r := H
        have A8 := Aside0.mk A80
        clear A80
        obtain rfl := Option.some.inj H
        go_wp2_with (first | ((with_reducible refine gate_callee (f := 21) rfl ?_); refine goesL_ (some 15) rfl rfl Tryd.func21 (by kernel_rfl) rfl #[] rfl (by (try simp only [List.map_toArray, List.map_cons, List.map_nil]); first | done | rfl | (simp only [List.length_drop, List.length_take]; rfl)) ?_; (with_reducible refine (shalelaw08_awake.calls kj1  t184 _ ?side1 A8.out).mono ?_); (case side1 => exact Gl.below HG_.out (by repeat (first | (with_reducible first | exact HB.out | apply below_alloc | apply pw_below_drewN | apply below_drew1) | exact HB.out))); rintro e w9 ⟨rfl, hb⟩; refine ⟨_, rfl, ?_⟩; have n0_ := Aside0.mk (below_step (by repeat (first | (with_reducible first | exact HB.out | apply below_alloc | apply pw_below_drewN | apply below_drew1) | exact HB.out)) hb); clear HB; have HB := n0_; clear n0_; (try clear hb); (try clear hb2); (try clear hk); (try clear hi)))
        go_ret
        exact ⟨by first | rfl | (simp [errW_none, errW_some] <;> rfl) | (simp [*, errW_none, errW_some] <;> rfl), by repeat (first | (with_reducible first | exact HB.out | apply below_alloc | apply pw_below_drewN | apply below_drew1) | exact HB.out)⟩
      · replace c7 := Bool.eq_false_iff.mpr c7
        subst c7
        have H1 : ((code_New.f a0).bind fun bt185 => ((entry_Read.f bt185.1 bt185.2).bind fun bt188 => ((fail_Code.f bt188.2.2.2.1).bind fun t197 => (if t197 = 0 then ((entry_Lay.f kj1 bt188.1 bt188.2.1 bt188.2.2.1).bind fun bt198 => ((fail_Code.f bt198.2).bind fun t202 => (if t202 = 0 then ((code_Reader_Left.f bt188.2.2.2.2.1 bt188.2.2.2.2.2).bind fun bt203 => (if (bt198.1.size : Int) = (wrap64 ((a0.size : Int) - bt203.1)) then (if 0 ≤ (bt198.1.size : Int) then (if (bt198.1.size : Int) ≤ (a0.size : Int) then (some ((a0.extract 0 ((bt198.1.size : Int) : Int).toNat).toList == bt198.1.toList)) else (none)) else (none)) else (some false))) else (some false)))) else ((fail_Code.f bt188.2.2.2.1).bind fun t206 => (if t206 = 13 then (some (bt188.1.toList == ([] : List UInt8) && (bt188.2.1 == 0 && (bt188.2.2.1.toList == ([] : List UInt8))))) else (some false))))))) = some r := by rw [if_neg (show ¬ (false = true) by decide)] at H; exact H
        clear H
        have H := H1
        clear H1
        replace H := Option.bind_eq_some_iff.mp H
        obtain ⟨⟨t185, t186⟩, A100, H⟩ := H
        replace H : ((entry_Read.f t185 t186).bind fun bt188 => ((fail_Code.f bt188.2.2.2.1).bind fun t197 => (if t197 = 0 then ((entry_Lay.f kj1 bt188.1 bt188.2.1 bt188.2.2.1).bind fun bt198 => ((fail_Code.f bt198.2).bind fun t202 => (if t202 = 0 then ((code_Reader_Left.f bt188.2.2.2.2.1 bt188.2.2.2.2.2).bind fun bt203 => (if (bt198.1.size : Int) = (wrap64 ((a0.size : Int) - bt203.1)) then (if 0 ≤ (bt198.1.size : Int) then (if (bt198.1.size : Int) ≤ (a0.size : Int) then (some ((a0.extract 0 ((bt198.1.size : Int) : Int).toNat).toList == bt198.1.toList)) else (none)) else (none)) else (some false))) else (some false)))) else ((fail_Code.f bt188.2.2.2.1).bind fun t206 => (if t206 = 13 then (some (bt188.1.toList == ([] : List UInt8) && (bt188.2.1 == 0 && (bt188.2.2.1.toList == ([] : List UInt8))))) else (some false)))))) = some r := H
        have A10 := Aside0.mk A100
        clear A100
        replace H := Option.bind_eq_some_iff.mp H
        obtain ⟨⟨t188, t189, t190, t191, t194, t195⟩, A110, H⟩ := H
        replace H : ((fail_Code.f t191).bind fun t197 => (if t197 = 0 then ((entry_Lay.f kj1 t188 t189 t190).bind fun bt198 => ((fail_Code.f bt198.2).bind fun t202 => (if t202 = 0 then ((code_Reader_Left.f t194 t195).bind fun bt203 => (if (bt198.1.size : Int) = (wrap64 ((a0.size : Int) - bt203.1)) then (if 0 ≤ (bt198.1.size : Int) then (if (bt198.1.size : Int) ≤ (a0.size : Int) then (some ((a0.extract 0 ((bt198.1.size : Int) : Int).toNat).toList == bt198.1.toList)) else (none)) else (none)) else (some false))) else (some false)))) else ((fail_Code.f t191).bind fun t206 => (if t206 = 13 then (some (t188.toList == ([] : List UInt8) && (t189 == 0 && (t190.toList == ([] : List UInt8))))) else (some false))))) = some r := H
        have A11 := Aside0.mk A110
        clear A110
        replace H := Option.bind_eq_some_iff.mp H
        obtain ⟨t197, A120, H⟩ := H
        replace H : (if t197 = 0 then ((entry_Lay.f kj1 t188 t189 t190).bind fun bt198 => ((fail_Code.f bt198.2).bind fun t202 => (if t202 = 0 then ((code_Reader_Left.f t194 t195).bind fun bt203 => (if (bt198.1.size : Int) = (wrap64 ((a0.size : Int) - bt203.1)) then (if 0 ≤ (bt198.1.size : Int) then (if (bt198.1.size : Int) ≤ (a0.size : Int) then (some ((a0.extract 0 ((bt198.1.size : Int) : Int).toNat).toList == bt198.1.toList)) else (none)) else (none)) else (some false))) else (some false)))) else ((fail_Code.f t191).bind fun t206 => (if t206 = 13 then (some (t188.toList == ([] : List UInt8) && (t189 == 0 && (t190.toList == ([] : List UInt8))))) else (some false)))) = some r := H
        have A12 := Aside0.mk A120
        clear A120
        by_cases c13 : t197 = 0
        · rw [if_pos c13] at H
          have c13b0 : (t197 == 0) = true := beq_iff_eq.mpr c13
          have c13b1 : (t197 != 0) = false := bne_eq_false_iff_eq.mpr c13
          clear c13
          replace H := Option.bind_eq_some_iff.mp H
          obtain ⟨⟨t198, t199⟩, A140, H⟩ := H
          replace H : ((fail_Code.f t199).bind fun t202 => (if t202 = 0 then ((code_Reader_Left.f t194 t195).bind fun bt203 => (if (t198.size : Int) = (wrap64 ((a0.size : Int) - bt203.1)) then (if 0 ≤ (t198.size : Int) then (if (t198.size : Int) ≤ (a0.size : Int) then (some ((a0.extract 0 ((t198.size : Int) : Int).toNat).toList == t198.toList)) else (none)) else (none)) else (some false))) else (some false))) = some r := H
          have A14 := Aside0.mk A140
          clear A140
          replace H := Option.bind_eq_some_iff.mp H
          obtain ⟨t202, A150, H⟩ := H
          replace H : (if t202 = 0 then ((code_Reader_Left.f t194 t195).bind fun bt203 => (if (t198.size : Int) = (wrap64 ((a0.size : Int) - bt203.1)) then (if 0 ≤ (t198.size : Int) then (if (t198.size : Int) ≤ (a0.size : Int) then (some ((a0.extract 0 ((t198.size : Int) : Int).toNat).toList == t198.toList)) else (none)) else (none)) else (some false))) else (some false)) = some r := H
          have A15 := Aside0.mk A150
          clear A150
          by_cases c16 : t202 = 0
          · rw [if_pos c16] at H
            have c16b0 : (t202 == 0) = true := beq_iff_eq.mpr c16
            have c16b1 : (t202 != 0) = false := bne_eq_false_iff_eq.mpr c16
            clear c16
            replace H := Option.bind_eq_some_iff.mp H
            obtain ⟨⟨t203, t204, t205⟩, A170, H⟩ := H
            replace H : (if (t198.size : Int) = (wrap64 ((a0.size : Int) - t203)) then (if 0 ≤ (t198.size : Int) then (if (t198.size : Int) ≤ (a0.size : Int) then (some ((a0.extract 0 ((t198.size : Int) : Int).toNat).toList == t198.toList)) else (none)) else (none)) else (some false)) = some r := H
            have A17 := Aside0.mk A170
            clear A170
            by_cases c18 : (t198.size : Int) = (wrap64 ((a0.size : Int) - t203))
            · rw [if_pos c18] at H
              have c18b0 : ((t198.size : Int) == (wrap64 ((a0.size : Int) - t203))) = true := beq_iff_eq.mpr c18
              have c18b1 : ((t198.size : Int) != (wrap64 ((a0.size : Int) - t203))) = false := bne_eq_false_iff_eq.mpr c18
              clear c18
              by_cases c19 : 0 ≤ (t198.size : Int)
              · rw [if_pos c19] at H
                have c19b0 := eq_true c19
                have c19b1 : decide (0 ≤ (t198.size : Int)) = true := decide_eq_true c19
                clear c19
                by_cases c20 : (t198.size : Int) ≤ (a0.size : Int)
                · rw [if_pos c20] at H
                  have c20b0 := eq_true c20
                  have c20b1 : decide ((t198.size : Int) ≤ (a0.size : Int)) = true := decide_eq_true c20
                  clear c20
                  obtain rfl := Option.some.inj H
                  go_wp2_with (first | ((with_reducible refine gate_callee (f := 37) rfl ?_); refine goesL_ (some 17) rfl rfl Tryd.func37 (by kernel_rfl) rfl #[.string a0] rfl (by (try simp only [List.map_toArray, List.map_cons, List.map_nil]); first | done | rfl | (simp only [List.length_drop, List.length_take]; rfl)) ?_; (with_reducible refine (code_New.calls a0 t185 t186 w _ ?side1 A10.out).mono ?_); (case side1 => repeat (first | (with_reducible first | exact HB.out | apply below_alloc | apply pw_below_drewN | apply below_drew1) | exact HB.out)); rintro e w21 ⟨g187, rfl, hi, hb, hb2⟩; refine ⟨_, rfl, ?_⟩; have n0_ := Aside0.mk (hb); have n1_ := Aside0.mk (hi); clear HB; have HB := n0_; have HI187 := n1_; clear n0_ n1_; (try clear hb); (try clear hb2); (try clear hk); (try clear hi)) | ((with_reducible refine gate_callee (f := 38) rfl ?_); refine goesL_ (some 20) rfl rfl Tryd.func38 (by kernel_rfl) rfl #[.pointer (some ⟨g187, 0, none⟩)] rfl (by (try simp only [List.map_toArray, List.map_cons, List.map_nil]); first | done | rfl | (simp only [List.length_drop, List.length_take]; rfl)) ?_; (with_reducible refine (entry_Read.calls g187 t185 t186 t188 t189 t190 t191 t194 t195 w _ ?side1 ?side2 A11.out).mono ?_); (case side1 => repeat (first | (with_reducible first | exact HI187.out | apply IsS89.alloc | apply IsS89.drewN | apply IsS89.drew | apply IsS89.set_0 | apply IsS89.set_1) | exact HI187.out)); (case side2 => repeat (first | (with_reducible first | exact HB.out | apply below_alloc | apply pw_below_drewN | apply below_drew1 | refine below_set ?_ (IsS89.ge HI187.out)) | exact HB.out)); rintro e w22 ⟨v192, rfl, ho0, hi, hb, hk⟩; refine ⟨_, rfl, ?_⟩; have n0_ := Aside0.mk (Kd.R_lower ho0 (below_size (by repeat (first | (with_reducible first | exact HB.out | apply below_alloc | apply pw_below_drewN | apply below_drew1 | refine below_set ?_ (IsS89.ge HI187.out)) | exact HB.out)))); have n1_ := Aside0.mk (hb); have n2_ := Aside0.mk (hi); clear HB; clear HI187; have HO193 := n0_; have HB := n1_; have HI187 := n2_; clear n0_ n1_ n2_; (try clear hb); (try clear hb2); (try clear hk); (try clear hi); (try clear ho0); have hE_v192 := errNil_of HO193.out) | ((with_reducible refine gate_dst (N := 4) rfl ?_); (try (refine gate_guard (by rfl) ?_; dsimp only)); refine box_event ?hg (N := 4) ?hd (cs := #[.string (⟨#[]⟩ : ByteArray), .int .i64 0, .string (⟨#[]⟩ : ByteArray)]) (t := 23) ?hr ?_; (case hd => rfl); (case hg => rfl); (case hr => first | (go_simp; done) | (go_simp; rfl)); intro gb196 hg w23 hbox hb; have n0_ := Aside0.mk (Kd.R_below (by (with_reducible repeat (first | apply Kd.R_alloc | apply Kd.R_drewN | apply Kd.R_drew)); exact HO193.out) hb); have n1_ := Aside0.mk (IsS89.below (by repeat (first | (with_reducible first | exact HI187.out | apply IsS89.alloc | apply IsS89.drewN | apply IsS89.drew | apply IsS89.set_0 | apply IsS89.set_1) | exact HI187.out)) hb); have n2_ := Aside0.mk (below_step (by repeat (first | (with_reducible first | exact HB.out | apply below_alloc | apply pw_below_drewN | apply below_drew1 | refine below_set ?_ (IsS89.ge HI187.out)) | exact HB.out)) hb); have n3_ := Aside0.mk (hbox); have n4_ := Aside0.mk ((by rw [hg]; exact (below_size (by repeat (first | (with_reducible first | exact HB.out | apply below_alloc | apply pw_below_drewN | apply below_drew1 | refine below_set ?_ (IsS89.ge HI187.out)) | exact HB.out))) : w.heap.size ≤ gb196)); have n5_ := Aside0.mk ((by rw [hg]; exact (below_size (by repeat (first | (with_reducible first | exact HB.out | apply below_alloc | apply pw_below_drewN | apply below_drew1 | refine below_set ?_ (IsS89.ge HI187.out)) | exact HB.out))) : w.heap.size ≤ gb196)); have n6_ := Aside0.mk ((by rw [hg]; exact Nat.ne_of_lt (IsS89.lt (show IsS89 w _ g187 t194 t195 from by repeat (first | (with_reducible first | exact HI187.out | apply IsS89.alloc | apply IsS89.drewN | apply IsS89.drew | apply IsS89.set_0 | apply IsS89.set_1) | exact HI187.out))) : g187 ≠ gb196)); have n7_ := Aside0.mk ((by rw [hg]; exact Nat.ne_of_gt (IsS89.lt (show IsS89 w _ g187 t194 t195 from by repeat (first | (with_reducible first | exact HI187.out | apply IsS89.alloc | apply IsS89.drewN | apply IsS89.drew | apply IsS89.set_0 | apply IsS89.set_1) | exact HI187.out))) : gb196 ≠ g187)); clear HO193; clear HI187; clear HB; have HO193 := n0_; have HI187 := n1_; have HB := n2_; have BK196 := n3_; have GW196 := n4_; have GE196 := n5_; have NB187_196 := n6_; have NB196_187 := n7_; clear n0_ n1_ n2_ n3_ n4_ n5_ n6_ n7_; clear hb hbox hg; have hnb24 := NB196_187.out; have hnc24 := NB187_196.out; have hcz25_0 : w23.cell? ⟨gb196, 0, none⟩ = some (.string (⟨#[]⟩ : ByteArray)) := (blk_cell BK196.out 0).trans rfl; have hcz25_1 : w23.cell? ⟨gb196, 1, none⟩ = some (.int .i64 0) := (blk_cell BK196.out 1).trans rfl; have hcz25_2 : w23.cell? ⟨gb196, 2, none⟩ = some (.string (⟨#[]⟩ : ByteArray)) := (blk_cell BK196.out 2).trans rfl; have hfz25_0 := blk_frozen BK196.out 0; have hfz25_1 := blk_frozen BK196.out 1; have hfz25_2 := blk_frozen BK196.out 2; obtain ⟨Ao26, co26, eo26⟩ := Kd.R_slice HO193.out; subst eo26) | ((with_reducible refine gate_callee (f := 26) rfl ?_); refine goesL_ (some 24) rfl rfl Tryd.func26 (by kernel_rfl) rfl #[(errV (.slice Ao26 t191.length co26))] rfl (by (try simp only [List.map_toArray, List.map_cons, List.map_nil]); first | done | rfl | (simp only [List.length_drop, List.length_take]; rfl)) ?_; (with_reducible refine (fail_Code.calls _ _ t191 t197 _ ?side1 ?side2 ?side3 A12.out).mono ?_); (case side1 => refine (Kd.R_reads' (e := 102) (base := w.heap.size) (ok := fun k_ => True) (n := t191.length) (c := co26) ?_).2.2; exact (by (with_reducible repeat (first | apply Kd.R_alloc | apply Kd.R_drewN | apply Kd.R_drew)); exact (Kd.R_mono (Kd.R_far (p := ⟨gb196, 2, none⟩) (Kd.R_far (p := ⟨gb196, 1, none⟩) (Kd.R_far (p := ⟨gb196, 0, none⟩) (Kd.R_types HO193.out BK196.out (by decide)) (fun _ hk => hk.2) (.string t188)) (fun _ hk => hk.2) (.int .i64 t189)) (fun _ hk => hk.2) (.string t190)) (fun _ h_ => h_.1)))); (case side2 => exact (Kd.R_reads' HO193.out).2.1); (case side3 => exact Gl.below HG_.out (by repeat (first | (with_reducible first | exact HB.out | apply below_alloc | apply pw_below_drewN | apply below_drew1 | refine below_set ?_ (IsS89.ge HI187.out) | refine below_set ?_ GE196.out) | exact HB.out))); rintro e w27 ⟨rfl, hb⟩; refine ⟨_, rfl, ?_⟩; have n0_ := Aside0.mk (Kd.R_below (by (with_reducible repeat (first | apply Kd.R_alloc | apply Kd.R_drewN | apply Kd.R_drew)); exact (Kd.R_mono (Kd.R_far (p := ⟨gb196, 2, none⟩) (Kd.R_far (p := ⟨gb196, 1, none⟩) (Kd.R_far (p := ⟨gb196, 0, none⟩) (Kd.R_types HO193.out BK196.out (by decide)) (fun _ hk => hk.2) (.string t188)) (fun _ hk => hk.2) (.int .i64 t189)) (fun _ hk => hk.2) (.string t190)) (fun _ h_ => h_.1))) hb); have n1_ := Aside0.mk (IsS89.below (show IsS89 w (((w23.setCell ⟨gb196, 0, none⟩ (.string t188)).setCell ⟨gb196, 1, none⟩ (.int .i64 t189)).setCell ⟨gb196, 2, none⟩ (.string t190)) g187 t194 t195 from by repeat (first | (with_reducible first | exact HI187.out | apply IsS89.alloc | apply IsS89.drewN | apply IsS89.drew | apply IsS89.set_0 | apply IsS89.set_1 | refine IsS89.far ?_ NB187_196.out _) | exact HI187.out)) hb); have n2_ := Aside0.mk (blk_below (g := gb196) (o := .cells #[.string t188, .int .i64 t189, .string t190] 23 (0, 0)) (by (with_reducible repeat (first | refine blk_drewN ?_ _ | refine blk_drew ?_ | refine blk_alloc ?_ _)); refine blk_put (cs := #[.string t188, .int .i64 t189, .string (⟨#[]⟩ : ByteArray)]) ?_ 2 _ rfl; (with_reducible repeat (first | refine blk_drewN ?_ _ | refine blk_drew ?_ | refine blk_alloc ?_ _)); refine blk_put (cs := #[.string t188, .int .i64 0, .string (⟨#[]⟩ : ByteArray)]) ?_ 1 _ rfl; (with_reducible repeat (first | refine blk_drewN ?_ _ | refine blk_drew ?_ | refine blk_alloc ?_ _)); refine blk_put (cs := #[.string (⟨#[]⟩ : ByteArray), .int .i64 0, .string (⟨#[]⟩ : ByteArray)]) ?_ 0 _ rfl; (with_reducible repeat (first | refine blk_drewN ?_ _ | refine blk_drew ?_ | refine blk_alloc ?_ _)); exact BK196.out) hb); have n3_ := Aside0.mk (below_step (by repeat (first | (with_reducible first | exact HB.out | apply below_alloc | apply pw_below_drewN | apply below_drew1 | refine below_set ?_ (IsS89.ge HI187.out) | refine below_set ?_ GE196.out) | exact HB.out)) hb); clear HO193; clear HI187; clear BK196; clear HB; have HO193 := n0_; have HI187 := n1_; have BK196 := n2_; have HB := n3_; clear n0_ n1_ n2_ n3_; (try clear hb); (try clear hb2); (try clear hk); (try clear hi); have hcz28_0 : w27.cell? ⟨gb196, 0, none⟩ = some (.string t188) := (blk_cell BK196.out 0).trans rfl; have hcz28_1 : w27.cell? ⟨gb196, 1, none⟩ = some (.int .i64 t189) := (blk_cell BK196.out 1).trans rfl; have hcz28_2 : w27.cell? ⟨gb196, 2, none⟩ = some (.string t190) := (blk_cell BK196.out 2).trans rfl; have hfz28_0 := blk_frozen BK196.out 0; have hfz28_1 := blk_frozen BK196.out 1; have hfz28_2 := blk_frozen BK196.out 2) | ((with_reducible refine gate_callee (f := 25) rfl ?_); refine goesL_ (some 36) rfl rfl Tryd.func25 (by kernel_rfl) rfl #[.agg #[.string t188, .int .i64 t189, .string t190]] rfl (by (try simp only [List.map_toArray, List.map_cons, List.map_nil]); first | done | rfl | (simp only [List.length_drop, List.length_take]; rfl)) ?_; (with_reducible refine (entry_Lay.calls kj1 t188 t189 t190 t198 t199 _ A14.out).mono ?_); rintro e w29 ⟨v200, rfl, ho0, hb⟩; refine ⟨_, rfl, ?_⟩; have n0_ := Aside0.mk (Kd.R_elder' (by (with_reducible repeat (first | apply Kd.R_alloc | apply Kd.R_drewN | apply Kd.R_drew)); exact HO193.out) (Kd.R_base ho0) hb); have n1_ := Aside0.mk (Kd.R_lower (Kd.R_new' ho0 (Kd.R_lt (by (with_reducible repeat (first | apply Kd.R_alloc | apply Kd.R_drewN | apply Kd.R_drew)); exact HO193.out))) (below_size (by repeat (first | (with_reducible first | exact HB.out | apply below_alloc | apply pw_below_drewN | apply below_drew1 | refine below_set ?_ (IsS89.ge HI187.out) | refine below_set ?_ GE196.out) | exact HB.out)))); have n2_ := Aside0.mk (IsS89.below (by repeat (first | (with_reducible first | exact HI187.out | apply IsS89.alloc | apply IsS89.drewN | apply IsS89.drew | apply IsS89.set_0 | apply IsS89.set_1 | refine IsS89.far ?_ NB187_196.out _) | exact HI187.out)) hb); have n3_ := Aside0.mk (blk_below (g := gb196) (o := .cells #[.string t188, .int .i64 t189, .string t190] 23 (0, 0)) (by (with_reducible repeat (first | refine blk_drewN ?_ _ | refine blk_drew ?_ | refine blk_alloc ?_ _)); exact BK196.out) hb); have n4_ := Aside0.mk (below_step (by repeat (first | (with_reducible first | exact HB.out | apply below_alloc | apply pw_below_drewN | apply below_drew1 | refine below_set ?_ (IsS89.ge HI187.out) | refine below_set ?_ GE196.out) | exact HB.out)) hb); clear HO193; clear HI187; clear BK196; clear HB; have HO193 := n0_; have HO201 := n1_; have HI187 := n2_; have BK196 := n3_; have HB := n4_; clear n0_ n1_ n2_ n3_ n4_; (try clear hb); (try clear hb2); (try clear hk); (try clear hi); (try clear ho0); have hE_v200 := errNil_of HO201.out; obtain ⟨Ao30, co30, eo30⟩ := Kd.R_slice HO201.out; subst eo30) | ((with_reducible refine gate_callee (f := 26) rfl ?_); refine goesL_ (some 40) rfl rfl Tryd.func26 (by kernel_rfl) rfl #[(errV (.slice Ao30 t199.length co30))] rfl (by (try simp only [List.map_toArray, List.map_cons, List.map_nil]); first | done | rfl | (simp only [List.length_drop, List.length_take]; rfl)) ?_; (with_reducible refine (fail_Code.calls _ _ t199 t202 _ ?side1 ?side2 ?side3 A15.out).mono ?_); (case side1 => repeat (first | exact (Kd.R_reads' HO201.out).2.2 | (with_reducible refine Kd.C_alloc ?_ _) | (with_reducible refine Kd.C_drewN ?_ _) | (with_reducible refine Kd.C_drew ?_))); (case side2 => exact (Kd.R_reads' HO201.out).2.1); (case side3 => exact Gl.below HG_.out (by repeat (first | (with_reducible first | exact HB.out | apply below_alloc | apply pw_below_drewN | apply below_drew1 | refine below_set ?_ (IsS89.ge HI187.out) | refine below_set ?_ GE196.out) | exact HB.out))); rintro e w31 ⟨rfl, hb⟩; refine ⟨_, rfl, ?_⟩; have n0_ := Aside0.mk (Kd.R_below (by (with_reducible repeat (first | apply Kd.R_alloc | apply Kd.R_drewN | apply Kd.R_drew)); exact HO193.out) hb); have n1_ := Aside0.mk (Kd.R_below (by (with_reducible repeat (first | apply Kd.R_alloc | apply Kd.R_drewN | apply Kd.R_drew)); exact HO201.out) hb); have n2_ := Aside0.mk (IsS89.below (by repeat (first | (with_reducible first | exact HI187.out | apply IsS89.alloc | apply IsS89.drewN | apply IsS89.drew | apply IsS89.set_0 | apply IsS89.set_1 | refine IsS89.far ?_ NB187_196.out _) | exact HI187.out)) hb); have n3_ := Aside0.mk (blk_below (g := gb196) (o := .cells #[.string t188, .int .i64 t189, .string t190] 23 (0, 0)) (by (with_reducible repeat (first | refine blk_drewN ?_ _ | refine blk_drew ?_ | refine blk_alloc ?_ _)); exact BK196.out) hb); have n4_ := Aside0.mk (below_step (by repeat (first | (with_reducible first | exact HB.out | apply below_alloc | apply pw_below_drewN | apply below_drew1 | refine below_set ?_ (IsS89.ge HI187.out) | refine below_set ?_ GE196.out) | exact HB.out)) hb); clear HO193; clear HO201; clear HI187; clear BK196; clear HB; have HO193 := n0_; have HO201 := n1_; have HI187 := n2_; have BK196 := n3_; have HB := n4_; clear n0_ n1_ n2_ n3_ n4_; (try clear hb); (try clear hb2); (try clear hk); (try clear hi)) | (go_at_call 39; (with_reducible refine (code_Reader_Left.calls g187 t194 t195 t203 t204 t205 w _ ?side1 ?side2 A17.out).mono ?_); (case side1 => repeat (first | (with_reducible first | exact HI187.out | apply IsS89.alloc | apply IsS89.drewN | apply IsS89.drew | apply IsS89.set_0 | apply IsS89.set_1 | refine IsS89.far ?_ NB187_196.out _) | exact HI187.out)); (case side2 => repeat (first | (with_reducible first | exact HB.out | apply below_alloc | apply pw_below_drewN | apply below_drew1 | refine below_set ?_ (IsS89.ge HI187.out) | refine below_set ?_ GE196.out) | exact HB.out)); rintro e w32 ⟨rfl, hi, hb, hk⟩; have n0_ := Aside0.mk (Kd.R_mono (Kd.R_keep (IsS89.apart (show IsS89 w _ g187 t194 t195 from by repeat (first | (with_reducible first | exact HI187.out | apply IsS89.alloc | apply IsS89.drewN | apply IsS89.drew | apply IsS89.set_0 | apply IsS89.set_1 | refine IsS89.far ?_ NB187_196.out _) | exact HI187.out)) (by (with_reducible repeat (first | apply Kd.R_alloc | apply Kd.R_drewN | apply Kd.R_drew)); exact HO193.out) (by decide)) hk (fun _ h => h.2)) (fun _ h => h.1)); have n1_ := Aside0.mk (KeepBut.blk hk (g' := gb196) (o := .cells #[.string t188, .int .i64 t189, .string t190] 23 (0, 0)) (by (with_reducible repeat (first | refine blk_drewN ?_ _ | refine blk_drew ?_ | refine blk_alloc ?_ _)); exact BK196.out) NB196_187.out (by simp)); have n2_ := Aside0.mk (Kd.R_mono (Kd.R_keep (IsS89.apart (show IsS89 w _ g187 t194 t195 from by repeat (first | (with_reducible first | exact HI187.out | apply IsS89.alloc | apply IsS89.drewN | apply IsS89.drew | apply IsS89.set_0 | apply IsS89.set_1 | refine IsS89.far ?_ NB187_196.out _) | exact HI187.out)) (by (with_reducible repeat (first | apply Kd.R_alloc | apply Kd.R_drewN | apply Kd.R_drew)); exact HO201.out) (by decide)) hk (fun _ h => h.2)) (fun _ h => h.1)); have n3_ := Aside0.mk (hb); have n4_ := Aside0.mk (hi); clear HO193; clear BK196; clear HO201; clear HB; clear HI187; have HO193 := n0_; have BK196 := n1_; have HO201 := n2_; have HB := n3_; have HI187 := n4_; clear n0_ n1_ n2_ n3_ n4_; (try clear hb); (try clear hb2); (try clear hk); (try clear hi)))
                  go_ret
                  exact ⟨by first | rfl | (simp [errW_none, errW_some] <;> rfl) | (simp [*, errW_none, errW_some] <;> rfl), by repeat (first | (with_reducible first | exact HB.out | apply below_alloc | apply pw_below_drewN | apply below_drew1 | refine below_set ?_ (IsS89.ge HI187.out) | refine below_set ?_ GE196.out) | exact HB.out)⟩
                · rw [if_neg c20] at H
                  exact absurd H (by simp)
              · rw [if_neg c19] at H
                exact absurd H (by simp)
            · rw [if_neg c18] at H
              have c18b0 : ((t198.size : Int) == (wrap64 ((a0.size : Int) - t203))) = false := beq_eq_false_iff_ne.mpr c18
              have c18b1 : ((t198.size : Int) != (wrap64 ((a0.size : Int) - t203))) = true := bne_iff_ne.mpr c18
              obtain rfl := Option.some.inj H
              go_wp2_with (first | ((with_reducible refine gate_callee (f := 37) rfl ?_); refine goesL_ (some 17) rfl rfl Tryd.func37 (by kernel_rfl) rfl #[.string a0] rfl (by (try simp only [List.map_toArray, List.map_cons, List.map_nil]); first | done | rfl | (simp only [List.length_drop, List.length_take]; rfl)) ?_; (with_reducible refine (code_New.calls a0 t185 t186 w _ ?side1 A10.out).mono ?_); (case side1 => repeat (first | (with_reducible first | exact HB.out | apply below_alloc | apply pw_below_drewN | apply below_drew1) | exact HB.out)); rintro e w33 ⟨g187, rfl, hi, hb, hb2⟩; refine ⟨_, rfl, ?_⟩; have n0_ := Aside0.mk (hb); have n1_ := Aside0.mk (hi); clear HB; have HB := n0_; have HI187 := n1_; clear n0_ n1_; (try clear hb); (try clear hb2); (try clear hk); (try clear hi)) | ((with_reducible refine gate_callee (f := 38) rfl ?_); refine goesL_ (some 20) rfl rfl Tryd.func38 (by kernel_rfl) rfl #[.pointer (some ⟨g187, 0, none⟩)] rfl (by (try simp only [List.map_toArray, List.map_cons, List.map_nil]); first | done | rfl | (simp only [List.length_drop, List.length_take]; rfl)) ?_; (with_reducible refine (entry_Read.calls g187 t185 t186 t188 t189 t190 t191 t194 t195 w _ ?side1 ?side2 A11.out).mono ?_); (case side1 => repeat (first | (with_reducible first | exact HI187.out | apply IsS89.alloc | apply IsS89.drewN | apply IsS89.drew | apply IsS89.set_0 | apply IsS89.set_1) | exact HI187.out)); (case side2 => repeat (first | (with_reducible first | exact HB.out | apply below_alloc | apply pw_below_drewN | apply below_drew1 | refine below_set ?_ (IsS89.ge HI187.out)) | exact HB.out)); rintro e w34 ⟨v192, rfl, ho0, hi, hb, hk⟩; refine ⟨_, rfl, ?_⟩; have n0_ := Aside0.mk (Kd.R_lower ho0 (below_size (by repeat (first | (with_reducible first | exact HB.out | apply below_alloc | apply pw_below_drewN | apply below_drew1 | refine below_set ?_ (IsS89.ge HI187.out)) | exact HB.out)))); have n1_ := Aside0.mk (hb); have n2_ := Aside0.mk (hi); clear HB; clear HI187; have HO193 := n0_; have HB := n1_; have HI187 := n2_; clear n0_ n1_ n2_; (try clear hb); (try clear hb2); (try clear hk); (try clear hi); (try clear ho0); have hE_v192 := errNil_of HO193.out) | ((with_reducible refine gate_dst (N := 4) rfl ?_); (try (refine gate_guard (by rfl) ?_; dsimp only)); refine box_event ?hg (N := 4) ?hd (cs := #[.string (⟨#[]⟩ : ByteArray), .int .i64 0, .string (⟨#[]⟩ : ByteArray)]) (t := 23) ?hr ?_; (case hd => rfl); (case hg => rfl); (case hr => first | (go_simp; done) | (go_simp; rfl)); intro gb196 hg w35 hbox hb; have n0_ := Aside0.mk (Kd.R_below (by (with_reducible repeat (first | apply Kd.R_alloc | apply Kd.R_drewN | apply Kd.R_drew)); exact HO193.out) hb); have n1_ := Aside0.mk (IsS89.below (by repeat (first | (with_reducible first | exact HI187.out | apply IsS89.alloc | apply IsS89.drewN | apply IsS89.drew | apply IsS89.set_0 | apply IsS89.set_1) | exact HI187.out)) hb); have n2_ := Aside0.mk (below_step (by repeat (first | (with_reducible first | exact HB.out | apply below_alloc | apply pw_below_drewN | apply below_drew1 | refine below_set ?_ (IsS89.ge HI187.out)) | exact HB.out)) hb); have n3_ := Aside0.mk (hbox); have n4_ := Aside0.mk ((by rw [hg]; exact (below_size (by repeat (first | (with_reducible first | exact HB.out | apply below_alloc | apply pw_below_drewN | apply below_drew1 | refine below_set ?_ (IsS89.ge HI187.out)) | exact HB.out))) : w.heap.size ≤ gb196)); have n5_ := Aside0.mk ((by rw [hg]; exact (below_size (by repeat (first | (with_reducible first | exact HB.out | apply below_alloc | apply pw_below_drewN | apply below_drew1 | refine below_set ?_ (IsS89.ge HI187.out)) | exact HB.out))) : w.heap.size ≤ gb196)); have n6_ := Aside0.mk ((by rw [hg]; exact Nat.ne_of_lt (IsS89.lt (show IsS89 w _ g187 t194 t195 from by repeat (first | (with_reducible first | exact HI187.out | apply IsS89.alloc | apply IsS89.drewN | apply IsS89.drew | apply IsS89.set_0 | apply IsS89.set_1) | exact HI187.out))) : g187 ≠ gb196)); have n7_ := Aside0.mk ((by rw [hg]; exact Nat.ne_of_gt (IsS89.lt (show IsS89 w _ g187 t194 t195 from by repeat (first | (with_reducible first | exact HI187.out | apply IsS89.alloc | apply IsS89.drewN | apply IsS89.drew | apply IsS89.set_0 | apply IsS89.set_1) | exact HI187.out))) : gb196 ≠ g187)); clear HO193; clear HI187; clear HB; have HO193 := n0_; have HI187 := n1_; have HB := n2_; have BK196 := n3_; have GW196 := n4_; have GE196 := n5_; have NB187_196 := n6_; have NB196_187 := n7_; clear n0_ n1_ n2_ n3_ n4_ n5_ n6_ n7_; clear hb hbox hg; have hnb36 := NB196_187.out; have hnc36 := NB187_196.out; have hcz37_0 : w35.cell? ⟨gb196, 0, none⟩ = some (.string (⟨#[]⟩ : ByteArray)) := (blk_cell BK196.out 0).trans rfl; have hcz37_1 : w35.cell? ⟨gb196, 1, none⟩ = some (.int .i64 0) := (blk_cell BK196.out 1).trans rfl; have hcz37_2 : w35.cell? ⟨gb196, 2, none⟩ = some (.string (⟨#[]⟩ : ByteArray)) := (blk_cell BK196.out 2).trans rfl; have hfz37_0 := blk_frozen BK196.out 0; have hfz37_1 := blk_frozen BK196.out 1; have hfz37_2 := blk_frozen BK196.out 2; obtain ⟨Ao38, co38, eo38⟩ := Kd.R_slice HO193.out; subst eo38) | ((with_reducible refine gate_callee (f := 26) rfl ?_); refine goesL_ (some 24) rfl rfl Tryd.func26 (by kernel_rfl) rfl #[(errV (.slice Ao38 t191.length co38))] rfl (by (try simp only [List.map_toArray, List.map_cons, List.map_nil]); first | done | rfl | (simp only [List.length_drop, List.length_take]; rfl)) ?_; (with_reducible refine (fail_Code.calls _ _ t191 t197 _ ?side1 ?side2 ?side3 A12.out).mono ?_); (case side1 => refine (Kd.R_reads' (e := 102) (base := w.heap.size) (ok := fun k_ => True) (n := t191.length) (c := co38) ?_).2.2; exact (by (with_reducible repeat (first | apply Kd.R_alloc | apply Kd.R_drewN | apply Kd.R_drew)); exact (Kd.R_mono (Kd.R_far (p := ⟨gb196, 2, none⟩) (Kd.R_far (p := ⟨gb196, 1, none⟩) (Kd.R_far (p := ⟨gb196, 0, none⟩) (Kd.R_types HO193.out BK196.out (by decide)) (fun _ hk => hk.2) (.string t188)) (fun _ hk => hk.2) (.int .i64 t189)) (fun _ hk => hk.2) (.string t190)) (fun _ h_ => h_.1)))); (case side2 => exact (Kd.R_reads' HO193.out).2.1); (case side3 => exact Gl.below HG_.out (by repeat (first | (with_reducible first | exact HB.out | apply below_alloc | apply pw_below_drewN | apply below_drew1 | refine below_set ?_ (IsS89.ge HI187.out) | refine below_set ?_ GE196.out) | exact HB.out))); rintro e w39 ⟨rfl, hb⟩; refine ⟨_, rfl, ?_⟩; have n0_ := Aside0.mk (Kd.R_below (by (with_reducible repeat (first | apply Kd.R_alloc | apply Kd.R_drewN | apply Kd.R_drew)); exact (Kd.R_mono (Kd.R_far (p := ⟨gb196, 2, none⟩) (Kd.R_far (p := ⟨gb196, 1, none⟩) (Kd.R_far (p := ⟨gb196, 0, none⟩) (Kd.R_types HO193.out BK196.out (by decide)) (fun _ hk => hk.2) (.string t188)) (fun _ hk => hk.2) (.int .i64 t189)) (fun _ hk => hk.2) (.string t190)) (fun _ h_ => h_.1))) hb); have n1_ := Aside0.mk (IsS89.below (show IsS89 w (((w35.setCell ⟨gb196, 0, none⟩ (.string t188)).setCell ⟨gb196, 1, none⟩ (.int .i64 t189)).setCell ⟨gb196, 2, none⟩ (.string t190)) g187 t194 t195 from by repeat (first | (with_reducible first | exact HI187.out | apply IsS89.alloc | apply IsS89.drewN | apply IsS89.drew | apply IsS89.set_0 | apply IsS89.set_1 | refine IsS89.far ?_ NB187_196.out _) | exact HI187.out)) hb); have n2_ := Aside0.mk (blk_below (g := gb196) (o := .cells #[.string t188, .int .i64 t189, .string t190] 23 (0, 0)) (by (with_reducible repeat (first | refine blk_drewN ?_ _ | refine blk_drew ?_ | refine blk_alloc ?_ _)); refine blk_put (cs := #[.string t188, .int .i64 t189, .string (⟨#[]⟩ : ByteArray)]) ?_ 2 _ rfl; (with_reducible repeat (first | refine blk_drewN ?_ _ | refine blk_drew ?_ | refine blk_alloc ?_ _)); refine blk_put (cs := #[.string t188, .int .i64 0, .string (⟨#[]⟩ : ByteArray)]) ?_ 1 _ rfl; (with_reducible repeat (first | refine blk_drewN ?_ _ | refine blk_drew ?_ | refine blk_alloc ?_ _)); refine blk_put (cs := #[.string (⟨#[]⟩ : ByteArray), .int .i64 0, .string (⟨#[]⟩ : ByteArray)]) ?_ 0 _ rfl; (with_reducible repeat (first | refine blk_drewN ?_ _ | refine blk_drew ?_ | refine blk_alloc ?_ _)); exact BK196.out) hb); have n3_ := Aside0.mk (below_step (by repeat (first | (with_reducible first | exact HB.out | apply below_alloc | apply pw_below_drewN | apply below_drew1 | refine below_set ?_ (IsS89.ge HI187.out) | refine below_set ?_ GE196.out) | exact HB.out)) hb); clear HO193; clear HI187; clear BK196; clear HB; have HO193 := n0_; have HI187 := n1_; have BK196 := n2_; have HB := n3_; clear n0_ n1_ n2_ n3_; (try clear hb); (try clear hb2); (try clear hk); (try clear hi); have hcz40_0 : w39.cell? ⟨gb196, 0, none⟩ = some (.string t188) := (blk_cell BK196.out 0).trans rfl; have hcz40_1 : w39.cell? ⟨gb196, 1, none⟩ = some (.int .i64 t189) := (blk_cell BK196.out 1).trans rfl; have hcz40_2 : w39.cell? ⟨gb196, 2, none⟩ = some (.string t190) := (blk_cell BK196.out 2).trans rfl; have hfz40_0 := blk_frozen BK196.out 0; have hfz40_1 := blk_frozen BK196.out 1; have hfz40_2 := blk_frozen BK196.out 2) | ((with_reducible refine gate_callee (f := 25) rfl ?_); refine goesL_ (some 36) rfl rfl Tryd.func25 (by kernel_rfl) rfl #[.agg #[.string t188, .int .i64 t189, .string t190]] rfl (by (try simp only [List.map_toArray, List.map_cons, List.map_nil]); first | done | rfl | (simp only [List.length_drop, List.length_take]; rfl)) ?_; (with_reducible refine (entry_Lay.calls kj1 t188 t189 t190 t198 t199 _ A14.out).mono ?_); rintro e w41 ⟨v200, rfl, ho0, hb⟩; refine ⟨_, rfl, ?_⟩; have n0_ := Aside0.mk (Kd.R_elder' (by (with_reducible repeat (first | apply Kd.R_alloc | apply Kd.R_drewN | apply Kd.R_drew)); exact HO193.out) (Kd.R_base ho0) hb); have n1_ := Aside0.mk (Kd.R_lower (Kd.R_new' ho0 (Kd.R_lt (by (with_reducible repeat (first | apply Kd.R_alloc | apply Kd.R_drewN | apply Kd.R_drew)); exact HO193.out))) (below_size (by repeat (first | (with_reducible first | exact HB.out | apply below_alloc | apply pw_below_drewN | apply below_drew1 | refine below_set ?_ (IsS89.ge HI187.out) | refine below_set ?_ GE196.out) | exact HB.out)))); have n2_ := Aside0.mk (IsS89.below (by repeat (first | (with_reducible first | exact HI187.out | apply IsS89.alloc | apply IsS89.drewN | apply IsS89.drew | apply IsS89.set_0 | apply IsS89.set_1 | refine IsS89.far ?_ NB187_196.out _) | exact HI187.out)) hb); have n3_ := Aside0.mk (blk_below (g := gb196) (o := .cells #[.string t188, .int .i64 t189, .string t190] 23 (0, 0)) (by (with_reducible repeat (first | refine blk_drewN ?_ _ | refine blk_drew ?_ | refine blk_alloc ?_ _)); exact BK196.out) hb); have n4_ := Aside0.mk (below_step (by repeat (first | (with_reducible first | exact HB.out | apply below_alloc | apply pw_below_drewN | apply below_drew1 | refine below_set ?_ (IsS89.ge HI187.out) | refine below_set ?_ GE196.out) | exact HB.out)) hb); clear HO193; clear HI187; clear BK196; clear HB; have HO193 := n0_; have HO201 := n1_; have HI187 := n2_; have BK196 := n3_; have HB := n4_; clear n0_ n1_ n2_ n3_ n4_; (try clear hb); (try clear hb2); (try clear hk); (try clear hi); (try clear ho0); have hE_v200 := errNil_of HO201.out; obtain ⟨Ao42, co42, eo42⟩ := Kd.R_slice HO201.out; subst eo42) | ((with_reducible refine gate_callee (f := 26) rfl ?_); refine goesL_ (some 40) rfl rfl Tryd.func26 (by kernel_rfl) rfl #[(errV (.slice Ao42 t199.length co42))] rfl (by (try simp only [List.map_toArray, List.map_cons, List.map_nil]); first | done | rfl | (simp only [List.length_drop, List.length_take]; rfl)) ?_; (with_reducible refine (fail_Code.calls _ _ t199 t202 _ ?side1 ?side2 ?side3 A15.out).mono ?_); (case side1 => repeat (first | exact (Kd.R_reads' HO201.out).2.2 | (with_reducible refine Kd.C_alloc ?_ _) | (with_reducible refine Kd.C_drewN ?_ _) | (with_reducible refine Kd.C_drew ?_))); (case side2 => exact (Kd.R_reads' HO201.out).2.1); (case side3 => exact Gl.below HG_.out (by repeat (first | (with_reducible first | exact HB.out | apply below_alloc | apply pw_below_drewN | apply below_drew1 | refine below_set ?_ (IsS89.ge HI187.out) | refine below_set ?_ GE196.out) | exact HB.out))); rintro e w43 ⟨rfl, hb⟩; refine ⟨_, rfl, ?_⟩; have n0_ := Aside0.mk (Kd.R_below (by (with_reducible repeat (first | apply Kd.R_alloc | apply Kd.R_drewN | apply Kd.R_drew)); exact HO193.out) hb); have n1_ := Aside0.mk (Kd.R_below (by (with_reducible repeat (first | apply Kd.R_alloc | apply Kd.R_drewN | apply Kd.R_drew)); exact HO201.out) hb); have n2_ := Aside0.mk (IsS89.below (by repeat (first | (with_reducible first | exact HI187.out | apply IsS89.alloc | apply IsS89.drewN | apply IsS89.drew | apply IsS89.set_0 | apply IsS89.set_1 | refine IsS89.far ?_ NB187_196.out _) | exact HI187.out)) hb); have n3_ := Aside0.mk (blk_below (g := gb196) (o := .cells #[.string t188, .int .i64 t189, .string t190] 23 (0, 0)) (by (with_reducible repeat (first | refine blk_drewN ?_ _ | refine blk_drew ?_ | refine blk_alloc ?_ _)); exact BK196.out) hb); have n4_ := Aside0.mk (below_step (by repeat (first | (with_reducible first | exact HB.out | apply below_alloc | apply pw_below_drewN | apply below_drew1 | refine below_set ?_ (IsS89.ge HI187.out) | refine below_set ?_ GE196.out) | exact HB.out)) hb); clear HO193; clear HO201; clear HI187; clear BK196; clear HB; have HO193 := n0_; have HO201 := n1_; have HI187 := n2_; have BK196 := n3_; have HB := n4_; clear n0_ n1_ n2_ n3_ n4_; (try clear hb); (try clear hb2); (try clear hk); (try clear hi)) | (go_at_call 39; (with_reducible refine (code_Reader_Left.calls g187 t194 t195 t203 t204 t205 w _ ?side1 ?side2 A17.out).mono ?_); (case side1 => repeat (first | (with_reducible first | exact HI187.out | apply IsS89.alloc | apply IsS89.drewN | apply IsS89.drew | apply IsS89.set_0 | apply IsS89.set_1 | refine IsS89.far ?_ NB187_196.out _) | exact HI187.out)); (case side2 => repeat (first | (with_reducible first | exact HB.out | apply below_alloc | apply pw_below_drewN | apply below_drew1 | refine below_set ?_ (IsS89.ge HI187.out) | refine below_set ?_ GE196.out) | exact HB.out)); rintro e w44 ⟨rfl, hi, hb, hk⟩; have n0_ := Aside0.mk (Kd.R_mono (Kd.R_keep (IsS89.apart (show IsS89 w _ g187 t194 t195 from by repeat (first | (with_reducible first | exact HI187.out | apply IsS89.alloc | apply IsS89.drewN | apply IsS89.drew | apply IsS89.set_0 | apply IsS89.set_1 | refine IsS89.far ?_ NB187_196.out _) | exact HI187.out)) (by (with_reducible repeat (first | apply Kd.R_alloc | apply Kd.R_drewN | apply Kd.R_drew)); exact HO193.out) (by decide)) hk (fun _ h => h.2)) (fun _ h => h.1)); have n1_ := Aside0.mk (KeepBut.blk hk (g' := gb196) (o := .cells #[.string t188, .int .i64 t189, .string t190] 23 (0, 0)) (by (with_reducible repeat (first | refine blk_drewN ?_ _ | refine blk_drew ?_ | refine blk_alloc ?_ _)); exact BK196.out) NB196_187.out (by simp)); have n2_ := Aside0.mk (Kd.R_mono (Kd.R_keep (IsS89.apart (show IsS89 w _ g187 t194 t195 from by repeat (first | (with_reducible first | exact HI187.out | apply IsS89.alloc | apply IsS89.drewN | apply IsS89.drew | apply IsS89.set_0 | apply IsS89.set_1 | refine IsS89.far ?_ NB187_196.out _) | exact HI187.out)) (by (with_reducible repeat (first | apply Kd.R_alloc | apply Kd.R_drewN | apply Kd.R_drew)); exact HO201.out) (by decide)) hk (fun _ h => h.2)) (fun _ h => h.1)); have n3_ := Aside0.mk (hb); have n4_ := Aside0.mk (hi); clear HO193; clear BK196; clear HO201; clear HB; clear HI187; have HO193 := n0_; have BK196 := n1_; have HO201 := n2_; have HB := n3_; have HI187 := n4_; clear n0_ n1_ n2_ n3_ n4_; (try clear hb); (try clear hb2); (try clear hk); (try clear hi)))
              go_ret
              exact ⟨by first | rfl | (simp [errW_none, errW_some] <;> rfl) | (simp [*, errW_none, errW_some] <;> rfl), by repeat (first | (with_reducible first | exact HB.out | apply below_alloc | apply pw_below_drewN | apply below_drew1 | refine below_set ?_ (IsS89.ge HI187.out) | refine below_set ?_ GE196.out) | exact HB.out)⟩
          · rw [if_neg c16] at H
            have c16b0 : (t202 == 0) = false := beq_eq_false_iff_ne.mpr c16
            have c16b1 : (t202 != 0) = true := bne_iff_ne.mpr c16
            obtain rfl := Option.some.inj H
            go_wp2_with (first | ((with_reducible refine gate_callee (f := 37) rfl ?_); refine goesL_ (some 17) rfl rfl Tryd.func37 (by kernel_rfl) rfl #[.string a0] rfl (by (try simp only [List.map_toArray, List.map_cons, List.map_nil]); first | done | rfl | (simp only [List.length_drop, List.length_take]; rfl)) ?_; (with_reducible refine (code_New.calls a0 t185 t186 w _ ?side1 A10.out).mono ?_); (case side1 => repeat (first | (with_reducible first | exact HB.out | apply below_alloc | apply pw_below_drewN | apply below_drew1) | exact HB.out)); rintro e w45 ⟨g187, rfl, hi, hb, hb2⟩; refine ⟨_, rfl, ?_⟩; have n0_ := Aside0.mk (hb); have n1_ := Aside0.mk (hi); clear HB; have HB := n0_; have HI187 := n1_; clear n0_ n1_; (try clear hb); (try clear hb2); (try clear hk); (try clear hi)) | ((with_reducible refine gate_callee (f := 38) rfl ?_); refine goesL_ (some 20) rfl rfl Tryd.func38 (by kernel_rfl) rfl #[.pointer (some ⟨g187, 0, none⟩)] rfl (by (try simp only [List.map_toArray, List.map_cons, List.map_nil]); first | done | rfl | (simp only [List.length_drop, List.length_take]; rfl)) ?_; (with_reducible refine (entry_Read.calls g187 t185 t186 t188 t189 t190 t191 t194 t195 w _ ?side1 ?side2 A11.out).mono ?_); (case side1 => repeat (first | (with_reducible first | exact HI187.out | apply IsS89.alloc | apply IsS89.drewN | apply IsS89.drew | apply IsS89.set_0 | apply IsS89.set_1) | exact HI187.out)); (case side2 => repeat (first | (with_reducible first | exact HB.out | apply below_alloc | apply pw_below_drewN | apply below_drew1 | refine below_set ?_ (IsS89.ge HI187.out)) | exact HB.out)); rintro e w46 ⟨v192, rfl, ho0, hi, hb, hk⟩; refine ⟨_, rfl, ?_⟩; have n0_ := Aside0.mk (Kd.R_lower ho0 (below_size (by repeat (first | (with_reducible first | exact HB.out | apply below_alloc | apply pw_below_drewN | apply below_drew1 | refine below_set ?_ (IsS89.ge HI187.out)) | exact HB.out)))); have n1_ := Aside0.mk (hb); have n2_ := Aside0.mk (hi); clear HB; clear HI187; have HO193 := n0_; have HB := n1_; have HI187 := n2_; clear n0_ n1_ n2_; (try clear hb); (try clear hb2); (try clear hk); (try clear hi); (try clear ho0); have hE_v192 := errNil_of HO193.out) | ((with_reducible refine gate_dst (N := 4) rfl ?_); (try (refine gate_guard (by rfl) ?_; dsimp only)); refine box_event ?hg (N := 4) ?hd (cs := #[.string (⟨#[]⟩ : ByteArray), .int .i64 0, .string (⟨#[]⟩ : ByteArray)]) (t := 23) ?hr ?_; (case hd => rfl); (case hg => rfl); (case hr => first | (go_simp; done) | (go_simp; rfl)); intro gb196 hg w47 hbox hb; have n0_ := Aside0.mk (Kd.R_below (by (with_reducible repeat (first | apply Kd.R_alloc | apply Kd.R_drewN | apply Kd.R_drew)); exact HO193.out) hb); have n1_ := Aside0.mk (IsS89.below (by repeat (first | (with_reducible first | exact HI187.out | apply IsS89.alloc | apply IsS89.drewN | apply IsS89.drew | apply IsS89.set_0 | apply IsS89.set_1) | exact HI187.out)) hb); have n2_ := Aside0.mk (below_step (by repeat (first | (with_reducible first | exact HB.out | apply below_alloc | apply pw_below_drewN | apply below_drew1 | refine below_set ?_ (IsS89.ge HI187.out)) | exact HB.out)) hb); have n3_ := Aside0.mk (hbox); have n4_ := Aside0.mk ((by rw [hg]; exact (below_size (by repeat (first | (with_reducible first | exact HB.out | apply below_alloc | apply pw_below_drewN | apply below_drew1 | refine below_set ?_ (IsS89.ge HI187.out)) | exact HB.out))) : w.heap.size ≤ gb196)); have n5_ := Aside0.mk ((by rw [hg]; exact (below_size (by repeat (first | (with_reducible first | exact HB.out | apply below_alloc | apply pw_below_drewN | apply below_drew1 | refine below_set ?_ (IsS89.ge HI187.out)) | exact HB.out))) : w.heap.size ≤ gb196)); have n6_ := Aside0.mk ((by rw [hg]; exact Nat.ne_of_lt (IsS89.lt (show IsS89 w _ g187 t194 t195 from by repeat (first | (with_reducible first | exact HI187.out | apply IsS89.alloc | apply IsS89.drewN | apply IsS89.drew | apply IsS89.set_0 | apply IsS89.set_1) | exact HI187.out))) : g187 ≠ gb196)); have n7_ := Aside0.mk ((by rw [hg]; exact Nat.ne_of_gt (IsS89.lt (show IsS89 w _ g187 t194 t195 from by repeat (first | (with_reducible first | exact HI187.out | apply IsS89.alloc | apply IsS89.drewN | apply IsS89.drew | apply IsS89.set_0 | apply IsS89.set_1) | exact HI187.out))) : gb196 ≠ g187)); clear HO193; clear HI187; clear HB; have HO193 := n0_; have HI187 := n1_; have HB := n2_; have BK196 := n3_; have GW196 := n4_; have GE196 := n5_; have NB187_196 := n6_; have NB196_187 := n7_; clear n0_ n1_ n2_ n3_ n4_ n5_ n6_ n7_; clear hb hbox hg; have hnb48 := NB196_187.out; have hnc48 := NB187_196.out; have hcz49_0 : w47.cell? ⟨gb196, 0, none⟩ = some (.string (⟨#[]⟩ : ByteArray)) := (blk_cell BK196.out 0).trans rfl; have hcz49_1 : w47.cell? ⟨gb196, 1, none⟩ = some (.int .i64 0) := (blk_cell BK196.out 1).trans rfl; have hcz49_2 : w47.cell? ⟨gb196, 2, none⟩ = some (.string (⟨#[]⟩ : ByteArray)) := (blk_cell BK196.out 2).trans rfl; have hfz49_0 := blk_frozen BK196.out 0; have hfz49_1 := blk_frozen BK196.out 1; have hfz49_2 := blk_frozen BK196.out 2; obtain ⟨Ao50, co50, eo50⟩ := Kd.R_slice HO193.out; subst eo50) | ((with_reducible refine gate_callee (f := 26) rfl ?_); refine goesL_ (some 24) rfl rfl Tryd.func26 (by kernel_rfl) rfl #[(errV (.slice Ao50 t191.length co50))] rfl (by (try simp only [List.map_toArray, List.map_cons, List.map_nil]); first | done | rfl | (simp only [List.length_drop, List.length_take]; rfl)) ?_; (with_reducible refine (fail_Code.calls _ _ t191 t197 _ ?side1 ?side2 ?side3 A12.out).mono ?_); (case side1 => refine (Kd.R_reads' (e := 102) (base := w.heap.size) (ok := fun k_ => True) (n := t191.length) (c := co50) ?_).2.2; exact (by (with_reducible repeat (first | apply Kd.R_alloc | apply Kd.R_drewN | apply Kd.R_drew)); exact (Kd.R_mono (Kd.R_far (p := ⟨gb196, 2, none⟩) (Kd.R_far (p := ⟨gb196, 1, none⟩) (Kd.R_far (p := ⟨gb196, 0, none⟩) (Kd.R_types HO193.out BK196.out (by decide)) (fun _ hk => hk.2) (.string t188)) (fun _ hk => hk.2) (.int .i64 t189)) (fun _ hk => hk.2) (.string t190)) (fun _ h_ => h_.1)))); (case side2 => exact (Kd.R_reads' HO193.out).2.1); (case side3 => exact Gl.below HG_.out (by repeat (first | (with_reducible first | exact HB.out | apply below_alloc | apply pw_below_drewN | apply below_drew1 | refine below_set ?_ (IsS89.ge HI187.out) | refine below_set ?_ GE196.out) | exact HB.out))); rintro e w51 ⟨rfl, hb⟩; refine ⟨_, rfl, ?_⟩; have n0_ := Aside0.mk (Kd.R_below (by (with_reducible repeat (first | apply Kd.R_alloc | apply Kd.R_drewN | apply Kd.R_drew)); exact (Kd.R_mono (Kd.R_far (p := ⟨gb196, 2, none⟩) (Kd.R_far (p := ⟨gb196, 1, none⟩) (Kd.R_far (p := ⟨gb196, 0, none⟩) (Kd.R_types HO193.out BK196.out (by decide)) (fun _ hk => hk.2) (.string t188)) (fun _ hk => hk.2) (.int .i64 t189)) (fun _ hk => hk.2) (.string t190)) (fun _ h_ => h_.1))) hb); have n1_ := Aside0.mk (IsS89.below (show IsS89 w (((w47.setCell ⟨gb196, 0, none⟩ (.string t188)).setCell ⟨gb196, 1, none⟩ (.int .i64 t189)).setCell ⟨gb196, 2, none⟩ (.string t190)) g187 t194 t195 from by repeat (first | (with_reducible first | exact HI187.out | apply IsS89.alloc | apply IsS89.drewN | apply IsS89.drew | apply IsS89.set_0 | apply IsS89.set_1 | refine IsS89.far ?_ NB187_196.out _) | exact HI187.out)) hb); have n2_ := Aside0.mk (blk_below (g := gb196) (o := .cells #[.string t188, .int .i64 t189, .string t190] 23 (0, 0)) (by (with_reducible repeat (first | refine blk_drewN ?_ _ | refine blk_drew ?_ | refine blk_alloc ?_ _)); refine blk_put (cs := #[.string t188, .int .i64 t189, .string (⟨#[]⟩ : ByteArray)]) ?_ 2 _ rfl; (with_reducible repeat (first | refine blk_drewN ?_ _ | refine blk_drew ?_ | refine blk_alloc ?_ _)); refine blk_put (cs := #[.string t188, .int .i64 0, .string (⟨#[]⟩ : ByteArray)]) ?_ 1 _ rfl; (with_reducible repeat (first | refine blk_drewN ?_ _ | refine blk_drew ?_ | refine blk_alloc ?_ _)); refine blk_put (cs := #[.string (⟨#[]⟩ : ByteArray), .int .i64 0, .string (⟨#[]⟩ : ByteArray)]) ?_ 0 _ rfl; (with_reducible repeat (first | refine blk_drewN ?_ _ | refine blk_drew ?_ | refine blk_alloc ?_ _)); exact BK196.out) hb); have n3_ := Aside0.mk (below_step (by repeat (first | (with_reducible first | exact HB.out | apply below_alloc | apply pw_below_drewN | apply below_drew1 | refine below_set ?_ (IsS89.ge HI187.out) | refine below_set ?_ GE196.out) | exact HB.out)) hb); clear HO193; clear HI187; clear BK196; clear HB; have HO193 := n0_; have HI187 := n1_; have BK196 := n2_; have HB := n3_; clear n0_ n1_ n2_ n3_; (try clear hb); (try clear hb2); (try clear hk); (try clear hi); have hcz52_0 : w51.cell? ⟨gb196, 0, none⟩ = some (.string t188) := (blk_cell BK196.out 0).trans rfl; have hcz52_1 : w51.cell? ⟨gb196, 1, none⟩ = some (.int .i64 t189) := (blk_cell BK196.out 1).trans rfl; have hcz52_2 : w51.cell? ⟨gb196, 2, none⟩ = some (.string t190) := (blk_cell BK196.out 2).trans rfl; have hfz52_0 := blk_frozen BK196.out 0; have hfz52_1 := blk_frozen BK196.out 1; have hfz52_2 := blk_frozen BK196.out 2) | ((with_reducible refine gate_callee (f := 25) rfl ?_); refine goesL_ (some 36) rfl rfl Tryd.func25 (by kernel_rfl) rfl #[.agg #[.string t188, .int .i64 t189, .string t190]] rfl (by (try simp only [List.map_toArray, List.map_cons, List.map_nil]); first | done | rfl | (simp only [List.length_drop, List.length_take]; rfl)) ?_; (with_reducible refine (entry_Lay.calls kj1 t188 t189 t190 t198 t199 _ A14.out).mono ?_); rintro e w53 ⟨v200, rfl, ho0, hb⟩; refine ⟨_, rfl, ?_⟩; have n0_ := Aside0.mk (Kd.R_elder' (by (with_reducible repeat (first | apply Kd.R_alloc | apply Kd.R_drewN | apply Kd.R_drew)); exact HO193.out) (Kd.R_base ho0) hb); have n1_ := Aside0.mk (Kd.R_lower (Kd.R_new' ho0 (Kd.R_lt (by (with_reducible repeat (first | apply Kd.R_alloc | apply Kd.R_drewN | apply Kd.R_drew)); exact HO193.out))) (below_size (by repeat (first | (with_reducible first | exact HB.out | apply below_alloc | apply pw_below_drewN | apply below_drew1 | refine below_set ?_ (IsS89.ge HI187.out) | refine below_set ?_ GE196.out) | exact HB.out)))); have n2_ := Aside0.mk (IsS89.below (by repeat (first | (with_reducible first | exact HI187.out | apply IsS89.alloc | apply IsS89.drewN | apply IsS89.drew | apply IsS89.set_0 | apply IsS89.set_1 | refine IsS89.far ?_ NB187_196.out _) | exact HI187.out)) hb); have n3_ := Aside0.mk (blk_below (g := gb196) (o := .cells #[.string t188, .int .i64 t189, .string t190] 23 (0, 0)) (by (with_reducible repeat (first | refine blk_drewN ?_ _ | refine blk_drew ?_ | refine blk_alloc ?_ _)); exact BK196.out) hb); have n4_ := Aside0.mk (below_step (by repeat (first | (with_reducible first | exact HB.out | apply below_alloc | apply pw_below_drewN | apply below_drew1 | refine below_set ?_ (IsS89.ge HI187.out) | refine below_set ?_ GE196.out) | exact HB.out)) hb); clear HO193; clear HI187; clear BK196; clear HB; have HO193 := n0_; have HO201 := n1_; have HI187 := n2_; have BK196 := n3_; have HB := n4_; clear n0_ n1_ n2_ n3_ n4_; (try clear hb); (try clear hb2); (try clear hk); (try clear hi); (try clear ho0); have hE_v200 := errNil_of HO201.out; obtain ⟨Ao54, co54, eo54⟩ := Kd.R_slice HO201.out; subst eo54) | ((with_reducible refine gate_callee (f := 26) rfl ?_); refine goesL_ (some 40) rfl rfl Tryd.func26 (by kernel_rfl) rfl #[(errV (.slice Ao54 t199.length co54))] rfl (by (try simp only [List.map_toArray, List.map_cons, List.map_nil]); first | done | rfl | (simp only [List.length_drop, List.length_take]; rfl)) ?_; (with_reducible refine (fail_Code.calls _ _ t199 t202 _ ?side1 ?side2 ?side3 A15.out).mono ?_); (case side1 => repeat (first | exact (Kd.R_reads' HO201.out).2.2 | (with_reducible refine Kd.C_alloc ?_ _) | (with_reducible refine Kd.C_drewN ?_ _) | (with_reducible refine Kd.C_drew ?_))); (case side2 => exact (Kd.R_reads' HO201.out).2.1); (case side3 => exact Gl.below HG_.out (by repeat (first | (with_reducible first | exact HB.out | apply below_alloc | apply pw_below_drewN | apply below_drew1 | refine below_set ?_ (IsS89.ge HI187.out) | refine below_set ?_ GE196.out) | exact HB.out))); rintro e w55 ⟨rfl, hb⟩; refine ⟨_, rfl, ?_⟩; have n0_ := Aside0.mk (Kd.R_below (by (with_reducible repeat (first | apply Kd.R_alloc | apply Kd.R_drewN | apply Kd.R_drew)); exact HO193.out) hb); have n1_ := Aside0.mk (Kd.R_below (by (with_reducible repeat (first | apply Kd.R_alloc | apply Kd.R_drewN | apply Kd.R_drew)); exact HO201.out) hb); have n2_ := Aside0.mk (IsS89.below (by repeat (first | (with_reducible first | exact HI187.out | apply IsS89.alloc | apply IsS89.drewN | apply IsS89.drew | apply IsS89.set_0 | apply IsS89.set_1 | refine IsS89.far ?_ NB187_196.out _) | exact HI187.out)) hb); have n3_ := Aside0.mk (blk_below (g := gb196) (o := .cells #[.string t188, .int .i64 t189, .string t190] 23 (0, 0)) (by (with_reducible repeat (first | refine blk_drewN ?_ _ | refine blk_drew ?_ | refine blk_alloc ?_ _)); exact BK196.out) hb); have n4_ := Aside0.mk (below_step (by repeat (first | (with_reducible first | exact HB.out | apply below_alloc | apply pw_below_drewN | apply below_drew1 | refine below_set ?_ (IsS89.ge HI187.out) | refine below_set ?_ GE196.out) | exact HB.out)) hb); clear HO193; clear HO201; clear HI187; clear BK196; clear HB; have HO193 := n0_; have HO201 := n1_; have HI187 := n2_; have BK196 := n3_; have HB := n4_; clear n0_ n1_ n2_ n3_ n4_; (try clear hb); (try clear hb2); (try clear hk); (try clear hi)))
            go_ret
            exact ⟨by first | rfl | (simp [errW_none, errW_some] <;> rfl) | (simp [*, errW_none, errW_some] <;> rfl), by repeat (first | (with_reducible first | exact HB.out | apply below_alloc | apply pw_below_drewN | apply below_drew1 | refine below_set ?_ (IsS89.ge HI187.out) | refine below_set ?_ GE196.out) | exact HB.out)⟩
        · rw [if_neg c13] at H
          have c13b0 : (t197 == 0) = false := beq_eq_false_iff_ne.mpr c13
          have c13b1 : (t197 != 0) = true := bne_iff_ne.mpr c13
          replace H := Option.bind_eq_some_iff.mp H
          obtain ⟨t206, A560, H⟩ := H
          replace H : (if t206 = 13 then (some (t188.toList == ([] : List UInt8) && (t189 == 0 && (t190.toList == ([] : List UInt8))))) else (some false)) = some r := H
          have A56 := Aside0.mk A560
          clear A560
          have E_ := Option.some.inj (A12.out.symm.trans A56.out)
          subst E_
          by_cases c57 : t197 = 13
          · rw [if_pos c57] at H
            have c57b0 : (t197 == 13) = true := beq_iff_eq.mpr c57
            have c57b1 : (t197 != 13) = false := bne_eq_false_iff_eq.mpr c57
            clear c57
            obtain rfl := Option.some.inj H
            go_wp2_with (first | ((with_reducible refine gate_callee (f := 37) rfl ?_); refine goesL_ (some 17) rfl rfl Tryd.func37 (by kernel_rfl) rfl #[.string a0] rfl (by (try simp only [List.map_toArray, List.map_cons, List.map_nil]); first | done | rfl | (simp only [List.length_drop, List.length_take]; rfl)) ?_; (with_reducible refine (code_New.calls a0 t185 t186 w _ ?side1 A10.out).mono ?_); (case side1 => repeat (first | (with_reducible first | exact HB.out | apply below_alloc | apply pw_below_drewN | apply below_drew1) | exact HB.out)); rintro e w58 ⟨g187, rfl, hi, hb, hb2⟩; refine ⟨_, rfl, ?_⟩; have n0_ := Aside0.mk (hb); have n1_ := Aside0.mk (hi); clear HB; have HB := n0_; have HI187 := n1_; clear n0_ n1_; (try clear hb); (try clear hb2); (try clear hk); (try clear hi)) | ((with_reducible refine gate_callee (f := 38) rfl ?_); refine goesL_ (some 20) rfl rfl Tryd.func38 (by kernel_rfl) rfl #[.pointer (some ⟨g187, 0, none⟩)] rfl (by (try simp only [List.map_toArray, List.map_cons, List.map_nil]); first | done | rfl | (simp only [List.length_drop, List.length_take]; rfl)) ?_; (with_reducible refine (entry_Read.calls g187 t185 t186 t188 t189 t190 t191 t194 t195 w _ ?side1 ?side2 A11.out).mono ?_); (case side1 => repeat (first | (with_reducible first | exact HI187.out | apply IsS89.alloc | apply IsS89.drewN | apply IsS89.drew | apply IsS89.set_0 | apply IsS89.set_1) | exact HI187.out)); (case side2 => repeat (first | (with_reducible first | exact HB.out | apply below_alloc | apply pw_below_drewN | apply below_drew1 | refine below_set ?_ (IsS89.ge HI187.out)) | exact HB.out)); rintro e w59 ⟨v192, rfl, ho0, hi, hb, hk⟩; refine ⟨_, rfl, ?_⟩; have n0_ := Aside0.mk (Kd.R_lower ho0 (below_size (by repeat (first | (with_reducible first | exact HB.out | apply below_alloc | apply pw_below_drewN | apply below_drew1 | refine below_set ?_ (IsS89.ge HI187.out)) | exact HB.out)))); have n1_ := Aside0.mk (hb); have n2_ := Aside0.mk (hi); clear HB; clear HI187; have HO193 := n0_; have HB := n1_; have HI187 := n2_; clear n0_ n1_ n2_; (try clear hb); (try clear hb2); (try clear hk); (try clear hi); (try clear ho0); have hE_v192 := errNil_of HO193.out) | ((with_reducible refine gate_dst (N := 4) rfl ?_); (try (refine gate_guard (by rfl) ?_; dsimp only)); refine box_event ?hg (N := 4) ?hd (cs := #[.string (⟨#[]⟩ : ByteArray), .int .i64 0, .string (⟨#[]⟩ : ByteArray)]) (t := 23) ?hr ?_; (case hd => rfl); (case hg => rfl); (case hr => first | (go_simp; done) | (go_simp; rfl)); intro gb196 hg w60 hbox hb; have n0_ := Aside0.mk (Kd.R_below (by (with_reducible repeat (first | apply Kd.R_alloc | apply Kd.R_drewN | apply Kd.R_drew)); exact HO193.out) hb); have n1_ := Aside0.mk (IsS89.below (by repeat (first | (with_reducible first | exact HI187.out | apply IsS89.alloc | apply IsS89.drewN | apply IsS89.drew | apply IsS89.set_0 | apply IsS89.set_1) | exact HI187.out)) hb); have n2_ := Aside0.mk (below_step (by repeat (first | (with_reducible first | exact HB.out | apply below_alloc | apply pw_below_drewN | apply below_drew1 | refine below_set ?_ (IsS89.ge HI187.out)) | exact HB.out)) hb); have n3_ := Aside0.mk (hbox); have n4_ := Aside0.mk ((by rw [hg]; exact (below_size (by repeat (first | (with_reducible first | exact HB.out | apply below_alloc | apply pw_below_drewN | apply below_drew1 | refine below_set ?_ (IsS89.ge HI187.out)) | exact HB.out))) : w.heap.size ≤ gb196)); have n5_ := Aside0.mk ((by rw [hg]; exact (below_size (by repeat (first | (with_reducible first | exact HB.out | apply below_alloc | apply pw_below_drewN | apply below_drew1 | refine below_set ?_ (IsS89.ge HI187.out)) | exact HB.out))) : w.heap.size ≤ gb196)); have n6_ := Aside0.mk ((by rw [hg]; exact Nat.ne_of_lt (IsS89.lt (show IsS89 w _ g187 t194 t195 from by repeat (first | (with_reducible first | exact HI187.out | apply IsS89.alloc | apply IsS89.drewN | apply IsS89.drew | apply IsS89.set_0 | apply IsS89.set_1) | exact HI187.out))) : g187 ≠ gb196)); have n7_ := Aside0.mk ((by rw [hg]; exact Nat.ne_of_gt (IsS89.lt (show IsS89 w _ g187 t194 t195 from by repeat (first | (with_reducible first | exact HI187.out | apply IsS89.alloc | apply IsS89.drewN | apply IsS89.drew | apply IsS89.set_0 | apply IsS89.set_1) | exact HI187.out))) : gb196 ≠ g187)); clear HO193; clear HI187; clear HB; have HO193 := n0_; have HI187 := n1_; have HB := n2_; have BK196 := n3_; have GW196 := n4_; have GE196 := n5_; have NB187_196 := n6_; have NB196_187 := n7_; clear n0_ n1_ n2_ n3_ n4_ n5_ n6_ n7_; clear hb hbox hg; have hnb61 := NB196_187.out; have hnc61 := NB187_196.out; have hcz62_0 : w60.cell? ⟨gb196, 0, none⟩ = some (.string (⟨#[]⟩ : ByteArray)) := (blk_cell BK196.out 0).trans rfl; have hcz62_1 : w60.cell? ⟨gb196, 1, none⟩ = some (.int .i64 0) := (blk_cell BK196.out 1).trans rfl; have hcz62_2 : w60.cell? ⟨gb196, 2, none⟩ = some (.string (⟨#[]⟩ : ByteArray)) := (blk_cell BK196.out 2).trans rfl; have hfz62_0 := blk_frozen BK196.out 0; have hfz62_1 := blk_frozen BK196.out 1; have hfz62_2 := blk_frozen BK196.out 2; obtain ⟨Ao63, co63, eo63⟩ := Kd.R_slice HO193.out; subst eo63) | ((with_reducible refine gate_callee (f := 26) rfl ?_); refine goesL_ (some 27) rfl rfl Tryd.func26 (by kernel_rfl) rfl #[(errV (.slice Ao63 t191.length co63))] rfl (by (try simp only [List.map_toArray, List.map_cons, List.map_nil]); first | done | rfl | (simp only [List.length_drop, List.length_take]; rfl)) ?_; (with_reducible refine (fail_Code.calls _ _ t191 t197 _ ?side1 ?side2 ?side3 A12.out).mono ?_); (case side1 => repeat (first | exact (Kd.R_reads' HO193.out).2.2 | (with_reducible refine Kd.C_alloc ?_ _) | (with_reducible refine Kd.C_drewN ?_ _) | (with_reducible refine Kd.C_drew ?_))); (case side2 => exact (Kd.R_reads' HO193.out).2.1); (case side3 => exact Gl.below HG_.out (by repeat (first | (with_reducible first | exact HB.out | apply below_alloc | apply pw_below_drewN | apply below_drew1 | refine below_set ?_ (IsS89.ge HI187.out) | refine below_set ?_ GE196.out) | exact HB.out))); rintro e w65 ⟨rfl, hb⟩; refine ⟨_, rfl, ?_⟩; have n0_ := Aside0.mk (Kd.R_below (by (with_reducible repeat (first | apply Kd.R_alloc | apply Kd.R_drewN | apply Kd.R_drew)); exact HO193.out) hb); have n1_ := Aside0.mk (IsS89.below (by repeat (first | (with_reducible first | exact HI187.out | apply IsS89.alloc | apply IsS89.drewN | apply IsS89.drew | apply IsS89.set_0 | apply IsS89.set_1 | refine IsS89.far ?_ NB187_196.out _) | exact HI187.out)) hb); have n2_ := Aside0.mk (blk_below (g := gb196) (o := .cells #[.string t188, .int .i64 t189, .string t190] 23 (0, 0)) (by (with_reducible repeat (first | refine blk_drewN ?_ _ | refine blk_drew ?_ | refine blk_alloc ?_ _)); exact BK196.out) hb); have n3_ := Aside0.mk (below_step (by repeat (first | (with_reducible first | exact HB.out | apply below_alloc | apply pw_below_drewN | apply below_drew1 | refine below_set ?_ (IsS89.ge HI187.out) | refine below_set ?_ GE196.out) | exact HB.out)) hb); clear HO193; clear HI187; clear BK196; clear HB; have HO193 := n0_; have HI187 := n1_; have BK196 := n2_; have HB := n3_; clear n0_ n1_ n2_ n3_; (try clear hb); (try clear hb2); (try clear hk); (try clear hi); have hcz66_0 : w65.cell? ⟨gb196, 0, none⟩ = some (.string t188) := (blk_cell BK196.out 0).trans rfl; have hcz66_1 : w65.cell? ⟨gb196, 1, none⟩ = some (.int .i64 t189) := (blk_cell BK196.out 1).trans rfl; have hcz66_2 : w65.cell? ⟨gb196, 2, none⟩ = some (.string t190) := (blk_cell BK196.out 2).trans rfl; have hfz66_0 := blk_frozen BK196.out 0; have hfz66_1 := blk_frozen BK196.out 1; have hfz66_2 := blk_frozen BK196.out 2) | ((with_reducible refine gate_callee (f := 26) rfl ?_); refine goesL_ (some 24) rfl rfl Tryd.func26 (by kernel_rfl) rfl #[(errV (.slice Ao63 t191.length co63))] rfl (by (try simp only [List.map_toArray, List.map_cons, List.map_nil]); first | done | rfl | (simp only [List.length_drop, List.length_take]; rfl)) ?_; (with_reducible refine (fail_Code.calls _ _ t191 t197 _ ?side1 ?side2 ?side3 A12.out).mono ?_); (case side1 => refine (Kd.R_reads' (e := 102) (base := w.heap.size) (ok := fun k_ => True) (n := t191.length) (c := co63) ?_).2.2; exact (by (with_reducible repeat (first | apply Kd.R_alloc | apply Kd.R_drewN | apply Kd.R_drew)); exact (Kd.R_mono (Kd.R_far (p := ⟨gb196, 2, none⟩) (Kd.R_far (p := ⟨gb196, 1, none⟩) (Kd.R_far (p := ⟨gb196, 0, none⟩) (Kd.R_types HO193.out BK196.out (by decide)) (fun _ hk => hk.2) (.string t188)) (fun _ hk => hk.2) (.int .i64 t189)) (fun _ hk => hk.2) (.string t190)) (fun _ h_ => h_.1)))); (case side2 => exact (Kd.R_reads' HO193.out).2.1); (case side3 => exact Gl.below HG_.out (by repeat (first | (with_reducible first | exact HB.out | apply below_alloc | apply pw_below_drewN | apply below_drew1 | refine below_set ?_ (IsS89.ge HI187.out) | refine below_set ?_ GE196.out) | exact HB.out))); rintro e w64 ⟨rfl, hb⟩; refine ⟨_, rfl, ?_⟩; have n0_ := Aside0.mk (Kd.R_below (by (with_reducible repeat (first | apply Kd.R_alloc | apply Kd.R_drewN | apply Kd.R_drew)); exact (Kd.R_mono (Kd.R_far (p := ⟨gb196, 2, none⟩) (Kd.R_far (p := ⟨gb196, 1, none⟩) (Kd.R_far (p := ⟨gb196, 0, none⟩) (Kd.R_types HO193.out BK196.out (by decide)) (fun _ hk => hk.2) (.string t188)) (fun _ hk => hk.2) (.int .i64 t189)) (fun _ hk => hk.2) (.string t190)) (fun _ h_ => h_.1))) hb); have n1_ := Aside0.mk (IsS89.below (show IsS89 w (((w60.setCell ⟨gb196, 0, none⟩ (.string t188)).setCell ⟨gb196, 1, none⟩ (.int .i64 t189)).setCell ⟨gb196, 2, none⟩ (.string t190)) g187 t194 t195 from by repeat (first | (with_reducible first | exact HI187.out | apply IsS89.alloc | apply IsS89.drewN | apply IsS89.drew | apply IsS89.set_0 | apply IsS89.set_1 | refine IsS89.far ?_ NB187_196.out _) | exact HI187.out)) hb); have n2_ := Aside0.mk (blk_below (g := gb196) (o := .cells #[.string t188, .int .i64 t189, .string t190] 23 (0, 0)) (by (with_reducible repeat (first | refine blk_drewN ?_ _ | refine blk_drew ?_ | refine blk_alloc ?_ _)); refine blk_put (cs := #[.string t188, .int .i64 t189, .string (⟨#[]⟩ : ByteArray)]) ?_ 2 _ rfl; (with_reducible repeat (first | refine blk_drewN ?_ _ | refine blk_drew ?_ | refine blk_alloc ?_ _)); refine blk_put (cs := #[.string t188, .int .i64 0, .string (⟨#[]⟩ : ByteArray)]) ?_ 1 _ rfl; (with_reducible repeat (first | refine blk_drewN ?_ _ | refine blk_drew ?_ | refine blk_alloc ?_ _)); refine blk_put (cs := #[.string (⟨#[]⟩ : ByteArray), .int .i64 0, .string (⟨#[]⟩ : ByteArray)]) ?_ 0 _ rfl; (with_reducible repeat (first | refine blk_drewN ?_ _ | refine blk_drew ?_ | refine blk_alloc ?_ _)); exact BK196.out) hb); have n3_ := Aside0.mk (below_step (by repeat (first | (with_reducible first | exact HB.out | apply below_alloc | apply pw_below_drewN | apply below_drew1 | refine below_set ?_ (IsS89.ge HI187.out) | refine below_set ?_ GE196.out) | exact HB.out)) hb); clear HO193; clear HI187; clear BK196; clear HB; have HO193 := n0_; have HI187 := n1_; have BK196 := n2_; have HB := n3_; clear n0_ n1_ n2_ n3_; (try clear hb); (try clear hb2); (try clear hk); (try clear hi)))
            go_ret
            exact ⟨by first | rfl | (simp [errW_none, errW_some] <;> rfl) | (simp [*, errW_none, errW_some] <;> rfl), by repeat (first | (with_reducible first | exact HB.out | apply below_alloc | apply pw_below_drewN | apply below_drew1 | refine below_set ?_ (IsS89.ge HI187.out) | refine below_set ?_ GE196.out) | exact HB.out)⟩
          · rw [if_neg c57] at H
            have c57b0 : (t197 == 13) = false := beq_eq_false_iff_ne.mpr c57
            have c57b1 : (t197 != 13) = true := bne_iff_ne.mpr c57
            obtain rfl := Option.some.inj H
            go_wp2_with (first | ((with_reducible refine gate_callee (f := 37) rfl ?_); refine goesL_ (some 17) rfl rfl Tryd.func37 (by kernel_rfl) rfl #[.string a0] rfl (by (try simp only [List.map_toArray, List.map_cons, List.map_nil]); first | done | rfl | (simp only [List.length_drop, List.length_take]; rfl)) ?_; (with_reducible refine (code_New.calls a0 t185 t186 w _ ?side1 A10.out).mono ?_); (case side1 => repeat (first | (with_reducible first | exact HB.out | apply below_alloc | apply pw_below_drewN | apply below_drew1) | exact HB.out)); rintro e w67 ⟨g187, rfl, hi, hb, hb2⟩; refine ⟨_, rfl, ?_⟩; have n0_ := Aside0.mk (hb); have n1_ := Aside0.mk (hi); clear HB; have HB := n0_; have HI187 := n1_; clear n0_ n1_; (try clear hb); (try clear hb2); (try clear hk); (try clear hi)) | ((with_reducible refine gate_callee (f := 38) rfl ?_); refine goesL_ (some 20) rfl rfl Tryd.func38 (by kernel_rfl) rfl #[.pointer (some ⟨g187, 0, none⟩)] rfl (by (try simp only [List.map_toArray, List.map_cons, List.map_nil]); first | done | rfl | (simp only [List.length_drop, List.length_take]; rfl)) ?_; (with_reducible refine (entry_Read.calls g187 t185 t186 t188 t189 t190 t191 t194 t195 w _ ?side1 ?side2 A11.out).mono ?_); (case side1 => repeat (first | (with_reducible first | exact HI187.out | apply IsS89.alloc | apply IsS89.drewN | apply IsS89.drew | apply IsS89.set_0 | apply IsS89.set_1) | exact HI187.out)); (case side2 => repeat (first | (with_reducible first | exact HB.out | apply below_alloc | apply pw_below_drewN | apply below_drew1 | refine below_set ?_ (IsS89.ge HI187.out)) | exact HB.out)); rintro e w68 ⟨v192, rfl, ho0, hi, hb, hk⟩; refine ⟨_, rfl, ?_⟩; have n0_ := Aside0.mk (Kd.R_lower ho0 (below_size (by repeat (first | (with_reducible first | exact HB.out | apply below_alloc | apply pw_below_drewN | apply below_drew1 | refine below_set ?_ (IsS89.ge HI187.out)) | exact HB.out)))); have n1_ := Aside0.mk (hb); have n2_ := Aside0.mk (hi); clear HB; clear HI187; have HO193 := n0_; have HB := n1_; have HI187 := n2_; clear n0_ n1_ n2_; (try clear hb); (try clear hb2); (try clear hk); (try clear hi); (try clear ho0); have hE_v192 := errNil_of HO193.out) | ((with_reducible refine gate_dst (N := 4) rfl ?_); (try (refine gate_guard (by rfl) ?_; dsimp only)); refine box_event ?hg (N := 4) ?hd (cs := #[.string (⟨#[]⟩ : ByteArray), .int .i64 0, .string (⟨#[]⟩ : ByteArray)]) (t := 23) ?hr ?_; (case hd => rfl); (case hg => rfl); (case hr => first | (go_simp; done) | (go_simp; rfl)); intro gb196 hg w69 hbox hb; have n0_ := Aside0.mk (Kd.R_below (by (with_reducible repeat (first | apply Kd.R_alloc | apply Kd.R_drewN | apply Kd.R_drew)); exact HO193.out) hb); have n1_ := Aside0.mk (IsS89.below (by repeat (first | (with_reducible first | exact HI187.out | apply IsS89.alloc | apply IsS89.drewN | apply IsS89.drew | apply IsS89.set_0 | apply IsS89.set_1) | exact HI187.out)) hb); have n2_ := Aside0.mk (below_step (by repeat (first | (with_reducible first | exact HB.out | apply below_alloc | apply pw_below_drewN | apply below_drew1 | refine below_set ?_ (IsS89.ge HI187.out)) | exact HB.out)) hb); have n3_ := Aside0.mk (hbox); have n4_ := Aside0.mk ((by rw [hg]; exact (below_size (by repeat (first | (with_reducible first | exact HB.out | apply below_alloc | apply pw_below_drewN | apply below_drew1 | refine below_set ?_ (IsS89.ge HI187.out)) | exact HB.out))) : w.heap.size ≤ gb196)); have n5_ := Aside0.mk ((by rw [hg]; exact (below_size (by repeat (first | (with_reducible first | exact HB.out | apply below_alloc | apply pw_below_drewN | apply below_drew1 | refine below_set ?_ (IsS89.ge HI187.out)) | exact HB.out))) : w.heap.size ≤ gb196)); have n6_ := Aside0.mk ((by rw [hg]; exact Nat.ne_of_lt (IsS89.lt (show IsS89 w _ g187 t194 t195 from by repeat (first | (with_reducible first | exact HI187.out | apply IsS89.alloc | apply IsS89.drewN | apply IsS89.drew | apply IsS89.set_0 | apply IsS89.set_1) | exact HI187.out))) : g187 ≠ gb196)); have n7_ := Aside0.mk ((by rw [hg]; exact Nat.ne_of_gt (IsS89.lt (show IsS89 w _ g187 t194 t195 from by repeat (first | (with_reducible first | exact HI187.out | apply IsS89.alloc | apply IsS89.drewN | apply IsS89.drew | apply IsS89.set_0 | apply IsS89.set_1) | exact HI187.out))) : gb196 ≠ g187)); clear HO193; clear HI187; clear HB; have HO193 := n0_; have HI187 := n1_; have HB := n2_; have BK196 := n3_; have GW196 := n4_; have GE196 := n5_; have NB187_196 := n6_; have NB196_187 := n7_; clear n0_ n1_ n2_ n3_ n4_ n5_ n6_ n7_; clear hb hbox hg; have hnb70 := NB196_187.out; have hnc70 := NB187_196.out; have hcz71_0 : w69.cell? ⟨gb196, 0, none⟩ = some (.string (⟨#[]⟩ : ByteArray)) := (blk_cell BK196.out 0).trans rfl; have hcz71_1 : w69.cell? ⟨gb196, 1, none⟩ = some (.int .i64 0) := (blk_cell BK196.out 1).trans rfl; have hcz71_2 : w69.cell? ⟨gb196, 2, none⟩ = some (.string (⟨#[]⟩ : ByteArray)) := (blk_cell BK196.out 2).trans rfl; have hfz71_0 := blk_frozen BK196.out 0; have hfz71_1 := blk_frozen BK196.out 1; have hfz71_2 := blk_frozen BK196.out 2; obtain ⟨Ao72, co72, eo72⟩ := Kd.R_slice HO193.out; subst eo72) | ((with_reducible refine gate_callee (f := 26) rfl ?_); refine goesL_ (some 27) rfl rfl Tryd.func26 (by kernel_rfl) rfl #[(errV (.slice Ao72 t191.length co72))] rfl (by (try simp only [List.map_toArray, List.map_cons, List.map_nil]); first | done | rfl | (simp only [List.length_drop, List.length_take]; rfl)) ?_; (with_reducible refine (fail_Code.calls _ _ t191 t197 _ ?side1 ?side2 ?side3 A12.out).mono ?_); (case side1 => repeat (first | exact (Kd.R_reads' HO193.out).2.2 | (with_reducible refine Kd.C_alloc ?_ _) | (with_reducible refine Kd.C_drewN ?_ _) | (with_reducible refine Kd.C_drew ?_))); (case side2 => exact (Kd.R_reads' HO193.out).2.1); (case side3 => exact Gl.below HG_.out (by repeat (first | (with_reducible first | exact HB.out | apply below_alloc | apply pw_below_drewN | apply below_drew1 | refine below_set ?_ (IsS89.ge HI187.out) | refine below_set ?_ GE196.out) | exact HB.out))); rintro e w74 ⟨rfl, hb⟩; refine ⟨_, rfl, ?_⟩; have n0_ := Aside0.mk (Kd.R_below (by (with_reducible repeat (first | apply Kd.R_alloc | apply Kd.R_drewN | apply Kd.R_drew)); exact HO193.out) hb); have n1_ := Aside0.mk (IsS89.below (by repeat (first | (with_reducible first | exact HI187.out | apply IsS89.alloc | apply IsS89.drewN | apply IsS89.drew | apply IsS89.set_0 | apply IsS89.set_1 | refine IsS89.far ?_ NB187_196.out _) | exact HI187.out)) hb); have n2_ := Aside0.mk (blk_below (g := gb196) (o := .cells #[.string t188, .int .i64 t189, .string t190] 23 (0, 0)) (by (with_reducible repeat (first | refine blk_drewN ?_ _ | refine blk_drew ?_ | refine blk_alloc ?_ _)); exact BK196.out) hb); have n3_ := Aside0.mk (below_step (by repeat (first | (with_reducible first | exact HB.out | apply below_alloc | apply pw_below_drewN | apply below_drew1 | refine below_set ?_ (IsS89.ge HI187.out) | refine below_set ?_ GE196.out) | exact HB.out)) hb); clear HO193; clear HI187; clear BK196; clear HB; have HO193 := n0_; have HI187 := n1_; have BK196 := n2_; have HB := n3_; clear n0_ n1_ n2_ n3_; (try clear hb); (try clear hb2); (try clear hk); (try clear hi)) | ((with_reducible refine gate_callee (f := 26) rfl ?_); refine goesL_ (some 24) rfl rfl Tryd.func26 (by kernel_rfl) rfl #[(errV (.slice Ao72 t191.length co72))] rfl (by (try simp only [List.map_toArray, List.map_cons, List.map_nil]); first | done | rfl | (simp only [List.length_drop, List.length_take]; rfl)) ?_; (with_reducible refine (fail_Code.calls _ _ t191 t197 _ ?side1 ?side2 ?side3 A12.out).mono ?_); (case side1 => refine (Kd.R_reads' (e := 102) (base := w.heap.size) (ok := fun k_ => True) (n := t191.length) (c := co72) ?_).2.2; exact (by (with_reducible repeat (first | apply Kd.R_alloc | apply Kd.R_drewN | apply Kd.R_drew)); exact (Kd.R_mono (Kd.R_far (p := ⟨gb196, 2, none⟩) (Kd.R_far (p := ⟨gb196, 1, none⟩) (Kd.R_far (p := ⟨gb196, 0, none⟩) (Kd.R_types HO193.out BK196.out (by decide)) (fun _ hk => hk.2) (.string t188)) (fun _ hk => hk.2) (.int .i64 t189)) (fun _ hk => hk.2) (.string t190)) (fun _ h_ => h_.1)))); (case side2 => exact (Kd.R_reads' HO193.out).2.1); (case side3 => exact Gl.below HG_.out (by repeat (first | (with_reducible first | exact HB.out | apply below_alloc | apply pw_below_drewN | apply below_drew1 | refine below_set ?_ (IsS89.ge HI187.out) | refine below_set ?_ GE196.out) | exact HB.out))); rintro e w73 ⟨rfl, hb⟩; refine ⟨_, rfl, ?_⟩; have n0_ := Aside0.mk (Kd.R_below (by (with_reducible repeat (first | apply Kd.R_alloc | apply Kd.R_drewN | apply Kd.R_drew)); exact (Kd.R_mono (Kd.R_far (p := ⟨gb196, 2, none⟩) (Kd.R_far (p := ⟨gb196, 1, none⟩) (Kd.R_far (p := ⟨gb196, 0, none⟩) (Kd.R_types HO193.out BK196.out (by decide)) (fun _ hk => hk.2) (.string t188)) (fun _ hk => hk.2) (.int .i64 t189)) (fun _ hk => hk.2) (.string t190)) (fun _ h_ => h_.1))) hb); have n1_ := Aside0.mk (IsS89.below (show IsS89 w (((w69.setCell ⟨gb196, 0, none⟩ (.string t188)).setCell ⟨gb196, 1, none⟩ (.int .i64 t189)).setCell ⟨gb196, 2, none⟩ (.string t190)) g187 t194 t195 from by repeat (first | (with_reducible first | exact HI187.out | apply IsS89.alloc | apply IsS89.drewN | apply IsS89.drew | apply IsS89.set_0 | apply IsS89.set_1 | refine IsS89.far ?_ NB187_196.out _) | exact HI187.out)) hb); have n2_ := Aside0.mk (blk_below (g := gb196) (o := .cells #[.string t188, .int .i64 t189, .string t190] 23 (0, 0)) (by (with_reducible repeat (first | refine blk_drewN ?_ _ | refine blk_drew ?_ | refine blk_alloc ?_ _)); refine blk_put (cs := #[.string t188, .int .i64 t189, .string (⟨#[]⟩ : ByteArray)]) ?_ 2 _ rfl; (with_reducible repeat (first | refine blk_drewN ?_ _ | refine blk_drew ?_ | refine blk_alloc ?_ _)); refine blk_put (cs := #[.string t188, .int .i64 0, .string (⟨#[]⟩ : ByteArray)]) ?_ 1 _ rfl; (with_reducible repeat (first | refine blk_drewN ?_ _ | refine blk_drew ?_ | refine blk_alloc ?_ _)); refine blk_put (cs := #[.string (⟨#[]⟩ : ByteArray), .int .i64 0, .string (⟨#[]⟩ : ByteArray)]) ?_ 0 _ rfl; (with_reducible repeat (first | refine blk_drewN ?_ _ | refine blk_drew ?_ | refine blk_alloc ?_ _)); exact BK196.out) hb); have n3_ := Aside0.mk (below_step (by repeat (first | (with_reducible first | exact HB.out | apply below_alloc | apply pw_below_drewN | apply below_drew1 | refine below_set ?_ (IsS89.ge HI187.out) | refine below_set ?_ GE196.out) | exact HB.out)) hb); clear HO193; clear HI187; clear BK196; clear HB; have HO193 := n0_; have HI187 := n1_; have BK196 := n2_; have HB := n3_; clear n0_ n1_ n2_ n3_; (try clear hb); (try clear hb2); (try clear hk); (try clear hi)))
            go_ret
            exact ⟨by first | rfl | (simp [errW_none, errW_some] <;> rfl) | (simp [*, errW_none, errW_some] <;> rfl), by repeat (first | (with_reducible first | exact HB.out | apply below_alloc | apply pw_below_drewN | apply below_drew1 | refine below_set ?_ (IsS89.ge HI187.out) | refine below_set ?_ GE196.out) | exact HB.out)⟩

/-! ### shaleref03_Name: function 36 -/
def shaleref03_Name.l0 : Nat → ByteArray → Int → Option (Bool)
  | 0, _, _ => none
  | k + 1, x0, x3 => if x3 < (x0.size : Int) then (if 0 ≤ x3 then (if (bt x0 x3) ≥ 97 then (if (bt x0 x3) ≤ 122 then (shaleref03_Name.l0 k x0 (wrap64 (x3 + 1))) else (if (bt x0 x3) ≥ 48 then (if (bt x0 x3) ≤ 57 then (shaleref03_Name.l0 k x0 (wrap64 (x3 + 1))) else (if (bt x0 x3) = 45 then (shaleref03_Name.l0 k x0 (wrap64 (x3 + 1))) else (if ((bt x0 x3) = 95) then (shaleref03_Name.l0 k x0 (wrap64 (x3 + 1))) else (some false)))) else (if (bt x0 x3) = 45 then (shaleref03_Name.l0 k x0 (wrap64 (x3 + 1))) else (if ((bt x0 x3) = 95) then (shaleref03_Name.l0 k x0 (wrap64 (x3 + 1))) else (some false))))) else (if (bt x0 x3) ≥ 48 then (if (bt x0 x3) ≤ 57 then (shaleref03_Name.l0 k x0 (wrap64 (x3 + 1))) else (if (bt x0 x3) = 45 then (shaleref03_Name.l0 k x0 (wrap64 (x3 + 1))) else (if ((bt x0 x3) = 95) then (shaleref03_Name.l0 k x0 (wrap64 (x3 + 1))) else (some false)))) else (if (bt x0 x3) = 45 then (shaleref03_Name.l0 k x0 (wrap64 (x3 + 1))) else (if ((bt x0 x3) = 95) then (shaleref03_Name.l0 k x0 (wrap64 (x3 + 1))) else (some false))))) else (none)) else (if (x0.size : Int) ≥ 1 then (some (decide ((x0.size : Int) ≤ 8))) else (some false))
def shaleref03_Name.f (k : Nat) (a0 : ByteArray) : Option (Bool) := shaleref03_Name.l0 k a0 0
theorem shaleref03_Name.mono_l : ∀ k, (∀ y0 y1, LeO (shaleref03_Name.l0 k y0 y1) (shaleref03_Name.l0 (k + 1) y0 y1))
  | 0 => fun _ _ r h => by simp [shaleref03_Name.l0] at h
  | k + 1 => by
    have ih0 := shaleref03_Name.mono_l k
    · intro y0 y1
      unfold shaleref03_Name.l0
      repeat' first
      | (with_reducible exact ih0 _ _)
      | (with_reducible exact LeO.refl _)
      | (with_reducible exact LeO.none _)
      | (with_reducible refine LeO.ite ?_ ?_)
      | (with_reducible refine LeO.bind ?_ (fun _ => ?_))
      | exact ih0 _ _
      | exact LeO.none _
      | refine LeO.ite ?_ ?_
      | refine LeO.bind ?_ (fun _ => ?_)
theorem shaleref03_Name.mono : ∀ a0 k, LeO (shaleref03_Name.f k a0) (shaleref03_Name.f (k + 1) a0) := by
  intro a0 k
  have ih0 := shaleref03_Name.mono_l k
  unfold shaleref03_Name.f
  repeat' first
      | (with_reducible exact ih0 _ _)
      | (with_reducible exact LeO.refl _)
      | (with_reducible exact LeO.none _)
      | (with_reducible refine LeO.ite ?_ ?_)
      | (with_reducible refine LeO.bind ?_ (fun _ => ?_))
      | exact ih0 _ _
      | exact LeO.none _
      | refine LeO.ite ?_ ?_
      | refine LeO.bind ?_ (fun _ => ?_)
set_option maxHeartbeats 8000000 in
set_option maxRecDepth 100000 in
theorem shaleref03_Name.calls (k : Nat) (a0 : ByteArray) (r : Bool) (w : World) (h : shaleref03_Name.f k a0 = some r) :
    Calls Tryd.prog 36 #[.string a0] w fun e w' => e = .returned (.bool r) ∧ Drawn0 w w' := by
  have H : (shaleref03_Name.l0 k a0 0) = some r := h
  clear h
  have H' := Aside0.mk H
  clear H
  go_enter Tryd.func36, Tryd.ntmps36
  go_wp2
  go_loopg [3] k (fun kq v3 w' => ∃ (x3_1 : Int), v3 = .int .i64 x3_1 ∧ Aside0 (shaleref03_Name.l0 kq a0 x3_1 = some r) ∧ Aside0 (kq ≤ k) ∧ Drawn0 w w')
  case atStart => exact ⟨(0), (by first | rfl | (simp; done) | (simp [*]; done)), H', ⟨Nat.le_refl _⟩, by repeat (first | exact Drawn0.refl _ | apply Drawn0.step)⟩
  case round =>
    clear H'
    obtain ⟨x3_1, rfl, HA, HK1, ⟨m1, rfl⟩⟩ := hrel
    cases gk with
    | zero => exact absurd HA.out (by simp [shaleref03_Name.l0])
    | succ k1 =>
      have H := HA.out
      clear HA
      simp only [shaleref03_Name.l0] at H
      by_cases c2 : x3_1 < (a0.size : Int)
      · rw [if_pos c2] at H
        have c2b0 : decide (x3_1 < (a0.size : Int)) = true := decide_eq_true c2
        clear c2
        by_cases c3 : 0 ≤ x3_1
        · rw [if_pos c3] at H
          have c3b0 : decide (0 ≤ x3_1) = true := decide_eq_true c3
          clear c3
          by_cases c5 : (bt a0 x3_1) ≥ 97
          · rw [if_pos c5] at H
            have c5b0 : decide (97 ≤ (bt a0 x3_1)) = true := decide_eq_true c5
            clear c5
            by_cases c7 : (bt a0 x3_1) ≤ 122
            · rw [if_pos c7] at H
              have c7b0 : decide ((bt a0 x3_1) ≤ 122) = true := decide_eq_true c7
              clear c7
              have H' := Aside0.mk H
              clear H
              have p4 : 0 ≤ (x3_1 : Int) := of_decide_eq_true (by first | (with_reducible assumption) | assumption)
              have q4 : x3_1 < (a0.size : Int) := of_decide_eq_true (by first | (with_reducible assumption) | assumption)
              have hx4 := bt_at a0 x3_1
              replace p4 := eq_true p4
              replace q4 := eq_true q4
              have p6 : 0 ≤ (x3_1 : Int) := of_decide_eq_true (by first | (with_reducible assumption) | assumption)
              have q6 : x3_1 < (a0.size : Int) := of_decide_eq_true (by first | (with_reducible assumption) | assumption)
              have hx6 := bt_at a0 x3_1
              replace p6 := eq_true p6
              replace q6 := eq_true q6
              go_wp2
              go_roundg k1
              case measure => have := HK1.out; omega
              case rel => exact ⟨(wrap64 (x3_1 + 1)), (by first | rfl | (simp; done) | (simp [*]; done)), H', ⟨by have := HK1.out; omega⟩, by repeat (first | exact Drawn0.refl _ | apply Drawn0.step)⟩
            · rw [if_neg c7] at H
              have c7b0 : decide ((bt a0 x3_1) ≤ 122) = false := decide_eq_false c7
              clear c7
              by_cases c9 : (bt a0 x3_1) ≥ 48
              · rw [if_pos c9] at H
                have c9b0 : decide (48 ≤ (bt a0 x3_1)) = true := decide_eq_true c9
                clear c9
                by_cases c11 : (bt a0 x3_1) ≤ 57
                · rw [if_pos c11] at H
                  have c11b0 : decide ((bt a0 x3_1) ≤ 57) = true := decide_eq_true c11
                  clear c11
                  have H' := Aside0.mk H
                  clear H
                  have p4 : 0 ≤ (x3_1 : Int) := of_decide_eq_true (by first | (with_reducible assumption) | assumption)
                  have q4 : x3_1 < (a0.size : Int) := of_decide_eq_true (by first | (with_reducible assumption) | assumption)
                  have hx4 := bt_at a0 x3_1
                  replace p4 := eq_true p4
                  replace q4 := eq_true q4
                  have p6 : 0 ≤ (x3_1 : Int) := of_decide_eq_true (by first | (with_reducible assumption) | assumption)
                  have q6 : x3_1 < (a0.size : Int) := of_decide_eq_true (by first | (with_reducible assumption) | assumption)
                  have hx6 := bt_at a0 x3_1
                  replace p6 := eq_true p6
                  replace q6 := eq_true q6
                  have p8 : 0 ≤ (x3_1 : Int) := of_decide_eq_true (by first | (with_reducible assumption) | assumption)
                  have q8 : x3_1 < (a0.size : Int) := of_decide_eq_true (by first | (with_reducible assumption) | assumption)
                  have hx8 := bt_at a0 x3_1
                  replace p8 := eq_true p8
                  replace q8 := eq_true q8
                  have p10 : 0 ≤ (x3_1 : Int) := of_decide_eq_true (by first | (with_reducible assumption) | assumption)
                  have q10 : x3_1 < (a0.size : Int) := of_decide_eq_true (by first | (with_reducible assumption) | assumption)
                  have hx10 := bt_at a0 x3_1
                  replace p10 := eq_true p10
                  replace q10 := eq_true q10
                  go_wp2
                  go_roundg k1
                  case measure => have := HK1.out; omega
                  case rel => exact ⟨(wrap64 (x3_1 + 1)), (by first | rfl | (simp; done) | (simp [*]; done)), H', ⟨by have := HK1.out; omega⟩, by repeat (first | exact Drawn0.refl _ | apply Drawn0.step)⟩
                · rw [if_neg c11] at H
                  have c11b0 : decide ((bt a0 x3_1) ≤ 57) = false := decide_eq_false c11
                  clear c11
                  by_cases c13 : (bt a0 x3_1) = 45
                  · rw [if_pos c13] at H
                    have c13b0 : ((bt a0 x3_1) == 45) = true := beq_iff_eq.mpr c13
                    have c13b1 : ((bt a0 x3_1) != 45) = false := bne_eq_false_iff_eq.mpr c13
                    clear c13
                    have H' := Aside0.mk H
                    clear H
                    have p4 : 0 ≤ (x3_1 : Int) := of_decide_eq_true (by first | (with_reducible assumption) | assumption)
                    have q4 : x3_1 < (a0.size : Int) := of_decide_eq_true (by first | (with_reducible assumption) | assumption)
                    have hx4 := bt_at a0 x3_1
                    replace p4 := eq_true p4
                    replace q4 := eq_true q4
                    have p6 : 0 ≤ (x3_1 : Int) := of_decide_eq_true (by first | (with_reducible assumption) | assumption)
                    have q6 : x3_1 < (a0.size : Int) := of_decide_eq_true (by first | (with_reducible assumption) | assumption)
                    have hx6 := bt_at a0 x3_1
                    replace p6 := eq_true p6
                    replace q6 := eq_true q6
                    have p8 : 0 ≤ (x3_1 : Int) := of_decide_eq_true (by first | (with_reducible assumption) | assumption)
                    have q8 : x3_1 < (a0.size : Int) := of_decide_eq_true (by first | (with_reducible assumption) | assumption)
                    have hx8 := bt_at a0 x3_1
                    replace p8 := eq_true p8
                    replace q8 := eq_true q8
                    have p10 : 0 ≤ (x3_1 : Int) := of_decide_eq_true (by first | (with_reducible assumption) | assumption)
                    have q10 : x3_1 < (a0.size : Int) := of_decide_eq_true (by first | (with_reducible assumption) | assumption)
                    have hx10 := bt_at a0 x3_1
                    replace p10 := eq_true p10
                    replace q10 := eq_true q10
                    have p12 : 0 ≤ (x3_1 : Int) := of_decide_eq_true (by first | (with_reducible assumption) | assumption)
                    have q12 : x3_1 < (a0.size : Int) := of_decide_eq_true (by first | (with_reducible assumption) | assumption)
                    have hx12 := bt_at a0 x3_1
                    replace p12 := eq_true p12
                    replace q12 := eq_true q12
                    go_wp2
                    go_roundg k1
                    case measure => have := HK1.out; omega
                    case rel => exact ⟨(wrap64 (x3_1 + 1)), (by first | rfl | (simp; done) | (simp [*]; done)), H', ⟨by have := HK1.out; omega⟩, by repeat (first | exact Drawn0.refl _ | apply Drawn0.step)⟩
                  · rw [if_neg c13] at H
                    have c13b0 : ((bt a0 x3_1) == 45) = false := beq_eq_false_iff_ne.mpr c13
                    have c13b1 : ((bt a0 x3_1) != 45) = true := bne_iff_ne.mpr c13
                    by_cases c15 : ((bt a0 x3_1) = 95)
                    · rw [if_pos c15] at H
                      have c15b0 : ((bt a0 x3_1) == 95) = true := beq_iff_eq.mpr c15
                      have c15b1 : ((bt a0 x3_1) != 95) = false := bne_eq_false_iff_eq.mpr c15
                      clear c15
                      have H' := Aside0.mk H
                      clear H
                      have p4 : 0 ≤ (x3_1 : Int) := of_decide_eq_true (by first | (with_reducible assumption) | assumption)
                      have q4 : x3_1 < (a0.size : Int) := of_decide_eq_true (by first | (with_reducible assumption) | assumption)
                      have hx4 := bt_at a0 x3_1
                      replace p4 := eq_true p4
                      replace q4 := eq_true q4
                      have p6 : 0 ≤ (x3_1 : Int) := of_decide_eq_true (by first | (with_reducible assumption) | assumption)
                      have q6 : x3_1 < (a0.size : Int) := of_decide_eq_true (by first | (with_reducible assumption) | assumption)
                      have hx6 := bt_at a0 x3_1
                      replace p6 := eq_true p6
                      replace q6 := eq_true q6
                      have p8 : 0 ≤ (x3_1 : Int) := of_decide_eq_true (by first | (with_reducible assumption) | assumption)
                      have q8 : x3_1 < (a0.size : Int) := of_decide_eq_true (by first | (with_reducible assumption) | assumption)
                      have hx8 := bt_at a0 x3_1
                      replace p8 := eq_true p8
                      replace q8 := eq_true q8
                      have p10 : 0 ≤ (x3_1 : Int) := of_decide_eq_true (by first | (with_reducible assumption) | assumption)
                      have q10 : x3_1 < (a0.size : Int) := of_decide_eq_true (by first | (with_reducible assumption) | assumption)
                      have hx10 := bt_at a0 x3_1
                      replace p10 := eq_true p10
                      replace q10 := eq_true q10
                      have p12 : 0 ≤ (x3_1 : Int) := of_decide_eq_true (by first | (with_reducible assumption) | assumption)
                      have q12 : x3_1 < (a0.size : Int) := of_decide_eq_true (by first | (with_reducible assumption) | assumption)
                      have hx12 := bt_at a0 x3_1
                      replace p12 := eq_true p12
                      replace q12 := eq_true q12
                      have p14 : 0 ≤ (x3_1 : Int) := of_decide_eq_true (by first | (with_reducible assumption) | assumption)
                      have q14 : x3_1 < (a0.size : Int) := of_decide_eq_true (by first | (with_reducible assumption) | assumption)
                      have hx14 := bt_at a0 x3_1
                      replace p14 := eq_true p14
                      replace q14 := eq_true q14
                      go_wp2
                      go_roundg k1
                      case measure => have := HK1.out; omega
                      case rel => exact ⟨(wrap64 (x3_1 + 1)), (by first | rfl | (simp; done) | (simp [*]; done)), H', ⟨by have := HK1.out; omega⟩, by repeat (first | exact Drawn0.refl _ | apply Drawn0.step)⟩
                    · rw [if_neg c15] at H
                      have c15b0 : ((bt a0 x3_1) == 95) = false := beq_eq_false_iff_ne.mpr c15
                      have c15b1 : ((bt a0 x3_1) != 95) = true := bne_iff_ne.mpr c15
                      obtain rfl := Option.some.inj H
                      have p4 : 0 ≤ (x3_1 : Int) := of_decide_eq_true (by first | (with_reducible assumption) | assumption)
                      have q4 : x3_1 < (a0.size : Int) := of_decide_eq_true (by first | (with_reducible assumption) | assumption)
                      have hx4 := bt_at a0 x3_1
                      replace p4 := eq_true p4
                      replace q4 := eq_true q4
                      have p6 : 0 ≤ (x3_1 : Int) := of_decide_eq_true (by first | (with_reducible assumption) | assumption)
                      have q6 : x3_1 < (a0.size : Int) := of_decide_eq_true (by first | (with_reducible assumption) | assumption)
                      have hx6 := bt_at a0 x3_1
                      replace p6 := eq_true p6
                      replace q6 := eq_true q6
                      have p8 : 0 ≤ (x3_1 : Int) := of_decide_eq_true (by first | (with_reducible assumption) | assumption)
                      have q8 : x3_1 < (a0.size : Int) := of_decide_eq_true (by first | (with_reducible assumption) | assumption)
                      have hx8 := bt_at a0 x3_1
                      replace p8 := eq_true p8
                      replace q8 := eq_true q8
                      have p10 : 0 ≤ (x3_1 : Int) := of_decide_eq_true (by first | (with_reducible assumption) | assumption)
                      have q10 : x3_1 < (a0.size : Int) := of_decide_eq_true (by first | (with_reducible assumption) | assumption)
                      have hx10 := bt_at a0 x3_1
                      replace p10 := eq_true p10
                      replace q10 := eq_true q10
                      have p12 : 0 ≤ (x3_1 : Int) := of_decide_eq_true (by first | (with_reducible assumption) | assumption)
                      have q12 : x3_1 < (a0.size : Int) := of_decide_eq_true (by first | (with_reducible assumption) | assumption)
                      have hx12 := bt_at a0 x3_1
                      replace p12 := eq_true p12
                      replace q12 := eq_true q12
                      have p14 : 0 ≤ (x3_1 : Int) := of_decide_eq_true (by first | (with_reducible assumption) | assumption)
                      have q14 : x3_1 < (a0.size : Int) := of_decide_eq_true (by first | (with_reducible assumption) | assumption)
                      have hx14 := bt_at a0 x3_1
                      replace p14 := eq_true p14
                      replace q14 := eq_true q14
                      go_wp2
                      go_ret
                      exact ⟨by first | rfl | (simp; done) | (simp [*]; done), by repeat (first | exact Drawn0.refl _ | apply Drawn0.step)⟩
              · rw [if_neg c9] at H
                have c9b0 : decide (48 ≤ (bt a0 x3_1)) = false := decide_eq_false c9
                clear c9
                by_cases c17 : (bt a0 x3_1) = 45
                · rw [if_pos c17] at H
                  have c17b0 : ((bt a0 x3_1) == 45) = true := beq_iff_eq.mpr c17
                  have c17b1 : ((bt a0 x3_1) != 45) = false := bne_eq_false_iff_eq.mpr c17
                  clear c17
                  have H' := Aside0.mk H
                  clear H
                  have p4 : 0 ≤ (x3_1 : Int) := of_decide_eq_true (by first | (with_reducible assumption) | assumption)
                  have q4 : x3_1 < (a0.size : Int) := of_decide_eq_true (by first | (with_reducible assumption) | assumption)
                  have hx4 := bt_at a0 x3_1
                  replace p4 := eq_true p4
                  replace q4 := eq_true q4
                  have p6 : 0 ≤ (x3_1 : Int) := of_decide_eq_true (by first | (with_reducible assumption) | assumption)
                  have q6 : x3_1 < (a0.size : Int) := of_decide_eq_true (by first | (with_reducible assumption) | assumption)
                  have hx6 := bt_at a0 x3_1
                  replace p6 := eq_true p6
                  replace q6 := eq_true q6
                  have p8 : 0 ≤ (x3_1 : Int) := of_decide_eq_true (by first | (with_reducible assumption) | assumption)
                  have q8 : x3_1 < (a0.size : Int) := of_decide_eq_true (by first | (with_reducible assumption) | assumption)
                  have hx8 := bt_at a0 x3_1
                  replace p8 := eq_true p8
                  replace q8 := eq_true q8
                  have p16 : 0 ≤ (x3_1 : Int) := of_decide_eq_true (by first | (with_reducible assumption) | assumption)
                  have q16 : x3_1 < (a0.size : Int) := of_decide_eq_true (by first | (with_reducible assumption) | assumption)
                  have hx16 := bt_at a0 x3_1
                  replace p16 := eq_true p16
                  replace q16 := eq_true q16
                  go_wp2
                  go_roundg k1
                  case measure => have := HK1.out; omega
                  case rel => exact ⟨(wrap64 (x3_1 + 1)), (by first | rfl | (simp; done) | (simp [*]; done)), H', ⟨by have := HK1.out; omega⟩, by repeat (first | exact Drawn0.refl _ | apply Drawn0.step)⟩
                · rw [if_neg c17] at H
                  have c17b0 : ((bt a0 x3_1) == 45) = false := beq_eq_false_iff_ne.mpr c17
                  have c17b1 : ((bt a0 x3_1) != 45) = true := bne_iff_ne.mpr c17
                  by_cases c19 : ((bt a0 x3_1) = 95)
                  · rw [if_pos c19] at H
                    have c19b0 : ((bt a0 x3_1) == 95) = true := beq_iff_eq.mpr c19
                    have c19b1 : ((bt a0 x3_1) != 95) = false := bne_eq_false_iff_eq.mpr c19
                    clear c19
                    have H' := Aside0.mk H
                    clear H
                    have p4 : 0 ≤ (x3_1 : Int) := of_decide_eq_true (by first | (with_reducible assumption) | assumption)
                    have q4 : x3_1 < (a0.size : Int) := of_decide_eq_true (by first | (with_reducible assumption) | assumption)
                    have hx4 := bt_at a0 x3_1
                    replace p4 := eq_true p4
                    replace q4 := eq_true q4
                    have p6 : 0 ≤ (x3_1 : Int) := of_decide_eq_true (by first | (with_reducible assumption) | assumption)
                    have q6 : x3_1 < (a0.size : Int) := of_decide_eq_true (by first | (with_reducible assumption) | assumption)
                    have hx6 := bt_at a0 x3_1
                    replace p6 := eq_true p6
                    replace q6 := eq_true q6
                    have p8 : 0 ≤ (x3_1 : Int) := of_decide_eq_true (by first | (with_reducible assumption) | assumption)
                    have q8 : x3_1 < (a0.size : Int) := of_decide_eq_true (by first | (with_reducible assumption) | assumption)
                    have hx8 := bt_at a0 x3_1
                    replace p8 := eq_true p8
                    replace q8 := eq_true q8
                    have p16 : 0 ≤ (x3_1 : Int) := of_decide_eq_true (by first | (with_reducible assumption) | assumption)
                    have q16 : x3_1 < (a0.size : Int) := of_decide_eq_true (by first | (with_reducible assumption) | assumption)
                    have hx16 := bt_at a0 x3_1
                    replace p16 := eq_true p16
                    replace q16 := eq_true q16
                    have p18 : 0 ≤ (x3_1 : Int) := of_decide_eq_true (by first | (with_reducible assumption) | assumption)
                    have q18 : x3_1 < (a0.size : Int) := of_decide_eq_true (by first | (with_reducible assumption) | assumption)
                    have hx18 := bt_at a0 x3_1
                    replace p18 := eq_true p18
                    replace q18 := eq_true q18
                    go_wp2
                    go_roundg k1
                    case measure => have := HK1.out; omega
                    case rel => exact ⟨(wrap64 (x3_1 + 1)), (by first | rfl | (simp; done) | (simp [*]; done)), H', ⟨by have := HK1.out; omega⟩, by repeat (first | exact Drawn0.refl _ | apply Drawn0.step)⟩
                  · rw [if_neg c19] at H
                    have c19b0 : ((bt a0 x3_1) == 95) = false := beq_eq_false_iff_ne.mpr c19
                    have c19b1 : ((bt a0 x3_1) != 95) = true := bne_iff_ne.mpr c19
                    obtain rfl := Option.some.inj H
                    have p4 : 0 ≤ (x3_1 : Int) := of_decide_eq_true (by first | (with_reducible assumption) | assumption)
                    have q4 : x3_1 < (a0.size : Int) := of_decide_eq_true (by first | (with_reducible assumption) | assumption)
                    have hx4 := bt_at a0 x3_1
                    replace p4 := eq_true p4
                    replace q4 := eq_true q4
                    have p6 : 0 ≤ (x3_1 : Int) := of_decide_eq_true (by first | (with_reducible assumption) | assumption)
                    have q6 : x3_1 < (a0.size : Int) := of_decide_eq_true (by first | (with_reducible assumption) | assumption)
                    have hx6 := bt_at a0 x3_1
                    replace p6 := eq_true p6
                    replace q6 := eq_true q6
                    have p8 : 0 ≤ (x3_1 : Int) := of_decide_eq_true (by first | (with_reducible assumption) | assumption)
                    have q8 : x3_1 < (a0.size : Int) := of_decide_eq_true (by first | (with_reducible assumption) | assumption)
                    have hx8 := bt_at a0 x3_1
                    replace p8 := eq_true p8
                    replace q8 := eq_true q8
                    have p16 : 0 ≤ (x3_1 : Int) := of_decide_eq_true (by first | (with_reducible assumption) | assumption)
                    have q16 : x3_1 < (a0.size : Int) := of_decide_eq_true (by first | (with_reducible assumption) | assumption)
                    have hx16 := bt_at a0 x3_1
                    replace p16 := eq_true p16
                    replace q16 := eq_true q16
                    have p18 : 0 ≤ (x3_1 : Int) := of_decide_eq_true (by first | (with_reducible assumption) | assumption)
                    have q18 : x3_1 < (a0.size : Int) := of_decide_eq_true (by first | (with_reducible assumption) | assumption)
                    have hx18 := bt_at a0 x3_1
                    replace p18 := eq_true p18
                    replace q18 := eq_true q18
                    go_wp2
                    go_ret
                    exact ⟨by first | rfl | (simp; done) | (simp [*]; done), by repeat (first | exact Drawn0.refl _ | apply Drawn0.step)⟩
          · rw [if_neg c5] at H
            have c5b0 : decide (97 ≤ (bt a0 x3_1)) = false := decide_eq_false c5
            clear c5
            by_cases c21 : (bt a0 x3_1) ≥ 48
            · rw [if_pos c21] at H
              have c21b0 : decide (48 ≤ (bt a0 x3_1)) = true := decide_eq_true c21
              clear c21
              by_cases c23 : (bt a0 x3_1) ≤ 57
              · rw [if_pos c23] at H
                have c23b0 : decide ((bt a0 x3_1) ≤ 57) = true := decide_eq_true c23
                clear c23
                have H' := Aside0.mk H
                clear H
                have p4 : 0 ≤ (x3_1 : Int) := of_decide_eq_true (by first | (with_reducible assumption) | assumption)
                have q4 : x3_1 < (a0.size : Int) := of_decide_eq_true (by first | (with_reducible assumption) | assumption)
                have hx4 := bt_at a0 x3_1
                replace p4 := eq_true p4
                replace q4 := eq_true q4
                have p20 : 0 ≤ (x3_1 : Int) := of_decide_eq_true (by first | (with_reducible assumption) | assumption)
                have q20 : x3_1 < (a0.size : Int) := of_decide_eq_true (by first | (with_reducible assumption) | assumption)
                have hx20 := bt_at a0 x3_1
                replace p20 := eq_true p20
                replace q20 := eq_true q20
                have p22 : 0 ≤ (x3_1 : Int) := of_decide_eq_true (by first | (with_reducible assumption) | assumption)
                have q22 : x3_1 < (a0.size : Int) := of_decide_eq_true (by first | (with_reducible assumption) | assumption)
                have hx22 := bt_at a0 x3_1
                replace p22 := eq_true p22
                replace q22 := eq_true q22
                go_wp2
                go_roundg k1
                case measure => have := HK1.out; omega
                case rel => exact ⟨(wrap64 (x3_1 + 1)), (by first | rfl | (simp; done) | (simp [*]; done)), H', ⟨by have := HK1.out; omega⟩, by repeat (first | exact Drawn0.refl _ | apply Drawn0.step)⟩
              · rw [if_neg c23] at H
                have c23b0 : decide ((bt a0 x3_1) ≤ 57) = false := decide_eq_false c23
                clear c23
                by_cases c25 : (bt a0 x3_1) = 45
                · rw [if_pos c25] at H
                  have c25b0 : ((bt a0 x3_1) == 45) = true := beq_iff_eq.mpr c25
                  have c25b1 : ((bt a0 x3_1) != 45) = false := bne_eq_false_iff_eq.mpr c25
                  clear c25
                  have H' := Aside0.mk H
                  clear H
                  have p4 : 0 ≤ (x3_1 : Int) := of_decide_eq_true (by first | (with_reducible assumption) | assumption)
                  have q4 : x3_1 < (a0.size : Int) := of_decide_eq_true (by first | (with_reducible assumption) | assumption)
                  have hx4 := bt_at a0 x3_1
                  replace p4 := eq_true p4
                  replace q4 := eq_true q4
                  have p20 : 0 ≤ (x3_1 : Int) := of_decide_eq_true (by first | (with_reducible assumption) | assumption)
                  have q20 : x3_1 < (a0.size : Int) := of_decide_eq_true (by first | (with_reducible assumption) | assumption)
                  have hx20 := bt_at a0 x3_1
                  replace p20 := eq_true p20
                  replace q20 := eq_true q20
                  have p22 : 0 ≤ (x3_1 : Int) := of_decide_eq_true (by first | (with_reducible assumption) | assumption)
                  have q22 : x3_1 < (a0.size : Int) := of_decide_eq_true (by first | (with_reducible assumption) | assumption)
                  have hx22 := bt_at a0 x3_1
                  replace p22 := eq_true p22
                  replace q22 := eq_true q22
                  have p24 : 0 ≤ (x3_1 : Int) := of_decide_eq_true (by first | (with_reducible assumption) | assumption)
                  have q24 : x3_1 < (a0.size : Int) := of_decide_eq_true (by first | (with_reducible assumption) | assumption)
                  have hx24 := bt_at a0 x3_1
                  replace p24 := eq_true p24
                  replace q24 := eq_true q24
                  go_wp2
                  go_roundg k1
                  case measure => have := HK1.out; omega
                  case rel => exact ⟨(wrap64 (x3_1 + 1)), (by first | rfl | (simp; done) | (simp [*]; done)), H', ⟨by have := HK1.out; omega⟩, by repeat (first | exact Drawn0.refl _ | apply Drawn0.step)⟩
                · rw [if_neg c25] at H
                  have c25b0 : ((bt a0 x3_1) == 45) = false := beq_eq_false_iff_ne.mpr c25
                  have c25b1 : ((bt a0 x3_1) != 45) = true := bne_iff_ne.mpr c25
                  by_cases c27 : ((bt a0 x3_1) = 95)
                  · rw [if_pos c27] at H
                    have c27b0 : ((bt a0 x3_1) == 95) = true := beq_iff_eq.mpr c27
                    have c27b1 : ((bt a0 x3_1) != 95) = false := bne_eq_false_iff_eq.mpr c27
                    clear c27
                    have H' := Aside0.mk H
                    clear H
                    have p4 : 0 ≤ (x3_1 : Int) := of_decide_eq_true (by first | (with_reducible assumption) | assumption)
                    have q4 : x3_1 < (a0.size : Int) := of_decide_eq_true (by first | (with_reducible assumption) | assumption)
                    have hx4 := bt_at a0 x3_1
                    replace p4 := eq_true p4
                    replace q4 := eq_true q4
                    have p20 : 0 ≤ (x3_1 : Int) := of_decide_eq_true (by first | (with_reducible assumption) | assumption)
                    have q20 : x3_1 < (a0.size : Int) := of_decide_eq_true (by first | (with_reducible assumption) | assumption)
                    have hx20 := bt_at a0 x3_1
                    replace p20 := eq_true p20
                    replace q20 := eq_true q20
                    have p22 : 0 ≤ (x3_1 : Int) := of_decide_eq_true (by first | (with_reducible assumption) | assumption)
                    have q22 : x3_1 < (a0.size : Int) := of_decide_eq_true (by first | (with_reducible assumption) | assumption)
                    have hx22 := bt_at a0 x3_1
                    replace p22 := eq_true p22
                    replace q22 := eq_true q22
                    have p24 : 0 ≤ (x3_1 : Int) := of_decide_eq_true (by first | (with_reducible assumption) | assumption)
                    have q24 : x3_1 < (a0.size : Int) := of_decide_eq_true (by first | (with_reducible assumption) | assumption)
                    have hx24 := bt_at a0 x3_1
                    replace p24 := eq_true p24
                    replace q24 := eq_true q24
                    have p26 : 0 ≤ (x3_1 : Int) := of_decide_eq_true (by first | (with_reducible assumption) | assumption)
                    have q26 : x3_1 < (a0.size : Int) := of_decide_eq_true (by first | (with_reducible assumption) | assumption)
                    have hx26 := bt_at a0 x3_1
                    replace p26 := eq_true p26
                    replace q26 := eq_true q26
                    go_wp2
                    go_roundg k1
                    case measure => have := HK1.out; omega
                    case rel => exact ⟨(wrap64 (x3_1 + 1)), (by first | rfl | (simp; done) | (simp [*]; done)), H', ⟨by have := HK1.out; omega⟩, by repeat (first | exact Drawn0.refl _ | apply Drawn0.step)⟩
                  · rw [if_neg c27] at H
                    have c27b0 : ((bt a0 x3_1) == 95) = false := beq_eq_false_iff_ne.mpr c27
                    have c27b1 : ((bt a0 x3_1) != 95) = true := bne_iff_ne.mpr c27
                    obtain rfl := Option.some.inj H
                    have p4 : 0 ≤ (x3_1 : Int) := of_decide_eq_true (by first | (with_reducible assumption) | assumption)
                    have q4 : x3_1 < (a0.size : Int) := of_decide_eq_true (by first | (with_reducible assumption) | assumption)
                    have hx4 := bt_at a0 x3_1
                    replace p4 := eq_true p4
                    replace q4 := eq_true q4
                    have p20 : 0 ≤ (x3_1 : Int) := of_decide_eq_true (by first | (with_reducible assumption) | assumption)
                    have q20 : x3_1 < (a0.size : Int) := of_decide_eq_true (by first | (with_reducible assumption) | assumption)
                    have hx20 := bt_at a0 x3_1
                    replace p20 := eq_true p20
                    replace q20 := eq_true q20
                    have p22 : 0 ≤ (x3_1 : Int) := of_decide_eq_true (by first | (with_reducible assumption) | assumption)
                    have q22 : x3_1 < (a0.size : Int) := of_decide_eq_true (by first | (with_reducible assumption) | assumption)
                    have hx22 := bt_at a0 x3_1
                    replace p22 := eq_true p22
                    replace q22 := eq_true q22
                    have p24 : 0 ≤ (x3_1 : Int) := of_decide_eq_true (by first | (with_reducible assumption) | assumption)
                    have q24 : x3_1 < (a0.size : Int) := of_decide_eq_true (by first | (with_reducible assumption) | assumption)
                    have hx24 := bt_at a0 x3_1
                    replace p24 := eq_true p24
                    replace q24 := eq_true q24
                    have p26 : 0 ≤ (x3_1 : Int) := of_decide_eq_true (by first | (with_reducible assumption) | assumption)
                    have q26 : x3_1 < (a0.size : Int) := of_decide_eq_true (by first | (with_reducible assumption) | assumption)
                    have hx26 := bt_at a0 x3_1
                    replace p26 := eq_true p26
                    replace q26 := eq_true q26
                    go_wp2
                    go_ret
                    exact ⟨by first | rfl | (simp; done) | (simp [*]; done), by repeat (first | exact Drawn0.refl _ | apply Drawn0.step)⟩
            · rw [if_neg c21] at H
              have c21b0 : decide (48 ≤ (bt a0 x3_1)) = false := decide_eq_false c21
              clear c21
              by_cases c29 : (bt a0 x3_1) = 45
              · rw [if_pos c29] at H
                have c29b0 : ((bt a0 x3_1) == 45) = true := beq_iff_eq.mpr c29
                have c29b1 : ((bt a0 x3_1) != 45) = false := bne_eq_false_iff_eq.mpr c29
                clear c29
                have H' := Aside0.mk H
                clear H
                have p4 : 0 ≤ (x3_1 : Int) := of_decide_eq_true (by first | (with_reducible assumption) | assumption)
                have q4 : x3_1 < (a0.size : Int) := of_decide_eq_true (by first | (with_reducible assumption) | assumption)
                have hx4 := bt_at a0 x3_1
                replace p4 := eq_true p4
                replace q4 := eq_true q4
                have p20 : 0 ≤ (x3_1 : Int) := of_decide_eq_true (by first | (with_reducible assumption) | assumption)
                have q20 : x3_1 < (a0.size : Int) := of_decide_eq_true (by first | (with_reducible assumption) | assumption)
                have hx20 := bt_at a0 x3_1
                replace p20 := eq_true p20
                replace q20 := eq_true q20
                have p28 : 0 ≤ (x3_1 : Int) := of_decide_eq_true (by first | (with_reducible assumption) | assumption)
                have q28 : x3_1 < (a0.size : Int) := of_decide_eq_true (by first | (with_reducible assumption) | assumption)
                have hx28 := bt_at a0 x3_1
                replace p28 := eq_true p28
                replace q28 := eq_true q28
                go_wp2
                go_roundg k1
                case measure => have := HK1.out; omega
                case rel => exact ⟨(wrap64 (x3_1 + 1)), (by first | rfl | (simp; done) | (simp [*]; done)), H', ⟨by have := HK1.out; omega⟩, by repeat (first | exact Drawn0.refl _ | apply Drawn0.step)⟩
              · rw [if_neg c29] at H
                have c29b0 : ((bt a0 x3_1) == 45) = false := beq_eq_false_iff_ne.mpr c29
                have c29b1 : ((bt a0 x3_1) != 45) = true := bne_iff_ne.mpr c29
                by_cases c31 : ((bt a0 x3_1) = 95)
                · rw [if_pos c31] at H
                  have c31b0 : ((bt a0 x3_1) == 95) = true := beq_iff_eq.mpr c31
                  have c31b1 : ((bt a0 x3_1) != 95) = false := bne_eq_false_iff_eq.mpr c31
                  clear c31
                  have H' := Aside0.mk H
                  clear H
                  have p4 : 0 ≤ (x3_1 : Int) := of_decide_eq_true (by first | (with_reducible assumption) | assumption)
                  have q4 : x3_1 < (a0.size : Int) := of_decide_eq_true (by first | (with_reducible assumption) | assumption)
                  have hx4 := bt_at a0 x3_1
                  replace p4 := eq_true p4
                  replace q4 := eq_true q4
                  have p20 : 0 ≤ (x3_1 : Int) := of_decide_eq_true (by first | (with_reducible assumption) | assumption)
                  have q20 : x3_1 < (a0.size : Int) := of_decide_eq_true (by first | (with_reducible assumption) | assumption)
                  have hx20 := bt_at a0 x3_1
                  replace p20 := eq_true p20
                  replace q20 := eq_true q20
                  have p28 : 0 ≤ (x3_1 : Int) := of_decide_eq_true (by first | (with_reducible assumption) | assumption)
                  have q28 : x3_1 < (a0.size : Int) := of_decide_eq_true (by first | (with_reducible assumption) | assumption)
                  have hx28 := bt_at a0 x3_1
                  replace p28 := eq_true p28
                  replace q28 := eq_true q28
                  have p30 : 0 ≤ (x3_1 : Int) := of_decide_eq_true (by first | (with_reducible assumption) | assumption)
                  have q30 : x3_1 < (a0.size : Int) := of_decide_eq_true (by first | (with_reducible assumption) | assumption)
                  have hx30 := bt_at a0 x3_1
                  replace p30 := eq_true p30
                  replace q30 := eq_true q30
                  go_wp2
                  go_roundg k1
                  case measure => have := HK1.out; omega
                  case rel => exact ⟨(wrap64 (x3_1 + 1)), (by first | rfl | (simp; done) | (simp [*]; done)), H', ⟨by have := HK1.out; omega⟩, by repeat (first | exact Drawn0.refl _ | apply Drawn0.step)⟩
                · rw [if_neg c31] at H
                  have c31b0 : ((bt a0 x3_1) == 95) = false := beq_eq_false_iff_ne.mpr c31
                  have c31b1 : ((bt a0 x3_1) != 95) = true := bne_iff_ne.mpr c31
                  obtain rfl := Option.some.inj H
                  have p4 : 0 ≤ (x3_1 : Int) := of_decide_eq_true (by first | (with_reducible assumption) | assumption)
                  have q4 : x3_1 < (a0.size : Int) := of_decide_eq_true (by first | (with_reducible assumption) | assumption)
                  have hx4 := bt_at a0 x3_1
                  replace p4 := eq_true p4
                  replace q4 := eq_true q4
                  have p20 : 0 ≤ (x3_1 : Int) := of_decide_eq_true (by first | (with_reducible assumption) | assumption)
                  have q20 : x3_1 < (a0.size : Int) := of_decide_eq_true (by first | (with_reducible assumption) | assumption)
                  have hx20 := bt_at a0 x3_1
                  replace p20 := eq_true p20
                  replace q20 := eq_true q20
                  have p28 : 0 ≤ (x3_1 : Int) := of_decide_eq_true (by first | (with_reducible assumption) | assumption)
                  have q28 : x3_1 < (a0.size : Int) := of_decide_eq_true (by first | (with_reducible assumption) | assumption)
                  have hx28 := bt_at a0 x3_1
                  replace p28 := eq_true p28
                  replace q28 := eq_true q28
                  have p30 : 0 ≤ (x3_1 : Int) := of_decide_eq_true (by first | (with_reducible assumption) | assumption)
                  have q30 : x3_1 < (a0.size : Int) := of_decide_eq_true (by first | (with_reducible assumption) | assumption)
                  have hx30 := bt_at a0 x3_1
                  replace p30 := eq_true p30
                  replace q30 := eq_true q30
                  go_wp2
                  go_ret
                  exact ⟨by first | rfl | (simp; done) | (simp [*]; done), by repeat (first | exact Drawn0.refl _ | apply Drawn0.step)⟩
        · rw [if_neg c3] at H
          exact absurd H (by simp)
      · rw [if_neg c2] at H
        have c2b0 : decide (x3_1 < (a0.size : Int)) = false := decide_eq_false c2
        clear c2
        by_cases c32 : (a0.size : Int) ≥ 1
        · rw [if_pos c32] at H
          have c32b0 : decide (1 ≤ (a0.size : Int)) = true := decide_eq_true c32
          have c32b1 : decide (1 ≤ a0.size) = true := decide_eq_true (by omega)
          clear c32
          obtain rfl := Option.some.inj H
          go_wp2
          go_ret
          exact ⟨by first | rfl | (simp; done) | (simp [*]; done), by repeat (first | exact Drawn0.refl _ | apply Drawn0.step)⟩
        · rw [if_neg c32] at H
          have c32b0 : decide (1 ≤ (a0.size : Int)) = false := decide_eq_false c32
          have c32b1 : decide (1 ≤ a0.size) = false := decide_eq_false (by omega)
          clear c32
          obtain rfl := Option.some.inj H
          go_wp2
          go_ret
          exact ⟨by first | rfl | (simp; done) | (simp [*]; done), by repeat (first | exact Drawn0.refl _ | apply Drawn0.step)⟩

end Go.Proofs.YtklcceccadlgkaaDoor.Print
