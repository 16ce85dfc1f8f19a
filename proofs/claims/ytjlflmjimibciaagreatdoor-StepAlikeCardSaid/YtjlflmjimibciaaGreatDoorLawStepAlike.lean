/- shale/shalelaw16.StepAlike: for every input the law returns true; the input reads as it did: the row, and its tied card. The conditions: none beyond what the given card lists. -/
/- shale/shalelaw16.StepAlike: for every input the law returns true; the input reads as it did: the row, and its tied card. The conditions: none beyond what the given card lists. -/
import Derived.Test.YtjlflmjimibciaaGreatDoorRows
import Derived.Test.YtjlflmjimibciaaGreatDoorCards
import Derived.Test.YtjlflmjimibciaaGreatDoorTie
import Derived.Test.YtjlflmjimibciaaGreatDoorPrintStepAlike
import Derived.Test.YtjlflmjimibciaaGreatDoorPureStepAlike
import Derived.Test.YtjlflmjimibciaaGreatDoorCardSl
import Derived.Test.YtjlflmjimibciaaGreatDoorCardInt
import Derived.Test.YtjlflmjimibciaaGreatDoorCardEnts
import Derived.Test.YtjlflmjimibciaaGreatDoorCardBase
import Derived.WalkKit
import Derived.ProofKit
import Derived.OpenShut
import Derived.ShutString
import Derived.ChangeOld
import Derived.Below
import Derived.SizedLaws
import Derived.SevenTiedAt
import Derived.Stop.Joined
import Derived.Carry
import Derived.Deep.DeepHandedRow
import Derived.Deep.DeepWitnessRowRef
namespace Go.Proofs.YtjlflmjimibciaaGreatDoor.stepAlike
open Go Go.ChangeShapes Go.WideShapes Go.ChangeAt Go.RowKit
open Go.ChangeMaps (open_string shut_string)
set_option linter.unusedVariables false
theorem reads (os : Os) {H : Type} (enc : TypeId × Value → H) : ∃ places, DataW.whole enc Tryz.prog ((Card.laidWorld os).forCall (fun _ _ => 0) ⟨#[], #[.slice none 0 0, .slice none 0 0, .bool false, .slice none 0 0], []⟩).memory Tryz.f6.params.toList Rows.stepAlikeSpec.vars false #[(.slice none 0 0 : Value), (.slice none 0 0 : Value), (.bool false : Value), (.slice none 0 0 : Value)].toList 8 = some ([.nil, .nil, .lit (.bool false), .nil], [], places) :=
  ⟨[], by kernel_rfl⟩
set_option maxRecDepth 100000 in
theorem lifted (os : Os) (started : os.Started) (H : Type) (enc : TypeId × Value → H) (F : Stop.Interp) :
    ReturnsInHanded {} Tryz.checked os 6 .any ((OpenSpec.ofChange Rows.stepAlikeSpec).preRow enc Tryz.prog Tryz.f6 Rows.stepAlikeRow.domain false Rows.stepAlikeRow.laid) (((OpenSpec.ofChange Rows.stepAlikeSpec).at F).post enc Tryz.prog Tryz.f6 false true false false) := by
  obtain ⟨places, hx⟩ := reads os enc
  refine returnsInHanded_of_row (C := Tryz.checked) (s := (OpenSpec.ofChange Rows.stepAlikeSpec)) Card.own started (by kernel_rfl) Tryz.func6
    (witness_row_atRef (enc := enc) (C := Tryz.checked) false (Card.laidWorld os) #[.slice none 0 0, .slice none 0 0, .bool false, .slice none 0 0] rfl (by kernel_rfl) (by kernel_rfl) (by kernel_rfl)
      (OpenSpec.preRow_of_cond 8 hx (by kernel_rfl) (fun k hk => by cases hk) (by kernel_rfl) (Card.laid_met os _))) ?_
  intro W base args ds gs before hval0 hW _ hcond _ hL _ _
  have hval : ∀ (j : Nat) t v, Tryz.f6.params[j]? = some t → args[j]? = some v → Value.okWide Tryz.prog W .any base t v := hval0
  have hW' := hW
  obtain ⟨p, q, hA0, hV, rfl, hfz, hnd⟩ := hW
  have hA : DataW.TrodAll enc Tryz.prog W 0 (fun _ => true) true Tryz.f6.params.toList args.toList ds p := hA0
  rw [Tryz.params6] at hA hval
  obtain ⟨v0, vs0, d0, ds0, p0, q0, hargs, rfl, rfl, h0, r0⟩ := trodAll_cons hA
  obtain ⟨v1, vs1, d1, ds1, p1, q1, rfl, rfl, rfl, h1, r1⟩ := trodAll_cons r0
  obtain ⟨v2, vs2, d2, ds2, p2, q2, rfl, rfl, rfl, h2, r2⟩ := trodAll_cons r1
  obtain ⟨v3, vs3, d3, ds3, p3, q3, rfl, rfl, rfl, h3, r3⟩ := trodAll_cons r2
  obtain ⟨rfl, rfl, rfl⟩ := trodAll_nil r3
  obtain rfl : args = #[v0, v1, v2, v3] := by cases args; simp_all
  obtain ⟨rfl, rfl⟩ := trodVars_none hV
  have k0 := h0
  have lt0 : ∀ x ∈ p0, x.block < W.heap.size := by obtain ⟨m, hm⟩ := k0; exact DataW.trod_lt m _ _ _ hm
  obtain ⟨A0, n0, c0, l0, rfl, rfl, y0, z0, C0, D0⟩ := Card.open_ents (hval 0 22 v0 rfl rfl) h0
  have k1 := h1
  have lt1 : ∀ x ∈ p1, x.block < W.heap.size := by obtain ⟨m, hm⟩ := k1; exact DataW.trod_lt m _ _ _ hm
  obtain ⟨A1, n1, c1, l1, rfl, rfl, y1, z1, C1, D1⟩ := Card.open_ents (hval 1 22 v1 rfl rfl) h1
  obtain ⟨a2, rfl, rfl, rfl⟩ := open_bool Tryz.underlying4 (hval 2 4 v2 rfl rfl) h2
  have k3 := h3
  have lt3 : ∀ x ∈ p3, x.block < W.heap.size := by obtain ⟨m, hm⟩ := k3; exact DataW.trod_lt m _ _ _ hm
  obtain ⟨A3, n3, c3, l3, rfl, rfl, y3, z3, C3, D3⟩ := Card.open_nums (hval 3 43 v3 rfl rfl) h3
  clear hA0 hval0
  obtain ⟨k, hk⟩ := Th.StepAlike l0 l1 a2 l3
  refine (Print.shalelaw16_StepAlike.calls k A0 c0 l0 A1 c1 l1 a2 A3 c3 l3 true W C0 y0 C1 y1 C3 y3 (Card.gl_of_laid hL) hk rfl).mono fun e W' ⟨he, bel⟩ => ?_
  subst he
  exact ⟨_, rfl, _, _, _, [], _, [], hW', trodAll_mk1 (shut_bool Tryz.underlying4 _), (trodAll_cons_mk (Below.trod Card.laidOut (by kernel_rfl) (of_decide_eq_true (by kernel_rfl)) k0 bel lt0) (trodAll_cons_mk (Below.trod Card.laidOut (by kernel_rfl) (of_decide_eq_true (by kernel_rfl)) k1 bel lt1) (trodAll_cons_mk (shut_bool Tryz.underlying4 _) (trodAll_cons_mk (Below.trod Card.laidOut (by kernel_rfl) (of_decide_eq_true (by kernel_rfl)) k3 bel lt3) trodAll_mk0)))), rfl, bel.frame _, fun h => by cases h⟩
set_option maxHeartbeats 8000000 in
theorem closed_ : joinedFacts Tryz.pinned.checked.prog 6 Tryz.f6 (OpenSpec.ofChange Rows.stepAlikeSpec).bare Rows.stepAlikeRow = true := by
  unfold joinedFacts
  repeat' (with_reducible refine Bool.and_eq_true_iff.2 ⟨?_, ?_⟩)
  all_goals (as_aux_lemma => kernel_rfl)
set_option maxHeartbeats 8000000 in
theorem over : Rows.stepAlikeRow.holds Tryz.pinned (OpenSpec.ofChange Rows.stepAlikeSpec) :=
  OpenClaim.holds_of_cond 6 Tryz.f6 rfl rfl rfl rfl rfl rfl rfl ⟨rfl, rfl, rfl, rfl, rfl⟩ rfl rfl rfl rfl rfl (by as_aux_lemma => kernel_rfl) Tryz.func6 closed_
    (of_decide_eq_true (by kernel_rfl)) (by unfold Func.isWrapper; first | (rw [if_pos (by decide +kernel)]; kernel_rfl) | (rw [if_neg (by decide +kernel)]; exact ⟨rfl, rfl⟩))
    (fun os started H enc _ F => by rw [OpenClaim.pre_eq_preRow]; exact lifted os started H enc F)
theorem said : Rows.StepAlikeSaid := over
end Go.Proofs.YtjlflmjimibciaaGreatDoor.stepAlike
namespace Go.Proofs.YtjlflmjimibciaaGreatDoor
open Go
set_option maxHeartbeats 8000000 in
/-- The tied card: shale/shalelaw16.StepAlike. -/
theorem stepAlike_holds : Rows.StepAlikeCardSaid :=
  Claim7.holds_tied_plain_at .later [] [.data, .handle, .pinned] true (true, "d91f4ba8b5a76f61d52eed809b29b6e94aa8e1fec0c78302f3f5c7df99cd31ba") true
    stepAlike.said (fun _ h => by cases h) (by as_aux_lemma => kernel_rfl) (fun _ h => by cases h) stepAlike_row_tie rfl ⟨rfl, rfl⟩ (by as_aux_lemma => kernel_rfl) rfl
    (fun f fn hf hfn => by
      obtain rfl : f = 6 := Option.some.inj ((show Tryz.prog.funcNamed "shale/shalelaw16.StepAlike" = some 6 by as_aux_lemma => kernel_rfl).symm.trans hf) |>.symm
      obtain rfl : fn = Tryz.f6 := (Option.some.inj (Tryz.func6.symm.trans hfn)).symm
      exact ⟨by as_aux_lemma => kernel_rfl, fun j t ht => by
        rw [Tryz.params6] at ht
        rcases j with _ | _ | _ | _ | j
        · obtain rfl : t = 22 := by simpa using ht.symm
          exact (show Tryz.prog.wantsStandIn 22 = false by as_aux_lemma => kernel_rfl)
        · obtain rfl : t = 22 := by simpa using ht.symm
          exact (show Tryz.prog.wantsStandIn 22 = false by as_aux_lemma => kernel_rfl)
        · obtain rfl : t = 4 := by simpa using ht.symm
          exact (show Tryz.prog.wantsStandIn 4 = false by as_aux_lemma => kernel_rfl)
        · obtain rfl : t = 43 := by simpa using ht.symm
          exact (show Tryz.prog.wantsStandIn 43 = false by as_aux_lemma => kernel_rfl)
        · simp at ht⟩)
    (by as_aux_lemma => kernel_rfl)
#print axioms stepAlike_holds
end Go.Proofs.YtjlflmjimibciaaGreatDoor
