/- shale/shalelaw12.LookAll: for every input the law returns true; the input reads as it did: the row, and its tied card. The conditions: none beyond what the given card lists. -/
/- shale/shalelaw12.LookAll: for every input the law returns true; the input reads as it did: the row, and its tied card. The conditions: none beyond what the given card lists. -/
import Derived.Test.YtdmnpofodechpaaGreatDoorRows
import Derived.Test.YtdmnpofodechpaaGreatDoorCards
import Derived.Test.YtdmnpofodechpaaGreatDoorTie
import Derived.Test.YtdmnpofodechpaaGreatDoorPrintLookAll
import Derived.Test.YtdmnpofodechpaaGreatDoorPureLookAll
import Derived.Test.YtdmnpofodechpaaGreatDoorCardSl
import Derived.Test.YtdmnpofodechpaaGreatDoorCardEnts
import Derived.Test.YtdmnpofodechpaaGreatDoorCardBase
import Derived.WalkKit
import Derived.ProofKit
import Derived.OpenShut
import Derived.ShutString
import Derived.ChangeOld
import Derived.Below
import Derived.SizedLaws
import Derived.SevenTiedAt
import Derived.Stop.Joined
import Derived.Carry
import Derived.Deep.DeepHandedRow
import Derived.Deep.DeepWitnessRowRef
namespace Go.Proofs.YtdmnpofodechpaaGreatDoor.lookAll
open Go Go.ChangeShapes Go.WideShapes Go.ChangeAt Go.RowKit
open Go.ChangeMaps (open_string shut_string)
set_option linter.unusedVariables false
theorem reads (os : Os) {H : Type} (enc : TypeId × Value → H) : ∃ places, DataW.whole enc Tryz.prog ((Card.laidWorld os).forCall (fun _ _ => 0) ⟨#[], #[.slice none 0 0], []⟩).memory Tryz.f20.params.toList Rows.lookAllSpec.vars false #[(.slice none 0 0 : Value)].toList 8 = some ([.nil], [], places) :=
  ⟨[], by kernel_rfl⟩
set_option maxRecDepth 100000 in
theorem lifted (os : Os) (started : os.Started) (H : Type) (enc : TypeId × Value → H) (F : Stop.Interp) :
    ReturnsInHanded {} Tryz.checked os 20 .any ((OpenSpec.ofChange Rows.lookAllSpec).preRow enc Tryz.prog Tryz.f20 Rows.lookAllRow.domain false Rows.lookAllRow.laid) (((OpenSpec.ofChange Rows.lookAllSpec).at F).post enc Tryz.prog Tryz.f20 false true false false) := by
  obtain ⟨places, hx⟩ := reads os enc
  refine returnsInHanded_of_row (C := Tryz.checked) (s := (OpenSpec.ofChange Rows.lookAllSpec)) Card.own started (by kernel_rfl) Tryz.func20
    (witness_row_atRef (enc := enc) (C := Tryz.checked) false (Card.laidWorld os) #[.slice none 0 0] rfl (by kernel_rfl) (by kernel_rfl) (by kernel_rfl)
      (OpenSpec.preRow_of_cond 8 hx (by kernel_rfl) (fun k hk => by cases hk) (by kernel_rfl) (Card.laid_met os _))) ?_
  intro W base args ds gs before hval0 hW _ hcond _ hL _ _
  have hval : ∀ (j : Nat) t v, Tryz.f20.params[j]? = some t → args[j]? = some v → Value.okWide Tryz.prog W .any base t v := hval0
  have hW' := hW
  obtain ⟨p, q, hA0, hV, rfl, hfz, hnd⟩ := hW
  have hA : DataW.TrodAll enc Tryz.prog W 0 (fun _ => true) true Tryz.f20.params.toList args.toList ds p := hA0
  rw [Tryz.params20] at hA hval
  obtain ⟨v0, vs0, d0, ds0, p0, q0, hargs, rfl, rfl, h0, r0⟩ := trodAll_cons hA
  obtain ⟨rfl, rfl, rfl⟩ := trodAll_nil r0
  obtain rfl : args = #[v0] := by cases args; simp_all
  obtain ⟨rfl, rfl⟩ := trodVars_none hV
  have k0 := h0
  have lt0 : ∀ x ∈ p0, x.block < W.heap.size := by obtain ⟨m, hm⟩ := k0; exact DataW.trod_lt m _ _ _ hm
  obtain ⟨A0, n0, c0, l0, rfl, rfl, y0, z0, C0, D0⟩ := Card.open_stack (hval 0 30 v0 rfl rfl) h0
  clear hA0 hval0
  obtain ⟨k, hk⟩ := Th.LookAll l0
  refine (Print.shalelaw12_LookAll.calls k A0 c0 l0 true W C0 y0 (Card.gl_of_laid hL) hk rfl).mono fun e W' ⟨he, bel⟩ => ?_
  subst he
  exact ⟨_, rfl, _, _, _, [], _, [], hW', trodAll_mk1 (shut_bool Tryz.underlying4 _), (trodAll_cons_mk (Below.trod Card.laidOut (by kernel_rfl) (of_decide_eq_true (by kernel_rfl)) k0 bel lt0) trodAll_mk0), rfl, bel.frame _, fun h => by cases h⟩
set_option maxHeartbeats 8000000 in
theorem closed_ : joinedFacts Tryz.pinned.checked.prog 20 Tryz.f20 (OpenSpec.ofChange Rows.lookAllSpec).bare Rows.lookAllRow = true := by
  unfold joinedFacts
  repeat' (with_reducible refine Bool.and_eq_true_iff.2 ⟨?_, ?_⟩)
  all_goals (as_aux_lemma => kernel_rfl)
set_option maxHeartbeats 8000000 in
theorem over : Rows.lookAllRow.holds Tryz.pinned (OpenSpec.ofChange Rows.lookAllSpec) :=
  OpenClaim.holds_of_cond 20 Tryz.f20 rfl rfl rfl rfl rfl rfl rfl ⟨rfl, rfl, rfl, rfl, rfl⟩ rfl rfl rfl rfl rfl (by as_aux_lemma => kernel_rfl) Tryz.func20 closed_
    (of_decide_eq_true (by kernel_rfl)) (by unfold Func.isWrapper; first | (rw [if_pos (by decide +kernel)]; kernel_rfl) | (rw [if_neg (by decide +kernel)]; exact ⟨rfl, rfl⟩))
    (fun os started H enc _ F => by rw [OpenClaim.pre_eq_preRow]; exact lifted os started H enc F)
theorem said : Rows.LookAllSaid := over
end Go.Proofs.YtdmnpofodechpaaGreatDoor.lookAll
namespace Go.Proofs.YtdmnpofodechpaaGreatDoor
open Go
set_option maxHeartbeats 8000000 in
/-- The tied card: shale/shalelaw12.LookAll. -/
theorem lookAll_holds : Rows.LookAllCardSaid :=
  Claim7.holds_tied_plain_at .later [] [.data, .handle, .pinned] true (true, "481c031083046d0d41b595320cf6117976a8d2aa518b94afed1d92245c6cdc4c") true
    lookAll.said (fun _ h => by cases h) (by as_aux_lemma => kernel_rfl) (fun _ h => by cases h) lookAll_row_tie rfl ⟨rfl, rfl⟩ (by as_aux_lemma => kernel_rfl) rfl
    (fun f fn hf hfn => by
      obtain rfl : f = 20 := Option.some.inj ((show Tryz.prog.funcNamed "shale/shalelaw12.LookAll" = some 20 by as_aux_lemma => kernel_rfl).symm.trans hf) |>.symm
      obtain rfl : fn = Tryz.f20 := (Option.some.inj (Tryz.func20.symm.trans hfn)).symm
      exact ⟨by as_aux_lemma => kernel_rfl, fun j t ht => by
        rw [Tryz.params20] at ht
        rcases j with _ | j
        · obtain rfl : t = 30 := by simpa using ht.symm
          exact (show Tryz.prog.wantsStandIn 30 = false by as_aux_lemma => kernel_rfl)
        · simp at ht⟩)
    (by as_aux_lemma => kernel_rfl)
#print axioms lookAll_holds
end Go.Proofs.YtdmnpofodechpaaGreatDoor
