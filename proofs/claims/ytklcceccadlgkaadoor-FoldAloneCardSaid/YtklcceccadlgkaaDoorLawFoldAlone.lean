/- shale/shalelaw10.FoldAlone: for every input the law returns true; the input reads as it did: the row, and its tied card. The conditions: none beyond what the given card lists. -/
import Derived.Test.YtklcceccadlgkaaDoorRows
import Derived.Test.YtklcceccadlgkaaDoorCards
import Derived.Test.YtklcceccadlgkaaDoorTie
import Derived.Test.YtklcceccadlgkaaDoorPrint9
import Derived.Test.YtklcceccadlgkaaDoorPureFoldAlone
import Derived.Test.YtklcceccadlgkaaDoorCardSl
import Derived.Test.YtklcceccadlgkaaDoorCardEnts
import Derived.Test.YtklcceccadlgkaaDoorCardBase
import Derived.WalkKit
import Derived.ProofKit
import Derived.OpenShut
import Derived.ShutString
import Derived.ChangeOld
import Derived.Below
import Derived.SizedLaws
import Derived.SevenTiedAt
import Derived.Stop.Joined
import Derived.Carry
import Derived.Deep.DeepHandedRow
import Derived.Deep.DeepWitnessRowRef
namespace Go.Proofs.YtklcceccadlgkaaDoor.foldAlone
open Go Go.ChangeShapes Go.WideShapes Go.ChangeAt Go.RowKit
open Go.ChangeMaps (open_string shut_string)
set_option linter.unusedVariables false
theorem reads (os : Os) {H : Type} (enc : TypeId × Value → H) : ∃ places, DataW.whole enc Tryd.prog ((Card.laidWorld os).forCall (fun _ _ => 0) ⟨#[], #[.slice none 0 0, .slice none 0 0, .int .u8 0], []⟩).memory Tryd.f19.params.toList Rows.foldAloneSpec.vars false #[(.slice none 0 0 : Value), (.slice none 0 0 : Value), (.int .u8 0 : Value)].toList 8 = some ([.nil, .nil, .lit (.int .u8 0)], [], places) :=
  ⟨[], by kernel_rfl⟩
set_option maxRecDepth 100000 in
theorem lifted (os : Os) (started : os.Started) (H : Type) (enc : TypeId × Value → H) (F : Stop.Interp) :
    ReturnsInHanded {} Tryd.checked os 19 .any ((OpenSpec.ofChange Rows.foldAloneSpec).preRow enc Tryd.prog Tryd.f19 Rows.foldAloneRow.domain false Rows.foldAloneRow.laid) (((OpenSpec.ofChange Rows.foldAloneSpec).at F).post enc Tryd.prog Tryd.f19 false true false false) := by
  obtain ⟨places, hx⟩ := reads os enc
  refine returnsInHanded_of_row (C := Tryd.checked) (s := (OpenSpec.ofChange Rows.foldAloneSpec)) Card.own started (by kernel_rfl) Tryd.func19
    (witness_row_atRef (enc := enc) (C := Tryd.checked) false (Card.laidWorld os) #[.slice none 0 0, .slice none 0 0, .int .u8 0] rfl (by kernel_rfl) (by kernel_rfl) (by kernel_rfl)
      (OpenSpec.preRow_of_cond 8 hx (by kernel_rfl) (fun k hk => by cases hk) (by kernel_rfl) (Card.laid2_met os _))) ?_
  intro W base args ds gs before hval0 hW _ hcond _ hL _ _
  have hval : ∀ (j : Nat) t v, Tryd.f19.params[j]? = some t → args[j]? = some v → Value.okWide Tryd.prog W .any base t v := hval0
  have hW' := hW
  obtain ⟨p, q, hA0, hV, rfl, hfz, hnd⟩ := hW
  have hA : DataW.TrodAll enc Tryd.prog W 0 (fun _ => true) true Tryd.f19.params.toList args.toList ds p := hA0
  rw [Tryd.params19] at hA hval
  obtain ⟨v0, vs0, d0, ds0, p0, q0, hargs, rfl, rfl, h0, r0⟩ := trodAll_cons hA
  obtain ⟨v1, vs1, d1, ds1, p1, q1, rfl, rfl, rfl, h1, r1⟩ := trodAll_cons r0
  obtain ⟨v2, vs2, d2, ds2, p2, q2, rfl, rfl, rfl, h2, r2⟩ := trodAll_cons r1
  obtain ⟨rfl, rfl, rfl⟩ := trodAll_nil r2
  obtain rfl : args = #[v0, v1, v2] := by cases args; simp_all
  obtain ⟨rfl, rfl⟩ := trodVars_none hV
  have k0 := h0
  have lt0 : ∀ x ∈ p0, x.block < W.heap.size := by obtain ⟨m, hm⟩ := k0; exact DataW.trod_lt m _ _ _ hm
  obtain ⟨A0, n0, c0, l0, rfl, rfl, y0, z0, C0, D0⟩ := Card.open_stack (hval 0 54 v0 rfl rfl) h0
  have k1 := h1
  have lt1 : ∀ x ∈ p1, x.block < W.heap.size := by obtain ⟨m, hm⟩ := k1; exact DataW.trod_lt m _ _ _ hm
  obtain ⟨A1, n1, c1, l1, rfl, rfl, y1, z1, C1, D1⟩ := Card.open_ents (hval 1 61 v1 rfl rfl) h1
  obtain ⟨a2, rfl, rfl, rfl, y2⟩ := open_int Tryd.underlying5 (hval 2 5 v2 rfl rfl) h2
  clear hA0 hval0
  obtain ⟨k, hk⟩ := Th.FoldAlone l0 l1 a2 y2
  refine (Print.shalelaw10_FoldAlone.calls k A0 c0 l0 A1 c1 l1 a2 true W C0 y0 C1 y1 hk rfl).mono fun e W' ⟨he, bel⟩ => ?_
  subst he
  exact ⟨_, rfl, _, _, _, [], _, [], hW', trodAll_mk1 (shut_bool Tryd.underlying4 _), (trodAll_cons_mk (Below.trod Card.laidOut (by kernel_rfl) (of_decide_eq_true (by kernel_rfl)) k0 bel lt0) (trodAll_cons_mk (Below.trod Card.laidOut (by kernel_rfl) (of_decide_eq_true (by kernel_rfl)) k1 bel lt1) (trodAll_cons_mk (shut_int Tryd.underlying5 y2) trodAll_mk0))), rfl, bel.frame _, fun h => by cases h⟩
theorem over : Rows.foldAloneRow.holds Tryd.pinned (OpenSpec.ofChange Rows.foldAloneSpec) :=
  OpenClaim.holds_of_cond 19 Tryd.f19 rfl rfl rfl rfl rfl rfl rfl ⟨rfl, rfl, rfl, rfl, rfl⟩ rfl rfl rfl rfl rfl (by kernel_rfl) Tryd.func19 (by kernel_rfl)
    (of_decide_eq_true (by kernel_rfl)) (by unfold Func.isWrapper; first | (rw [if_pos (by decide +kernel)]; kernel_rfl) | (rw [if_neg (by decide +kernel)]; exact ⟨rfl, rfl⟩))
    (fun os started H enc _ F => by rw [OpenClaim.pre_eq_preRow]; exact lifted os started H enc F)
theorem said : Rows.FoldAloneSaid := over
end Go.Proofs.YtklcceccadlgkaaDoor.foldAlone
namespace Go.Proofs.YtklcceccadlgkaaDoor
open Go
/-- The tied card: shale/shalelaw10.FoldAlone. -/
theorem foldAlone_holds : Rows.FoldAloneCardSaid :=
  Claim7.holds_tied_plain_at .later [] [.data, .pinned] true (true, "847e4b443be152c23e94052f7b56613d99f6409020f8b307beda3917b93934c7") true
    foldAlone.said (fun _ h => by cases h) (by kernel_rfl) (fun _ h => by cases h) foldAlone_row_tie rfl ⟨rfl, rfl⟩ (by kernel_rfl) rfl
    (fun f fn hf hfn => by
      obtain rfl : f = 19 := Option.some.inj ((show Tryd.prog.funcNamed "shale/shalelaw10.FoldAlone" = some 19 by kernel_rfl).symm.trans hf) |>.symm
      obtain rfl : fn = Tryd.f19 := (Option.some.inj (Tryd.func19.symm.trans hfn)).symm
      exact ⟨by kernel_rfl, fun j t ht => by
        rw [Tryd.params19] at ht
        rcases j with _ | _ | _ | j
        · obtain rfl : t = 54 := by simpa using ht.symm
          exact (show Tryd.prog.wantsStandIn 54 = false by kernel_rfl)
        · obtain rfl : t = 61 := by simpa using ht.symm
          exact (show Tryd.prog.wantsStandIn 61 = false by kernel_rfl)
        · obtain rfl : t = 5 := by simpa using ht.symm
          exact (show Tryd.prog.wantsStandIn 5 = false by kernel_rfl)
        · simp at ht⟩)
    (by kernel_rfl)
#print axioms foldAlone_holds
end Go.Proofs.YtklcceccadlgkaaDoor
