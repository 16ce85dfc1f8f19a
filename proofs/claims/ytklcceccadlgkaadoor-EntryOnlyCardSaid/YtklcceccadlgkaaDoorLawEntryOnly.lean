/- shale/shalelaw08.EntryOnly: for every input the law returns true; the input reads as it did: the row, and its tied card. The conditions: none beyond what the given card lists. -/
import Derived.Test.YtklcceccadlgkaaDoorRows
import Derived.Test.YtklcceccadlgkaaDoorCards
import Derived.Test.YtklcceccadlgkaaDoorTie
import Derived.Test.YtklcceccadlgkaaDoorPrint4
import Derived.Test.YtklcceccadlgkaaDoorPureBack
import Derived.Test.YtklcceccadlgkaaDoorCardEntry
import Derived.WalkKit
import Derived.ProofKit
import Derived.OpenShut
import Derived.ShutString
import Derived.ChangeOld
import Derived.Below
import Derived.SizedLaws
import Derived.SevenTiedAt
import Derived.Stop.Joined
namespace Go.Proofs.YtklcceccadlgkaaDoor.entryOnly
open Go Go.ChangeShapes Go.WideShapes Go.ChangeAt Go.RowKit
open Go.ChangeMaps (open_string shut_string)
set_option linter.unusedVariables false
set_option maxRecDepth 100000 in
theorem lifted (os : Os) (started : os.Started) (H : Type) (enc : TypeId × Value → H) :
    ReturnsInHanded {} Tryd.checked os 12 .any (fun w args => (Rows.entryOnlySpec.pre enc Tryd.prog Tryd.f12 [] false w args ∧ laidMetH Tryd.prog Card.laid w) ∧ sizedMet enc Tryd.prog Tryd.f12 (OpenSpec.ofChange Rows.entryOnlySpec) false w args)
      (Rows.entryOnlySpec.post enc Tryd.prog Tryd.f12 false true false false) := by
  refine returnsInHanded_of_change_and (C := Tryd.checked) (X := fun w _ => laidMetH Tryd.prog Card.laid w) (fun _ _ _ hh h => h.of_heap hh) Card.own started (by kernel_rfl) Tryd.func12
    (ChangeSpec.witness_shaped (enc := enc) (C := Tryd.checked) (os := os) (X := fun w _ => laidMetH Tryd.prog Card.laid w) false (Card.laidWorld os) #[.string ByteArray.empty] 8 rfl (Card.laid_shaped os _) (by kernel_rfl) (by kernel_rfl) (by kernel_rfl) (Card.laid_met os _)) ?_
  intro W base args ds gs before hval0 hW _ hsz0 hL _
  have hval : ∀ (j : Nat) t v, Tryd.f12.params[j]? = some t → args[j]? = some v → Value.okWide Tryd.prog W .any base t v := hval0
  have hW' := hW
  obtain ⟨p, q, hA0, hV, rfl, hfz, hnd⟩ := hW
  have hA : DataW.TrodAll enc Tryd.prog W 0 (fun _ => true) true Tryd.f12.params.toList args.toList ds p := hA0
  rw [Tryd.params12] at hA hval
  obtain ⟨v0, vs0, d0, ds0, p0, q0, hargs, rfl, rfl, h0, r0⟩ := trodAll_cons hA
  obtain ⟨rfl, rfl, rfl⟩ := trodAll_nil r0
  obtain rfl : args = #[v0] := by cases args; simp_all
  obtain ⟨rfl, rfl⟩ := trodVars_none hV
  obtain ⟨a0, rfl, rfl, rfl, y0⟩ := open_string Tryd.underlying9 (hval 0 9 v0 rfl rfl) h0
  clear hA0 hval0 hsz0
  obtain ⟨k, hk⟩ := Pure.EntryOnly a0
  refine (Print.shalelaw08_EntryOnly.calls k a0 true W (Card.gl_of_laid hL) hk).mono fun e W' ⟨he, bel⟩ => ?_
  subst he
  exact ⟨_, rfl, _, _, _, [], _, [], hW', trodAll_mk1 (shut_bool Tryd.underlying4 _), (trodAll_cons_mk (shut_string Tryd.underlying9 y0) trodAll_mk0), rfl, bel.frame _, fun h => by cases h⟩
theorem over : Rows.entryOnlyRow.holds Tryd.pinned (OpenSpec.ofChange Rows.entryOnlySpec) :=
  OpenClaim.holds_of_wide 12 Tryd.f12 rfl rfl rfl rfl rfl rfl rfl ⟨rfl, rfl, rfl, rfl, rfl⟩ rfl rfl rfl rfl rfl (by kernel_rfl) Tryd.func12 (by kernel_rfl)
    (of_decide_eq_true (by kernel_rfl)) (by unfold Func.isWrapper; first | (rw [if_pos (by decide +kernel)]; kernel_rfl) | (rw [if_neg (by decide +kernel)]; exact ⟨rfl, rfl⟩))
    (fun os started H enc _ => lifted os started H enc)
theorem said : Rows.EntryOnlySaid := over
end Go.Proofs.YtklcceccadlgkaaDoor.entryOnly
namespace Go.Proofs.YtklcceccadlgkaaDoor
open Go
/-- The tied card: shale/shalelaw08.EntryOnly. -/
theorem entryOnly_holds : Rows.EntryOnlyCardSaid :=
  Claim7.holds_tied_plain_at .later [] [.data, .handle, .pinned] true (true, "847e4b443be152c23e94052f7b56613d99f6409020f8b307beda3917b93934c7") true
    entryOnly.said (fun _ h => by cases h) (by kernel_rfl) (fun _ h => by cases h) entryOnly_row_tie rfl ⟨rfl, rfl⟩ (by kernel_rfl) rfl
    (fun f fn hf hfn => by
      obtain rfl : f = 12 := Option.some.inj ((show Tryd.prog.funcNamed "shale/shalelaw08.EntryOnly" = some 12 by kernel_rfl).symm.trans hf) |>.symm
      obtain rfl : fn = Tryd.f12 := (Option.some.inj (Tryd.func12.symm.trans hfn)).symm
      exact ⟨by kernel_rfl, fun j t ht => by
        rw [Tryd.params12] at ht
        rcases j with _ | j
        · obtain rfl : t = 9 := by simpa using ht.symm
          exact (show Tryd.prog.wantsStandIn 9 = false by kernel_rfl)
        · simp at ht⟩)
    (by kernel_rfl)
#print axioms entryOnly_holds
end Go.Proofs.YtklcceccadlgkaaDoor
