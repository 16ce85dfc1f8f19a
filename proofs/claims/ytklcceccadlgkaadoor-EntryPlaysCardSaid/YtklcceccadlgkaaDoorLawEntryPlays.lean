/- shale/shalelaw08.EntryPlays: for every input the law returns true; the input reads as it did: the row, and its tied card. The conditions: none beyond what the given card lists. -/
import Derived.Test.YtklcceccadlgkaaDoorRows
import Derived.Test.YtklcceccadlgkaaDoorCards
import Derived.Test.YtklcceccadlgkaaDoorTie
import Derived.Test.YtklcceccadlgkaaDoorPrint5
import Derived.Test.YtklcceccadlgkaaDoorPureEntryPlays
import Derived.Test.YtklcceccadlgkaaDoorCardEntry
import Derived.WalkKit
import Derived.ProofKit
import Derived.OpenShut
import Derived.ShutString
import Derived.ChangeOld
import Derived.Below
import Derived.SizedLaws
import Derived.SevenTiedAt
import Derived.Stop.Joined
namespace Go.Proofs.YtklcceccadlgkaaDoor.entryPlays
open Go Go.ChangeShapes Go.WideShapes Go.ChangeAt Go.RowKit
open Go.ChangeMaps (open_string shut_string)
set_option linter.unusedVariables false
set_option maxRecDepth 100000 in
theorem lifted (os : Os) (started : os.Started) (H : Type) (enc : TypeId × Value → H) :
    ReturnsInHanded {} Tryd.checked os 13 .any (fun w args => (Rows.entryPlaysSpec.pre enc Tryd.prog Tryd.f13 [] false w args ∧ laidMetH Tryd.prog Card.laid w) ∧ sizedMet enc Tryd.prog Tryd.f13 (OpenSpec.ofChange Rows.entryPlaysSpec) false w args)
      (Rows.entryPlaysSpec.post enc Tryd.prog Tryd.f13 false true false false) := by
  refine returnsInHanded_of_change_and (C := Tryd.checked) (X := fun w _ => laidMetH Tryd.prog Card.laid w) (fun _ _ _ hh h => h.of_heap hh) Card.own started (by kernel_rfl) Tryd.func13
    (ChangeSpec.witness_shaped (enc := enc) (C := Tryd.checked) (os := os) (X := fun w _ => laidMetH Tryd.prog Card.laid w) false (Card.laidWorld os) #[.agg #[.string ByteArray.empty, .int .i64 0, .string ByteArray.empty]] 8 rfl (Card.laid_shaped os _) (by kernel_rfl) (by kernel_rfl) (by kernel_rfl) (Card.laid_met os _)) ?_
  intro W base args ds gs before hval0 hW _ hsz0 hL _
  have hval : ∀ (j : Nat) t v, Tryd.f13.params[j]? = some t → args[j]? = some v → Value.okWide Tryd.prog W .any base t v := hval0
  have hW' := hW
  obtain ⟨p, q, hA0, hV, rfl, hfz, hnd⟩ := hW
  have hA : DataW.TrodAll enc Tryd.prog W 0 (fun _ => true) true Tryd.f13.params.toList args.toList ds p := hA0
  rw [Tryd.params13] at hA hval
  obtain ⟨v0, vs0, d0, ds0, p0, q0, hargs, rfl, rfl, h0, r0⟩ := trodAll_cons hA
  obtain ⟨rfl, rfl, rfl⟩ := trodAll_nil r0
  obtain rfl : args = #[v0] := by cases args; simp_all
  obtain ⟨rfl, rfl⟩ := trodVars_none hV
  obtain ⟨a0_0, a0_2, a0_1, rfl, rfl, rfl, y0_0, y0_2, y0_1⟩ := Card.open_entry (hval 0 23 v0 rfl rfl) h0
  clear hA0 hval0 hsz0
  obtain ⟨k, hk⟩ := Pure.EntryPlays a0_0 a0_1 a0_2
  refine (Print.shalelaw08_EntryPlays.calls k a0_0 a0_1 a0_2 true W (Card.gl_of_laid hL) hk rfl).mono fun e W' ⟨he, bel⟩ => ?_
  subst he
  exact ⟨_, rfl, _, _, _, [], _, [], hW', trodAll_mk1 (shut_bool Tryd.underlying4 _), (trodAll_cons_mk (Card.shut_entry a0_0 a0_2 a0_1 y0_0 y0_2 y0_1) trodAll_mk0), rfl, bel.frame _, fun h => by cases h⟩
theorem over : Rows.entryPlaysRow.holds Tryd.pinned (OpenSpec.ofChange Rows.entryPlaysSpec) :=
  OpenClaim.holds_of_wide 13 Tryd.f13 rfl rfl rfl rfl rfl rfl rfl ⟨rfl, rfl, rfl, rfl, rfl⟩ rfl rfl rfl rfl rfl (by kernel_rfl) Tryd.func13 (by kernel_rfl)
    (of_decide_eq_true (by kernel_rfl)) (by unfold Func.isWrapper; first | (rw [if_pos (by decide +kernel)]; kernel_rfl) | (rw [if_neg (by decide +kernel)]; exact ⟨rfl, rfl⟩))
    (fun os started H enc _ => lifted os started H enc)
theorem said : Rows.EntryPlaysSaid := over
end Go.Proofs.YtklcceccadlgkaaDoor.entryPlays
namespace Go.Proofs.YtklcceccadlgkaaDoor
open Go
/-- The tied card: shale/shalelaw08.EntryPlays. -/
theorem entryPlays_holds : Rows.EntryPlaysCardSaid :=
  Claim7.holds_tied_plain_at .later [] [.data, .handle, .pinned] true (true, "847e4b443be152c23e94052f7b56613d99f6409020f8b307beda3917b93934c7") true
    entryPlays.said (fun _ h => by cases h) (by kernel_rfl) (fun _ h => by cases h) entryPlays_row_tie rfl ⟨rfl, rfl⟩ (by kernel_rfl) rfl
    (fun f fn hf hfn => by
      obtain rfl : f = 13 := Option.some.inj ((show Tryd.prog.funcNamed "shale/shalelaw08.EntryPlays" = some 13 by kernel_rfl).symm.trans hf) |>.symm
      obtain rfl : fn = Tryd.f13 := (Option.some.inj (Tryd.func13.symm.trans hfn)).symm
      exact ⟨by kernel_rfl, fun j t ht => by
        rw [Tryd.params13] at ht
        rcases j with _ | j
        · obtain rfl : t = 23 := by simpa using ht.symm
          exact (show Tryd.prog.wantsStandIn 23 = false by kernel_rfl)
        · simp at ht⟩)
    (by kernel_rfl)
#print axioms entryPlays_holds
end Go.Proofs.YtklcceccadlgkaaDoor
