/- Errors that lie in memory (a Fault behind a pointer): told as own rows of one Fault; a nil error is the empty row. errVal: the interface value of such a row. -/
import Derived.Test.YtdmnpofodechpaaDoorRaw
namespace Go.Proofs.YtdmnpofodechpaaDoor.Print
open Go.RowKit Go.Proofs.YtdmnpofodechpaaDoorW.PrintWords Go.Proofs.YtdmnpofodechpaaDoorW.PrintLast Go.Proofs.YtdmnpofodechpaaDoorW.PrintMore
set_option linter.unusedVariables false
set_option linter.unusedSimpArgs false

/-- The error that a row of Faults stands for: none, or the pointer to the first. -/
def errVal (PT : Nat) : Value → Value
  | .slice (some a) (_ + 1) _ => .iface PT (.pointer (some a))
  | _ => .nilIface
/-- Is it nil? -/
def errNil : Value → Bool
  | .slice (some _) (_ + 1) _ => false
  | _ => true
/-- A Fault: what was done, where, and an error's number. -/
def errKd (NT : Nat) : Kd Int where
  sz := 3
  E := []
  K := fun _ c cs => ∃ op p, cs = [.string op, .string p, .iface NT (.int .i64 c)]
  M := fun _ _ _ c cs => ∃ op p, cs = [.string op, .string p, .iface NT (.int .i64 c)]
  K_len := by
    rintro w x cs ⟨op, p, rfl⟩
    rfl
  K_one := by
    rintro w x cs ⟨op, p, rfl⟩ u hu
    simp at hu
    rcases hu with rfl | rfl | rfl <;> rfl
  K_below := fun _ h => h
  K_of_M := fun h => h
  M_mono := fun _ h => h
  M_bound := fun h => h
  M_move := fun _ h => h
  M_lower := fun _ h => h
theorem errNil_of {NT e : Nat} {w : World} {base : Nat} {ok : Nat → Prop} {v : Value} {xs : List Int} (h : Kd.R (errKd NT) e w base ok v xs) : errNil v = xs.isEmpty := by
  obtain ⟨_, inner, hown, _⟩ := h
  rcases hown.2 with ⟨rfl, hn⟩ | ⟨g, cap, cur, rfl, _⟩
  · rw [List.eq_nil_of_length_eq_zero hn]; rfl
  · cases xs <;> rfl
theorem errVal_eql {P : Program} (t PT : Nat) (h : ∀ (a : Addr) (W : World), (binOp .eql t (.iface PT (.pointer (some a))) .nilIface).run P W = .ok (.bool false) W) (h0 : ∀ W : World, (binOp .eql t .nilIface .nilIface).run P W = .ok (.bool true) W) (v : Value) (W : World) :
    (binOp .eql t (errVal PT v) .nilIface).run P W = .ok (.bool (errNil v)) W := by
  unfold errVal errNil
  split
  · exact h _ _
  · exact h0 W
theorem errVal_neq {P : Program} (t PT : Nat) (h : ∀ (a : Addr) (W : World), (binOp .neq t (.iface PT (.pointer (some a))) .nilIface).run P W = .ok (.bool true) W) (h0 : ∀ W : World, (binOp .neq t .nilIface .nilIface).run P W = .ok (.bool false) W) (v : Value) (W : World) :
    (binOp .neq t (errVal PT v) .nilIface).run P W = .ok (.bool (!errNil v)) W := by
  unfold errVal errNil
  split
  · exact h _ _
  · exact h0 W
theorem errGuard_eql (t PT : Nat) (x : Operand) (v : Value) : eqGuard .eql t x (.const .nilIface) (errVal PT v) .nilIface = pure () := by
  unfold errVal
  split
  · rfl
  · cases x <;> rfl
theorem errGuard_neq (t PT : Nat) (x : Operand) (v : Value) : eqGuard .neq t x (.const .nilIface) (errVal PT v) .nilIface = pure () := by
  unfold errVal
  split
  · rfl
  · cases x <;> rfl
end Go.Proofs.YtdmnpofodechpaaDoor.Print
