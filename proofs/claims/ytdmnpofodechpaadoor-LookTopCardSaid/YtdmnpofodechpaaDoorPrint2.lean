-- Written by pr.py out of the translation (no hand typed it); Lean checks it.
import Derived.Test.YtdmnpofodechpaaDoorPrint0
import Derived.Test.YtdmnpofodechpaaDoorPrint1
namespace Go.Proofs.YtdmnpofodechpaaDoor.Print
open Go.RowKit Go.Proofs.YtdmnpofodechpaaDoorW.PrintWords Go.Proofs.YtdmnpofodechpaaDoorW.PrintLast Go.Proofs.YtdmnpofodechpaaDoorW.PrintMore
attribute [local go_sem] max2_int min2_int max_two min_two max_three min_three max_four min_four   -- for this text's walks alone
set_option linter.unusedVariables false
set_option linter.unusedSimpArgs false

theorem eqA28 (d : Nat) (w : World) (x0 y0 : ByteArray) (x1 y1 : Int) (x2 y2 : ByteArray) (x3 y3 : Int) :
    (Op.equalIn (d + 3) 28 (.agg #[.string x0, .int .i64 x1, .string x2, .int .i64 x3]) (.agg #[.string y0, .int .i64 y1, .string y2, .int .i64 y3])).run Tryd.prog w = .ok ((x0.toList == y0.toList && (x1 == y1 && (x2.toList == y2.toList))) && (x3 == y3)) w := by
  refine eqA_of Tryd.underlying28 (by kernel_rfl) ?_
  refine eqf_cons (by rfl) (by go_simp) (by go_simp) (eqA26 (d + 0) w _ _ _ _ _ _) ?_
  exact eqf_last (by rfl) (by go_simp; rfl) (by go_simp; rfl) (by go_simp)
end Go.Proofs.YtdmnpofodechpaaDoor.Print
