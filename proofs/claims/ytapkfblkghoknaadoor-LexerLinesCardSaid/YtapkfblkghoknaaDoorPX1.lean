-- Written by wip/tools/weave.py out of a printing program's text: the contracts of Lex, Name, Keyword and Join, and the table's premise, are ours.
import Derived.Test.YtapkfblkghoknaaDoorPX0
namespace Go.Proofs.YtapkfblkghoknaaDoor.PX
open Go.RowKit Go.Proofs.YtapkfblkghoknaaDoorW.PrintWords Go.Proofs.YtapkfblkghoknaaDoorW.PrintLast Go.Proofs.YtapkfblkghoknaaDoorW.PrintMore
attribute [local go_sem] max2_int min2_int max_two min_two max_three min_three max_four min_four   -- for this text's walks alone
set_option linter.unusedVariables false
set_option linter.unusedSimpArgs false

theorem eqA33 (d : Nat) (w : World) (x0 y0 : Int) (x1 y1 : ByteArray) (x2 y2 : Int) :
    (Op.equalIn (d + 2) 33 (.agg #[.int .u8 x0, .string x1, .int .i64 x2]) (.agg #[.int .u8 y0, .string y1, .int .i64 y2])).run Tryd.prog w = .ok (x0 == y0 && (x1.toList == y1.toList && (x2 == y2))) w := by
  refine eqA_of Tryd.underlying33 (by kernel_rfl) ?_
  refine eqf_cons (by rfl) (by go_simp; rfl) (by go_simp; rfl) (by go_simp) ?_
  refine eqf_cons (by rfl) (by go_simp; rfl) (by go_simp; rfl) (by go_simp) ?_
  exact eqf_last (by rfl) (by go_simp; rfl) (by go_simp; rfl) (by go_simp)
end Go.Proofs.YtapkfblkghoknaaDoor.PX
