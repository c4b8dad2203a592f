/- Made by a program of this session's own (a turned copy of the kit's printer); not trusted: Lean checks it. -/
import Derived.Test.YtcecekmhikmkhaaMx0
namespace Go.Proofs.Ytcecekmhikmkhaa.M
open Go.RowKit Go.Proofs.YtcecekmhikmkhaaW.PrintWords Go.Proofs.YtcecekmhikmkhaaW.PrintLast Go.Proofs.YtcecekmhikmkhaaW.PrintMore
attribute [local go_sem] max2_int min2_int max_two min_two max_three min_three max_four min_four   -- for this text's walks alone
set_option linter.unusedVariables false
set_option linter.unusedSimpArgs false

theorem eqA47 (d : Nat) (w : World) (x0 y0 : Int) (x1 y1 : Bool) (x2 y2 : ByteArray) (x3 y3 : Int) :
    (Op.equalIn (d + 2) 47 (.agg #[.int .i64 x0, .bool x1, .string x2, .int .i64 x3]) (.agg #[.int .i64 y0, .bool y1, .string y2, .int .i64 y3])).run Try.prog w = .ok (x0 == y0 && (x1 == y1 && (x2.toList == y2.toList && (x3 == y3)))) w := by
  refine eqA_of Try.underlying47 (by kernel_rfl) ?_
  refine eqf_cons (by rfl) (by go_simp; rfl) (by go_simp; rfl) (by go_simp) ?_
  refine eqf_cons (by rfl) (by go_simp; rfl) (by go_simp; rfl) (by go_simp) ?_
  refine eqf_cons (by rfl) (by go_simp; rfl) (by go_simp; rfl) (by go_simp) ?_
  exact eqf_last (by rfl) (by go_simp; rfl) (by go_simp; rfl) (by go_simp)
theorem eqA49 (d : Nat) (w : World) (x0 y0 : Int) (x1 y1 : Int) (x2 y2 : Bool) (x3 y3 : ByteArray) (x4 y4 : Int) :
    (Op.equalIn (d + 3) 49 (.agg #[.int .i64 x0, .int .i64 x1, .bool x2, .string x3, .int .i64 x4]) (.agg #[.int .i64 y0, .int .i64 y1, .bool y2, .string y3, .int .i64 y4])).run Try.prog w = .ok (x0 == y0 && ((x1 == y1 && (x2 == y2 && (x3.toList == y3.toList && (x4 == y4)))))) w := by
  refine eqA_of Try.underlying49 (by kernel_rfl) ?_
  refine eqf_cons (by rfl) (by go_simp; rfl) (by go_simp; rfl) (by go_simp) ?_
  exact eqf_last (by rfl) (by go_simp) (by go_simp) (eqA47 (d + 0) w _ _ _ _ _ _ _ _)
end Go.Proofs.Ytcecekmhikmkhaa.M
