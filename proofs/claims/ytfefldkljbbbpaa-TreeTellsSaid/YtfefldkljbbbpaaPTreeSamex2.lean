-- PRINTED BY print.sh 35421559b90ae4d0a3588c463048766b98c2df88dd9212a6774a882060cdf62d: not written by this session
import Derived.Test.YtfefldkljbbbpaaPTreeSamex0
import Derived.Test.YtfefldkljbbbpaaPTreeSamex1
namespace Go.Proofs.Ytfefldkljbbbpaa.PTreeSame
open Go.RowKit Go.Proofs.YtfefldkljbbbpaaW.PrintWords Go.Proofs.YtfefldkljbbbpaaW.PrintLast Go.Proofs.YtfefldkljbbbpaaW.PrintMore
attribute [local go_sem] max2_int min2_int max_two min_two max_three min_three max_four min_four   -- for this text's walks alone
set_option linter.unusedVariables false
set_option linter.unusedSimpArgs false

theorem eqA32 (d : Nat) (w : World) (x0 y0 : Int) (x1 y1 : Int) (x2 y2 : Int) (x3 y3 : ByteArray) (x4 y4 : Int) (x5 y5 : Int) (x6 y6 : Int) (x7 y7 : Int) :
    (Op.equalIn (d + 4) 32 (.agg #[.int .u8 x0, .int .u8 x1, .int .u8 x2, .string x3, .int .i64 x4, .int .i64 x5, .int .i64 x6, .int .i64 x7]) (.agg #[.int .u8 y0, .int .u8 y1, .int .u8 y2, .string y3, .int .i64 y4, .int .i64 y5, .int .i64 y6, .int .i64 y7])).run Try.prog w = .ok (x0 == y0 && (x1 == y1 && ((x2 == y2 && (x3.toList == y3.toList && ((x4 == y4 && (x5 == y5 && (x6 == y6))) && (x7 == y7))))))) w := by
  refine eqA_of Try.underlying32 (by kernel_rfl) ?_
  refine eqf_cons (by rfl) (by go_simp; rfl) (by go_simp; rfl) (by go_simp) ?_
  refine eqf_cons (by rfl) (by go_simp; rfl) (by go_simp; rfl) (by go_simp) ?_
  exact eqf_last (by rfl) (by go_simp) (by go_simp) (eqA30 (d + 0) w _ _ _ _ _ _ _ _ _ _ _ _)
end Go.Proofs.Ytfefldkljbbbpaa.PTreeSame
