-- written by pp.py of this session's wip: the kit's print, turned in a few places, over this claim's program
import Derived.Test.YtjjilhfebkeoeaaDoorPKyx0
namespace Go.Proofs.YtjjilhfebkeoeaaDoor.PKy
open Go.RowKit Go.Proofs.YtjjilhfebkeoeaaDoorW.PrintWords Go.Proofs.YtjjilhfebkeoeaaDoorW.PrintLast Go.Proofs.YtjjilhfebkeoeaaDoorW.PrintMore
attribute [local go_sem] max2_int min2_int max_two min_two max_three min_three max_four min_four   -- for this text's walks alone
set_option linter.unusedVariables false
set_option linter.unusedSimpArgs false

theorem eqR50 (d : Nat) (w : World) (x0 y0 : Int) (x1 y1 : Int) (x2 y2 : Bool) (x3 y3 : Bool) (x4 y4 : Bool) (x5 y5 : ByteArray) :
    (Op.equalIn (d + 2) 50 (.agg #[.int .i64 x0, .int .i32 x1, .bool x2, .bool x3, .bool x4, .string x5]) (.agg #[.int .i64 y0, .int .i32 y1, .bool y2, .bool y3, .bool y4, .string y5])).run Tryd.prog w = .ok (x0 == y0 && (x1 == y1 && (x2 == y2 && (x3 == y3 && (x4 == y4 && (x5.toList == y5.toList)))))) w := by
  refine eqA_of Tryd.underlying50 (by kernel_rfl) ?_
  refine eqf_cons (by rfl) (by go_simp; rfl) (by go_simp; rfl) (by go_simp) ?_
  refine eqf_cons (by rfl) (by go_simp; rfl) (by go_simp; rfl) (by go_simp) ?_
  refine eqf_cons (by rfl) (by go_simp; rfl) (by go_simp; rfl) (by go_simp) ?_
  refine eqf_cons (by rfl) (by go_simp; rfl) (by go_simp; rfl) (by go_simp) ?_
  refine eqf_cons (by rfl) (by go_simp; rfl) (by go_simp; rfl) (by go_simp) ?_
  exact eqf_last (by rfl) (by go_simp; rfl) (by go_simp; rfl) (by go_simp)
def eqb50 (x0 y0 : Int) (x1 y1 : Int) (x2 y2 : Bool) (x3 y3 : Bool) (x4 y4 : Bool) (x5 y5 : ByteArray) : Bool := x0 == y0 && (x1 == y1 && (x2 == y2 && (x3 == y3 && (x4 == y4 && (x5.toList == y5.toList)))))
theorem eqA50 (d : Nat) (w : World) (x0 y0 : Int) (x1 y1 : Int) (x2 y2 : Bool) (x3 y3 : Bool) (x4 y4 : Bool) (x5 y5 : ByteArray) :
    (Op.equalIn (d + 2) 50 (.agg #[.int .i64 x0, .int .i32 x1, .bool x2, .bool x3, .bool x4, .string x5]) (.agg #[.int .i64 y0, .int .i32 y1, .bool y2, .bool y3, .bool y4, .string y5])).run Tryd.prog w = .ok (eqb50 x0 y0 x1 y1 x2 y2 x3 y3 x4 y4 x5 y5) w := eqR50 d w x0 y0 x1 y1 x2 y2 x3 y3 x4 y4 x5 y5
end Go.Proofs.YtjjilhfebkeoeaaDoor.PKy
