/- Texts for the law FilingDecodes (kept out of a larger one). -/
import Derived.Test.YtejgfblphgcgkaaGreatDoorZFilingDecodes3
namespace Go.Proofs.YtejgfblphgcgkaaGreatDoor.P
open Go.RowKit Go.Proofs.YtejgfblphgcgkaaGreatDoorW.PrintWords Go.Proofs.YtejgfblphgcgkaaGreatDoorW.PrintLast Go.Proofs.YtejgfblphgcgkaaGreatDoorW.PrintMore
attribute [local go_sem] max2_int min2_int max_two min_two max_three min_three max_four min_four   -- for this text's walks alone
set_option linter.unusedVariables false
set_option linter.unusedSimpArgs false
theorem eqA60 (d : Nat) (w : World) (x0 y0 : Int) (x1 y1 : Zb) (x2 y2 : Int) :
 (Op.equalIn (d + 2) 60 (.agg #[.int .i64 x0, .string x1, .int .i64 x2]) (.agg #[.int .i64 y0, .string y1, .int .i64 y2])).run Tryz.prog w = .ok (x0 == y0 && (x1.toList == y1.toList && (x2 == y2))) w := by
 refine eqA_of Tryz.underlying60 (by kernel_rfl) ?_
 refine eqf_cons (by rfl) (by go_simp; rfl) (by go_simp; rfl) (by go_simp) ?_
 refine eqf_cons (by rfl) (by go_simp; rfl) (by go_simp; rfl) (by go_simp) ?_
 exact eqf_last (by rfl) (by go_simp; rfl) (by go_simp; rfl) (by go_simp)
end Go.Proofs.YtejgfblphgcgkaaGreatDoor.P
