-- PRINTED by print.py (a twelfth state) out of the translation. Not trusted: Lean checks it.
import Derived.Test.YtkdejfedigiohaaGreatDoorPRx0
namespace Go.Proofs.YtkdejfedigiohaaGreatDoor.PR
open Go.RowKit Go.Proofs.YtkdejfedigiohaaGreatDoorW.PrintWords Go.Proofs.YtkdejfedigiohaaGreatDoorW.PrintLast Go.Proofs.YtkdejfedigiohaaGreatDoorW.PrintMore
attribute [local go_sem] max2_int min2_int max_two min_two max_three min_three max_four min_four   -- for this text's walks alone
set_option linter.unusedVariables false
set_option linter.unusedSimpArgs false

theorem eqA24 (d : Nat) (w : World) (x0 y0 : Int) (x1 y1 : Bool) :
    (Op.equalIn (d + 2) 24 (.agg #[.int .u64 x0, .bool x1]) (.agg #[.int .u64 y0, .bool y1])).run Tryz.prog w = .ok (x0 == y0 && (x1 == y1)) w := by
  refine eqA_of Tryz.underlying24 (by kernel_rfl) ?_
  refine eqf_cons (by rfl) (by go_simp; rfl) (by go_simp; rfl) (by go_simp) ?_
  exact eqf_last (by rfl) (by go_simp; rfl) (by go_simp; rfl) (by go_simp)
theorem eqA26 (d : Nat) (w : World) (x0 y0 : Int) (x1 y1 : Bool) (x2 y2 : Int) (x3 y3 : Bool) (x4 y4 : Int) (x5 y5 : Bool) (x6 y6 : Int) (x7 y7 : Bool) (x8 y8 : Int) (x9 y9 : Bool) :
    (Op.equalIn (d + 3) 26 (.agg #[.int .u64 x0, .bool x1, .int .u64 x2, .bool x3, .int .u64 x4, .bool x5, .int .u64 x6, .bool x7, .int .u64 x8, .bool x9]) (.agg #[.int .u64 y0, .bool y1, .int .u64 y2, .bool y3, .int .u64 y4, .bool y5, .int .u64 y6, .bool y7, .int .u64 y8, .bool y9])).run Tryz.prog w = .ok ((x0 == y0 && (x1 == y1)) && ((x2 == y2 && (x3 == y3)) && ((x4 == y4 && (x5 == y5)) && ((x6 == y6 && (x7 == y7)) && ((x8 == y8 && (x9 == y9))))))) w := by
  refine eqA_of Tryz.underlying26 (by kernel_rfl) ?_
  refine eqf_cons (by rfl) (by go_simp) (by go_simp) (eqA24 (d + 0) w _ _ _ _) ?_
  refine eqf_cons (by rfl) (by go_simp) (by go_simp) (eqA24 (d + 0) w _ _ _ _) ?_
  refine eqf_cons (by rfl) (by go_simp) (by go_simp) (eqA24 (d + 0) w _ _ _ _) ?_
  refine eqf_cons (by rfl) (by go_simp) (by go_simp) (eqA24 (d + 0) w _ _ _ _) ?_
  exact eqf_last (by rfl) (by go_simp) (by go_simp) (eqA24 (d + 0) w _ _ _ _)
end Go.Proofs.YtkdejfedigiohaaGreatDoor.PR
