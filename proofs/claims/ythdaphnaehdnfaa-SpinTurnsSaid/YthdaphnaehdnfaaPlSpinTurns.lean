/- The plain law behind the statement SpinTurns, and the walk that follows. -/
import Derived.Test.YthdaphnaehdnfaaSpLaw
import Derived.Test.YthdaphnaehdnfaaP7
namespace Go.Proofs.Ythdaphnaehdnfaa.PureSpin
open Go.RowKit Go.Proofs.Ythdaphnaehdnfaa.P Go.Proofs.Ythdaphnaehdnfaa.Sp Go.Proofs.YthdaphnaehdnfaaW.PrintWords Go.Proofs.YthdaphnaehdnfaaW.PrintLast Go.Proofs.YthdaphnaehdnfaaW.PrintMore

theorem turns (a b c d : Int) : moatlaw02_SpinTurns.f a b c d = some true := by
  unfold moatlaw02_SpinTurns.f
  simp only [shown_eq, Option.bind_some, if_true, spin_Turn.f, rturn_eq, spin_Push.f, rpush_eq, right_eq, norm_eq, spin_Bits.f, rbits_eq, beq_self_eq_true, Bool.and_self]
  have h : (decide (0 ≤ a ∧ a < 257 ∧ 0 ≤ b ∧ b < 257) == (a == a % 257 && b == b % 257)) = true := by
    rw [beq_iff_eq, Bool.eq_iff_iff]
    simp only [decide_eq_true_eq, Bool.and_eq_true, beq_iff_eq]
    omega
  rw [if_pos h]

end Go.Proofs.Ythdaphnaehdnfaa.PureSpin
namespace Go.Proofs.Ythdaphnaehdnfaa
open Go.RowKit
theorem SpinTurns_walk (a b c d : Int) (w : World) : Calls Try.prog 8 #[.agg #[.int .i64 a, .int .i64 b], .agg #[.int .i64 c, .int .i64 d]] w fun e w' => e = .returned (.bool true) ∧ Below w.heap.size w w' :=
  P.moatlaw02_SpinTurns.calls a b c d true w (PureSpin.turns a b c d)
end Go.Proofs.Ythdaphnaehdnfaa
