/- The plain law behind the statement SpinOnes, and the walk that follows. -/
import Derived.Test.YthdaphnaehdnfaaSpLaw
import Derived.Test.YthdaphnaehdnfaaP8
namespace Go.Proofs.Ythdaphnaehdnfaa.PureSpin
open Go.RowKit Go.Proofs.Ythdaphnaehdnfaa.P Go.Proofs.Ythdaphnaehdnfaa.Sp Go.Proofs.YthdaphnaehdnfaaW.PrintWords Go.Proofs.YthdaphnaehdnfaaW.PrintLast Go.Proofs.YthdaphnaehdnfaaW.PrintMore

theorem ones (x y : Int) : moatlaw02_SpinOnes.f x y = some true := by
  have p1 : (x % 257 + 0 % 257) % 257 = x % 257 := by omega
  have p2 : (y % 257 + 0 % 257) % 257 = y % 257 := by omega
  have t1 : turnX x y 1 0 % 257 = x % 257 := by unfold turnX; omega
  have t2 : turnY x y 1 0 % 257 = y % 257 := by unfold turnY; omega
  have t3 : turnX x y 0 0 % 257 = 0 := by unfold turnX; omega
  have t4 : turnY x y 0 0 % 257 = 0 := by unfold turnY; omega
  have r1 : decide (0 ≤ x % 257 ∧ x % 257 < 257 ∧ 0 ≤ y % 257 ∧ y % 257 < 257) = true := decide_eq_true (by omega)
  have m1 : x % 257 % 257 = x % 257 := by omega
  have m2 : y % 257 % 257 = y % 257 := by omega
  have hm : moreL (x % 257) (y % 257) [120] = moreL x y [120] := by unfold moreL; rw [m1, m2]
  unfold moatlaw02_SpinOnes.f
  simp only [spin_Push.f, Option.bind_some, p1, p2, shown_eq, if_true, right_eq, r1, spin_Turn.f, t1, t2, t3, t4, beq_self_eq_true, Bool.and_self, spin_Bits.f, m1, m2]
  rw [more_eq _ _ _ (by decide), more_eq _ _ _ (by decide)]
  simp only [Option.bind_some, hm, beq_self_eq_true, Bool.and_self]

end Go.Proofs.Ythdaphnaehdnfaa.PureSpin
namespace Go.Proofs.Ythdaphnaehdnfaa
open Go.RowKit
theorem SpinOnes_walk (a b : Int) (w : World) : Calls Try.prog 9 #[.agg #[.int .i64 a, .int .i64 b]] w fun e w' => e = .returned (.bool true) ∧ Below w.heap.size w w' :=
  P.moatlaw02_SpinOnes.calls a b true w (PureSpin.ones a b)
end Go.Proofs.Ythdaphnaehdnfaa
