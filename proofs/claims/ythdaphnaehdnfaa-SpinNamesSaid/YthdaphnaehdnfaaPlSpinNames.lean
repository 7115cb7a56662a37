/- The plain law behind the statement SpinNames, and the walk that follows. -/
import Derived.Test.YthdaphnaehdnfaaSpLaw
import Derived.Test.YthdaphnaehdnfaaP4
namespace Go.Proofs.Ythdaphnaehdnfaa.PureSpin
open Go.RowKit Go.Proofs.Ythdaphnaehdnfaa.P Go.Proofs.Ythdaphnaehdnfaa.Sp Go.Proofs.YthdaphnaehdnfaaW.PrintWords Go.Proofs.YthdaphnaehdnfaaW.PrintLast Go.Proofs.YthdaphnaehdnfaaW.PrintMore

theorem names (x y : Int) (s : ByteArray) : moatlaw02_SpinNames.f 20001 x y s = some true := by
  obtain ⟨r, hr, hrs⟩ := few_eq s
  unfold moatlaw02_SpinNames.f
  simp only [shown_eq, Option.bind_some, if_true, hr, of_eq _ hrs, rof_eq _ hrs, more_eq _ _ _ hrs, rmore_eq _ _ _ hrs, beq_self_eq_true, Bool.and_self]

end Go.Proofs.Ythdaphnaehdnfaa.PureSpin
namespace Go.Proofs.Ythdaphnaehdnfaa
open Go.RowKit
theorem SpinNames_walk (a b : Int) (s : ByteArray) (_h : s.size ≤ 140737488351232) (w : World) : Calls Try.prog 3 #[.agg #[.int .i64 a, .int .i64 b], .string s] w fun e w' => e = .returned (.bool true) ∧ Below w.heap.size w w' :=
  P.moatlaw02_SpinNames.calls 20001 a b s true w (PureSpin.names a b s)
end Go.Proofs.Ythdaphnaehdnfaa
