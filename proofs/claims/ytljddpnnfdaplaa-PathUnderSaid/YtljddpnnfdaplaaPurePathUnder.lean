import Derived.Test.YtljddpnnfdaplaaPlPathUnder
namespace Go.Proofs.Ytljddpnnfdaplaa.Pure
theorem PathUnder : P.moatlaw13_PathUnder.Pure := Pl.under_law
end Go.Proofs.Ytljddpnnfdaplaa.Pure
