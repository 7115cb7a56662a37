import Derived.Test.YtljddpnnfdaplaaPlPathParses
namespace Go.Proofs.Ytljddpnnfdaplaa.Pure
theorem PathParses : P.moatlaw13_PathParses.Pure := Pl.parses_law
end Go.Proofs.Ytljddpnnfdaplaa.Pure
