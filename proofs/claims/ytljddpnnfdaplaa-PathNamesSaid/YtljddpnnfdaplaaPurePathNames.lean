import Derived.Test.YtljddpnnfdaplaaPlPathNames
namespace Go.Proofs.Ytljddpnnfdaplaa.Pure
theorem PathNames : P.moatlaw13_PathNames.Pure := Pl.names_law
end Go.Proofs.Ytljddpnnfdaplaa.Pure
