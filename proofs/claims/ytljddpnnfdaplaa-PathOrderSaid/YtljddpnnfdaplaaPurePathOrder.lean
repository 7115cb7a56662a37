import Derived.Test.YtljddpnnfdaplaaPlPathOrder
namespace Go.Proofs.Ytljddpnnfdaplaa.Pure
theorem PathOrder : P.moatlaw13_PathOrder.Pure := Pl.order_law
end Go.Proofs.Ytljddpnnfdaplaa.Pure
