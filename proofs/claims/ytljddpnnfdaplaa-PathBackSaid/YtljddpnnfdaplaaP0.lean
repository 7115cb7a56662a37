/- Contracts of functions that the statements reach: each call's answer as a plain Lean function. Printed by a program of this session (over the kit's print) out of the translation; Lean checks it. -/
import Derived.Test.YtljddpnnfdaplaaProg
import Derived.Below
import Derived.Deep.Draws
import Derived.Deep.AppendLies
import Derived.Maps.AppendAt
import Derived.OwnWalk
import Derived.Laws.BytesArg
import Derived.Laws.MakeOwn
import Derived.Laws.OwnMore
import Derived.Deep.OwnRows
import Derived.Tactics
import Derived.Lib.ConvBytes
import Derived.Laws.Slices
import Derived.WalkKit
import Derived.KernelRfl
import Derived.RowKit3
import Derived.Deep.LoopGhost
import Derived.Deep.QuietTactic
import Derived.BigQuiet
import Derived.WideLaws
import Derived.Deep.DeepCutAuto
import Derived.Deep.CutBlock
import Derived.Deep.RegionHeld3
import Derived.Laws.Rows
import Derived.Lib.AppendStr
import Derived.ArgAppend
import Derived.Laws.IdiomCopy
import Derived.OrdersHeld
import Derived.Laws.BitsLemmas
import Derived.RowKit
import Derived.Test.YtljddpnnfdaplaaPaSt
import Derived.Test.YtljddpnnfdaplaaWWords
import Derived.Test.YtljddpnnfdaplaaWLast
import Derived.Test.YtljddpnnfdaplaaWTab
import Derived.Test.YtljddpnnfdaplaaWFour
import Derived.Test.YtljddpnnfdaplaaWQPut
import Derived.Test.YtljddpnnfdaplaaWApart
import Derived.Test.YtljddpnnfdaplaaWArr
import Derived.Test.YtljddpnnfdaplaaWZeros
import Derived.Test.YtljddpnnfdaplaaWFoot
import Derived.Test.YtljddpnnfdaplaaWKept
import Derived.Test.YtljddpnnfdaplaaWShare
import Derived.Test.YtljddpnnfdaplaaWN
import Derived.Test.YtljddpnnfdaplaaWFootNe
import Derived.Test.YtljddpnnfdaplaaWAt
import Derived.Test.YtljddpnnfdaplaaWEqStruct
import Derived.Test.YtljddpnnfdaplaaWRepsOne
import Derived.Test.YtljddpnnfdaplaaWInv
import Derived.Test.YtljddpnnfdaplaaWInvWords
import Derived.Test.YtljddpnnfdaplaaWGuard
import Derived.Test.YtljddpnnfdaplaaWNEv
import Derived.Test.YtljddpnnfdaplaaWMore
namespace Go.Proofs.Ytljddpnnfdaplaa.P
open Go.RowKit Go.Proofs.YtljddpnnfdaplaaW.PrintWords Go.Proofs.YtljddpnnfdaplaaW.PrintLast Go.Proofs.YtljddpnnfdaplaaW.PrintMore
attribute [local go_sem] max2_int min2_int max_two min_two max_three min_three max_four min_four   -- for this text's walks alone
set_option linter.unusedVariables false
set_option linter.unusedSimpArgs false



def errW : Option Int → Value
  | none => .nilIface
  | some c => .iface 0 (.int .i64 c)
theorem errW_none : errW none = .nilIface := rfl
theorem errW_some (c : Int) : errW (some c) = .iface 0 (.int .i64 c) := rfl

theorem info9 : (Try.prog.info? 9).map (fun i => (i.zero, i.size, i.bytes)) = some (some (.string ⟨#[]⟩), 1, 16) := by kernel_rfl
-- the values' own types

end Go.Proofs.Ytljddpnnfdaplaa.P
