/-
  No cell of these rows narrows 'for every input' (looked for: loops, veiled, ifaces, maps, wideKeys, modest, calm, conditions, laid).
  DERIVED. THE GIVEN ROWS OF THIS SEAT. 6 by the template 'for every input the law returns true; each argument reads behind the call as it read before'; 0 by the template 'total and deterministic' (their statements: YtljddpnnfdaplaaTotals.lean).
  GIVEN WITH THE SEED: the statements are not yours to turn. If you find one false, say at which input.
  Laid BY PROGRAM, IN A SANDBOX (cutbox-rows.mjs): the forced cells as the released guide's own fill.sh prints them over the translation 0f25d61245d9fa36… (all of the seat's roots in one cut). By AI agents, Wed Nov 11 2026. No macro, syntax, notation, axiom, sorry.
-/
import Derived.Test.YtljddpnnfdaplaaChecked
import GoSem.Claim
import GoSem.ClaimJoined
import GoSem.ClaimMapViews
import Derived.JoinedTies
import Derived.KernelRfl
namespace Go.Proofs.Ytljddpnnfdaplaa
/- THE CELL 'sum', in the pinned program and in every row, IS THE sha256 OF THE DUMP (.gsa) THAT YtljddpnnfdaplaaProg.lean LOADS. Nothing in Lean hashes anything: it is a label: what it is worth is what the hold of that sum in a sandbox is worth. -/
noncomputable def Try.pinned : Pinned := { name := "ytljddpnnfdaplaa", sum := "0f25d61245d9fa36daea69ced9996b73c40d25bc2a5dcfc9eb88db595fb85a23", checked := Try.checked }
namespace Rows
def none {H : Type} : Left H := { results := [], args := [] }

/-- 'moatlaw13.PathParses': WHATEVER THE INPUT: true; the input reads as it did. -/
def pathParsesSpec : ChangeSpec := { name := "pathParses", fn := fun _ => fun
  | [d] => { results := [.lit (.bool true)], args := [d] }
  | _ => none }
def pathParsesRow : OpenClaim := { program := "ytljddpnnfdaplaa", sum := "0f25d61245d9fa36daea69ced9996b73c40d25bc2a5dcfc9eb88db595fb85a23", func := "moat/moatlaw13.PathParses", spec := "pathParses", inPlace := ["internal/bytealg.IndexByteString", "internal/bytealg.IndexString", "internal/abi.NoEscape"], named := ["internal/bytealg.MaxLen"], apart := false }
def PathParsesSaid : Prop := pathParsesRow.holds Try.pinned (OpenSpec.ofChange pathParsesSpec)

/-- ITS FALSE NEIGHBOUR: 'it returns false'. Refute it at one input. -/
def pathParsesWrong : ChangeSpec := { name := "pathParses", fn := fun _ => fun
  | [d] => { results := [.lit (.bool false)], args := [d] }
  | _ => none }
def PathParsesWrongFalsely : Prop := pathParsesRow.holds Try.pinned (OpenSpec.ofChange pathParsesWrong)

/-- 'moatlaw13.PathJoins': WHATEVER THE INPUT: true; the input reads as it did. -/
def pathJoinsSpec : ChangeSpec := { name := "pathJoins", fn := fun _ => fun
  | [d] => { results := [.lit (.bool true)], args := [d] }
  | _ => none }
def pathJoinsRow : OpenClaim := { program := "ytljddpnnfdaplaa", sum := "0f25d61245d9fa36daea69ced9996b73c40d25bc2a5dcfc9eb88db595fb85a23", func := "moat/moatlaw13.PathJoins", spec := "pathJoins", inPlace := ["internal/abi.NoEscape", "internal/bytealg.IndexByteString", "internal/bytealg.IndexString"], named := ["internal/bytealg.MaxLen"], apart := false }
def PathJoinsSaid : Prop := pathJoinsRow.holds Try.pinned (OpenSpec.ofChange pathJoinsSpec)

/-- ITS FALSE NEIGHBOUR: 'it returns false'. Refute it at one input. -/
def pathJoinsWrong : ChangeSpec := { name := "pathJoins", fn := fun _ => fun
  | [d] => { results := [.lit (.bool false)], args := [d] }
  | _ => none }
def PathJoinsWrongFalsely : Prop := pathJoinsRow.holds Try.pinned (OpenSpec.ofChange pathJoinsWrong)

/-- 'moatlaw13.PathBack': WHATEVER THE INPUT: true; the input reads as it did. -/
def pathBackSpec : ChangeSpec := { name := "pathBack", fn := fun _ => fun
  | [d1, d2] => { results := [.lit (.bool true)], args := [d1, d2] }
  | _ => none }
def pathBackRow : OpenClaim := { program := "ytljddpnnfdaplaa", sum := "0f25d61245d9fa36daea69ced9996b73c40d25bc2a5dcfc9eb88db595fb85a23", func := "moat/moatlaw13.PathBack", spec := "pathBack", inPlace := ["internal/bytealg.IndexByteString", "internal/bytealg.IndexString", "internal/abi.NoEscape"], named := ["internal/bytealg.MaxLen"], apart := false }
def PathBackSaid : Prop := pathBackRow.holds Try.pinned (OpenSpec.ofChange pathBackSpec)

/-- ITS FALSE NEIGHBOUR: 'it returns false'. Refute it at one input. -/
def pathBackWrong : ChangeSpec := { name := "pathBack", fn := fun _ => fun
  | [d1, d2] => { results := [.lit (.bool false)], args := [d1, d2] }
  | _ => none }
def PathBackWrongFalsely : Prop := pathBackRow.holds Try.pinned (OpenSpec.ofChange pathBackWrong)

/-- 'moatlaw13.PathUnder': WHATEVER THE INPUT: true; the input reads as it did. -/
def pathUnderSpec : ChangeSpec := { name := "pathUnder", fn := fun _ => fun
  | [d1, d2] => { results := [.lit (.bool true)], args := [d1, d2] }
  | _ => none }
def pathUnderRow : OpenClaim := { program := "ytljddpnnfdaplaa", sum := "0f25d61245d9fa36daea69ced9996b73c40d25bc2a5dcfc9eb88db595fb85a23", func := "moat/moatlaw13.PathUnder", spec := "pathUnder", inPlace := ["internal/bytealg.IndexByteString", "internal/bytealg.IndexString", "internal/abi.NoEscape"], named := ["internal/bytealg.MaxLen"], apart := false }
def PathUnderSaid : Prop := pathUnderRow.holds Try.pinned (OpenSpec.ofChange pathUnderSpec)

/-- ITS FALSE NEIGHBOUR: 'it returns false'. Refute it at one input. -/
def pathUnderWrong : ChangeSpec := { name := "pathUnder", fn := fun _ => fun
  | [d1, d2] => { results := [.lit (.bool false)], args := [d1, d2] }
  | _ => none }
def PathUnderWrongFalsely : Prop := pathUnderRow.holds Try.pinned (OpenSpec.ofChange pathUnderWrong)

/-- 'moatlaw13.PathOrder': WHATEVER THE INPUT: true; the input reads as it did. -/
def pathOrderSpec : ChangeSpec := { name := "pathOrder", fn := fun _ => fun
  | [d1, d2, d3] => { results := [.lit (.bool true)], args := [d1, d2, d3] }
  | _ => none }
def pathOrderRow : OpenClaim := { program := "ytljddpnnfdaplaa", sum := "0f25d61245d9fa36daea69ced9996b73c40d25bc2a5dcfc9eb88db595fb85a23", func := "moat/moatlaw13.PathOrder", spec := "pathOrder", inPlace := ["internal/bytealg.IndexByteString", "internal/bytealg.IndexString", "internal/abi.NoEscape"], named := ["internal/bytealg.MaxLen"], apart := false }
def PathOrderSaid : Prop := pathOrderRow.holds Try.pinned (OpenSpec.ofChange pathOrderSpec)

/-- ITS FALSE NEIGHBOUR: 'it returns false'. Refute it at one input. -/
def pathOrderWrong : ChangeSpec := { name := "pathOrder", fn := fun _ => fun
  | [d1, d2, d3] => { results := [.lit (.bool false)], args := [d1, d2, d3] }
  | _ => none }
def PathOrderWrongFalsely : Prop := pathOrderRow.holds Try.pinned (OpenSpec.ofChange pathOrderWrong)

/-- 'moatlaw13.PathNames': WHATEVER THE INPUT: true; the input reads as it did. -/
def pathNamesSpec : ChangeSpec := { name := "pathNames", fn := fun _ => fun
  | [d1, d2] => { results := [.lit (.bool true)], args := [d1, d2] }
  | _ => none }
def pathNamesRow : OpenClaim := { program := "ytljddpnnfdaplaa", sum := "0f25d61245d9fa36daea69ced9996b73c40d25bc2a5dcfc9eb88db595fb85a23", func := "moat/moatlaw13.PathNames", spec := "pathNames", inPlace := ["internal/bytealg.IndexByteString", "internal/bytealg.IndexString", "internal/abi.NoEscape"], named := ["internal/bytealg.MaxLen"], apart := false }
def PathNamesSaid : Prop := pathNamesRow.holds Try.pinned (OpenSpec.ofChange pathNamesSpec)

/-- ITS FALSE NEIGHBOUR: 'it returns false'. Refute it at one input. -/
def pathNamesWrong : ChangeSpec := { name := "pathNames", fn := fun _ => fun
  | [d1, d2] => { results := [.lit (.bool false)], args := [d1, d2] }
  | _ => none }
def PathNamesWrongFalsely : Prop := pathNamesRow.holds Try.pinned (OpenSpec.ofChange pathNamesWrong)

/- THE SECOND FORM. 'bulk': how many values and letters a reading holds, each counted each time it is reached (what is shared counts as often as it is met; a slice's spare places count too). A statement '..UptoSaid' is the law's where the arguments, and the package variables that the reading takes, are together of bulk at most 1048576: NARROWER than '..Said'. Prove '..Said' where nothing that the law and all that it calls make is longer than what came in: it says more and counts as full. Else prove '..UptoSaid'. A law counts once. -/
mutual
def uptoBulk {H : Type} : DataW H → Nat
  | .lit (.string bytes) => bytes.length + 1
  | .lit _ => 1
  | .nil => 1
  | .ptr d => uptoBulk d + 1
  | .slice elems spare => uptoBulkAll elems + uptoBulkAll spare + 1
  | .agg parts => uptoBulkAll parts + 1
  | .iface _ d => uptoBulk d + 1
  | .map entries => uptoBulkEntries entries + 1
  | .held _ => 1
def uptoBulkAll {H : Type} : List (DataW H) → Nat
  | [] => 0
  | d :: r => uptoBulk d + uptoBulkAll r
def uptoBulkEntries {H : Type} : List (Lit × DataW H) → Nat
  | [] => 0
  | x :: r => uptoBulkEntry x + uptoBulkEntries r
def uptoBulkEntry {H : Type} : Lit × DataW H → Nat
  | (.string bytes, d) => bytes.length + uptoBulk d + 1
  | (_, d) => uptoBulk d + 1
 end
def uptoSmall : (H : Type) → List (DataW H) → Bool := fun _ ds => decide (uptoBulkAll ds ≤ 1048576)
def OpenSpec.upto (s : _root_.Go.ChangeSpec) : _root_.Go.OpenSpec := { _root_.Go.OpenSpec.ofChange s with cond := some uptoSmall }

/-- 'moatlaw13.PathParses', WHERE WHAT IT READS IS OF BULK AT MOST 1048576: true; the input reads as it did. -/
def pathParsesUptoRow : OpenClaim := { program := "ytljddpnnfdaplaa", sum := "0f25d61245d9fa36daea69ced9996b73c40d25bc2a5dcfc9eb88db595fb85a23", func := "moat/moatlaw13.PathParses", spec := "pathParses", inPlace := ["internal/bytealg.IndexByteString", "internal/bytealg.IndexString", "internal/abi.NoEscape"], named := ["internal/bytealg.MaxLen"], apart := false, narrowed := true }
def PathParsesUptoSaid : Prop := pathParsesUptoRow.holds Try.pinned (OpenSpec.upto pathParsesSpec)

/-- 'moatlaw13.PathJoins', WHERE WHAT IT READS IS OF BULK AT MOST 1048576: true; the input reads as it did. -/
def pathJoinsUptoRow : OpenClaim := { program := "ytljddpnnfdaplaa", sum := "0f25d61245d9fa36daea69ced9996b73c40d25bc2a5dcfc9eb88db595fb85a23", func := "moat/moatlaw13.PathJoins", spec := "pathJoins", inPlace := ["internal/abi.NoEscape", "internal/bytealg.IndexByteString", "internal/bytealg.IndexString"], named := ["internal/bytealg.MaxLen"], apart := false, narrowed := true }
def PathJoinsUptoSaid : Prop := pathJoinsUptoRow.holds Try.pinned (OpenSpec.upto pathJoinsSpec)

/-- 'moatlaw13.PathBack', WHERE WHAT IT READS IS OF BULK AT MOST 1048576: true; the input reads as it did. -/
def pathBackUptoRow : OpenClaim := { program := "ytljddpnnfdaplaa", sum := "0f25d61245d9fa36daea69ced9996b73c40d25bc2a5dcfc9eb88db595fb85a23", func := "moat/moatlaw13.PathBack", spec := "pathBack", inPlace := ["internal/bytealg.IndexByteString", "internal/bytealg.IndexString", "internal/abi.NoEscape"], named := ["internal/bytealg.MaxLen"], apart := false, narrowed := true }
def PathBackUptoSaid : Prop := pathBackUptoRow.holds Try.pinned (OpenSpec.upto pathBackSpec)

/-- 'moatlaw13.PathUnder', WHERE WHAT IT READS IS OF BULK AT MOST 1048576: true; the input reads as it did. -/
def pathUnderUptoRow : OpenClaim := { program := "ytljddpnnfdaplaa", sum := "0f25d61245d9fa36daea69ced9996b73c40d25bc2a5dcfc9eb88db595fb85a23", func := "moat/moatlaw13.PathUnder", spec := "pathUnder", inPlace := ["internal/bytealg.IndexByteString", "internal/bytealg.IndexString", "internal/abi.NoEscape"], named := ["internal/bytealg.MaxLen"], apart := false, narrowed := true }
def PathUnderUptoSaid : Prop := pathUnderUptoRow.holds Try.pinned (OpenSpec.upto pathUnderSpec)

/-- 'moatlaw13.PathOrder', WHERE WHAT IT READS IS OF BULK AT MOST 1048576: true; the input reads as it did. -/
def pathOrderUptoRow : OpenClaim := { program := "ytljddpnnfdaplaa", sum := "0f25d61245d9fa36daea69ced9996b73c40d25bc2a5dcfc9eb88db595fb85a23", func := "moat/moatlaw13.PathOrder", spec := "pathOrder", inPlace := ["internal/bytealg.IndexByteString", "internal/bytealg.IndexString", "internal/abi.NoEscape"], named := ["internal/bytealg.MaxLen"], apart := false, narrowed := true }
def PathOrderUptoSaid : Prop := pathOrderUptoRow.holds Try.pinned (OpenSpec.upto pathOrderSpec)

/-- 'moatlaw13.PathNames', WHERE WHAT IT READS IS OF BULK AT MOST 1048576: true; the input reads as it did. -/
def pathNamesUptoRow : OpenClaim := { program := "ytljddpnnfdaplaa", sum := "0f25d61245d9fa36daea69ced9996b73c40d25bc2a5dcfc9eb88db595fb85a23", func := "moat/moatlaw13.PathNames", spec := "pathNames", inPlace := ["internal/bytealg.IndexByteString", "internal/bytealg.IndexString", "internal/abi.NoEscape"], named := ["internal/bytealg.MaxLen"], apart := false, narrowed := true }
def PathNamesUptoSaid : Prop := pathNamesUptoRow.holds Try.pinned (OpenSpec.upto pathNamesSpec)

end Rows
end Go.Proofs.Ytljddpnnfdaplaa
