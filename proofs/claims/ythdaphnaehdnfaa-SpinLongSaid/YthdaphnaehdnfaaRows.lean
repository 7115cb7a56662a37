/-
  No cell of these rows narrows 'for every input' (looked for: loops, veiled, ifaces, maps, wideKeys, modest, calm, conditions, laid).
  DERIVED. THE GIVEN ROWS OF THIS SEAT. 7 by the template 'for every input the law returns true; each argument reads behind the call as it read before'; 0 by the template 'total and deterministic' (their statements: YthdaphnaehdnfaaTotals.lean).
  GIVEN WITH THE SEED: the statements are not yours to turn. If you find one false, say at which input.
  Laid BY PROGRAM, IN A SANDBOX (cutbox-rows.mjs): the forced cells as the released guide's own fill.sh prints them over the translation 510b904a31fb0569… (all of the seat's roots in one cut). By AI agents, Wed Nov 11 2026. No macro, syntax, notation, axiom, sorry.
-/
import Derived.Test.YthdaphnaehdnfaaChecked
import GoSem.Claim
import GoSem.ClaimJoined
import GoSem.ClaimMapViews
import Derived.JoinedTies
import Derived.KernelRfl
namespace Go.Proofs.Ythdaphnaehdnfaa
/- THE CELL 'sum', in the pinned program and in every row, IS THE sha256 OF THE DUMP (.gsa) THAT YthdaphnaehdnfaaProg.lean LOADS. Nothing in Lean hashes anything: it is a label: what it is worth is what the hold of that sum in a sandbox is worth. -/
noncomputable def Try.pinned : Pinned := { name := "ythdaphnaehdnfaa", sum := "510b904a31fb0569dc332f01ee1a692c956e659a694f99c1d7e4708883135cdf", checked := Try.checked }
namespace Rows
def none {H : Type} : Left H := { results := [], args := [] }

/-- 'moatlaw02.SpinNames': WHATEVER THE INPUT: true; the input reads as it did. -/
def spinNamesSpec : ChangeSpec := { name := "spinNames", fn := fun _ => fun
  | [d1, d2] => { results := [.lit (.bool true)], args := [d1, d2] }
  | _ => none }
def spinNamesRow : OpenClaim := { program := "ythdaphnaehdnfaa", sum := "510b904a31fb0569dc332f01ee1a692c956e659a694f99c1d7e4708883135cdf", func := "moat/moatlaw02.SpinNames", spec := "spinNames", inPlace := ["math.archFloor", "math.Float64bits", "math.Float64frombits", "math.archTrunc"], apart := false }
def SpinNamesSaid : Prop := spinNamesRow.holds Try.pinned (OpenSpec.ofChange spinNamesSpec)

/-- ITS FALSE NEIGHBOUR: 'it returns false'. Refute it at one input. -/
def spinNamesWrong : ChangeSpec := { name := "spinNames", fn := fun _ => fun
  | [d1, d2] => { results := [.lit (.bool false)], args := [d1, d2] }
  | _ => none }
def SpinNamesWrongFalsely : Prop := spinNamesRow.holds Try.pinned (OpenSpec.ofChange spinNamesWrong)

/-- 'moatlaw02.SpinParts': WHATEVER THE INPUT: true; the input reads as it did. -/
def spinPartsSpec : ChangeSpec := { name := "spinParts", fn := fun _ => fun
  | [d1, d2] => { results := [.lit (.bool true)], args := [d1, d2] }
  | _ => none }
def spinPartsRow : OpenClaim := { program := "ythdaphnaehdnfaa", sum := "510b904a31fb0569dc332f01ee1a692c956e659a694f99c1d7e4708883135cdf", func := "moat/moatlaw02.SpinParts", spec := "spinParts", inPlace := ["math.archFloor", "math.Float64bits", "math.Float64frombits", "math.archTrunc"], apart := false }
def SpinPartsSaid : Prop := spinPartsRow.holds Try.pinned (OpenSpec.ofChange spinPartsSpec)

/-- ITS FALSE NEIGHBOUR: 'it returns false'. Refute it at one input. -/
def spinPartsWrong : ChangeSpec := { name := "spinParts", fn := fun _ => fun
  | [d1, d2] => { results := [.lit (.bool false)], args := [d1, d2] }
  | _ => none }
def SpinPartsWrongFalsely : Prop := spinPartsRow.holds Try.pinned (OpenSpec.ofChange spinPartsWrong)

/-- 'moatlaw02.SpinTells': WHATEVER THE INPUT: true; the input reads as it did. -/
def spinTellsSpec : ChangeSpec := { name := "spinTells", fn := fun _ => fun
  | [d1, d2, d3] => { results := [.lit (.bool true)], args := [d1, d2, d3] }
  | _ => none }
def spinTellsRow : OpenClaim := { program := "ythdaphnaehdnfaa", sum := "510b904a31fb0569dc332f01ee1a692c956e659a694f99c1d7e4708883135cdf", func := "moat/moatlaw02.SpinTells", spec := "spinTells", inPlace := ["math.archFloor", "math.Float64bits", "math.Float64frombits", "math.archTrunc"], apart := false }
def SpinTellsSaid : Prop := spinTellsRow.holds Try.pinned (OpenSpec.ofChange spinTellsSpec)

/-- ITS FALSE NEIGHBOUR: 'it returns false'. Refute it at one input. -/
def spinTellsWrong : ChangeSpec := { name := "spinTells", fn := fun _ => fun
  | [d1, d2, d3] => { results := [.lit (.bool false)], args := [d1, d2, d3] }
  | _ => none }
def SpinTellsWrongFalsely : Prop := spinTellsRow.holds Try.pinned (OpenSpec.ofChange spinTellsWrong)

/-- 'moatlaw02.SpinLong': WHATEVER THE INPUT: true; the input reads as it did. -/
def spinLongSpec : ChangeSpec := { name := "spinLong", fn := fun _ => fun
  | [d1, d2] => { results := [.lit (.bool true)], args := [d1, d2] }
  | _ => none }
def spinLongRow : OpenClaim := { program := "ythdaphnaehdnfaa", sum := "510b904a31fb0569dc332f01ee1a692c956e659a694f99c1d7e4708883135cdf", func := "moat/moatlaw02.SpinLong", spec := "spinLong", inPlace := ["math.archFloor", "math.Float64bits", "math.Float64frombits", "math.archTrunc"], apart := false }
def SpinLongSaid : Prop := spinLongRow.holds Try.pinned (OpenSpec.ofChange spinLongSpec)

/-- ITS FALSE NEIGHBOUR: 'it returns false'. Refute it at one input. -/
def spinLongWrong : ChangeSpec := { name := "spinLong", fn := fun _ => fun
  | [d1, d2] => { results := [.lit (.bool false)], args := [d1, d2] }
  | _ => none }
def SpinLongWrongFalsely : Prop := spinLongRow.holds Try.pinned (OpenSpec.ofChange spinLongWrong)

/-- 'moatlaw02.SpinRing': WHATEVER THE INPUT: true; the input reads as it did. -/
def spinRingSpec : ChangeSpec := { name := "spinRing", fn := fun _ => fun
  | [d1, d2, d3] => { results := [.lit (.bool true)], args := [d1, d2, d3] }
  | _ => none }
def spinRingRow : OpenClaim := { program := "ythdaphnaehdnfaa", sum := "510b904a31fb0569dc332f01ee1a692c956e659a694f99c1d7e4708883135cdf", func := "moat/moatlaw02.SpinRing", spec := "spinRing", inPlace := ["math.archFloor", "math.Float64bits", "math.Float64frombits", "math.archTrunc"], apart := false }
def SpinRingSaid : Prop := spinRingRow.holds Try.pinned (OpenSpec.ofChange spinRingSpec)

/-- ITS FALSE NEIGHBOUR: 'it returns false'. Refute it at one input. -/
def spinRingWrong : ChangeSpec := { name := "spinRing", fn := fun _ => fun
  | [d1, d2, d3] => { results := [.lit (.bool false)], args := [d1, d2, d3] }
  | _ => none }
def SpinRingWrongFalsely : Prop := spinRingRow.holds Try.pinned (OpenSpec.ofChange spinRingWrong)

/-- 'moatlaw02.SpinTurns': WHATEVER THE INPUT: true; the input reads as it did. -/
def spinTurnsSpec : ChangeSpec := { name := "spinTurns", fn := fun _ => fun
  | [d1, d2] => { results := [.lit (.bool true)], args := [d1, d2] }
  | _ => none }
def spinTurnsRow : OpenClaim := { program := "ythdaphnaehdnfaa", sum := "510b904a31fb0569dc332f01ee1a692c956e659a694f99c1d7e4708883135cdf", func := "moat/moatlaw02.SpinTurns", spec := "spinTurns", inPlace := ["math.archFloor", "math.Float64bits", "math.Float64frombits", "math.archTrunc"], apart := false }
def SpinTurnsSaid : Prop := spinTurnsRow.holds Try.pinned (OpenSpec.ofChange spinTurnsSpec)

/-- ITS FALSE NEIGHBOUR: 'it returns false'. Refute it at one input. -/
def spinTurnsWrong : ChangeSpec := { name := "spinTurns", fn := fun _ => fun
  | [d1, d2] => { results := [.lit (.bool false)], args := [d1, d2] }
  | _ => none }
def SpinTurnsWrongFalsely : Prop := spinTurnsRow.holds Try.pinned (OpenSpec.ofChange spinTurnsWrong)

/-- 'moatlaw02.SpinOnes': WHATEVER THE INPUT: true; the input reads as it did. -/
def spinOnesSpec : ChangeSpec := { name := "spinOnes", fn := fun _ => fun
  | [d] => { results := [.lit (.bool true)], args := [d] }
  | _ => none }
def spinOnesRow : OpenClaim := { program := "ythdaphnaehdnfaa", sum := "510b904a31fb0569dc332f01ee1a692c956e659a694f99c1d7e4708883135cdf", func := "moat/moatlaw02.SpinOnes", spec := "spinOnes", inPlace := ["math.archFloor", "math.Float64bits", "math.Float64frombits", "math.archTrunc"], apart := false }
def SpinOnesSaid : Prop := spinOnesRow.holds Try.pinned (OpenSpec.ofChange spinOnesSpec)

/-- ITS FALSE NEIGHBOUR: 'it returns false'. Refute it at one input. -/
def spinOnesWrong : ChangeSpec := { name := "spinOnes", fn := fun _ => fun
  | [d] => { results := [.lit (.bool false)], args := [d] }
  | _ => none }
def SpinOnesWrongFalsely : Prop := spinOnesRow.holds Try.pinned (OpenSpec.ofChange spinOnesWrong)

/- THE SECOND FORM. 'bulk': how many values and letters a reading holds, each counted each time it is reached (what is shared counts as often as it is met; a slice's spare places count too). A statement '..UptoSaid' is the law's where the arguments, and the package variables that the reading takes, are together of bulk at most 1048576: NARROWER than '..Said'. Prove '..Said' where nothing that the law and all that it calls make is longer than what came in: it says more and counts as full. Else prove '..UptoSaid'. A law counts once. -/
mutual
def uptoBulk {H : Type} : DataW H → Nat
  | .lit (.string bytes) => bytes.length + 1
  | .lit _ => 1
  | .nil => 1
  | .ptr d => uptoBulk d + 1
  | .slice elems spare => uptoBulkAll elems + uptoBulkAll spare + 1
  | .agg parts => uptoBulkAll parts + 1
  | .iface _ d => uptoBulk d + 1
  | .map entries => uptoBulkEntries entries + 1
  | .held _ => 1
def uptoBulkAll {H : Type} : List (DataW H) → Nat
  | [] => 0
  | d :: r => uptoBulk d + uptoBulkAll r
def uptoBulkEntries {H : Type} : List (Lit × DataW H) → Nat
  | [] => 0
  | x :: r => uptoBulkEntry x + uptoBulkEntries r
def uptoBulkEntry {H : Type} : Lit × DataW H → Nat
  | (.string bytes, d) => bytes.length + uptoBulk d + 1
  | (_, d) => uptoBulk d + 1
 end
def uptoSmall : (H : Type) → List (DataW H) → Bool := fun _ ds => decide (uptoBulkAll ds ≤ 1048576)
def OpenSpec.upto (s : _root_.Go.ChangeSpec) : _root_.Go.OpenSpec := { _root_.Go.OpenSpec.ofChange s with cond := some uptoSmall }

/-- 'moatlaw02.SpinNames', WHERE WHAT IT READS IS OF BULK AT MOST 1048576: true; the input reads as it did. -/
def spinNamesUptoRow : OpenClaim := { program := "ythdaphnaehdnfaa", sum := "510b904a31fb0569dc332f01ee1a692c956e659a694f99c1d7e4708883135cdf", func := "moat/moatlaw02.SpinNames", spec := "spinNames", inPlace := ["math.archFloor", "math.Float64bits", "math.Float64frombits", "math.archTrunc"], apart := false, narrowed := true }
def SpinNamesUptoSaid : Prop := spinNamesUptoRow.holds Try.pinned (OpenSpec.upto spinNamesSpec)

/-- 'moatlaw02.SpinParts', WHERE WHAT IT READS IS OF BULK AT MOST 1048576: true; the input reads as it did. -/
def spinPartsUptoRow : OpenClaim := { program := "ythdaphnaehdnfaa", sum := "510b904a31fb0569dc332f01ee1a692c956e659a694f99c1d7e4708883135cdf", func := "moat/moatlaw02.SpinParts", spec := "spinParts", inPlace := ["math.archFloor", "math.Float64bits", "math.Float64frombits", "math.archTrunc"], apart := false, narrowed := true }
def SpinPartsUptoSaid : Prop := spinPartsUptoRow.holds Try.pinned (OpenSpec.upto spinPartsSpec)

/-- 'moatlaw02.SpinTells', WHERE WHAT IT READS IS OF BULK AT MOST 1048576: true; the input reads as it did. -/
def spinTellsUptoRow : OpenClaim := { program := "ythdaphnaehdnfaa", sum := "510b904a31fb0569dc332f01ee1a692c956e659a694f99c1d7e4708883135cdf", func := "moat/moatlaw02.SpinTells", spec := "spinTells", inPlace := ["math.archFloor", "math.Float64bits", "math.Float64frombits", "math.archTrunc"], apart := false, narrowed := true }
def SpinTellsUptoSaid : Prop := spinTellsUptoRow.holds Try.pinned (OpenSpec.upto spinTellsSpec)

/-- 'moatlaw02.SpinLong', WHERE WHAT IT READS IS OF BULK AT MOST 1048576: true; the input reads as it did. -/
def spinLongUptoRow : OpenClaim := { program := "ythdaphnaehdnfaa", sum := "510b904a31fb0569dc332f01ee1a692c956e659a694f99c1d7e4708883135cdf", func := "moat/moatlaw02.SpinLong", spec := "spinLong", inPlace := ["math.archFloor", "math.Float64bits", "math.Float64frombits", "math.archTrunc"], apart := false, narrowed := true }
def SpinLongUptoSaid : Prop := spinLongUptoRow.holds Try.pinned (OpenSpec.upto spinLongSpec)

/-- 'moatlaw02.SpinRing', WHERE WHAT IT READS IS OF BULK AT MOST 1048576: true; the input reads as it did. -/
def spinRingUptoRow : OpenClaim := { program := "ythdaphnaehdnfaa", sum := "510b904a31fb0569dc332f01ee1a692c956e659a694f99c1d7e4708883135cdf", func := "moat/moatlaw02.SpinRing", spec := "spinRing", inPlace := ["math.archFloor", "math.Float64bits", "math.Float64frombits", "math.archTrunc"], apart := false, narrowed := true }
def SpinRingUptoSaid : Prop := spinRingUptoRow.holds Try.pinned (OpenSpec.upto spinRingSpec)

/-- 'moatlaw02.SpinTurns', WHERE WHAT IT READS IS OF BULK AT MOST 1048576: true; the input reads as it did. -/
def spinTurnsUptoRow : OpenClaim := { program := "ythdaphnaehdnfaa", sum := "510b904a31fb0569dc332f01ee1a692c956e659a694f99c1d7e4708883135cdf", func := "moat/moatlaw02.SpinTurns", spec := "spinTurns", inPlace := ["math.archFloor", "math.Float64bits", "math.Float64frombits", "math.archTrunc"], apart := false, narrowed := true }
def SpinTurnsUptoSaid : Prop := spinTurnsUptoRow.holds Try.pinned (OpenSpec.upto spinTurnsSpec)

/-- 'moatlaw02.SpinOnes', WHERE WHAT IT READS IS OF BULK AT MOST 1048576: true; the input reads as it did. -/
def spinOnesUptoRow : OpenClaim := { program := "ythdaphnaehdnfaa", sum := "510b904a31fb0569dc332f01ee1a692c956e659a694f99c1d7e4708883135cdf", func := "moat/moatlaw02.SpinOnes", spec := "spinOnes", inPlace := ["math.archFloor", "math.Float64bits", "math.Float64frombits", "math.archTrunc"], apart := false, narrowed := true }
def SpinOnesUptoSaid : Prop := spinOnesUptoRow.holds Try.pinned (OpenSpec.upto spinOnesSpec)

end Rows
end Go.Proofs.Ythdaphnaehdnfaa
