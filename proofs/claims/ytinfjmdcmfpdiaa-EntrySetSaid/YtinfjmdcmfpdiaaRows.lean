/-
  No cell of these rows narrows 'for every input' (looked for: loops, veiled, ifaces, maps, wideKeys, modest, calm, conditions, laid).
  DERIVED. THE GIVEN ROWS OF THIS SEAT. 7 by the template 'for every input the law returns true; each argument reads behind the call as it read before'; 0 by the template 'total and deterministic' (their statements: YtinfjmdcmfpdiaaTotals.lean).
  GIVEN WITH THE SEED: the statements are not yours to turn. If you find one false, say at which input.
  Laid BY PROGRAM, IN A SANDBOX (cutbox-rows.mjs): the forced cells as the released guide's own fill.sh prints them over the translation c3e700073cfe8b88… (all of the seat's roots in one cut). By AI agents, Wed Nov 11 2026. No macro, syntax, notation, axiom, sorry.
-/
import Derived.Test.YtinfjmdcmfpdiaaChecked
import GoSem.Claim
import GoSem.ClaimJoined
import GoSem.ClaimMapViews
import Derived.JoinedTies
import Derived.KernelRfl
namespace Go.Proofs.Ytinfjmdcmfpdiaa
/- THE CELL 'sum', in the pinned program and in every row, IS THE sha256 OF THE DUMP (.gsa) THAT YtinfjmdcmfpdiaaProg.lean LOADS. Nothing in Lean hashes anything: it is a label: what it is worth is what the hold of that sum in a sandbox is worth. -/
noncomputable def Try.pinned : Pinned := { name := "ytinfjmdcmfpdiaa", sum := "c3e700073cfe8b885eeb75ed9b8f2300ce2921d8e7e671489614cb552561706d", checked := Try.checked }
namespace Rows
def none {H : Type} : Left H := { results := [], args := [] }

/-- 'moatlaw12.EntryLays': WHATEVER THE INPUT: true; the input reads as it did. -/
def entryLaysSpec : ChangeSpec := { name := "entryLays", fn := fun _ => fun
  | [d1, d2] => { results := [.lit (.bool true)], args := [d1, d2] }
  | _ => none }
def entryLaysRow : OpenClaim := { program := "ytinfjmdcmfpdiaa", sum := "c3e700073cfe8b885eeb75ed9b8f2300ce2921d8e7e671489614cb552561706d", func := "moat/moatlaw12.EntryLays", spec := "entryLays", inPlace := ["internal/bytealg.IndexByteString", "internal/bytealg.IndexString", "math.archFloor", "math.Float64bits", "math.Float64frombits", "math.archTrunc"], named := ["internal/bytealg.MaxLen"], apart := false }
def EntryLaysSaid : Prop := entryLaysRow.holds Try.pinned (OpenSpec.ofChange entryLaysSpec)

/-- ITS FALSE NEIGHBOUR: 'it returns false'. Refute it at one input. -/
def entryLaysWrong : ChangeSpec := { name := "entryLays", fn := fun _ => fun
  | [d1, d2] => { results := [.lit (.bool false)], args := [d1, d2] }
  | _ => none }
def EntryLaysWrongFalsely : Prop := entryLaysRow.holds Try.pinned (OpenSpec.ofChange entryLaysWrong)

/-- 'moatlaw12.EntryAdds': WHATEVER THE INPUT: true; the input reads as it did. -/
def entryAddsSpec : ChangeSpec := { name := "entryAdds", fn := fun _ => fun
  | [d1, d2, d3] => { results := [.lit (.bool true)], args := [d1, d2, d3] }
  | _ => none }
def entryAddsRow : OpenClaim := { program := "ytinfjmdcmfpdiaa", sum := "c3e700073cfe8b885eeb75ed9b8f2300ce2921d8e7e671489614cb552561706d", func := "moat/moatlaw12.EntryAdds", spec := "entryAdds", inPlace := ["internal/bytealg.IndexByteString", "internal/bytealg.IndexString", "math.archFloor", "math.Float64bits", "math.Float64frombits", "math.archTrunc"], named := ["internal/bytealg.MaxLen"], apart := false }
def EntryAddsSaid : Prop := entryAddsRow.holds Try.pinned (OpenSpec.ofChange entryAddsSpec)

/-- ITS FALSE NEIGHBOUR: 'it returns false'. Refute it at one input. -/
def entryAddsWrong : ChangeSpec := { name := "entryAdds", fn := fun _ => fun
  | [d1, d2, d3] => { results := [.lit (.bool false)], args := [d1, d2, d3] }
  | _ => none }
def EntryAddsWrongFalsely : Prop := entryAddsRow.holds Try.pinned (OpenSpec.ofChange entryAddsWrong)

/-- 'moatlaw12.EntryBack': WHATEVER THE INPUT: true; the input reads as it did. -/
def entryBackSpec : ChangeSpec := { name := "entryBack", fn := fun _ => fun
  | [d1, d2] => { results := [.lit (.bool true)], args := [d1, d2] }
  | _ => none }
def entryBackRow : OpenClaim := { program := "ytinfjmdcmfpdiaa", sum := "c3e700073cfe8b885eeb75ed9b8f2300ce2921d8e7e671489614cb552561706d", func := "moat/moatlaw12.EntryBack", spec := "entryBack", inPlace := ["internal/bytealg.IndexByteString", "internal/bytealg.IndexString", "math.archFloor", "math.Float64bits", "math.Float64frombits", "math.archTrunc"], named := ["internal/bytealg.MaxLen"], apart := false }
def EntryBackSaid : Prop := entryBackRow.holds Try.pinned (OpenSpec.ofChange entryBackSpec)

/-- ITS FALSE NEIGHBOUR: 'it returns false'. Refute it at one input. -/
def entryBackWrong : ChangeSpec := { name := "entryBack", fn := fun _ => fun
  | [d1, d2] => { results := [.lit (.bool false)], args := [d1, d2] }
  | _ => none }
def EntryBackWrongFalsely : Prop := entryBackRow.holds Try.pinned (OpenSpec.ofChange entryBackWrong)

/-- 'moatlaw12.EntryFull': WHATEVER THE INPUT: true; the input reads as it did. -/
def entryFullSpec : ChangeSpec := { name := "entryFull", fn := fun _ => fun
  | [d] => { results := [.lit (.bool true)], args := [d] }
  | _ => none }
def entryFullRow : OpenClaim := { program := "ytinfjmdcmfpdiaa", sum := "c3e700073cfe8b885eeb75ed9b8f2300ce2921d8e7e671489614cb552561706d", func := "moat/moatlaw12.EntryFull", spec := "entryFull", inPlace := ["internal/bytealg.IndexByteString", "internal/bytealg.IndexString", "math.archFloor", "math.Float64bits", "math.Float64frombits", "math.archTrunc"], unfollowed := true, recurses := true, named := ["internal/bytealg.MaxLen"], apart := false }
def EntryFullSaid : Prop := entryFullRow.holds Try.pinned (OpenSpec.ofChange entryFullSpec)

/-- ITS FALSE NEIGHBOUR: 'it returns false'. Refute it at one input. -/
def entryFullWrong : ChangeSpec := { name := "entryFull", fn := fun _ => fun
  | [d] => { results := [.lit (.bool false)], args := [d] }
  | _ => none }
def EntryFullWrongFalsely : Prop := entryFullRow.holds Try.pinned (OpenSpec.ofChange entryFullWrong)

/-- 'moatlaw12.EntryOthers': WHATEVER THE INPUT: true; the input reads as it did. -/
def entryOthersSpec : ChangeSpec := { name := "entryOthers", fn := fun _ => fun
  | [d1, d2] => { results := [.lit (.bool true)], args := [d1, d2] }
  | _ => none }
def entryOthersRow : OpenClaim := { program := "ytinfjmdcmfpdiaa", sum := "c3e700073cfe8b885eeb75ed9b8f2300ce2921d8e7e671489614cb552561706d", func := "moat/moatlaw12.EntryOthers", spec := "entryOthers", inPlace := ["internal/bytealg.IndexByteString", "internal/bytealg.IndexString", "math.archFloor", "math.Float64bits", "math.Float64frombits", "math.archTrunc"], named := ["internal/bytealg.MaxLen"], apart := false }
def EntryOthersSaid : Prop := entryOthersRow.holds Try.pinned (OpenSpec.ofChange entryOthersSpec)

/-- ITS FALSE NEIGHBOUR: 'it returns false'. Refute it at one input. -/
def entryOthersWrong : ChangeSpec := { name := "entryOthers", fn := fun _ => fun
  | [d1, d2] => { results := [.lit (.bool false)], args := [d1, d2] }
  | _ => none }
def EntryOthersWrongFalsely : Prop := entryOthersRow.holds Try.pinned (OpenSpec.ofChange entryOthersWrong)

/-- 'moatlaw12.EntryAlls': WHATEVER THE INPUT: true; the input reads as it did. -/
def entryAllsSpec : ChangeSpec := { name := "entryAlls", fn := fun _ => fun
  | [d1, d2] => { results := [.lit (.bool true)], args := [d1, d2] }
  | _ => none }
def entryAllsRow : OpenClaim := { program := "ytinfjmdcmfpdiaa", sum := "c3e700073cfe8b885eeb75ed9b8f2300ce2921d8e7e671489614cb552561706d", func := "moat/moatlaw12.EntryAlls", spec := "entryAlls", inPlace := ["internal/bytealg.IndexByteString", "internal/bytealg.IndexString", "math.archFloor", "math.Float64bits", "math.Float64frombits", "math.archTrunc"], named := ["internal/bytealg.MaxLen"], apart := false }
def EntryAllsSaid : Prop := entryAllsRow.holds Try.pinned (OpenSpec.ofChange entryAllsSpec)

/-- ITS FALSE NEIGHBOUR: 'it returns false'. Refute it at one input. -/
def entryAllsWrong : ChangeSpec := { name := "entryAlls", fn := fun _ => fun
  | [d1, d2] => { results := [.lit (.bool false)], args := [d1, d2] }
  | _ => none }
def EntryAllsWrongFalsely : Prop := entryAllsRow.holds Try.pinned (OpenSpec.ofChange entryAllsWrong)

/-- 'moatlaw12.EntrySet': WHATEVER THE INPUT: true; the input reads as it did. -/
def entrySetSpec : ChangeSpec := { name := "entrySet", fn := fun _ => fun
  | [d] => { results := [.lit (.bool true)], args := [d] }
  | _ => none }
def entrySetRow : OpenClaim := { program := "ytinfjmdcmfpdiaa", sum := "c3e700073cfe8b885eeb75ed9b8f2300ce2921d8e7e671489614cb552561706d", func := "moat/moatlaw12.EntrySet", spec := "entrySet", inPlace := ["internal/bytealg.IndexByteString", "internal/bytealg.IndexString", "math.archFloor", "math.Float64bits", "math.Float64frombits", "math.archTrunc"], named := ["internal/bytealg.MaxLen"], apart := false }
def EntrySetSaid : Prop := entrySetRow.holds Try.pinned (OpenSpec.ofChange entrySetSpec)

/-- ITS FALSE NEIGHBOUR: 'it returns false'. Refute it at one input. -/
def entrySetWrong : ChangeSpec := { name := "entrySet", fn := fun _ => fun
  | [d] => { results := [.lit (.bool false)], args := [d] }
  | _ => none }
def EntrySetWrongFalsely : Prop := entrySetRow.holds Try.pinned (OpenSpec.ofChange entrySetWrong)

/- THE SECOND FORM. 'bulk': how many values and letters a reading holds, each counted each time it is reached (what is shared counts as often as it is met; a slice's spare places count too). A statement '..UptoSaid' is the law's where the arguments, and the package variables that the reading takes, are together of bulk at most 1048576: NARROWER than '..Said'. Prove '..Said' where nothing that the law and all that it calls make is longer than what came in: it says more and counts as full. Else prove '..UptoSaid'. A law counts once. -/
mutual
def uptoBulk {H : Type} : DataW H → Nat
  | .lit (.string bytes) => bytes.length + 1
  | .lit _ => 1
  | .nil => 1
  | .ptr d => uptoBulk d + 1
  | .slice elems spare => uptoBulkAll elems + uptoBulkAll spare + 1
  | .agg parts => uptoBulkAll parts + 1
  | .iface _ d => uptoBulk d + 1
  | .map entries => uptoBulkEntries entries + 1
  | .held _ => 1
def uptoBulkAll {H : Type} : List (DataW H) → Nat
  | [] => 0
  | d :: r => uptoBulk d + uptoBulkAll r
def uptoBulkEntries {H : Type} : List (Lit × DataW H) → Nat
  | [] => 0
  | x :: r => uptoBulkEntry x + uptoBulkEntries r
def uptoBulkEntry {H : Type} : Lit × DataW H → Nat
  | (.string bytes, d) => bytes.length + uptoBulk d + 1
  | (_, d) => uptoBulk d + 1
 end
def uptoSmall : (H : Type) → List (DataW H) → Bool := fun _ ds => decide (uptoBulkAll ds ≤ 1048576)
def OpenSpec.upto (s : _root_.Go.ChangeSpec) : _root_.Go.OpenSpec := { _root_.Go.OpenSpec.ofChange s with cond := some uptoSmall }

/-- 'moatlaw12.EntryLays', WHERE WHAT IT READS IS OF BULK AT MOST 1048576: true; the input reads as it did. -/
def entryLaysUptoRow : OpenClaim := { program := "ytinfjmdcmfpdiaa", sum := "c3e700073cfe8b885eeb75ed9b8f2300ce2921d8e7e671489614cb552561706d", func := "moat/moatlaw12.EntryLays", spec := "entryLays", inPlace := ["internal/bytealg.IndexByteString", "internal/bytealg.IndexString", "math.archFloor", "math.Float64bits", "math.Float64frombits", "math.archTrunc"], named := ["internal/bytealg.MaxLen"], apart := false, narrowed := true }
def EntryLaysUptoSaid : Prop := entryLaysUptoRow.holds Try.pinned (OpenSpec.upto entryLaysSpec)

/-- 'moatlaw12.EntryAdds', WHERE WHAT IT READS IS OF BULK AT MOST 1048576: true; the input reads as it did. -/
def entryAddsUptoRow : OpenClaim := { program := "ytinfjmdcmfpdiaa", sum := "c3e700073cfe8b885eeb75ed9b8f2300ce2921d8e7e671489614cb552561706d", func := "moat/moatlaw12.EntryAdds", spec := "entryAdds", inPlace := ["internal/bytealg.IndexByteString", "internal/bytealg.IndexString", "math.archFloor", "math.Float64bits", "math.Float64frombits", "math.archTrunc"], named := ["internal/bytealg.MaxLen"], apart := false, narrowed := true }
def EntryAddsUptoSaid : Prop := entryAddsUptoRow.holds Try.pinned (OpenSpec.upto entryAddsSpec)

/-- 'moatlaw12.EntryBack', WHERE WHAT IT READS IS OF BULK AT MOST 1048576: true; the input reads as it did. -/
def entryBackUptoRow : OpenClaim := { program := "ytinfjmdcmfpdiaa", sum := "c3e700073cfe8b885eeb75ed9b8f2300ce2921d8e7e671489614cb552561706d", func := "moat/moatlaw12.EntryBack", spec := "entryBack", inPlace := ["internal/bytealg.IndexByteString", "internal/bytealg.IndexString", "math.archFloor", "math.Float64bits", "math.Float64frombits", "math.archTrunc"], named := ["internal/bytealg.MaxLen"], apart := false, narrowed := true }
def EntryBackUptoSaid : Prop := entryBackUptoRow.holds Try.pinned (OpenSpec.upto entryBackSpec)

/-- 'moatlaw12.EntryFull', WHERE WHAT IT READS IS OF BULK AT MOST 1048576: true; the input reads as it did. -/
def entryFullUptoRow : OpenClaim := { program := "ytinfjmdcmfpdiaa", sum := "c3e700073cfe8b885eeb75ed9b8f2300ce2921d8e7e671489614cb552561706d", func := "moat/moatlaw12.EntryFull", spec := "entryFull", inPlace := ["internal/bytealg.IndexByteString", "internal/bytealg.IndexString", "math.archFloor", "math.Float64bits", "math.Float64frombits", "math.archTrunc"], unfollowed := true, recurses := true, named := ["internal/bytealg.MaxLen"], apart := false, narrowed := true }
def EntryFullUptoSaid : Prop := entryFullUptoRow.holds Try.pinned (OpenSpec.upto entryFullSpec)

/-- 'moatlaw12.EntryOthers', WHERE WHAT IT READS IS OF BULK AT MOST 1048576: true; the input reads as it did. -/
def entryOthersUptoRow : OpenClaim := { program := "ytinfjmdcmfpdiaa", sum := "c3e700073cfe8b885eeb75ed9b8f2300ce2921d8e7e671489614cb552561706d", func := "moat/moatlaw12.EntryOthers", spec := "entryOthers", inPlace := ["internal/bytealg.IndexByteString", "internal/bytealg.IndexString", "math.archFloor", "math.Float64bits", "math.Float64frombits", "math.archTrunc"], named := ["internal/bytealg.MaxLen"], apart := false, narrowed := true }
def EntryOthersUptoSaid : Prop := entryOthersUptoRow.holds Try.pinned (OpenSpec.upto entryOthersSpec)

/-- 'moatlaw12.EntryAlls', WHERE WHAT IT READS IS OF BULK AT MOST 1048576: true; the input reads as it did. -/
def entryAllsUptoRow : OpenClaim := { program := "ytinfjmdcmfpdiaa", sum := "c3e700073cfe8b885eeb75ed9b8f2300ce2921d8e7e671489614cb552561706d", func := "moat/moatlaw12.EntryAlls", spec := "entryAlls", inPlace := ["internal/bytealg.IndexByteString", "internal/bytealg.IndexString", "math.archFloor", "math.Float64bits", "math.Float64frombits", "math.archTrunc"], named := ["internal/bytealg.MaxLen"], apart := false, narrowed := true }
def EntryAllsUptoSaid : Prop := entryAllsUptoRow.holds Try.pinned (OpenSpec.upto entryAllsSpec)

/-- 'moatlaw12.EntrySet', WHERE WHAT IT READS IS OF BULK AT MOST 1048576: true; the input reads as it did. -/
def entrySetUptoRow : OpenClaim := { program := "ytinfjmdcmfpdiaa", sum := "c3e700073cfe8b885eeb75ed9b8f2300ce2921d8e7e671489614cb552561706d", func := "moat/moatlaw12.EntrySet", spec := "entrySet", inPlace := ["internal/bytealg.IndexByteString", "internal/bytealg.IndexString", "math.archFloor", "math.Float64bits", "math.Float64frombits", "math.archTrunc"], named := ["internal/bytealg.MaxLen"], apart := false, narrowed := true }
def EntrySetUptoSaid : Prop := entrySetUptoRow.holds Try.pinned (OpenSpec.upto entrySetSpec)

end Rows
end Go.Proofs.Ytinfjmdcmfpdiaa
