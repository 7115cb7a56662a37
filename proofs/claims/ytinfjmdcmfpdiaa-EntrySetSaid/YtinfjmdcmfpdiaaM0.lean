/- Two steps that the walks use: a look at which operation stands next. -/
import Derived.Test.YtinfjmdcmfpdiaaWWords
import Derived.Test.YtinfjmdcmfpdiaaWLast
namespace Go.Proofs.YtinfjmdcmfpdiaaW.PrintWords
open Go.RowKit
theorem gate_callee {P : Program} {ops : Array Oper} {rest : List Oper} {o : Oper} {a : Act} {Q : Exit → Act → World → Prop} {W : World} {f : FuncId} {as : Array Operand} {ts : Array TypeId} (_ho : o.op = .call { callee := .value (.func f), args := as, argTypes := ts }) (h : wpList P ops Q (o :: rest) a W) : wpList P ops Q (o :: rest) a W := h
theorem gate_builtin {P : Program} {ops : Array Oper} {rest : List Oper} {o : Oper} {a : Act} {Q : Exit → Act → World → Prop} {W : World} {b : Builtin} {xs : Array Operand} {ts : Array TypeId} (_ho : o.op = .call { callee := .builtin b, args := xs, argTypes := ts }) (h : wpList P ops Q (o :: rest) a W) : wpList P ops Q (o :: rest) a W := h
end Go.Proofs.YtinfjmdcmfpdiaaW.PrintWords
namespace Go.Proofs.YtinfjmdcmfpdiaaW.PrintMore
end Go.Proofs.YtinfjmdcmfpdiaaW.PrintMore
