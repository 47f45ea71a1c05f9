/- The law's proof, part 7: the text Wl of this session, or words printed for this seat; what the theorem doesn't use is left out. No conditions. -/
import Derived.Test.YtllepjhimkogjaaFSTe1
import Derived.Test.YtllepjhimkogjaaFSTe2
import Derived.Test.YtllepjhimkogjaaFSTe3
import Derived.Test.YtllepjhimkogjaaFSTe4
import Derived.Test.YtllepjhimkogjaaFSTe5
import Derived.Test.YtllepjhimkogjaaFSTe6
namespace Go.Proofs.YtllepjhimkogjaaW.PrintWords
open Go.RowKit
section
variable {P : Program} {ops : Array Oper} {rest : List Oper} {o : Oper} {a : Act} {Q : Exit → Act → World → Prop} {W : World}
theorem gate_callee {f : FuncId} {as : Array Operand} {ts : Array TypeId} (_ho : o.op = .call { callee := .value (.func f), args := as, argTypes := ts }) (h : wpList P ops Q (o :: rest) a W) : wpList P ops Q (o :: rest) a W := h
theorem gate_builtin {b : Builtin} {xs : Array Operand} {ts : Array TypeId} (_ho : o.op = .call { callee := .builtin b, args := xs, argTypes := ts }) (h : wpList P ops Q (o :: rest) a W) : wpList P ops Q (o :: rest) a W := h
end
end Go.Proofs.YtllepjhimkogjaaW.PrintWords
