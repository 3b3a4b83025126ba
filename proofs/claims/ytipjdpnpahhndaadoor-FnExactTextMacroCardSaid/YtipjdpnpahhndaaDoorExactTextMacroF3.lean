/- The texts of functions, printed by a program, and the equations of their runs. -/
import Derived.Test.YtipjdpnpahhndaaDoorExactTextMacroF1
import Derived.Test.YtipjdpnpahhndaaDoorExactTextMacroF2
import Derived.KernelRfl
namespace Go.Kb
def impl_isCode.x : XFunc := { nslots := 9, nobj := 0, pars := [.val false 1], rowsIn := [none], rets := [.tmp 2 false 1], outs := [.imm], fresh := true, arg := .int .i64, ret := .bool, body := .seq (.region false [op 2 .move [.const (.one (.bool false))]]) (.seq (.region false [mv 3 0, op 4 (.bin .geq) [.slot 3, .const (.one (.int .i64 (1 : Int)))], ⟨some 5, .move, [.slot 4], [], [], none, true⟩, ⟨some 6, .move, [.slot 0], [], [], some (5, true), false⟩, ⟨some 7, .bin .leq, [.slot 6, .const (.one (.int .i64 (56 : Int)))], [], [], some (5, true), false⟩, op 8 .pick [.slot 5, .slot 7, .const (.one (.bool false))], mv 2 8]) (.ret)) }
def impl_isCode.env (_ : Nat) : Env := envOf (tbl [] noFS)
def impl_isCode.F (N : Nat) (x : Int) : Option Bool := XFunc.run impl_isCode.x (impl_isCode.env N) N x
def impl_isCode.fs (N : Nat) : FS := { arg := .int .i64, ret := .bool, fresh := true, F := impl_isCode.F N }

theorem impl_isCode.F_eq (N : Nat) (n_ : Int) : impl_isCode.F N n_ =
    bif decide (n_ ≥ (1 : Int)) then
      some (decide (n_ ≤ (56 : Int)))
    else
      some false := by kernel_rfl

end Go.Kb
