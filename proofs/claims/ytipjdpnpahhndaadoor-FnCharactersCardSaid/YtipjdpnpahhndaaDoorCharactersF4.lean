/- The texts of functions, printed by a program, and the equations of their runs. -/
import Derived.Test.YtipjdpnpahhndaaDoorCharactersF1
import Derived.Test.YtipjdpnpahhndaaDoorCharactersF2
import Derived.Test.YtipjdpnpahhndaaDoorCharactersF3
import Derived.KernelRfl
namespace Go.Kb
def impl_bit.x : XFunc := { nslots := 9, nobj := 0, pars := [.val false 1, .val false 1], rowsIn := [none, none], rets := [.tmp 4 false 1], outs := [.imm], fresh := true, arg := .pair (.int .i64) (.int .i64), ret := .int .i64, body := .seq (.region false [op 4 .move [.const (.one (.int .i64 (0 : Int)))]]) (.seq (.region false [mv 5 0, mv 6 1, o2 7 (.bin .shr) 5 6, op 8 (.bin .and) [.slot 7, .const (.one (.int .i64 (1 : Int)))], mv 4 8]) (.ret)) }
def impl_bit.env (_ : Nat) : Env := envOf (tbl [] noFS)
def impl_bit.F (N : Nat) (x : Int × Int) : Option Int := XFunc.run impl_bit.x (impl_bit.env N) N x
def impl_bit.fs (N : Nat) : FS := { arg := .pair (.int .i64) (.int .i64), ret := .int .i64, fresh := true, F := impl_bit.F N }

end Go.Kb
