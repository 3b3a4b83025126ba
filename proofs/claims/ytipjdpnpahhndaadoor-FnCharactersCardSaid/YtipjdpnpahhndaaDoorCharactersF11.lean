/- The texts of functions, printed by a program, and the equations of their runs. -/
import Derived.Test.YtipjdpnpahhndaaDoorCharactersF1
import Derived.Test.YtipjdpnpahhndaaDoorCharactersF2
import Derived.Test.YtipjdpnpahhndaaDoorCharactersF3
import Derived.Test.YtipjdpnpahhndaaDoorCharactersF4
import Derived.Test.YtipjdpnpahhndaaDoorCharactersF5
import Derived.Test.YtipjdpnpahhndaaDoorCharactersF6
import Derived.Test.YtipjdpnpahhndaaDoorCharactersF7
import Derived.Test.YtipjdpnpahhndaaDoorCharactersF8
import Derived.Test.YtipjdpnpahhndaaDoorCharactersF9
import Derived.Test.YtipjdpnpahhndaaDoorCharactersF10
import Derived.KernelRfl
namespace Go.Kb
def impl_copyInts.x : XFunc := { nslots := 5, nobj := 1, pars := [.val false 1], rowsIn := [none], rets := [.tmp 2 false 1], outs := [.own 2], fresh := true, arg := .list (.int .i64), ret := .list (.int .i64), body := .seq (.region false [op 2 .move [.const (.one (.nil))]]) (.seq (.region false [mv 3 0, ow 4 (.append false 0 2 (.int .i64)) [.const (.one (.nil)), .slot 3] [0] [0], mv 2 4]) (.ret)) }
def impl_copyInts.env (_ : Nat) : Env := envOf (tbl [] noFS)
def impl_copyInts.F (N : Nat) (x : List Int) : Option (List Int) := XFunc.run impl_copyInts.x (impl_copyInts.env N) N x
def impl_copyInts.fs (N : Nat) : FS := { arg := .list (.int .i64), ret := .list (.int .i64), fresh := true, F := impl_copyInts.F N }

theorem impl_copyInts.F_eq (N : Nat) (l_ : List Int) : impl_copyInts.F N l_ =
    bif decide (List.length l_ ≤ maxN) then
    some l_
    else none := by kernel_rfl

end Go.Kb
