/- The texts of functions, printed by a program, and the equations of their runs. -/
import Derived.Test.YticidpdbkjgebaaDoorKa
import Derived.KernelRfl
namespace Go.Kb
def spec_l1In.x : XFunc := { nslots := 15, nobj := 0, pars := [.val false 1, .val false 1, .val false 1], rowsIn := [none, none, none], rets := [.tmp 6 false 1], outs := [.imm], fresh := true, arg := .pair (.int .i64) (.pair (.int .i64) (.int .i64)), ret := .bool, body := .seq (.region false [op 6 .move [.const (.one (.bool false))]]) (.seq (.region false [mv 7 0, mv 8 1, o2 9 (.bin .geq) 7 8, ⟨some 10, .move, [.slot 9], [], [], none, true, .none⟩, ⟨some 11, .move, [.slot 0], [], [], some (10, true), false, .none⟩, ⟨some 12, .move, [.slot 2], [], [], some (10, true), false, .none⟩, ⟨some 13, .bin .leq, [.slot 11, .slot 12], [], [], some (10, true), false, .none⟩, op 14 .pick [.slot 10, .slot 13, .const (.one (.bool false))], mv 6 14]) (.ret)) }
def spec_l1In.env (_ : Nat) : Env := envOf (tbl [] noFS)
def spec_l1In.F (N : Nat) (x : Int × Int × Int) : Option Bool := XFunc.run spec_l1In.x (spec_l1In.env N) N x
def spec_l1In.fs (N : Nat) : FS := { arg := .pair (.int .i64) (.pair (.int .i64) (.int .i64)), ret := .bool, fresh := true, F := spec_l1In.F N }

theorem spec_l1In.F_eq (N : Nat) (x_ : Int) (low : Int) (high : Int) : spec_l1In.F N (x_, low, high) =
    bif decide (x_ ≥ low) then
      some (decide (x_ ≤ high))
    else
      some false := by kernel_rfl

end Go.Kb
