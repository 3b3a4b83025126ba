/- The texts of functions, printed by a program, and the equations of their runs. -/
import Derived.Test.YtokploahoidhoabKa
import Derived.KernelRfl
namespace Go.Kb
def spec_l1In.x : XFunc := { nslots := 15, nobj := 0, pars := [.val false 1, .val false 1, .val false 1], rowsIn := [none, none, none], rets := [.tmp 6 false 1], outs := [.imm], fresh := true, arg := .pair (.int .i64) (.pair (.int .i64) (.int .i64)), ret := .bool, body := .seq (.region false [op 6 .move [.const (.one (.bool false))]]) (.seq (.region false [mv 7 0, mv 8 1, o2 9 (.bin .geq) 7 8, ⟨some 10, .move, [.slot 9], [], [], none, true, .none⟩, ⟨some 11, .move, [.slot 0], [], [], some (10, true), false, .none⟩, ⟨some 12, .move, [.slot 2], [], [], some (10, true), false, .none⟩, ⟨some 13, .bin .leq, [.slot 11, .slot 12], [], [], some (10, true), false, .none⟩, op 14 .pick [.slot 10, .slot 13, .const (.one (.bool false))], mv 6 14]) (.ret)) }
def spec_l1In.env (_ : Nat) : Env := envOf (tbl [] noFS)
def spec_l1In.F (N : Nat) (x : Int × Int × Int) : Option Bool := XFunc.run spec_l1In.x (spec_l1In.env N) N x
def spec_l1In.fs (N : Nat) : FS := { arg := .pair (.int .i64) (.pair (.int .i64) (.int .i64)), ret := .bool, fresh := true, F := spec_l1In.F N }

theorem spec_l1In.F_eq (N : Nat) (x_ : Int) (low : Int) (high : Int) : spec_l1In.F N (x_, low, high) =
    bif decide (x_ ≥ low) then
      some (decide (x_ ≤ high))
    else
      some false := by kernel_rfl

def spec_CheckOf.x : XFunc := { nslots := 30, nobj := 0, pars := [.val false 1, .val false 1, .val false 1], rowsIn := [none, none, none], rets := [.tmp 6 false 1], outs := [.imm], fresh := true, arg := .pair (.int .i64) (.pair (.int .i64) (.int .i64)), ret := .int .i64, body := .seq (.region false [op 6 .move [.const (.one (.int .i64 (0 : Int)))]]) (.seq (.seq (.region false [mv 7 0, op 8 (.call ⟨1, vs 3, no 3, [.val false 1], ims 1, true⟩) [.slot 7, .const (.one (.int .i64 (0 : Int))), .const (.one (.int .i64 (3 : Int)))], o1 9 .not 8, ⟨some 10, .move, [.slot 9], [], [], none, true, .none⟩, ⟨some 11, .move, [.slot 1], [], [], some (10, false), false, .none⟩, ⟨some 12, .call ⟨1, vs 3, no 3, [.val false 1], ims 1, true⟩, [.slot 11, .const (.one (.int .i64 (0 : Int))), .const (.one (.int .i64 (9999 : Int)))], [], [], some (10, false), false, .none⟩, ⟨some 13, .not, [.slot 12], [], [], some (10, false), false, .none⟩, op 14 .pick [.slot 10, .const (.one (.bool true)), .slot 13], ⟨some 15, .move, [.slot 14], [], [], none, true, .none⟩, ⟨some 16, .move, [.slot 2], [], [], some (15, false), false, .none⟩, ⟨some 17, .call ⟨1, vs 3, no 3, [.val false 1], ims 1, true⟩, [.slot 16, .const (.one (.int .i64 (1 : Int))), .const (.one (.int .i64 (60000 : Int)))], [], [], some (15, false), false, .none⟩, ⟨some 18, .not, [.slot 17], [], [], some (15, false), false, .none⟩, op 19 .pick [.slot 15, .const (.one (.bool true)), .slot 18]]) (.cond (.slot 19) (.seq (.region false [op 6 .move [.const (.one (.int .i64 (65535 : Int)))]]) (.ret)) (.skip))) (.seq (.region false [mv 20 0, op 21 (.bin .mul) [.const (.one (.int .i64 (7 : Int))), .slot 20], mv 22 1, op 23 (.bin .mul) [.const (.one (.int .i64 (13 : Int))), .slot 22], o2 24 (.bin .add) 21 23, mv 25 2, op 26 (.bin .mul) [.const (.one (.int .i64 (31 : Int))), .slot 25], o2 27 (.bin .add) 24 26, op 28 (.bin .add) [.slot 27, .const (.one (.int .i64 (5 : Int)))], op 29 (.bin .rem) [.slot 28, .const (.one (.int .i64 (60000 : Int)))], mv 6 29]) (.ret))) }
def spec_CheckOf.env (N : Nat) : Env := envOf (tbl [(1, spec_l1In.fs N)] noFS)
def spec_CheckOf.F (N : Nat) (x : Int × Int × Int) : Option Int := XFunc.run spec_CheckOf.x (spec_CheckOf.env N) N x
def spec_CheckOf.fs (N : Nat) : FS := { arg := .pair (.int .i64) (.pair (.int .i64) (.int .i64)), ret := .int .i64, fresh := true, F := spec_CheckOf.F N }

theorem spec_CheckOf.F_eq (N : Nat) (setting : Int) (value : Int) (header : Int) : spec_CheckOf.F N (setting, value, header) =
    bindO (spec_l1In.F N (setting, ((0 : Int), (3 : Int)))) fun r1 =>
    bif !r1 then
      some (65535 : Int)
    else
      bindO (spec_l1In.F N (value, ((0 : Int), (9999 : Int)))) fun r2 =>
      bif !r2 then
        some (65535 : Int)
      else
        bindO (spec_l1In.F N (header, ((1 : Int), (60000 : Int)))) fun r3 =>
        bif !r3 then
          some (65535 : Int)
        else
          some (Int.tmod (IntKind.wrap .i64 ((IntKind.wrap .i64 ((IntKind.wrap .i64 ((IntKind.wrap .i64 ((7 : Int) * setting)) + (IntKind.wrap .i64 ((13 : Int) * value)))) + (IntKind.wrap .i64 ((31 : Int) * header)))) + (5 : Int))) (60000 : Int)) := by kernel_rfl

def impl_isSetting.x : XFunc := { nslots := 19, nobj := 0, pars := [.val false 1, .val false 1], rowsIn := [none, none], rets := [.tmp 4 false 1], outs := [.imm], fresh := true, arg := .pair (.int .i64) (.int .i64), ret := .bool, body := .seq (.region false [op 4 .move [.const (.one (.bool false))]]) (.seq (.region false [mv 5 0, op 6 (.bin .geq) [.slot 5, .const (.one (.int .i64 (0 : Int)))], ⟨some 7, .move, [.slot 6], [], [], none, true, .none⟩, ⟨some 8, .move, [.slot 0], [], [], some (7, true), false, .none⟩, ⟨some 9, .bin .lss, [.slot 8, .const (.one (.int .i64 (4 : Int)))], [], [], some (7, true), false, .none⟩, op 10 .pick [.slot 7, .slot 9, .const (.one (.bool false))], ⟨some 11, .move, [.slot 10], [], [], none, true, .none⟩, ⟨some 12, .move, [.slot 1], [], [], some (11, true), false, .none⟩, ⟨some 13, .bin .geq, [.slot 12, .const (.one (.int .i64 (0 : Int)))], [], [], some (11, true), false, .none⟩, op 14 .pick [.slot 11, .slot 13, .const (.one (.bool false))], ⟨some 15, .move, [.slot 14], [], [], none, true, .none⟩, ⟨some 16, .move, [.slot 1], [], [], some (15, true), false, .none⟩, ⟨some 17, .bin .leq, [.slot 16, .const (.one (.int .i64 (9999 : Int)))], [], [], some (15, true), false, .none⟩, op 18 .pick [.slot 15, .slot 17, .const (.one (.bool false))], mv 4 18]) (.ret)) }
def impl_isSetting.env (_ : Nat) : Env := envOf (tbl [] noFS)
def impl_isSetting.F (N : Nat) (x : Int × Int) : Option Bool := XFunc.run impl_isSetting.x (impl_isSetting.env N) N x
def impl_isSetting.fs (N : Nat) : FS := { arg := .pair (.int .i64) (.int .i64), ret := .bool, fresh := true, F := impl_isSetting.F N }

theorem impl_isSetting.F_eq (N : Nat) (setting : Int) (value : Int) : impl_isSetting.F N (setting, value) =
    bif decide (setting ≥ (0 : Int)) then
      bif decide (setting < (4 : Int)) then
        bif decide (value ≥ (0 : Int)) then
          some (decide (value ≤ (9999 : Int)))
        else
          some false
      else
        some false
    else
      some false := by kernel_rfl

def impl_CheckOf.x : XFunc := { nslots := 29, nobj := 0, pars := [.val false 1, .val false 1, .val false 1], rowsIn := [none, none, none], rets := [.tmp 6 false 1], outs := [.imm], fresh := true, arg := .pair (.int .i64) (.pair (.int .i64) (.int .i64)), ret := .int .i64, body := .seq (.region false [op 6 .move [.const (.one (.int .i64 (0 : Int)))]]) (.seq (.seq (.region false [mv 7 0, mv 8 1, o2 9 (.call ⟨3, vs 2, no 2, [.val false 1], ims 1, true⟩) 7 8, o1 10 .not 9, ⟨some 11, .move, [.slot 10], [], [], none, true, .none⟩, ⟨some 12, .move, [.slot 2], [], [], some (11, false), false, .none⟩, ⟨some 13, .bin .lss, [.slot 12, .const (.one (.int .i64 (1 : Int)))], [], [], some (11, false), false, .none⟩, op 14 .pick [.slot 11, .const (.one (.bool true)), .slot 13], ⟨some 15, .move, [.slot 14], [], [], none, true, .none⟩, ⟨some 16, .move, [.slot 2], [], [], some (15, false), false, .none⟩, ⟨some 17, .bin .gtr, [.slot 16, .const (.one (.int .i64 (60000 : Int)))], [], [], some (15, false), false, .none⟩, op 18 .pick [.slot 15, .const (.one (.bool true)), .slot 17]]) (.cond (.slot 18) (.seq (.region false [op 6 .move [.const (.one (.int .i64 (65535 : Int)))]]) (.ret)) (.skip))) (.seq (.region false [mv 19 0, op 20 (.bin .mul) [.const (.one (.int .i64 (7 : Int))), .slot 19], mv 21 1, op 22 (.bin .mul) [.const (.one (.int .i64 (13 : Int))), .slot 21], o2 23 (.bin .add) 20 22, mv 24 2, op 25 (.bin .mul) [.const (.one (.int .i64 (31 : Int))), .slot 24], o2 26 (.bin .add) 23 25, op 27 (.bin .add) [.slot 26, .const (.one (.int .i64 (5 : Int)))], op 28 (.bin .rem) [.slot 27, .const (.one (.int .i64 (60000 : Int)))], mv 6 28]) (.ret))) }
def impl_CheckOf.env (N : Nat) : Env := envOf (tbl [(3, impl_isSetting.fs N)] noFS)
def impl_CheckOf.F (N : Nat) (x : Int × Int × Int) : Option Int := XFunc.run impl_CheckOf.x (impl_CheckOf.env N) N x
def impl_CheckOf.fs (N : Nat) : FS := { arg := .pair (.int .i64) (.pair (.int .i64) (.int .i64)), ret := .int .i64, fresh := true, F := impl_CheckOf.F N }

theorem impl_CheckOf.F_eq (N : Nat) (setting : Int) (value : Int) (header : Int) : impl_CheckOf.F N (setting, value, header) =
    bindO (impl_isSetting.F N (setting, value)) fun r1 =>
    bif !r1 then
      some (65535 : Int)
    else
      bif decide (header < (1 : Int)) then
        some (65535 : Int)
      else
        bif decide (header > (60000 : Int)) then
          some (65535 : Int)
        else
          some (Int.tmod (IntKind.wrap .i64 ((IntKind.wrap .i64 ((IntKind.wrap .i64 ((IntKind.wrap .i64 ((7 : Int) * setting)) + (IntKind.wrap .i64 ((13 : Int) * value)))) + (IntKind.wrap .i64 ((31 : Int) * header)))) + (5 : Int))) (60000 : Int)) := by kernel_rfl

end Go.Kb
