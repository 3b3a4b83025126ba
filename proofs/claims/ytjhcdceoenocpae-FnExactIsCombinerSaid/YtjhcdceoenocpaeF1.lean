/- The texts of functions, printed by a program, and the equations of their runs. -/
import Derived.Test.YtjhcdceoenocpaeKa
import Derived.KernelRfl
namespace Go.Kb
def spec_l1In.x : XFunc := { nslots := 15, nobj := 0, pars := [.val false 1, .val false 1, .val false 1], rowsIn := [none, none, none], rets := [.tmp 6 false 1], outs := [.imm], fresh := true, arg := .pair (.int .i64) (.pair (.int .i64) (.int .i64)), ret := .bool, body := .seq (.region false [op 6 .move [.const (.one (.bool false))]]) (.seq (.region false [mv 7 0, mv 8 1, o2 9 (.bin .geq) 7 8, ⟨some 10, .move, [.slot 9], [], [], none, true⟩, ⟨some 11, .move, [.slot 0], [], [], some (10, true), false⟩, ⟨some 12, .move, [.slot 2], [], [], some (10, true), false⟩, ⟨some 13, .bin .leq, [.slot 11, .slot 12], [], [], some (10, true), false⟩, op 14 .pick [.slot 10, .slot 13, .const (.one (.bool false))], mv 6 14]) (.ret)) }
def spec_l1In.env (_ : Nat) : Env := envOf (tbl [] noFS)
def spec_l1In.F (N : Nat) (x : Int × Int × Int) : Option Bool := XFunc.run spec_l1In.x (spec_l1In.env N) N x
def spec_l1In.fs (N : Nat) : FS := { arg := .pair (.int .i64) (.pair (.int .i64) (.int .i64)), ret := .bool, fresh := true, F := spec_l1In.F N }

theorem spec_l1In.F_eq (N : Nat) (x_ : Int) (low : Int) (high : Int) : spec_l1In.F N (x_, low, high) =
    bif decide (x_ ≥ low) then
      some (decide (x_ ≤ high))
    else
      some false := by kernel_rfl

def spec_CheckOf.x : XFunc := { nslots := 30, nobj := 0, pars := [.val false 1, .val false 1, .val false 1], rowsIn := [none, none, none], rets := [.tmp 6 false 1], outs := [.imm], fresh := true, arg := .pair (.int .i64) (.pair (.int .i64) (.int .i64)), ret := .int .i64, body := .seq (.region false [op 6 .move [.const (.one (.int .i64 (0 : Int)))]]) (.seq (.seq (.region false [mv 7 0, op 8 (.call ⟨1, vs 3, no 3, [.val false 1], ims 1, true⟩) [.slot 7, .const (.one (.int .i64 (0 : Int))), .const (.one (.int .i64 (3 : Int)))], o1 9 .not 8, ⟨some 10, .move, [.slot 9], [], [], none, true⟩, ⟨some 11, .move, [.slot 1], [], [], some (10, false), false⟩, ⟨some 12, .call ⟨1, vs 3, no 3, [.val false 1], ims 1, true⟩, [.slot 11, .const (.one (.int .i64 (0 : Int))), .const (.one (.int .i64 (9999 : Int)))], [], [], some (10, false), false⟩, ⟨some 13, .not, [.slot 12], [], [], some (10, false), false⟩, op 14 .pick [.slot 10, .const (.one (.bool true)), .slot 13], ⟨some 15, .move, [.slot 14], [], [], none, true⟩, ⟨some 16, .move, [.slot 2], [], [], some (15, false), false⟩, ⟨some 17, .call ⟨1, vs 3, no 3, [.val false 1], ims 1, true⟩, [.slot 16, .const (.one (.int .i64 (1 : Int))), .const (.one (.int .i64 (60000 : Int)))], [], [], some (15, false), false⟩, ⟨some 18, .not, [.slot 17], [], [], some (15, false), false⟩, op 19 .pick [.slot 15, .const (.one (.bool true)), .slot 18]]) (.cond (.slot 19) (.seq (.region false [op 6 .move [.const (.one (.int .i64 (65535 : Int)))]]) (.ret)) (.skip))) (.seq (.region false [mv 20 0, op 21 (.bin .mul) [.const (.one (.int .i64 (7 : Int))), .slot 20], mv 22 1, op 23 (.bin .mul) [.const (.one (.int .i64 (13 : Int))), .slot 22], o2 24 (.bin .add) 21 23, mv 25 2, op 26 (.bin .mul) [.const (.one (.int .i64 (31 : Int))), .slot 25], o2 27 (.bin .add) 24 26, op 28 (.bin .add) [.slot 27, .const (.one (.int .i64 (5 : Int)))], op 29 (.bin .rem) [.slot 28, .const (.one (.int .i64 (60000 : Int)))], mv 6 29]) (.ret))) }
def spec_CheckOf.env (N : Nat) : Env := envOf (tbl [(1, spec_l1In.fs N)] noFS)
def spec_CheckOf.F (N : Nat) (x : Int × Int × Int) : Option Int := XFunc.run spec_CheckOf.x (spec_CheckOf.env N) N x
def spec_CheckOf.fs (N : Nat) : FS := { arg := .pair (.int .i64) (.pair (.int .i64) (.int .i64)), ret := .int .i64, fresh := true, F := spec_CheckOf.F N }

theorem spec_CheckOf.F_eq (N : Nat) (setting : Int) (value : Int) (header : Int) : spec_CheckOf.F N (setting, value, header) =
    bindO (spec_l1In.F N (setting, ((0 : Int), (3 : Int)))) fun r1 =>
    bif !r1 then
      some (65535 : Int)
    else
      bindO (spec_l1In.F N (value, ((0 : Int), (9999 : Int)))) fun r2 =>
      bif !r2 then
        some (65535 : Int)
      else
        bindO (spec_l1In.F N (header, ((1 : Int), (60000 : Int)))) fun r3 =>
        bif !r3 then
          some (65535 : Int)
        else
          some (Int.tmod (IntKind.wrap .i64 ((IntKind.wrap .i64 ((IntKind.wrap .i64 ((IntKind.wrap .i64 ((7 : Int) * setting)) + (IntKind.wrap .i64 ((13 : Int) * value)))) + (IntKind.wrap .i64 ((31 : Int) * header)))) + (5 : Int))) (60000 : Int)) := by kernel_rfl

def impl_isSetting.x : XFunc := { nslots := 19, nobj := 0, pars := [.val false 1, .val false 1], rowsIn := [none, none], rets := [.tmp 4 false 1], outs := [.imm], fresh := true, arg := .pair (.int .i64) (.int .i64), ret := .bool, body := .seq (.region false [op 4 .move [.const (.one (.bool false))]]) (.seq (.region false [mv 5 0, op 6 (.bin .geq) [.slot 5, .const (.one (.int .i64 (0 : Int)))], ⟨some 7, .move, [.slot 6], [], [], none, true⟩, ⟨some 8, .move, [.slot 0], [], [], some (7, true), false⟩, ⟨some 9, .bin .lss, [.slot 8, .const (.one (.int .i64 (4 : Int)))], [], [], some (7, true), false⟩, op 10 .pick [.slot 7, .slot 9, .const (.one (.bool false))], ⟨some 11, .move, [.slot 10], [], [], none, true⟩, ⟨some 12, .move, [.slot 1], [], [], some (11, true), false⟩, ⟨some 13, .bin .geq, [.slot 12, .const (.one (.int .i64 (0 : Int)))], [], [], some (11, true), false⟩, op 14 .pick [.slot 11, .slot 13, .const (.one (.bool false))], ⟨some 15, .move, [.slot 14], [], [], none, true⟩, ⟨some 16, .move, [.slot 1], [], [], some (15, true), false⟩, ⟨some 17, .bin .leq, [.slot 16, .const (.one (.int .i64 (9999 : Int)))], [], [], some (15, true), false⟩, op 18 .pick [.slot 15, .slot 17, .const (.one (.bool false))], mv 4 18]) (.ret)) }
def impl_isSetting.env (_ : Nat) : Env := envOf (tbl [] noFS)
def impl_isSetting.F (N : Nat) (x : Int × Int) : Option Bool := XFunc.run impl_isSetting.x (impl_isSetting.env N) N x
def impl_isSetting.fs (N : Nat) : FS := { arg := .pair (.int .i64) (.int .i64), ret := .bool, fresh := true, F := impl_isSetting.F N }

theorem impl_isSetting.F_eq (N : Nat) (setting : Int) (value : Int) : impl_isSetting.F N (setting, value) =
    bif decide (setting ≥ (0 : Int)) then
      bif decide (setting < (4 : Int)) then
        bif decide (value ≥ (0 : Int)) then
          some (decide (value ≤ (9999 : Int)))
        else
          some false
      else
        some false
    else
      some false := by kernel_rfl

def impl_CheckOf.x : XFunc := { nslots := 29, nobj := 0, pars := [.val false 1, .val false 1, .val false 1], rowsIn := [none, none, none], rets := [.tmp 6 false 1], outs := [.imm], fresh := true, arg := .pair (.int .i64) (.pair (.int .i64) (.int .i64)), ret := .int .i64, body := .seq (.region false [op 6 .move [.const (.one (.int .i64 (0 : Int)))]]) (.seq (.seq (.region false [mv 7 0, mv 8 1, o2 9 (.call ⟨3, vs 2, no 2, [.val false 1], ims 1, true⟩) 7 8, o1 10 .not 9, ⟨some 11, .move, [.slot 10], [], [], none, true⟩, ⟨some 12, .move, [.slot 2], [], [], some (11, false), false⟩, ⟨some 13, .bin .lss, [.slot 12, .const (.one (.int .i64 (1 : Int)))], [], [], some (11, false), false⟩, op 14 .pick [.slot 11, .const (.one (.bool true)), .slot 13], ⟨some 15, .move, [.slot 14], [], [], none, true⟩, ⟨some 16, .move, [.slot 2], [], [], some (15, false), false⟩, ⟨some 17, .bin .gtr, [.slot 16, .const (.one (.int .i64 (60000 : Int)))], [], [], some (15, false), false⟩, op 18 .pick [.slot 15, .const (.one (.bool true)), .slot 17]]) (.cond (.slot 18) (.seq (.region false [op 6 .move [.const (.one (.int .i64 (65535 : Int)))]]) (.ret)) (.skip))) (.seq (.region false [mv 19 0, op 20 (.bin .mul) [.const (.one (.int .i64 (7 : Int))), .slot 19], mv 21 1, op 22 (.bin .mul) [.const (.one (.int .i64 (13 : Int))), .slot 21], o2 23 (.bin .add) 20 22, mv 24 2, op 25 (.bin .mul) [.const (.one (.int .i64 (31 : Int))), .slot 24], o2 26 (.bin .add) 23 25, op 27 (.bin .add) [.slot 26, .const (.one (.int .i64 (5 : Int)))], op 28 (.bin .rem) [.slot 27, .const (.one (.int .i64 (60000 : Int)))], mv 6 28]) (.ret))) }
def impl_CheckOf.env (N : Nat) : Env := envOf (tbl [(3, impl_isSetting.fs N)] noFS)
def impl_CheckOf.F (N : Nat) (x : Int × Int × Int) : Option Int := XFunc.run impl_CheckOf.x (impl_CheckOf.env N) N x
def impl_CheckOf.fs (N : Nat) : FS := { arg := .pair (.int .i64) (.pair (.int .i64) (.int .i64)), ret := .int .i64, fresh := true, F := impl_CheckOf.F N }

theorem impl_CheckOf.F_eq (N : Nat) (setting : Int) (value : Int) (header : Int) : impl_CheckOf.F N (setting, value, header) =
    bindO (impl_isSetting.F N (setting, value)) fun r1 =>
    bif !r1 then
      some (65535 : Int)
    else
      bif decide (header < (1 : Int)) then
        some (65535 : Int)
      else
        bif decide (header > (60000 : Int)) then
          some (65535 : Int)
        else
          some (Int.tmod (IntKind.wrap .i64 ((IntKind.wrap .i64 ((IntKind.wrap .i64 ((IntKind.wrap .i64 ((7 : Int) * setting)) + (IntKind.wrap .i64 ((13 : Int) * value)))) + (IntKind.wrap .i64 ((31 : Int) * header)))) + (5 : Int))) (60000 : Int)) := by kernel_rfl

def laws_FnExactCheckOf.x : XFunc := { nslots := 20, nobj := 0, pars := [.val false 1, .val false 1, .val false 1], rowsIn := [none, none, none], rets := [.tmp 6 false 1], outs := [.imm], fresh := true, arg := .pair (.int .i64) (.pair (.int .i64) (.int .i64)), ret := .bool, body := .seq (.region false [op 6 .move [.const (.one (.bool false))]]) (.seq (.region false [mv 9 0, mv 10 1, mv 11 2, op 12 (.call ⟨2, vs 3, no 3, [.val false 1], ims 1, true⟩) [.slot 9, .slot 10, .slot 11], mv 7 12]) (.seq (.region false [mv 13 0, mv 14 1, mv 15 2, op 16 (.call ⟨4, vs 3, no 3, [.val false 1], ims 1, true⟩) [.slot 13, .slot 14, .slot 15], mv 8 16]) (.seq (.seq (.region false [mv 17 8, mv 18 7, o2 19 (.bin .neq) 17 18]) (.cond (.slot 19) (.seq (.region false [op 6 .move [.const (.one (.bool false))]]) (.ret)) (.skip))) (.seq (.region false [op 6 .move [.const (.one (.bool true))]]) (.ret))))) }
def laws_FnExactCheckOf.env (N : Nat) : Env := envOf (tbl [(4, impl_CheckOf.fs N), (2, spec_CheckOf.fs N)] noFS)
def laws_FnExactCheckOf.F (N : Nat) (x : Int × Int × Int) : Option Bool := XFunc.run laws_FnExactCheckOf.x (laws_FnExactCheckOf.env N) N x
def laws_FnExactCheckOf.fs (N : Nat) : FS := { arg := .pair (.int .i64) (.pair (.int .i64) (.int .i64)), ret := .bool, fresh := true, F := laws_FnExactCheckOf.F N }

theorem laws_FnExactCheckOf.F_eq (N : Nat) (aSetting : Int) (aValue : Int) (aHeader : Int) : laws_FnExactCheckOf.F N (aSetting, aValue, aHeader) =
    bindO (spec_CheckOf.F N (aSetting, (aValue, aHeader))) fun r1 =>
    bindO (impl_CheckOf.F N (aSetting, (aValue, aHeader))) fun r2 =>
    bif r2 != r1 then
      some false
    else
      some true := by kernel_rfl

def laws_toByteS.c1 : XCode := .seq (.seq (.region false [mv 8 4, mv 9 0, o1 10 .len 9, o2 11 (.bin .lss) 8 10]) (.cond (.slot 11) (.skip) (.exit 0))) (.seq (.block 1 (.region false [mv 14 3, mv 15 4, mv 16 0, mv 17 4, o2 18 (.indexAddr (.int .u8)) 16 17, o1 19 (.load false 1) 18, ow 20 (.indexAddr (.int .u8)) [.slot 14, .slot 15] [0] [], on (.store 1) [.slot 20, .slot 19] [0] [0]])) (.region false [mv 12 4, op 13 (.bin .add) [.slot 12, .const (.one (.int .i64 (1 : Int)))], mv 4 13]))
def laws_toByteS.c2 : XCode := .seq (.region false [mv 21 3, mv 2 21]) (.ret)
def laws_toByteS.x : XFunc := { nslots := 22, nobj := 1, pars := [.val false 1], rowsIn := [none], rets := [.tmp 2 false 1], outs := [.own 1], fresh := true, arg := .list (.int .u8), ret := .list (.int .u8), body := .seq (.region false [op 2 .move [.const (.one (.nil))]]) (.seq (.region false [mv 5 0, o1 6 .len 5, ow 7 (.makeSlice 0 1 (.int .u8)) [.slot 6, .slot 6] [0] [0], mv 3 7]) (.seq (.seq (.region false [op 4 .move [.const (.one (.int .i64 (0 : Int)))]]) (.block 0 (.loop [.keep [0, 3, 4], .norm] (laws_toByteS.c1)))) (laws_toByteS.c2))) }
def laws_toByteS.env (_ : Nat) : Env := envOf (tbl [] noFS)
def laws_toByteS.F (N : Nat) (x : List Int) : Option (List Int) := XFunc.run laws_toByteS.x (laws_toByteS.env N) N x
def laws_toByteS.fs (N : Nat) : FS := { arg := .list (.int .u8), ret := .list (.int .u8), fresh := true, F := laws_toByteS.F N }
def laws_toByteS.k2 (N : Nat) : Ex → S → Option (List Int) := seqK (fun s => XCode.runK (laws_toByteS.env N) N (laws_toByteS.c2) s (XFunc.endK laws_toByteS.x)) (XFunc.endK laws_toByteS.x)
def laws_toByteS.k1 (N : Nat) : Ex → S → Option (List Int) := blockK 0 (laws_toByteS.k2 N)
def laws_toByteS.L1 (N : Nat) (n1 : Nat) (a : List Int) (i : Int) (o0 : List Int) : Option (List Int) := loopK [.keep [0, 3, 4], .norm] (fun s k => XCode.runK (laws_toByteS.env N) N laws_toByteS.c1 s k) n1
  { t := [.one (.sl false (.int .u8) a), .junk, .junk, .one (.ref 0 0 .all), .one (.int .i64 i), .junk, .junk, .junk, .junk, .junk, .junk, .junk, .junk, .junk, .junk, .junk, .junk, .junk, .junk, .junk, .junk, .junk], h := [.row 0 false true 1 (.int .u8) o0] }
  (laws_toByteS.k1 N)

theorem laws_toByteS.L1_eq (N : Nat) (n1 : Nat) (a : List Int) (i : Int) (o0 : List Int) : laws_toByteS.L1 N (n1 + 1) a i o0 =
    bif decide (i < (List.length a : Int)) then
      bif inRange i (List.length a) then
      bif inRange i (List.length o0) then
      laws_toByteS.L1 N n1 a (IntKind.wrap .i64 (i + (1 : Int))) (List.set o0 (Int.toNat i) (nth (0 : Int) a i))
      else none
      else none
    else
      some o0 := by kernel_rfl
theorem laws_toByteS.L1_zero (N : Nat) (a : List Int) (i : Int) (o0 : List Int) : laws_toByteS.L1 N 0 a i o0 = none := rfl
theorem laws_toByteS.F_eq (N : Nat) (a : List Int) : laws_toByteS.F N a =
    bif decide (0 ≤ (List.length a : Int)) && decide ((List.length a : Int) ≤ (maxN : Int)) then
    laws_toByteS.L1 N N a (0 : Int) (List.replicate (Int.toNat (List.length a : Int)) (0 : Int))
    else none := by kernel_rfl

def spec_Checksum.c1 : XCode := .seq (.seq (.region false [mv 19 5, op 20 (.bin .lss) [.slot 19, .const (.one (.int .i64 (8 : Int)))]]) (.cond (.slot 20) (.skip) (.exit 2))) (.seq (.block 3 (.seq (.region false [mv 23 3, op 24 (.bin .mul) [.const (.one (.int .i64 (2 : Int))), .slot 23], mv 3 24]) (.seq (.region false [mv 25 3, op 26 (.bin .gtr) [.slot 25, .const (.one (.int .i64 (255 : Int)))]]) (.cond (.slot 26) (.region false [mv 27 3, op 28 (.bin .xor) [.slot 27, .const (.one (.int .i64 (263 : Int)))], mv 3 28]) (.skip))))) (.region false [mv 21 5, op 22 (.bin .add) [.slot 21, .const (.one (.int .i64 (1 : Int)))], mv 5 22]))
def spec_Checksum.c2 : XCode := .region false [mv 10 4, op 11 (.bin .add) [.slot 10, .const (.one (.int .i64 (1 : Int)))], mv 4 11]
def spec_Checksum.c3 : XCode := .seq (.seq (.region false [mv 6 4, mv 7 0, o1 8 .len 7, o2 9 (.bin .lss) 6 8]) (.cond (.slot 9) (.skip) (.exit 0))) (.seq (.block 1 (.seq (.region false [mv 12 3, mv 13 0, mv 14 4, o2 15 (.indexAddr (.int .u8)) 13 14, o1 16 (.load false 1) 15, o1 17 (.conv .i64) 16, o2 18 (.bin .xor) 12 17, mv 3 18]) (.seq (.region false [op 5 .move [.const (.one (.int .i64 (0 : Int)))]]) (.block 2 (.loop [.keep [0, 3, 4, 5], .norm] (spec_Checksum.c1)))))) (spec_Checksum.c2))
def spec_Checksum.c4 : XCode := .seq (.region false [mv 29 3, mv 2 29]) (.ret)
def spec_Checksum.x : XFunc := { nslots := 30, nobj := 0, pars := [.val false 1], rowsIn := [none], rets := [.tmp 2 false 1], outs := [.imm], fresh := true, arg := .list (.int .u8), ret := .int .i64, body := .seq (.region false [op 2 .move [.const (.one (.int .i64 (0 : Int)))]]) (.seq (.region false [op 3 .move [.const (.one (.int .i64 (0 : Int)))]]) (.seq (.seq (.region false [op 4 .move [.const (.one (.int .i64 (0 : Int)))]]) (.block 0 (.loop [.keep [0, 3, 4], .norm] (spec_Checksum.c3)))) (spec_Checksum.c4))) }
def spec_Checksum.env (_ : Nat) : Env := envOf (tbl [] noFS)
def spec_Checksum.F (N : Nat) (x : List Int) : Option Int := XFunc.run spec_Checksum.x (spec_Checksum.env N) N x
def spec_Checksum.fs (N : Nat) : FS := { arg := .list (.int .u8), ret := .int .i64, fresh := true, F := spec_Checksum.F N }
def spec_Checksum.k2 (N : Nat) : Ex → S → Option Int := seqK (fun s => XCode.runK (spec_Checksum.env N) N (spec_Checksum.c4) s (XFunc.endK spec_Checksum.x)) (XFunc.endK spec_Checksum.x)
def spec_Checksum.k1 (N : Nat) : Ex → S → Option Int := blockK 0 (spec_Checksum.k2 N)
def spec_Checksum.k6 (N : Nat) (n1 : Nat) : Ex → S → Option Int := seqK (fun s => bindO (S.ghosts s [.keep [0, 3, 4], .norm]) fun s1 => loopK [.keep [0, 3, 4], .norm] (fun s k => XCode.runK (spec_Checksum.env N) N spec_Checksum.c3 s k) n1 s1 (spec_Checksum.k1 N)) (spec_Checksum.k1 N)
def spec_Checksum.k5 (N : Nat) (n1 : Nat) : Ex → S → Option Int := seqK (fun s => XCode.runK (spec_Checksum.env N) N (spec_Checksum.c2) s (spec_Checksum.k6 N n1)) (spec_Checksum.k6 N n1)
def spec_Checksum.k4 (N : Nat) (n1 : Nat) : Ex → S → Option Int := blockK 1 (spec_Checksum.k5 N n1)
def spec_Checksum.k3 (N : Nat) (n1 : Nat) : Ex → S → Option Int := blockK 2 (spec_Checksum.k4 N n1)
def spec_Checksum.L1 (N : Nat) (n1 : Nat) (b : List Int) (x_ : Int) (i : Int) : Option Int := loopK [.keep [0, 3, 4], .norm] (fun s k => XCode.runK (spec_Checksum.env N) N spec_Checksum.c3 s k) n1
  { t := [.one (.sl false (.int .u8) b), .junk, .junk, .one (.int .i64 x_), .one (.int .i64 i), .junk, .junk, .junk, .junk, .junk, .junk, .junk, .junk, .junk, .junk, .junk, .junk, .junk, .junk, .junk, .junk, .junk, .junk, .junk, .junk, .junk, .junk, .junk, .junk, .junk], h := [] }
  (spec_Checksum.k1 N)
def spec_Checksum.L2 (N : Nat) (n1 : Nat) (n2 : Nat) (b : List Int) (x_ : Int) (i : Int) (k_ : Int) : Option Int := loopK [.keep [0, 3, 4, 5], .norm] (fun s k => XCode.runK (spec_Checksum.env N) N spec_Checksum.c1 s k) n2
  { t := [.one (.sl false (.int .u8) b), .junk, .junk, .one (.int .i64 x_), .one (.int .i64 i), .one (.int .i64 k_), .junk, .junk, .junk, .junk, .junk, .junk, .junk, .junk, .junk, .junk, .junk, .junk, .junk, .junk, .junk, .junk, .junk, .junk, .junk, .junk, .junk, .junk, .junk, .junk], h := [] }
  (spec_Checksum.k3 N n1)

theorem spec_Checksum.L1_eq (N : Nat) (n1 : Nat) (b : List Int) (x_ : Int) (i : Int) : spec_Checksum.L1 N (n1 + 1) b x_ i =
    bif decide (i < (List.length b : Int)) then
      bif inRange i (List.length b) then
      spec_Checksum.L2 N n1 N b (bitXor .i64 x_ (IntKind.wrap .i64 (nth (0 : Int) b i))) i (0 : Int)
      else none
    else
      some x_ := by kernel_rfl
theorem spec_Checksum.L1_zero (N : Nat) (b : List Int) (x_ : Int) (i : Int) : spec_Checksum.L1 N 0 b x_ i = none := rfl
theorem spec_Checksum.L2_eq (N : Nat) (n1 : Nat) (n2 : Nat) (b : List Int) (x_ : Int) (i : Int) (k_ : Int) : spec_Checksum.L2 N n1 (n2 + 1) b x_ i k_ =
    bif decide (k_ < (8 : Int)) then
      bif decide ((IntKind.wrap .i64 ((2 : Int) * x_)) > (255 : Int)) then
        spec_Checksum.L2 N n1 n2 b (bitXor .i64 (IntKind.wrap .i64 ((2 : Int) * x_)) (263 : Int)) i (IntKind.wrap .i64 (k_ + (1 : Int)))
      else
        spec_Checksum.L2 N n1 n2 b (IntKind.wrap .i64 ((2 : Int) * x_)) i (IntKind.wrap .i64 (k_ + (1 : Int)))
    else
      spec_Checksum.L1 N n1 b x_ (IntKind.wrap .i64 (i + (1 : Int))) := by kernel_rfl
theorem spec_Checksum.L2_zero (N : Nat) (n1 : Nat) (b : List Int) (x_ : Int) (i : Int) (k_ : Int) : spec_Checksum.L2 N n1 0 b x_ i k_ = none := rfl
theorem spec_Checksum.F_eq (N : Nat) (b : List Int) : spec_Checksum.F N b =
    spec_Checksum.L1 N N b (0 : Int) (0 : Int) := by kernel_rfl

def impl_Checksum.c1 : XCode := .seq (.region false [op 17 (.bin .lss) [.slot 16, .const (.one (.int .i64 (8 : Int)))]]) (.seq (.cond (.slot 17) (.skip) (.exit 2)) (.seq (.block 3 (.seq (.region false [mv 18 3, op 19 (.bin .mul) [.slot 18, .const (.one (.int .i64 (2 : Int)))], mv 3 19]) (.seq (.region false [mv 20 3, op 21 (.bin .gtr) [.slot 20, .const (.one (.int .i64 (255 : Int)))]]) (.cond (.slot 21) (.region false [mv 22 3, op 23 (.bin .xor) [.slot 22, .const (.one (.int .i64 (263 : Int)))], mv 3 23]) (.skip))))) (.region false [op 24 (.bin .add) [.slot 16, .const (.one (.int .i64 (1 : Int)))], mv 16 24])))
def impl_Checksum.c2 : XCode := .region false [op 25 (.bin .add) [.slot 8, .const (.one (.int .i64 (1 : Int)))], mv 8 25]
def impl_Checksum.c3 : XCode := .seq (.region false [o2 9 (.bin .lss) 8 7]) (.seq (.cond (.slot 9) (.skip) (.exit 0)) (.seq (.block 1 (.seq (.region false [o2 10 (.indexAddr (.int .u8)) 6 8, o1 11 (.load false 1) 10, mv 5 11]) (.seq (.region false [mv 12 3, mv 13 5, o1 14 (.conv .i64) 13, o2 15 (.bin .xor) 12 14, mv 3 15]) (.seq (.region false [op 16 .move [.const (.one (.int .i64 (0 : Int)))]]) (.block 2 (.loop [.keep [3, 6, 7, 8, 16], .norm] (impl_Checksum.c1))))))) (impl_Checksum.c2)))
def impl_Checksum.c4 : XCode := .seq (.region false [mv 26 3, mv 2 26]) (.ret)
def impl_Checksum.x : XFunc := { nslots := 27, nobj := 0, pars := [.val false 1], rowsIn := [none], rets := [.tmp 2 false 1], outs := [.imm], fresh := true, arg := .list (.int .u8), ret := .int .i64, body := .seq (.region false [op 2 .move [.const (.one (.int .i64 (0 : Int)))]]) (.seq (.region false [op 3 .move [.const (.one (.int .i64 (0 : Int)))]]) (.seq (.seq (.region false [mv 6 0, o1 7 .len 6, op 8 .move [.const (.one (.int .i64 (0 : Int)))]]) (.block 0 (.loop [.keep [3, 6, 7, 8], .norm] (impl_Checksum.c3)))) (impl_Checksum.c4))) }
def impl_Checksum.env (_ : Nat) : Env := envOf (tbl [] noFS)
def impl_Checksum.F (N : Nat) (x : List Int) : Option Int := XFunc.run impl_Checksum.x (impl_Checksum.env N) N x
def impl_Checksum.fs (N : Nat) : FS := { arg := .list (.int .u8), ret := .int .i64, fresh := true, F := impl_Checksum.F N }
def impl_Checksum.k2 (N : Nat) : Ex → S → Option Int := seqK (fun s => XCode.runK (impl_Checksum.env N) N (impl_Checksum.c4) s (XFunc.endK impl_Checksum.x)) (XFunc.endK impl_Checksum.x)
def impl_Checksum.k1 (N : Nat) : Ex → S → Option Int := blockK 0 (impl_Checksum.k2 N)
def impl_Checksum.k6 (N : Nat) (n1 : Nat) : Ex → S → Option Int := seqK (fun s => bindO (S.ghosts s [.keep [3, 6, 7, 8], .norm]) fun s1 => loopK [.keep [3, 6, 7, 8], .norm] (fun s k => XCode.runK (impl_Checksum.env N) N impl_Checksum.c3 s k) n1 s1 (impl_Checksum.k1 N)) (impl_Checksum.k1 N)
def impl_Checksum.k5 (N : Nat) (n1 : Nat) : Ex → S → Option Int := seqK (fun s => XCode.runK (impl_Checksum.env N) N (impl_Checksum.c2) s (impl_Checksum.k6 N n1)) (impl_Checksum.k6 N n1)
def impl_Checksum.k4 (N : Nat) (n1 : Nat) : Ex → S → Option Int := blockK 1 (impl_Checksum.k5 N n1)
def impl_Checksum.k3 (N : Nat) (n1 : Nat) : Ex → S → Option Int := blockK 2 (impl_Checksum.k4 N n1)
def impl_Checksum.L1 (N : Nat) (n1 : Nat) (c : Int) (t6 : List Int) (t7 : Int) (t8 : Int) : Option Int := loopK [.keep [3, 6, 7, 8], .norm] (fun s k => XCode.runK (impl_Checksum.env N) N impl_Checksum.c3 s k) n1
  { t := [.junk, .junk, .junk, .one (.int .i64 c), .junk, .junk, .one (.sl false (.int .u8) t6), .one (.int .i64 t7), .one (.int .i64 t8), .junk, .junk, .junk, .junk, .junk, .junk, .junk, .junk, .junk, .junk, .junk, .junk, .junk, .junk, .junk, .junk, .junk, .junk], h := [] }
  (impl_Checksum.k1 N)
def impl_Checksum.L2 (N : Nat) (n1 : Nat) (n2 : Nat) (c : Int) (t6 : List Int) (t7 : Int) (t8 : Int) (t16 : Int) : Option Int := loopK [.keep [3, 6, 7, 8, 16], .norm] (fun s k => XCode.runK (impl_Checksum.env N) N impl_Checksum.c1 s k) n2
  { t := [.junk, .junk, .junk, .one (.int .i64 c), .junk, .junk, .one (.sl false (.int .u8) t6), .one (.int .i64 t7), .one (.int .i64 t8), .junk, .junk, .junk, .junk, .junk, .junk, .junk, .one (.int .i64 t16), .junk, .junk, .junk, .junk, .junk, .junk, .junk, .junk, .junk, .junk], h := [] }
  (impl_Checksum.k3 N n1)

theorem impl_Checksum.L1_eq (N : Nat) (n1 : Nat) (c : Int) (t6 : List Int) (t7 : Int) (t8 : Int) : impl_Checksum.L1 N (n1 + 1) c t6 t7 t8 =
    bif decide (t8 < t7) then
      bif inRange t8 (List.length t6) then
      impl_Checksum.L2 N n1 N (bitXor .i64 c (IntKind.wrap .i64 (nth (0 : Int) t6 t8))) t6 t7 t8 (0 : Int)
      else none
    else
      some c := by kernel_rfl
theorem impl_Checksum.L1_zero (N : Nat) (c : Int) (t6 : List Int) (t7 : Int) (t8 : Int) : impl_Checksum.L1 N 0 c t6 t7 t8 = none := rfl
theorem impl_Checksum.L2_eq (N : Nat) (n1 : Nat) (n2 : Nat) (c : Int) (t6 : List Int) (t7 : Int) (t8 : Int) (t16 : Int) : impl_Checksum.L2 N n1 (n2 + 1) c t6 t7 t8 t16 =
    bif decide (t16 < (8 : Int)) then
      bif decide ((IntKind.wrap .i64 (c * (2 : Int))) > (255 : Int)) then
        impl_Checksum.L2 N n1 n2 (bitXor .i64 (IntKind.wrap .i64 (c * (2 : Int))) (263 : Int)) t6 t7 t8 (IntKind.wrap .i64 (t16 + (1 : Int)))
      else
        impl_Checksum.L2 N n1 n2 (IntKind.wrap .i64 (c * (2 : Int))) t6 t7 t8 (IntKind.wrap .i64 (t16 + (1 : Int)))
    else
      impl_Checksum.L1 N n1 c t6 t7 (IntKind.wrap .i64 (t8 + (1 : Int))) := by kernel_rfl
theorem impl_Checksum.L2_zero (N : Nat) (n1 : Nat) (c : Int) (t6 : List Int) (t7 : Int) (t8 : Int) (t16 : Int) : impl_Checksum.L2 N n1 0 c t6 t7 t8 t16 = none := rfl
theorem impl_Checksum.F_eq (N : Nat) (b : List Int) : impl_Checksum.F N b =
    impl_Checksum.L1 N N (0 : Int) b (List.length b : Int) (0 : Int) := by kernel_rfl

def laws_eqByteS.c1 : XCode := .seq (.seq (.region false [mv 11 5, mv 12 0, o1 13 .len 12, o2 14 (.bin .lss) 11 13]) (.cond (.slot 14) (.skip) (.exit 0))) (.seq (.block 1 (.seq (.region true [mv 17 0, mv 18 5, o2 19 (.indexAddr (.int .u8)) 17 18, o1 20 (.load false 1) 19, mv 21 1, mv 22 5, o2 23 (.indexAddr (.int .u8)) 21 22, o1 24 (.load false 1) 23, o2 25 (.bin .neq) 20 24]) (.cond (.slot 25) (.seq (.region false [op 4 .move [.const (.one (.bool false))]]) (.ret)) (.skip)))) (.region false [mv 15 5, op 16 (.bin .add) [.slot 15, .const (.one (.int .i64 (1 : Int)))], mv 5 16]))
def laws_eqByteS.c2 : XCode := .seq (.region false [op 4 .move [.const (.one (.bool true))]]) (.ret)
def laws_eqByteS.x : XFunc := { nslots := 26, nobj := 0, pars := [.val false 1, .val false 1], rowsIn := [none, none], rets := [.tmp 4 false 1], outs := [.imm], fresh := true, arg := .pair (.list (.int .u8)) (.list (.int .u8)), ret := .bool, body := .seq (.region false [op 4 .move [.const (.one (.bool false))]]) (.seq (.seq (.region false [mv 6 0, o1 7 .len 6, mv 8 1, o1 9 .len 8, o2 10 (.bin .neq) 7 9]) (.cond (.slot 10) (.seq (.region false [op 4 .move [.const (.one (.bool false))]]) (.ret)) (.skip))) (.seq (.seq (.region false [op 5 .move [.const (.one (.int .i64 (0 : Int)))]]) (.block 0 (.loop [.keep [0, 1, 5], .norm] (laws_eqByteS.c1)))) (laws_eqByteS.c2))) }
def laws_eqByteS.env (_ : Nat) : Env := envOf (tbl [] noFS)
def laws_eqByteS.F (N : Nat) (x : (List Int) × List Int) : Option Bool := XFunc.run laws_eqByteS.x (laws_eqByteS.env N) N x
def laws_eqByteS.fs (N : Nat) : FS := { arg := .pair (.list (.int .u8)) (.list (.int .u8)), ret := .bool, fresh := true, F := laws_eqByteS.F N }
def laws_eqByteS.k2 (N : Nat) : Ex → S → Option Bool := seqK (fun s => XCode.runK (laws_eqByteS.env N) N (laws_eqByteS.c2) s (XFunc.endK laws_eqByteS.x)) (XFunc.endK laws_eqByteS.x)
def laws_eqByteS.k1 (N : Nat) : Ex → S → Option Bool := blockK 0 (laws_eqByteS.k2 N)
def laws_eqByteS.L1 (N : Nat) (n1 : Nat) (a : List Int) (b : List Int) (i : Int) : Option Bool := loopK [.keep [0, 1, 5], .norm] (fun s k => XCode.runK (laws_eqByteS.env N) N laws_eqByteS.c1 s k) n1
  { t := [.one (.sl false (.int .u8) a), .one (.sl false (.int .u8) b), .junk, .junk, .junk, .one (.int .i64 i), .junk, .junk, .junk, .junk, .junk, .junk, .junk, .junk, .junk, .junk, .junk, .junk, .junk, .junk, .junk, .junk, .junk, .junk, .junk, .junk], h := [] }
  (laws_eqByteS.k1 N)

theorem laws_eqByteS.L1_eq (N : Nat) (n1 : Nat) (a : List Int) (b : List Int) (i : Int) : laws_eqByteS.L1 N (n1 + 1) a b i =
    bif decide (i < (List.length a : Int)) then
      bif inRange i (List.length a) then
      bif inRange i (List.length b) then
      bif (nth (0 : Int) a i) != (nth (0 : Int) b i) then
        some false
      else
        laws_eqByteS.L1 N n1 a b (IntKind.wrap .i64 (i + (1 : Int)))
      else none
      else none
    else
      some true := by kernel_rfl
theorem laws_eqByteS.L1_zero (N : Nat) (a : List Int) (b : List Int) (i : Int) : laws_eqByteS.L1 N 0 a b i = none := rfl
theorem laws_eqByteS.F_eq (N : Nat) (a : List Int) (b : List Int) : laws_eqByteS.F N (a, b) =
    bif (List.length a : Int) != (List.length b : Int) then
      some false
    else
      laws_eqByteS.L1 N N a b (0 : Int) := by kernel_rfl

def laws_FnExactChecksum.x : XFunc := { nslots := 24, nobj := 0, pars := [.val false 1], rowsIn := [none], rets := [.tmp 2 false 1], outs := [.imm], fresh := true, arg := .list (.int .u8), ret := .bool, body := .seq (.region false [op 2 .move [.const (.one (.bool false))]]) (.seq (.seq (.region false [mv 6 0, o1 7 .len 6, op 8 (.bin .gtr) [.slot 7, .const (.one (.int .i64 (1048576 : Int)))]]) (.cond (.slot 8) (.seq (.region false [op 2 .move [.const (.one (.bool true))]]) (.ret)) (.skip))) (.seq (.region false [mv 9 0, o1 10 (.call ⟨6, vs 1, no 1, [.val false 1], ims 1, true⟩) 9, o1 11 (.call ⟨7, vs 1, no 1, [.val false 1], ims 1, true⟩) 10, mv 3 11]) (.seq (.region false [mv 12 0, o1 13 (.call ⟨6, vs 1, no 1, [.val false 1], ims 1, true⟩) 12, mv 4 13]) (.seq (.region false [mv 14 4, o1 15 (.call ⟨8, vs 1, no 1, [.val false 1], ims 1, true⟩) 14, mv 5 15]) (.seq (.seq (.region false [mv 16 5, mv 17 3, o2 18 (.bin .neq) 16 17]) (.cond (.slot 18) (.seq (.region false [op 2 .move [.const (.one (.bool false))]]) (.ret)) (.skip))) (.seq (.seq (.region false [mv 19 4, mv 20 0, o1 21 (.call ⟨6, vs 1, no 1, [.val false 1], ims 1, true⟩) 20, o2 22 (.call ⟨9, vs 2, no 2, [.val false 1], ims 1, true⟩) 19 21, o1 23 .not 22]) (.cond (.slot 23) (.seq (.region false [op 2 .move [.const (.one (.bool false))]]) (.ret)) (.skip))) (.seq (.region false [op 2 .move [.const (.one (.bool true))]]) (.ret)))))))) }
def laws_FnExactChecksum.env (N : Nat) : Env := envOf (tbl [(8, impl_Checksum.fs N), (9, laws_eqByteS.fs N), (6, laws_toByteS.fs N), (7, spec_Checksum.fs N)] noFS)
def laws_FnExactChecksum.F (N : Nat) (x : List Int) : Option Bool := XFunc.run laws_FnExactChecksum.x (laws_FnExactChecksum.env N) N x
def laws_FnExactChecksum.fs (N : Nat) : FS := { arg := .list (.int .u8), ret := .bool, fresh := true, F := laws_FnExactChecksum.F N }

theorem laws_FnExactChecksum.F_eq (N : Nat) (aB : List Int) : laws_FnExactChecksum.F N aB =
    bif decide ((List.length aB : Int) > (1048576 : Int)) then
      some true
    else
      bindO (laws_toByteS.F N aB) fun r1 =>
      bindO (spec_Checksum.F N r1) fun r2 =>
      bindO (laws_toByteS.F N aB) fun r3 =>
      bindO (impl_Checksum.F N r3) fun r4 =>
      bif r4 != r2 then
        some false
      else
        bindO (laws_toByteS.F N aB) fun r5 =>
        bindO (laws_eqByteS.F N (r3, r5)) fun r6 =>
        bif !r6 then
          some false
        else
          some true := by kernel_rfl

def spec_NewReceiver.x : XFunc := { nslots := 3, nobj := 2, pars := [], rowsIn := [], rets := [.var 0 true 4], outs := [.own 1, .imm, .imm, .imm], fresh := true, arg := .unit, ret := .pair (.list (.int .u8)) (.pair (.int .i64) (.pair (.int .i64) (.int .i64))), body := .seq (.region false [ow 0 (.alloc 0 [.nil, .int .i64 (0 : Int), .int .i64 (0 : Int), .int .i64 (0 : Int)]) [] [0] [0]]) (.seq (.region false [ow 1 (.buildSlice false 1 1 (.int .u8) 0 [] [.int .u8 (0 : Int)]) [] [1] [1], op 2 (.build [.nil, .int .i64 (0 : Int), .int .i64 (0 : Int), .int .i64 (0 : Int)] [(0, 1), (1, 1)]) [.slot 1, .const (.one (.int .i64 (-1 : Int)))], on (.store 4) [.slot 0, .slot 2] [0] [0]]) (.ret)) }
def spec_NewReceiver.env (_ : Nat) : Env := envOf (tbl [] noFS)
def spec_NewReceiver.F (N : Nat) (x : Unit) : Option ((List Int) × Int × Int × Int) := XFunc.run spec_NewReceiver.x (spec_NewReceiver.env N) N x
def spec_NewReceiver.fs (N : Nat) : FS := { arg := .unit, ret := .pair (.list (.int .u8)) (.pair (.int .i64) (.pair (.int .i64) (.int .i64))), fresh := true, F := spec_NewReceiver.F N }

theorem spec_NewReceiver.F_eq (N : Nat) : spec_NewReceiver.F N () =
    some (([] : List Int), ((-1 : Int), ((0 : Int), (0 : Int)))) := by kernel_rfl

def impl_NewReceiver.x : XFunc := { nslots := 2, nobj := 1, pars := [], rowsIn := [], rets := [.var 0 true 4], outs := [.own 1, .imm, .imm, .imm], fresh := true, arg := .unit, ret := .pair (.list (.int .u8)) (.pair (.int .i64) (.pair (.int .i64) (.int .i64))), body := .seq (.region false [ow 0 (.alloc 0 [.nil, .int .i64 (0 : Int), .int .i64 (0 : Int), .int .i64 (0 : Int)]) [] [0] [0]]) (.seq (.region false [op 1 (.build [.nil, .int .i64 (0 : Int), .int .i64 (0 : Int), .int .i64 (0 : Int)] [(1, 1)]) [.const (.one (.int .i64 (-1 : Int)))], on (.store 4) [.slot 0, .slot 1] [0] [0]]) (.ret)) }
def impl_NewReceiver.env (_ : Nat) : Env := envOf (tbl [] noFS)
def impl_NewReceiver.F (N : Nat) (x : Unit) : Option ((List Int) × Int × Int × Int) := XFunc.run impl_NewReceiver.x (impl_NewReceiver.env N) N x
def impl_NewReceiver.fs (N : Nat) : FS := { arg := .unit, ret := .pair (.list (.int .u8)) (.pair (.int .i64) (.pair (.int .i64) (.int .i64))), fresh := true, F := impl_NewReceiver.F N }

theorem impl_NewReceiver.F_eq (N : Nat) : impl_NewReceiver.F N () =
    some (([] : List Int), ((-1 : Int), ((0 : Int), (0 : Int)))) := by kernel_rfl

def laws_eqReceiver.x : XFunc := { nslots := 26, nobj := 2, pars := [.val true 4, .val true 4], rowsIn := [none, none, none, none, none, none, none, none], rets := [.tmp 4 false 1], outs := [.imm], fresh := true, arg := .pair (.pair (.list (.int .u8)) (.pair (.int .i64) (.pair (.int .i64) (.int .i64)))) (.pair (.list (.int .u8)) (.pair (.int .i64) (.pair (.int .i64) (.int .i64)))), ret := .bool, body := .seq (.region false [ow 2 (.box 0) [.slot 0] [0] [0], ow 3 (.box 1) [.slot 1] [1] [1], op 4 .move [.const (.one (.bool false))]]) (.seq (.seq (.region false [o1 5 (.fieldAddr 0) 2, ow 6 (.load false 1) [.slot 5] [0] [], o1 7 (.fieldAddr 0) 3, ow 8 (.load false 1) [.slot 7] [1] [], o2 9 (.call ⟨9, vs 2, no 2, [.val false 1], ims 1, true⟩) 6 8, o1 10 .not 9]) (.cond (.slot 10) (.seq (.region false [op 4 .move [.const (.one (.bool false))]]) (.ret)) (.skip))) (.seq (.seq (.region false [o1 11 (.fieldAddr 1) 2, ow 12 (.load false 1) [.slot 11] [0] [], o1 13 (.fieldAddr 1) 3, ow 14 (.load false 1) [.slot 13] [1] [], o2 15 (.bin .neq) 12 14]) (.cond (.slot 15) (.seq (.region false [op 4 .move [.const (.one (.bool false))]]) (.ret)) (.skip))) (.seq (.seq (.region false [o1 16 (.fieldAddr 2) 2, ow 17 (.load false 1) [.slot 16] [0] [], o1 18 (.fieldAddr 2) 3, ow 19 (.load false 1) [.slot 18] [1] [], o2 20 (.bin .neq) 17 19]) (.cond (.slot 20) (.seq (.region false [op 4 .move [.const (.one (.bool false))]]) (.ret)) (.skip))) (.seq (.seq (.region false [o1 21 (.fieldAddr 3) 2, ow 22 (.load false 1) [.slot 21] [0] [], o1 23 (.fieldAddr 3) 3, ow 24 (.load false 1) [.slot 23] [1] [], o2 25 (.bin .neq) 22 24]) (.cond (.slot 25) (.seq (.region false [op 4 .move [.const (.one (.bool false))]]) (.ret)) (.skip))) (.seq (.region false [op 4 .move [.const (.one (.bool true))]]) (.ret)))))) }
def laws_eqReceiver.env (N : Nat) : Env := envOf (tbl [(9, laws_eqByteS.fs N)] noFS)
def laws_eqReceiver.F (N : Nat) (x : ((List Int) × Int × Int × Int) × (List Int) × Int × Int × Int) : Option Bool := XFunc.run laws_eqReceiver.x (laws_eqReceiver.env N) N x
def laws_eqReceiver.fs (N : Nat) : FS := { arg := .pair (.pair (.list (.int .u8)) (.pair (.int .i64) (.pair (.int .i64) (.int .i64)))) (.pair (.list (.int .u8)) (.pair (.int .i64) (.pair (.int .i64) (.int .i64)))), ret := .bool, fresh := true, F := laws_eqReceiver.F N }

theorem laws_eqReceiver.F_eq (N : Nat) (a : (List Int) × Int × Int × Int) (b : (List Int) × Int × Int × Int) : laws_eqReceiver.F N (a, b) =
    bindO (laws_eqByteS.F N (a.1, b.1)) fun r1 =>
    bif !r1 then
      some false
    else
      bif a.2.1 != b.2.1 then
        some false
      else
        bif a.2.2.1 != b.2.2.1 then
          some false
        else
          bif a.2.2.2 != b.2.2.2 then
            some false
          else
            some true := by kernel_rfl

def laws_markByteS.c1 : XCode := .seq (.seq (.region false [mv 6 5, mv 7 0, ow 8 .len [.slot 7] [0] [], o2 9 (.bin .lss) 6 8]) (.cond (.slot 9) (.skip) (.exit 0))) (.seq (.block 1 (.seq (.region false [mv 12 0, mv 13 5, mv 14 1, o1 15 (.conv .u8) 14, ow 16 (.indexAddr (.int .u8)) [.slot 12, .slot 13] [0] [], on (.store 1) [.slot 16, .slot 15] [0] [0]]) (.region false [mv 17 1, op 18 (.bin .add) [.slot 17, .const (.one (.int .i64 (1 : Int)))], mv 1 18]))) (.region false [mv 10 5, op 11 (.bin .add) [.slot 10, .const (.one (.int .i64 (1 : Int)))], mv 5 11]))
def laws_markByteS.c2 : XCode := .seq (.region false [mv 19 1, mv 4 19]) (.ret)
def laws_markByteS.x : XFunc := { nslots := 20, nobj := 1, pars := [.val false 1, .val false 1], rowsIn := [some (0, 1), none], rets := [.tmp 4 false 1], outs := [.imm, .back 0], fresh := false, arg := .pair (.list (.int .u8)) (.int .i64), ret := .pair (.int .i64) (.list (.int .u8)), body := .seq (.region false [op 4 .move [.const (.one (.int .i64 (0 : Int)))]]) (.seq (.seq (.region false [op 5 .move [.const (.one (.int .i64 (0 : Int)))]]) (.block 0 (.loop [.keep [0, 1, 5], .norm] (laws_markByteS.c1)))) (laws_markByteS.c2)) }
def laws_markByteS.env (_ : Nat) : Env := envOf (tbl [] noFS)
def laws_markByteS.F (N : Nat) (x : (List Int) × Int) : Option (Int × List Int) := XFunc.run laws_markByteS.x (laws_markByteS.env N) N x
def laws_markByteS.fs (N : Nat) : FS := { arg := .pair (.list (.int .u8)) (.int .i64), ret := .pair (.int .i64) (.list (.int .u8)), fresh := false, F := laws_markByteS.F N }
def laws_markByteS.k2 (N : Nat) : Ex → S → Option (Int × List Int) := seqK (fun s => XCode.runK (laws_markByteS.env N) N (laws_markByteS.c2) s (XFunc.endK laws_markByteS.x)) (XFunc.endK laws_markByteS.x)
def laws_markByteS.k1 (N : Nat) : Ex → S → Option (Int × List Int) := blockK 0 (laws_markByteS.k2 N)
def laws_markByteS.L1 (N : Nat) (n1 : Nat) (k_ : Int) (i : Int) (o0 : List Int) : Option (Int × List Int) := loopK [.keep [0, 1, 5], .norm] (fun s k => XCode.runK (laws_markByteS.env N) N laws_markByteS.c1 s k) n1
  { t := [.one (.ref 0 0 .all), .one (.int .i64 k_), .junk, .junk, .junk, .one (.int .i64 i), .junk, .junk, .junk, .junk, .junk, .junk, .junk, .junk, .junk, .junk, .junk, .junk, .junk, .junk], h := [.row 0 true false 1 (.int .u8) o0] }
  (laws_markByteS.k1 N)

theorem laws_markByteS.L1_eq (N : Nat) (n1 : Nat) (k_ : Int) (i : Int) (o0 : List Int) : laws_markByteS.L1 N (n1 + 1) k_ i o0 =
    bif decide (i < (List.length o0 : Int)) then
      bif inRange i (List.length o0) then
      laws_markByteS.L1 N n1 (IntKind.wrap .i64 (k_ + (1 : Int))) (IntKind.wrap .i64 (i + (1 : Int))) (List.set o0 (Int.toNat i) (IntKind.wrap .u8 k_))
      else none
    else
      some (k_, o0) := by kernel_rfl
theorem laws_markByteS.L1_zero (N : Nat) (k_ : Int) (i : Int) (o0 : List Int) : laws_markByteS.L1 N 0 k_ i o0 = none := rfl
theorem laws_markByteS.F_eq (N : Nat) (a : List Int) (k_ : Int) : laws_markByteS.F N (a, k_) =
    laws_markByteS.L1 N N k_ (0 : Int) a := by kernel_rfl

def laws_markReceiver.x : XFunc := { nslots := 10, nobj := 2, pars := [.val true 4, .val false 1], rowsIn := [some (1, 1), none, none, none, none], rets := [.tmp 4 false 1], outs := [.imm, .back 1], fresh := false, arg := .pair (.pair (.list (.int .u8)) (.pair (.int .i64) (.pair (.int .i64) (.int .i64)))) (.int .i64), ret := .pair (.int .i64) (.list (.int .u8)), body := .seq (.region false [ow 2 (.box 0) [.slot 0] [0] [0], op 4 .move [.const (.one (.int .i64 (0 : Int)))]]) (.seq (.region false [o1 5 (.fieldAddr 0) 2, ow 6 (.load false 1) [.slot 5] [0] [], mv 7 1, ow 8 (.call ⟨12, vs 2, [some (1, 1), none], [.val false 1], [.imm, .back 1], false⟩) [.slot 6, .slot 7] [1] [1], mv 1 8]) (.seq (.region false [mv 9 1, mv 4 9]) (.ret))) }
def laws_markReceiver.env (N : Nat) : Env := envOf (tbl [(12, laws_markByteS.fs N)] noFS)
def laws_markReceiver.F (N : Nat) (x : ((List Int) × Int × Int × Int) × Int) : Option (Int × List Int) := XFunc.run laws_markReceiver.x (laws_markReceiver.env N) N x
def laws_markReceiver.fs (N : Nat) : FS := { arg := .pair (.pair (.list (.int .u8)) (.pair (.int .i64) (.pair (.int .i64) (.int .i64)))) (.int .i64), ret := .pair (.int .i64) (.list (.int .u8)), fresh := false, F := laws_markReceiver.F N }

theorem laws_markReceiver.F_eq (N : Nat) (a : (List Int) × Int × Int × Int) (k_ : Int) : laws_markReceiver.F N (a, k_) =
    bindO (laws_markByteS.F N (a.1, k_)) fun r1 =>
    some r1 := by kernel_rfl

def laws_heldByteS.c1 : XCode := .seq (.seq (.region false [mv 6 5, mv 7 0, o1 8 .len 7, o2 9 (.bin .lss) 6 8]) (.cond (.slot 9) (.skip) (.exit 0))) (.seq (.block 1 (.seq (.seq (.region false [mv 12 0, mv 13 5, o2 14 (.indexAddr (.int .u8)) 12 13, o1 15 (.load false 1) 14, mv 16 1, o1 17 (.conv .u8) 16, o2 18 (.bin .neq) 15 17]) (.cond (.slot 18) (.seq (.region false [op 4 .move [.const (.one (.int .i64 (-1 : Int)))]]) (.ret)) (.skip))) (.region false [mv 19 1, op 20 (.bin .add) [.slot 19, .const (.one (.int .i64 (1 : Int)))], mv 1 20]))) (.region false [mv 10 5, op 11 (.bin .add) [.slot 10, .const (.one (.int .i64 (1 : Int)))], mv 5 11]))
def laws_heldByteS.c2 : XCode := .seq (.region false [mv 21 1, mv 4 21]) (.ret)
def laws_heldByteS.x : XFunc := { nslots := 22, nobj := 0, pars := [.val false 1, .val false 1], rowsIn := [none, none], rets := [.tmp 4 false 1], outs := [.imm], fresh := true, arg := .pair (.list (.int .u8)) (.int .i64), ret := .int .i64, body := .seq (.region false [op 4 .move [.const (.one (.int .i64 (0 : Int)))]]) (.seq (.seq (.region false [op 5 .move [.const (.one (.int .i64 (0 : Int)))]]) (.block 0 (.loop [.keep [0, 1, 5], .norm] (laws_heldByteS.c1)))) (laws_heldByteS.c2)) }
def laws_heldByteS.env (_ : Nat) : Env := envOf (tbl [] noFS)
def laws_heldByteS.F (N : Nat) (x : (List Int) × Int) : Option Int := XFunc.run laws_heldByteS.x (laws_heldByteS.env N) N x
def laws_heldByteS.fs (N : Nat) : FS := { arg := .pair (.list (.int .u8)) (.int .i64), ret := .int .i64, fresh := true, F := laws_heldByteS.F N }
def laws_heldByteS.k2 (N : Nat) : Ex → S → Option Int := seqK (fun s => XCode.runK (laws_heldByteS.env N) N (laws_heldByteS.c2) s (XFunc.endK laws_heldByteS.x)) (XFunc.endK laws_heldByteS.x)
def laws_heldByteS.k1 (N : Nat) : Ex → S → Option Int := blockK 0 (laws_heldByteS.k2 N)
def laws_heldByteS.L1 (N : Nat) (n1 : Nat) (a : List Int) (k_ : Int) (i : Int) : Option Int := loopK [.keep [0, 1, 5], .norm] (fun s k => XCode.runK (laws_heldByteS.env N) N laws_heldByteS.c1 s k) n1
  { t := [.one (.sl false (.int .u8) a), .one (.int .i64 k_), .junk, .junk, .junk, .one (.int .i64 i), .junk, .junk, .junk, .junk, .junk, .junk, .junk, .junk, .junk, .junk, .junk, .junk, .junk, .junk, .junk, .junk], h := [] }
  (laws_heldByteS.k1 N)

theorem laws_heldByteS.L1_eq (N : Nat) (n1 : Nat) (a : List Int) (k_ : Int) (i : Int) : laws_heldByteS.L1 N (n1 + 1) a k_ i =
    bif decide (i < (List.length a : Int)) then
      bif inRange i (List.length a) then
      bif (nth (0 : Int) a i) != (IntKind.wrap .u8 k_) then
        some (-1 : Int)
      else
        laws_heldByteS.L1 N n1 a (IntKind.wrap .i64 (k_ + (1 : Int))) (IntKind.wrap .i64 (i + (1 : Int)))
      else none
    else
      some k_ := by kernel_rfl
theorem laws_heldByteS.L1_zero (N : Nat) (a : List Int) (k_ : Int) (i : Int) : laws_heldByteS.L1 N 0 a k_ i = none := rfl
theorem laws_heldByteS.F_eq (N : Nat) (a : List Int) (k_ : Int) : laws_heldByteS.F N (a, k_) =
    laws_heldByteS.L1 N N a k_ (0 : Int) := by kernel_rfl

def laws_heldReceiver.x : XFunc := { nslots := 12, nobj := 1, pars := [.val true 4, .val false 1], rowsIn := [none, none, none, none, none], rets := [.tmp 4 false 1], outs := [.imm], fresh := true, arg := .pair (.pair (.list (.int .u8)) (.pair (.int .i64) (.pair (.int .i64) (.int .i64)))) (.int .i64), ret := .int .i64, body := .seq (.region false [ow 2 (.box 0) [.slot 0] [0] [0], op 4 .move [.const (.one (.int .i64 (0 : Int)))]]) (.seq (.region false [o1 5 (.fieldAddr 0) 2, ow 6 (.load false 1) [.slot 5] [0] [], mv 7 1, o2 8 (.call ⟨14, vs 2, no 2, [.val false 1], ims 1, true⟩) 6 7, mv 1 8]) (.seq (.seq (.region false [mv 9 1, op 10 (.bin .lss) [.slot 9, .const (.one (.int .i64 (0 : Int)))]]) (.cond (.slot 10) (.seq (.region false [op 4 .move [.const (.one (.int .i64 (-1 : Int)))]]) (.ret)) (.skip))) (.seq (.region false [mv 11 1, mv 4 11]) (.ret)))) }
def laws_heldReceiver.env (N : Nat) : Env := envOf (tbl [(14, laws_heldByteS.fs N)] noFS)
def laws_heldReceiver.F (N : Nat) (x : ((List Int) × Int × Int × Int) × Int) : Option Int := XFunc.run laws_heldReceiver.x (laws_heldReceiver.env N) N x
def laws_heldReceiver.fs (N : Nat) : FS := { arg := .pair (.pair (.list (.int .u8)) (.pair (.int .i64) (.pair (.int .i64) (.int .i64)))) (.int .i64), ret := .int .i64, fresh := true, F := laws_heldReceiver.F N }

theorem laws_heldReceiver.F_eq (N : Nat) (a : (List Int) × Int × Int × Int) (k_ : Int) : laws_heldReceiver.F N (a, k_) =
    bindO (laws_heldByteS.F N (a.1, k_)) fun r1 =>
    bif decide (r1 < (0 : Int)) then
      some (-1 : Int)
    else
      some r1 := by kernel_rfl

def laws_FnExactNewReceiver.x : XFunc := { nslots := 36, nobj := 4, pars := [], rowsIn := [], rets := [.tmp 0 false 1], outs := [.imm], fresh := true, arg := .unit, ret := .bool, body := .seq (.region false [op 0 .move [.const (.one (.bool false))]]) (.seq (.region false [op 6 (.call ⟨28, [], [], [.val true 4], ims 4, true⟩) [], ow 1 (.alloc 0 [.nil, .int .i64 (0 : Int), .int .i64 (0 : Int), .int .i64 (0 : Int)]) [] [0] [0], on (.store 4) [.slot 1, .slot 6] [0] [0]]) (.seq (.region false [ow 7 (.call ⟨29, [], [], [.val true 4], [.own 2 1, .imm, .imm, .imm], true⟩) [] [2] [2], ow 2 (.alloc 1 [.nil, .int .i64 (0 : Int), .int .i64 (0 : Int), .int .i64 (0 : Int)]) [] [1] [1], on (.store 4) [.slot 2, .slot 7] [1] [1]]) (.seq (.seq (.region false [ow 8 (.load true 4) [.slot 2] [1] [], ow 9 (.load true 4) [.slot 1] [0] [], ow 10 (.call ⟨11, [.val true 4, .val true 4], no 8, [.val false 1], ims 1, true⟩) [.slot 8, .slot 9] [2] [], o1 11 .not 10]) (.cond (.slot 11) (.seq (.region false [op 0 .move [.const (.one (.bool false))]]) (.ret)) (.skip))) (.seq (.region false [op 3 .move [.const (.one (.int .i64 (1 : Int)))]]) (.seq (.region false [ow 12 (.load true 4) [.slot 2] [1] [], mv 13 3, ow 14 (.call ⟨13, [.val true 4, .val false 1], [some (2, 1), none, none, none, none], [.val false 1], [.imm, .back 2], false⟩) [.slot 12, .slot 13] [2] [2], mv 3 14]) (.seq (.region false [op 4 .move [.const (.one (.int .i64 (1 : Int)))]]) (.seq (.region false [ow 15 (.load true 4) [.slot 2] [1] [], mv 16 4, ow 17 (.call ⟨15, [.val true 4, .val false 1], no 5, [.val false 1], ims 1, true⟩) [.slot 15, .slot 16] [2] [], mv 4 17]) (.seq (.seq (.region false [mv 18 4, op 19 (.bin .lss) [.slot 18, .const (.one (.int .i64 (0 : Int)))]]) (.cond (.slot 19) (.seq (.region false [op 0 .move [.const (.one (.bool false))]]) (.ret)) (.skip))) (.seq (.seq (.region false [mv 20 4, mv 21 3, o2 22 (.bin .neq) 20 21]) (.cond (.slot 22) (.seq (.region false [op 0 .move [.const (.one (.bool false))]]) (.ret)) (.skip))) (.seq (.region false [op 23 (.call ⟨29, [], [], [.val true 4], ims 4, true⟩) [], ow 5 (.alloc 3 [.nil, .int .i64 (0 : Int), .int .i64 (0 : Int), .int .i64 (0 : Int)]) [] [3] [3], on (.store 4) [.slot 5, .slot 23] [3] [3]]) (.seq (.seq (.region false [ow 24 (.load true 4) [.slot 5] [3] [], ow 25 (.load true 4) [.slot 1] [0] [], o2 26 (.call ⟨11, [.val true 4, .val true 4], no 8, [.val false 1], ims 1, true⟩) 24 25, o1 27 .not 26]) (.cond (.slot 27) (.seq (.region false [op 0 .move [.const (.one (.bool false))]]) (.ret)) (.skip))) (.seq (.region false [op 4 .move [.const (.one (.int .i64 (1 : Int)))]]) (.seq (.region false [ow 28 (.load true 4) [.slot 2] [1] [], mv 29 4, ow 30 (.call ⟨15, [.val true 4, .val false 1], no 5, [.val false 1], ims 1, true⟩) [.slot 28, .slot 29] [2] [], mv 4 30]) (.seq (.seq (.region false [mv 31 4, op 32 (.bin .lss) [.slot 31, .const (.one (.int .i64 (0 : Int)))]]) (.cond (.slot 32) (.seq (.region false [op 0 .move [.const (.one (.bool false))]]) (.ret)) (.skip))) (.seq (.seq (.region false [mv 33 4, mv 34 3, o2 35 (.bin .neq) 33 34]) (.cond (.slot 35) (.seq (.region false [op 0 .move [.const (.one (.bool false))]]) (.ret)) (.skip))) (.seq (.region false [op 0 .move [.const (.one (.bool true))]]) (.ret))))))))))))))))) }
def laws_FnExactNewReceiver.env (N : Nat) : Env := envOf (tbl [(29, impl_NewReceiver.fs N), (11, laws_eqReceiver.fs N), (15, laws_heldReceiver.fs N), (13, laws_markReceiver.fs N), (28, spec_NewReceiver.fs N)] noFS)
def laws_FnExactNewReceiver.F (N : Nat) (x : Unit) : Option Bool := XFunc.run laws_FnExactNewReceiver.x (laws_FnExactNewReceiver.env N) N x
def laws_FnExactNewReceiver.fs (N : Nat) : FS := { arg := .unit, ret := .bool, fresh := true, F := laws_FnExactNewReceiver.F N }

theorem laws_FnExactNewReceiver.F_eq (N : Nat) : laws_FnExactNewReceiver.F N () =
    bindO (spec_NewReceiver.F N ()) fun r1 =>
    bindO (impl_NewReceiver.F N ()) fun r2 =>
    bindO (laws_eqReceiver.F N (r2, r1)) fun r3 =>
    bif !r3 then
      some false
    else
      bindO (laws_markReceiver.F N (r2, (1 : Int))) fun r4 =>
      bindO (laws_heldReceiver.F N ((r4.2, r2.2), (1 : Int))) fun r5 =>
      bif decide (r5 < (0 : Int)) then
        some false
      else
        bif r5 != r4.1 then
          some false
        else
          bindO (impl_NewReceiver.F N ()) fun r6 =>
          bindO (laws_eqReceiver.F N (r6, r1)) fun r7 =>
          bif !r7 then
            some false
          else
            bindO (laws_heldReceiver.F N ((r4.2, r2.2), (1 : Int))) fun r8 =>
            bif decide (r8 < (0 : Int)) then
              some false
            else
              bif r8 != r4.1 then
                some false
              else
                some true := by kernel_rfl

def laws_szByteS.x : XFunc := { nslots := 12, nobj := 0, pars := [.val false 1, .val false 1], rowsIn := [none, none], rets := [.tmp 4 false 1], outs := [.imm], fresh := true, arg := .pair (.list (.int .u8)) (.int .i64), ret := .int .i64, body := .seq (.region false [op 4 .move [.const (.one (.int .i64 (0 : Int)))]]) (.seq (.region false [mv 5 1, mv 6 0, o1 7 .len 6, o2 8 (.bin .sub) 5 7, mv 1 8]) (.seq (.seq (.region false [mv 9 1, op 10 (.bin .lss) [.slot 9, .const (.one (.int .i64 (0 : Int)))]]) (.cond (.slot 10) (.seq (.region false [op 4 .move [.const (.one (.int .i64 (-1 : Int)))]]) (.ret)) (.skip))) (.seq (.region false [mv 11 1, mv 4 11]) (.ret)))) }
def laws_szByteS.env (_ : Nat) : Env := envOf (tbl [] noFS)
def laws_szByteS.F (N : Nat) (x : (List Int) × Int) : Option Int := XFunc.run laws_szByteS.x (laws_szByteS.env N) N x
def laws_szByteS.fs (N : Nat) : FS := { arg := .pair (.list (.int .u8)) (.int .i64), ret := .int .i64, fresh := true, F := laws_szByteS.F N }

theorem laws_szByteS.F_eq (N : Nat) (a : List Int) (left : Int) : laws_szByteS.F N (a, left) =
    bif decide ((IntKind.wrap .i64 (left - (List.length a : Int))) < (0 : Int)) then
      some (-1 : Int)
    else
      some (IntKind.wrap .i64 (left - (List.length a : Int))) := by kernel_rfl

def laws_szReceiver.x : XFunc := { nslots := 12, nobj := 1, pars := [.val true 4, .val false 1], rowsIn := [none, none, none, none, none], rets := [.tmp 4 false 1], outs := [.imm], fresh := true, arg := .pair (.pair (.list (.int .u8)) (.pair (.int .i64) (.pair (.int .i64) (.int .i64)))) (.int .i64), ret := .int .i64, body := .seq (.region false [ow 2 (.box 0) [.slot 0] [0] [0], op 4 .move [.const (.one (.int .i64 (0 : Int)))]]) (.seq (.region false [o1 5 (.fieldAddr 0) 2, ow 6 (.load false 1) [.slot 5] [0] [], mv 7 1, o2 8 (.call ⟨17, vs 2, no 2, [.val false 1], ims 1, true⟩) 6 7, mv 1 8]) (.seq (.seq (.region false [mv 9 1, op 10 (.bin .lss) [.slot 9, .const (.one (.int .i64 (0 : Int)))]]) (.cond (.slot 10) (.seq (.region false [op 4 .move [.const (.one (.int .i64 (-1 : Int)))]]) (.ret)) (.skip))) (.seq (.region false [mv 11 1, mv 4 11]) (.ret)))) }
def laws_szReceiver.env (N : Nat) : Env := envOf (tbl [(17, laws_szByteS.fs N)] noFS)
def laws_szReceiver.F (N : Nat) (x : ((List Int) × Int × Int × Int) × Int) : Option Int := XFunc.run laws_szReceiver.x (laws_szReceiver.env N) N x
def laws_szReceiver.fs (N : Nat) : FS := { arg := .pair (.pair (.list (.int .u8)) (.pair (.int .i64) (.pair (.int .i64) (.int .i64)))) (.int .i64), ret := .int .i64, fresh := true, F := laws_szReceiver.F N }

theorem laws_szReceiver.F_eq (N : Nat) (a : (List Int) × Int × Int × Int) (left : Int) : laws_szReceiver.F N (a, left) =
    bindO (laws_szByteS.F N (a.1, left)) fun r1 =>
    bif decide (r1 < (0 : Int)) then
      some (-1 : Int)
    else
      some r1 := by kernel_rfl

def laws_toReceiver.x : XFunc := { nslots := 18, nobj := 4, pars := [.val true 4], rowsIn := [none, none, none, none], rets := [.var 2 true 4], outs := [.own 1, .imm, .imm, .imm], fresh := true, arg := .pair (.list (.int .u8)) (.pair (.int .i64) (.pair (.int .i64) (.int .i64))), ret := .pair (.list (.int .u8)) (.pair (.int .i64) (.pair (.int .i64) (.int .i64))), body := .seq (.region false [ow 1 (.box 0) [.slot 0] [0] [0], ow 2 (.alloc 1 [.nil, .int .i64 (0 : Int), .int .i64 (0 : Int), .int .i64 (0 : Int)]) [] [1] [1]]) (.seq (.region false [ow 3 (.alloc 2 [.nil, .int .i64 (0 : Int), .int .i64 (0 : Int), .int .i64 (0 : Int)]) [] [2] [2]]) (.seq (.region false [o1 4 (.fieldAddr 0) 1, ow 5 (.load false 1) [.slot 4] [0] [], ow 6 (.call ⟨6, vs 1, no 1, [.val false 1], [.own 3 1], true⟩) [.slot 5] [3] [3], o1 7 (.fieldAddr 0) 3, on (.store 1) [.slot 7, .slot 6] [2] [2]]) (.seq (.region false [o1 8 (.fieldAddr 1) 1, ow 9 (.load false 1) [.slot 8] [0] [], o1 10 (.fieldAddr 1) 3, on (.store 1) [.slot 10, .slot 9] [2] [2]]) (.seq (.region false [o1 11 (.fieldAddr 2) 1, ow 12 (.load false 1) [.slot 11] [0] [], o1 13 (.fieldAddr 2) 3, on (.store 1) [.slot 13, .slot 12] [2] [2]]) (.seq (.region false [o1 14 (.fieldAddr 3) 1, ow 15 (.load false 1) [.slot 14] [0] [], o1 16 (.fieldAddr 3) 3, on (.store 1) [.slot 16, .slot 15] [2] [2]]) (.seq (.region false [ow 17 (.load true 4) [.slot 3] [2] [], on (.store 4) [.slot 2, .slot 17] [1] [1]]) (.ret))))))) }
def laws_toReceiver.env (N : Nat) : Env := envOf (tbl [(6, laws_toByteS.fs N)] noFS)
def laws_toReceiver.F (N : Nat) (x : (List Int) × Int × Int × Int) : Option ((List Int) × Int × Int × Int) := XFunc.run laws_toReceiver.x (laws_toReceiver.env N) N x
def laws_toReceiver.fs (N : Nat) : FS := { arg := .pair (.list (.int .u8)) (.pair (.int .i64) (.pair (.int .i64) (.int .i64))), ret := .pair (.list (.int .u8)) (.pair (.int .i64) (.pair (.int .i64) (.int .i64))), fresh := true, F := laws_toReceiver.F N }

theorem laws_toReceiver.F_eq (N : Nat) (a : (List Int) × Int × Int × Int) : laws_toReceiver.F N a =
    bindO (laws_toByteS.F N a.1) fun r1 =>
    some (r1, a.2) := by kernel_rfl

def spec_IsReceiver.x : XFunc := { nslots := 22, nobj := 1, pars := [.val true 4], rowsIn := [none, none, none, none], rets := [.tmp 2 false 1], outs := [.imm], fresh := true, arg := .pair (.list (.int .u8)) (.pair (.int .i64) (.pair (.int .i64) (.int .i64))), ret := .bool, body := .seq (.region false [ow 1 (.box 0) [.slot 0] [0] [0], op 2 .move [.const (.one (.bool false))]]) (.seq (.region false [o1 3 (.fieldAddr 0) 1, ow 4 (.load false 1) [.slot 3] [0] [], o1 5 .len 4, op 6 (.bin .lss) [.slot 5, .const (.one (.int .i64 (6 : Int)))], ⟨some 7, .move, [.slot 6], [], [], none, true⟩, ⟨some 8, .fieldAddr 1, [.slot 1], [], [], some (7, true), false⟩, ⟨some 9, .load false 1, [.slot 8], [0], [], some (7, true), false⟩, ⟨some 10, .call ⟨1, vs 3, no 3, [.val false 1], ims 1, true⟩, [.slot 9, .const (.one (.int .i64 (-1 : Int))), .const (.one (.int .i64 (255 : Int)))], [], [], some (7, true), false⟩, op 11 .pick [.slot 7, .slot 10, .const (.one (.bool false))], ⟨some 12, .move, [.slot 11], [], [], none, true⟩, ⟨some 13, .fieldAddr 2, [.slot 1], [], [], some (12, true), false⟩, ⟨some 14, .load false 1, [.slot 13], [0], [], some (12, true), false⟩, ⟨some 15, .call ⟨1, vs 3, no 3, [.val false 1], ims 1, true⟩, [.slot 14, .const (.one (.int .i64 (0 : Int))), .const (.one (.int .i64 (16777215 : Int)))], [], [], some (12, true), false⟩, op 16 .pick [.slot 12, .slot 15, .const (.one (.bool false))], ⟨some 17, .move, [.slot 16], [], [], none, true⟩, ⟨some 18, .fieldAddr 3, [.slot 1], [], [], some (17, true), false⟩, ⟨some 19, .load false 1, [.slot 18], [0], [], some (17, true), false⟩, ⟨some 20, .call ⟨1, vs 3, no 3, [.val false 1], ims 1, true⟩, [.slot 19, .const (.one (.int .i64 (0 : Int))), .const (.one (.int .i64 (20 : Int)))], [], [], some (17, true), false⟩, op 21 .pick [.slot 17, .slot 20, .const (.one (.bool false))], mv 2 21]) (.ret)) }
def spec_IsReceiver.env (N : Nat) : Env := envOf (tbl [(1, spec_l1In.fs N)] noFS)
def spec_IsReceiver.F (N : Nat) (x : (List Int) × Int × Int × Int) : Option Bool := XFunc.run spec_IsReceiver.x (spec_IsReceiver.env N) N x
def spec_IsReceiver.fs (N : Nat) : FS := { arg := .pair (.list (.int .u8)) (.pair (.int .i64) (.pair (.int .i64) (.int .i64))), ret := .bool, fresh := true, F := spec_IsReceiver.F N }

theorem spec_IsReceiver.F_eq (N : Nat) (r_ : (List Int) × Int × Int × Int) : spec_IsReceiver.F N r_ =
    bif decide ((List.length r_.1 : Int) < (6 : Int)) then
      bindO (spec_l1In.F N (r_.2.1, ((-1 : Int), (255 : Int)))) fun r1 =>
      bif r1 then
        bindO (spec_l1In.F N (r_.2.2.1, ((0 : Int), (16777215 : Int)))) fun r2 =>
        bif r2 then
          bindO (spec_l1In.F N (r_.2.2.2, ((0 : Int), (20 : Int)))) fun r3 =>
          some r3
        else
          some false
      else
        some false
    else
      some false := by kernel_rfl

def impl_IsReceiver.x : XFunc := { nslots := 37, nobj := 1, pars := [.val true 4], rowsIn := [none, none, none, none], rets := [.tmp 2 false 1], outs := [.imm], fresh := true, arg := .pair (.list (.int .u8)) (.pair (.int .i64) (.pair (.int .i64) (.int .i64))), ret := .bool, body := .seq (.region false [ow 1 (.box 0) [.slot 0] [0] [0], op 2 .move [.const (.one (.bool false))]]) (.seq (.region false [o1 3 (.fieldAddr 0) 1, ow 4 (.load false 1) [.slot 3] [0] [], o1 5 .len 4, op 6 (.bin .lss) [.slot 5, .const (.one (.int .i64 (6 : Int)))], ⟨some 7, .move, [.slot 6], [], [], none, true⟩, ⟨some 8, .fieldAddr 1, [.slot 1], [], [], some (7, true), false⟩, ⟨some 9, .load false 1, [.slot 8], [0], [], some (7, true), false⟩, ⟨some 10, .bin .geq, [.slot 9, .const (.one (.int .i64 (-1 : Int)))], [], [], some (7, true), false⟩, op 11 .pick [.slot 7, .slot 10, .const (.one (.bool false))], ⟨some 12, .move, [.slot 11], [], [], none, true⟩, ⟨some 13, .fieldAddr 1, [.slot 1], [], [], some (12, true), false⟩, ⟨some 14, .load false 1, [.slot 13], [0], [], some (12, true), false⟩, ⟨some 15, .bin .leq, [.slot 14, .const (.one (.int .i64 (255 : Int)))], [], [], some (12, true), false⟩, op 16 .pick [.slot 12, .slot 15, .const (.one (.bool false))], ⟨some 17, .move, [.slot 16], [], [], none, true⟩, ⟨some 18, .fieldAddr 2, [.slot 1], [], [], some (17, true), false⟩, ⟨some 19, .load false 1, [.slot 18], [0], [], some (17, true), false⟩, ⟨some 20, .bin .geq, [.slot 19, .const (.one (.int .i64 (0 : Int)))], [], [], some (17, true), false⟩, op 21 .pick [.slot 17, .slot 20, .const (.one (.bool false))], ⟨some 22, .move, [.slot 21], [], [], none, true⟩, ⟨some 23, .fieldAddr 2, [.slot 1], [], [], some (22, true), false⟩, ⟨some 24, .load false 1, [.slot 23], [0], [], some (22, true), false⟩, ⟨some 25, .bin .leq, [.slot 24, .const (.one (.int .i64 (16777215 : Int)))], [], [], some (22, true), false⟩, op 26 .pick [.slot 22, .slot 25, .const (.one (.bool false))], ⟨some 27, .move, [.slot 26], [], [], none, true⟩, ⟨some 28, .fieldAddr 3, [.slot 1], [], [], some (27, true), false⟩, ⟨some 29, .load false 1, [.slot 28], [0], [], some (27, true), false⟩, ⟨some 30, .bin .geq, [.slot 29, .const (.one (.int .i64 (0 : Int)))], [], [], some (27, true), false⟩, op 31 .pick [.slot 27, .slot 30, .const (.one (.bool false))], ⟨some 32, .move, [.slot 31], [], [], none, true⟩, ⟨some 33, .fieldAddr 3, [.slot 1], [], [], some (32, true), false⟩, ⟨some 34, .load false 1, [.slot 33], [0], [], some (32, true), false⟩, ⟨some 35, .bin .leq, [.slot 34, .const (.one (.int .i64 (20 : Int)))], [], [], some (32, true), false⟩, op 36 .pick [.slot 32, .slot 35, .const (.one (.bool false))], mv 2 36]) (.ret)) }
def impl_IsReceiver.env (_ : Nat) : Env := envOf (tbl [] noFS)
def impl_IsReceiver.F (N : Nat) (x : (List Int) × Int × Int × Int) : Option Bool := XFunc.run impl_IsReceiver.x (impl_IsReceiver.env N) N x
def impl_IsReceiver.fs (N : Nat) : FS := { arg := .pair (.list (.int .u8)) (.pair (.int .i64) (.pair (.int .i64) (.int .i64))), ret := .bool, fresh := true, F := impl_IsReceiver.F N }

theorem impl_IsReceiver.F_eq (N : Nat) (r_ : (List Int) × Int × Int × Int) : impl_IsReceiver.F N r_ =
    bif decide ((List.length r_.1 : Int) < (6 : Int)) then
      bif decide (r_.2.1 ≥ (-1 : Int)) then
        bif decide (r_.2.1 ≤ (255 : Int)) then
          bif decide (r_.2.2.1 ≥ (0 : Int)) then
            bif decide (r_.2.2.1 ≤ (16777215 : Int)) then
              bif decide (r_.2.2.2 ≥ (0 : Int)) then
                some (decide (r_.2.2.2 ≤ (20 : Int)))
              else
                some false
            else
              some false
          else
            some false
        else
          some false
      else
        some false
    else
      some false := by kernel_rfl

def laws_FnExactIsReceiver.x : XFunc := { nslots := 27, nobj := 2, pars := [.val true 4], rowsIn := [none, none, none, none], rets := [.tmp 2 false 1], outs := [.imm], fresh := true, arg := .pair (.list (.int .u8)) (.pair (.int .i64) (.pair (.int .i64) (.int .i64))), ret := .bool, body := .seq (.region false [ow 1 (.box 0) [.slot 0] [0] [0], op 2 .move [.const (.one (.bool false))]]) (.seq (.region false [op 3 .move [.const (.one (.int .i64 (1048576 : Int)))]]) (.seq (.region false [ow 7 (.load true 4) [.slot 1] [0] [], mv 8 3, o2 9 (.call ⟨18, [.val true 4, .val false 1], no 5, [.val false 1], ims 1, true⟩) 7 8, mv 3 9]) (.seq (.seq (.region false [mv 10 3, op 11 (.bin .lss) [.slot 10, .const (.one (.int .i64 (0 : Int)))]]) (.cond (.slot 11) (.seq (.region false [op 2 .move [.const (.one (.bool true))]]) (.ret)) (.skip))) (.seq (.region false [ow 12 (.load true 4) [.slot 1] [0] [], o1 13 (.call ⟨30, [.val true 4], no 4, [.val true 4], ims 4, true⟩) 12, o1 14 (.call ⟨19, [.val true 4], no 4, [.val false 1], ims 1, true⟩) 13, mv 4 14]) (.seq (.region false [ow 15 (.load true 4) [.slot 1] [0] [], o1 16 (.call ⟨30, [.val true 4], no 4, [.val true 4], ims 4, true⟩) 15, ow 5 (.alloc 1 [.nil, .int .i64 (0 : Int), .int .i64 (0 : Int), .int .i64 (0 : Int)]) [] [1] [1], on (.store 4) [.slot 5, .slot 16] [1] [1]]) (.seq (.region false [ow 17 (.load true 4) [.slot 5] [1] [], o1 18 (.call ⟨20, [.val true 4], no 4, [.val false 1], ims 1, true⟩) 17, mv 6 18]) (.seq (.seq (.region false [mv 19 6, mv 20 4, o2 21 (.eqBool true) 19 20]) (.cond (.slot 21) (.seq (.region false [op 2 .move [.const (.one (.bool false))]]) (.ret)) (.skip))) (.seq (.seq (.region true [ow 22 (.load true 4) [.slot 5] [1] [], ow 23 (.load true 4) [.slot 1] [0] [], o1 24 (.call ⟨30, [.val true 4], no 4, [.val true 4], ims 4, true⟩) 23, o2 25 (.call ⟨11, [.val true 4, .val true 4], no 8, [.val false 1], ims 1, true⟩) 22 24, o1 26 .not 25]) (.cond (.slot 26) (.seq (.region false [op 2 .move [.const (.one (.bool false))]]) (.ret)) (.skip))) (.seq (.region false [op 2 .move [.const (.one (.bool true))]]) (.ret)))))))))) }
def laws_FnExactIsReceiver.env (N : Nat) : Env := envOf (tbl [(20, impl_IsReceiver.fs N), (11, laws_eqReceiver.fs N), (18, laws_szReceiver.fs N), (30, laws_toReceiver.fs N), (19, spec_IsReceiver.fs N)] noFS)
def laws_FnExactIsReceiver.F (N : Nat) (x : (List Int) × Int × Int × Int) : Option Bool := XFunc.run laws_FnExactIsReceiver.x (laws_FnExactIsReceiver.env N) N x
def laws_FnExactIsReceiver.fs (N : Nat) : FS := { arg := .pair (.list (.int .u8)) (.pair (.int .i64) (.pair (.int .i64) (.int .i64))), ret := .bool, fresh := true, F := laws_FnExactIsReceiver.F N }

theorem laws_FnExactIsReceiver.F_eq (N : Nat) (aR : (List Int) × Int × Int × Int) : laws_FnExactIsReceiver.F N aR =
    bindO (laws_szReceiver.F N (aR, (1048576 : Int))) fun r1 =>
    bif decide (r1 < (0 : Int)) then
      some true
    else
      bindO (laws_toReceiver.F N aR) fun r2 =>
      bindO (spec_IsReceiver.F N r2) fun r3 =>
      bindO (laws_toReceiver.F N aR) fun r4 =>
      bindO (impl_IsReceiver.F N r4) fun r5 =>
      bif r5 != r3 then
        some false
      else
        bindO (laws_toReceiver.F N aR) fun r6 =>
        bindO (laws_eqReceiver.F N (r4, r6)) fun r7 =>
        bif !r7 then
          some false
        else
          some true := by kernel_rfl

def spec_ReadFrame.x : XFunc := { nslots := 44, nobj := 0, pars := [.val false 1], rowsIn := [none], rets := [.tmp 2 false 1, .tmp 3 false 1, .tmp 4 false 1], outs := [.imm, .imm, .imm], fresh := true, arg := .list (.int .u8), ret := .pair (.int .i64) (.pair (.int .i64) (.bool)), body := .seq (.region false [op 2 .move [.const (.one (.int .i64 (0 : Int)))], op 3 .move [.const (.one (.int .i64 (0 : Int)))], op 4 .move [.const (.one (.bool false))]]) (.seq (.seq (.region true [mv 5 0, o1 6 .len 5, op 7 (.bin .neq) [.slot 6, .const (.one (.int .i64 (6 : Int)))], ⟨some 8, .move, [.slot 7], [], [], none, true⟩, ⟨some 9, .move, [.slot 0], [], [], some (8, false), false⟩, ⟨some 10, .indexAddr (.int .u8), [.slot 9, .const (.one (.int .i64 (0 : Int)))], [], [], some (8, false), false⟩, ⟨some 11, .load false 1, [.slot 10], [], [], some (8, false), false⟩, ⟨some 12, .bin .neq, [.slot 11, .const (.one (.int .u8 (85 : Int)))], [], [], some (8, false), false⟩, op 13 .pick [.slot 8, .const (.one (.bool true)), .slot 12], ⟨some 14, .move, [.slot 13], [], [], none, true⟩, ⟨some 15, .move, [.slot 0], [], [], some (14, false), false⟩, ⟨some 16, .slice (.int .u8) false true, [.slot 15, .const (.one (.int .i64 (5 : Int)))], [], [], some (14, false), false⟩, ⟨some 17, .call ⟨7, vs 1, no 1, [.val false 1], ims 1, true⟩, [.slot 16], [], [], some (14, false), false⟩, ⟨some 18, .move, [.slot 0], [], [], some (14, false), false⟩, ⟨some 19, .indexAddr (.int .u8), [.slot 18, .const (.one (.int .i64 (5 : Int)))], [], [], some (14, false), false⟩, ⟨some 20, .load false 1, [.slot 19], [], [], some (14, false), false⟩, ⟨some 21, .conv .i64, [.slot 20], [], [], some (14, false), false⟩, ⟨some 22, .bin .neq, [.slot 17, .slot 21], [], [], some (14, false), false⟩, op 23 .pick [.slot 14, .const (.one (.bool true)), .slot 22]]) (.cond (.slot 23) (.seq (.region false [op 2 .move [.const (.one (.int .i64 (0 : Int)))], op 3 .move [.const (.one (.int .i64 (0 : Int)))], op 4 .move [.const (.one (.bool false))]]) (.ret)) (.skip))) (.seq (.region true [mv 24 0, op 25 (.indexAddr (.int .u8)) [.slot 24, .const (.one (.int .i64 (1 : Int)))], o1 26 (.load false 1) 25, o1 27 (.conv .i64) 26, mv 28 0, op 29 (.indexAddr (.int .u8)) [.slot 28, .const (.one (.int .i64 (2 : Int)))], o1 30 (.load false 1) 29, o1 31 (.conv .i64) 30, mv 32 0, op 33 (.indexAddr (.int .u8)) [.slot 32, .const (.one (.int .i64 (3 : Int)))], o1 34 (.load false 1) 33, o1 35 (.conv .i64) 34, op 36 (.bin .mul) [.const (.one (.int .i64 (256 : Int))), .slot 35], o2 37 (.bin .add) 31 36, mv 38 0, op 39 (.indexAddr (.int .u8)) [.slot 38, .const (.one (.int .i64 (4 : Int)))], o1 40 (.load false 1) 39, o1 41 (.conv .i64) 40, op 42 (.bin .mul) [.const (.one (.int .i64 (65536 : Int))), .slot 41], o2 43 (.bin .add) 37 42, mv 2 27, mv 3 43, op 4 .move [.const (.one (.bool true))]]) (.ret))) }
def spec_ReadFrame.env (N : Nat) : Env := envOf (tbl [(7, spec_Checksum.fs N)] noFS)
def spec_ReadFrame.F (N : Nat) (x : List Int) : Option (Int × Int × Bool) := XFunc.run spec_ReadFrame.x (spec_ReadFrame.env N) N x
def spec_ReadFrame.fs (N : Nat) : FS := { arg := .list (.int .u8), ret := .pair (.int .i64) (.pair (.int .i64) (.bool)), fresh := true, F := spec_ReadFrame.F N }

theorem spec_ReadFrame.F_eq (N : Nat) (b : List Int) : spec_ReadFrame.F N b =
    bif (List.length b : Int) != (6 : Int) then
      some ((0 : Int), ((0 : Int), false))
    else
      bif inRange (0 : Int) (List.length b) then
      bif (nth (0 : Int) b (0 : Int)) != (85 : Int) then
        some ((0 : Int), ((0 : Int), false))
      else
        bif decide (0 ≤ (5 : Int)) && decide ((5 : Int) ≤ (List.length b : Int)) then
        bindO (spec_Checksum.F N (List.take 5 b)) fun r1 =>
        bif inRange (5 : Int) (List.length b) then
        bif r1 != (IntKind.wrap .i64 (nth (0 : Int) b (5 : Int))) then
          some ((0 : Int), ((0 : Int), false))
        else
          bif inRange (1 : Int) (List.length b) then
          bif inRange (2 : Int) (List.length b) then
          bif inRange (3 : Int) (List.length b) then
          bif inRange (4 : Int) (List.length b) then
          some (IntKind.wrap .i64 (nth (0 : Int) b (1 : Int)), (IntKind.wrap .i64 ((IntKind.wrap .i64 ((IntKind.wrap .i64 (nth (0 : Int) b (2 : Int))) + (IntKind.wrap .i64 ((256 : Int) * (IntKind.wrap .i64 (nth (0 : Int) b (3 : Int))))))) + (IntKind.wrap .i64 ((65536 : Int) * (IntKind.wrap .i64 (nth (0 : Int) b (4 : Int)))))), true))
          else none
          else none
          else none
          else none
        else none
        else none
      else none := by kernel_rfl

def impl_LinkFrame.x : XFunc := { nslots := 37, nobj := 2, pars := [.val false 1, .val false 1], rowsIn := [none, none], rets := [.tmp 4 false 1], outs := [.own 1], fresh := true, arg := .pair (.int .i64) (.int .i64), ret := .list (.int .u8), body := .seq (.region false [op 4 .move [.const (.one (.nil))]]) (.seq (.seq (.region false [mv 6 0, op 7 (.bin .lss) [.slot 6, .const (.one (.int .i64 (0 : Int)))], ⟨some 8, .move, [.slot 7], [], [], none, true⟩, ⟨some 9, .move, [.slot 0], [], [], some (8, false), false⟩, ⟨some 10, .bin .gtr, [.slot 9, .const (.one (.int .i64 (255 : Int)))], [], [], some (8, false), false⟩, op 11 .pick [.slot 8, .const (.one (.bool true)), .slot 10], ⟨some 12, .move, [.slot 11], [], [], none, true⟩, ⟨some 13, .move, [.slot 1], [], [], some (12, false), false⟩, ⟨some 14, .bin .lss, [.slot 13, .const (.one (.int .i64 (0 : Int)))], [], [], some (12, false), false⟩, op 15 .pick [.slot 12, .const (.one (.bool true)), .slot 14], ⟨some 16, .move, [.slot 15], [], [], none, true⟩, ⟨some 17, .move, [.slot 1], [], [], some (16, false), false⟩, ⟨some 18, .bin .gtr, [.slot 17, .const (.one (.int .i64 (16777215 : Int)))], [], [], some (16, false), false⟩, op 19 .pick [.slot 16, .const (.one (.bool true)), .slot 18]]) (.cond (.slot 19) (.seq (.region false [op 4 .move [.const (.one (.nil))]]) (.ret)) (.skip))) (.seq (.region false [mv 20 0, o1 21 (.conv .u8) 20, mv 22 1, o1 23 (.conv .u8) 22, mv 24 1, op 25 (.bin .shr) [.slot 24, .const (.one (.int .u64 (8 : Int)))], o1 26 (.conv .u8) 25, mv 27 1, op 28 (.bin .shr) [.slot 27, .const (.one (.int .u64 (16 : Int)))], o1 29 (.conv .u8) 28, ow 30 (.buildSlice false 0 1 (.int .u8) 5 [(0, 1), (1, 1), (2, 1), (3, 1), (4, 1)] [.int .u8 (0 : Int)]) [.const (.one (.int .u8 (85 : Int))), .slot 21, .slot 23, .slot 26, .slot 29] [0] [0], mv 5 30]) (.seq (.region false [mv 31 5, mv 32 5, ow 33 (.call ⟨8, vs 1, no 1, [.val false 1], ims 1, true⟩) [.slot 32] [0] [], o1 34 (.conv .u8) 33, ow 35 (.buildSlice false 1 1 (.int .u8) 1 [(0, 1)] [.int .u8 (0 : Int)]) [.slot 34] [1] [1], ow 36 (.append false 0 1 (.int .u8)) [.slot 31, .slot 35] [0, 1] [0], mv 4 36]) (.ret)))) }
def impl_LinkFrame.env (N : Nat) : Env := envOf (tbl [(8, impl_Checksum.fs N)] noFS)
def impl_LinkFrame.F (N : Nat) (x : Int × Int) : Option (List Int) := XFunc.run impl_LinkFrame.x (impl_LinkFrame.env N) N x
def impl_LinkFrame.fs (N : Nat) : FS := { arg := .pair (.int .i64) (.int .i64), ret := .list (.int .u8), fresh := true, F := impl_LinkFrame.F N }

theorem impl_LinkFrame.F_eq (N : Nat) (number : Int) (mask : Int) : impl_LinkFrame.F N (number, mask) =
    bif decide (number < (0 : Int)) then
      some ([] : List Int)
    else
      bif decide (number > (255 : Int)) then
        some ([] : List Int)
      else
        bif decide (mask < (0 : Int)) then
          some ([] : List Int)
        else
          bif decide (mask > (16777215 : Int)) then
            some ([] : List Int)
          else
            bindO (impl_Checksum.F N ([(85 : Int), IntKind.wrap .u8 number, IntKind.wrap .u8 mask, IntKind.wrap .u8 (shiftR .i64 mask (8 : Int)), IntKind.wrap .u8 (shiftR .i64 mask (16 : Int))] : List Int)) fun r1 =>
            bif decide (List.length ([(85 : Int), IntKind.wrap .u8 number, IntKind.wrap .u8 mask, IntKind.wrap .u8 (shiftR .i64 mask (8 : Int)), IntKind.wrap .u8 (shiftR .i64 mask (16 : Int))] : List Int) + List.length ([IntKind.wrap .u8 r1] : List Int) ≤ maxN) then
            some (([(85 : Int), IntKind.wrap .u8 number, IntKind.wrap .u8 mask, IntKind.wrap .u8 (shiftR .i64 mask (8 : Int)), IntKind.wrap .u8 (shiftR .i64 mask (16 : Int))] : List Int) ++ ([IntKind.wrap .u8 r1] : List Int))
            else none := by kernel_rfl

def impl_ReadFrame.x : XFunc := { nslots := 39, nobj := 0, pars := [.val false 1], rowsIn := [none], rets := [.tmp 2 false 1, .tmp 3 false 1, .tmp 4 false 1], outs := [.imm, .imm, .imm], fresh := true, arg := .list (.int .u8), ret := .pair (.int .i64) (.pair (.int .i64) (.bool)), body := .seq (.region false [op 2 .move [.const (.one (.int .i64 (0 : Int)))], op 3 .move [.const (.one (.int .i64 (0 : Int)))], op 4 .move [.const (.one (.bool false))]]) (.seq (.seq (.region false [mv 7 0, o1 8 .len 7, op 9 (.bin .neq) [.slot 8, .const (.one (.int .i64 (6 : Int)))]]) (.cond (.slot 9) (.seq (.region false [op 2 .move [.const (.one (.int .i64 (0 : Int)))], op 3 .move [.const (.one (.int .i64 (0 : Int)))], op 4 .move [.const (.one (.bool false))]]) (.ret)) (.skip))) (.seq (.region true [mv 10 0, op 11 (.indexAddr (.int .u8)) [.slot 10, .const (.one (.int .i64 (1 : Int)))], o1 12 (.load false 1) 11, o1 13 (.conv .i64) 12, mv 14 0, op 15 (.indexAddr (.int .u8)) [.slot 14, .const (.one (.int .i64 (2 : Int)))], o1 16 (.load false 1) 15, o1 17 (.conv .i64) 16, mv 18 0, op 19 (.indexAddr (.int .u8)) [.slot 18, .const (.one (.int .i64 (3 : Int)))], o1 20 (.load false 1) 19, o1 21 (.conv .i64) 20, op 22 (.bin .shl) [.slot 21, .const (.one (.int .u64 (8 : Int)))], o2 23 (.bin .or) 17 22, mv 24 0, op 25 (.indexAddr (.int .u8)) [.slot 24, .const (.one (.int .i64 (4 : Int)))], o1 26 (.load false 1) 25, o1 27 (.conv .i64) 26, op 28 (.bin .shl) [.slot 27, .const (.one (.int .u64 (16 : Int)))], o2 29 (.bin .or) 23 28, mv 5 13, mv 6 29]) (.seq (.seq (.region true [mv 30 5, mv 31 6, o2 32 (.call ⟨23, vs 2, no 2, [.val false 1], ims 1, true⟩) 30 31, o1 33 .b2s 32, mv 34 0, o1 35 .b2s 34, o2 36 (.bin .neq) 33 35]) (.cond (.slot 36) (.seq (.region false [op 2 .move [.const (.one (.int .i64 (0 : Int)))], op 3 .move [.const (.one (.int .i64 (0 : Int)))], op 4 .move [.const (.one (.bool false))]]) (.ret)) (.skip))) (.seq (.region false [mv 37 5, mv 38 6, mv 2 37, mv 3 38, op 4 .move [.const (.one (.bool true))]]) (.ret))))) }
def impl_ReadFrame.env (N : Nat) : Env := envOf (tbl [(23, impl_LinkFrame.fs N)] noFS)
def impl_ReadFrame.F (N : Nat) (x : List Int) : Option (Int × Int × Bool) := XFunc.run impl_ReadFrame.x (impl_ReadFrame.env N) N x
def impl_ReadFrame.fs (N : Nat) : FS := { arg := .list (.int .u8), ret := .pair (.int .i64) (.pair (.int .i64) (.bool)), fresh := true, F := impl_ReadFrame.F N }

theorem impl_ReadFrame.F_eq (N : Nat) (b : List Int) : impl_ReadFrame.F N b =
    bif (List.length b : Int) != (6 : Int) then
      some ((0 : Int), ((0 : Int), false))
    else
      bif inRange (1 : Int) (List.length b) then
      bif inRange (2 : Int) (List.length b) then
      bif inRange (3 : Int) (List.length b) then
      bif inRange (4 : Int) (List.length b) then
      bindO (impl_LinkFrame.F N (IntKind.wrap .i64 (nth (0 : Int) b (1 : Int)), bitOr .i64 (bitOr .i64 (IntKind.wrap .i64 (nth (0 : Int) b (2 : Int))) (shiftL .i64 (IntKind.wrap .i64 (nth (0 : Int) b (3 : Int))) (8 : Int))) (shiftL .i64 (IntKind.wrap .i64 (nth (0 : Int) b (4 : Int))) (16 : Int)))) fun r1 =>
      bif !((bytesOf r1) == (bytesOf b)) then
        some ((0 : Int), ((0 : Int), false))
      else
        some (IntKind.wrap .i64 (nth (0 : Int) b (1 : Int)), (bitOr .i64 (bitOr .i64 (IntKind.wrap .i64 (nth (0 : Int) b (2 : Int))) (shiftL .i64 (IntKind.wrap .i64 (nth (0 : Int) b (3 : Int))) (8 : Int))) (shiftL .i64 (IntKind.wrap .i64 (nth (0 : Int) b (4 : Int))) (16 : Int)), true))
      else none
      else none
      else none
      else none := by kernel_rfl

def laws_FnExactReadFrame.x : XFunc := { nslots := 46, nobj := 0, pars := [.val false 1], rowsIn := [none], rets := [.tmp 2 false 1], outs := [.imm], fresh := true, arg := .list (.int .u8), ret := .bool, body := .seq (.region false [op 2 .move [.const (.one (.bool false))]]) (.seq (.seq (.region false [mv 10 0, o1 11 .len 10, op 12 (.bin .gtr) [.slot 11, .const (.one (.int .i64 (1048576 : Int)))]]) (.cond (.slot 12) (.seq (.region false [op 2 .move [.const (.one (.bool true))]]) (.ret)) (.skip))) (.seq (.region false [mv 14 0, o1 15 (.call ⟨6, vs 1, no 1, [.val false 1], ims 1, true⟩) 14, o1 16 (.call ⟨22, vs 1, no 1, [.val false 1, .val false 1, .val false 1], ims 3, true⟩) 15, mv 13 16, o1 17 (.extract 0) 13, o1 18 (.extract 1) 13, o1 19 (.extract 2) 13, mv 3 17, mv 4 18, mv 5 19]) (.seq (.region false [mv 20 0, o1 21 (.call ⟨6, vs 1, no 1, [.val false 1], ims 1, true⟩) 20, mv 6 21]) (.seq (.region false [mv 23 6, o1 24 (.call ⟨24, vs 1, no 1, [.val false 1, .val false 1, .val false 1], ims 3, true⟩) 23, mv 22 24, o1 25 (.extract 0) 22, o1 26 (.extract 1) 22, o1 27 (.extract 2) 22, mv 7 25, mv 8 26, mv 9 27]) (.seq (.seq (.region false [mv 28 7, mv 29 3, o2 30 (.bin .neq) 28 29, ⟨some 31, .move, [.slot 30], [], [], none, true⟩, ⟨some 32, .move, [.slot 8], [], [], some (31, false), false⟩, ⟨some 33, .move, [.slot 4], [], [], some (31, false), false⟩, ⟨some 34, .bin .neq, [.slot 32, .slot 33], [], [], some (31, false), false⟩, op 35 .pick [.slot 31, .const (.one (.bool true)), .slot 34], ⟨some 36, .move, [.slot 35], [], [], none, true⟩, ⟨some 37, .move, [.slot 9], [], [], some (36, false), false⟩, ⟨some 38, .move, [.slot 5], [], [], some (36, false), false⟩, ⟨some 39, .eqBool true, [.slot 37, .slot 38], [], [], some (36, false), false⟩, op 40 .pick [.slot 36, .const (.one (.bool true)), .slot 39]]) (.cond (.slot 40) (.seq (.region false [op 2 .move [.const (.one (.bool false))]]) (.ret)) (.skip))) (.seq (.seq (.region false [mv 41 6, mv 42 0, o1 43 (.call ⟨6, vs 1, no 1, [.val false 1], ims 1, true⟩) 42, o2 44 (.call ⟨9, vs 2, no 2, [.val false 1], ims 1, true⟩) 41 43, o1 45 .not 44]) (.cond (.slot 45) (.seq (.region false [op 2 .move [.const (.one (.bool false))]]) (.ret)) (.skip))) (.seq (.region false [op 2 .move [.const (.one (.bool true))]]) (.ret)))))))) }
def laws_FnExactReadFrame.env (N : Nat) : Env := envOf (tbl [(24, impl_ReadFrame.fs N), (9, laws_eqByteS.fs N), (6, laws_toByteS.fs N), (22, spec_ReadFrame.fs N)] noFS)
def laws_FnExactReadFrame.F (N : Nat) (x : List Int) : Option Bool := XFunc.run laws_FnExactReadFrame.x (laws_FnExactReadFrame.env N) N x
def laws_FnExactReadFrame.fs (N : Nat) : FS := { arg := .list (.int .u8), ret := .bool, fresh := true, F := laws_FnExactReadFrame.F N }

theorem laws_FnExactReadFrame.F_eq (N : Nat) (aB : List Int) : laws_FnExactReadFrame.F N aB =
    bif decide ((List.length aB : Int) > (1048576 : Int)) then
      some true
    else
      bindO (laws_toByteS.F N aB) fun r1 =>
      bindO (spec_ReadFrame.F N r1) fun r2 =>
      bindO (laws_toByteS.F N aB) fun r3 =>
      bindO (impl_ReadFrame.F N r3) fun r4 =>
      bif r4.1 != r2.1 then
        some false
      else
        bif r4.2.1 != r2.2.1 then
          some false
        else
          bif r4.2.2 != r2.2.2 then
            some false
          else
            bindO (laws_toByteS.F N aB) fun r5 =>
            bindO (laws_eqByteS.F N (r3, r5)) fun r6 =>
            bif !r6 then
              some false
            else
              some true := by kernel_rfl

def spec_LinkFrame.x : XFunc := { nslots := 34, nobj := 3, pars := [.val false 1, .val false 1], rowsIn := [none, none], rets := [.tmp 4 false 1], outs := [.own 1], fresh := true, arg := .pair (.int .i64) (.int .i64), ret := .list (.int .u8), body := .seq (.region false [op 4 .move [.const (.one (.nil))]]) (.seq (.seq (.region false [mv 6 0, op 7 (.call ⟨1, vs 3, no 3, [.val false 1], ims 1, true⟩) [.slot 6, .const (.one (.int .i64 (0 : Int))), .const (.one (.int .i64 (255 : Int)))], o1 8 .not 7, ⟨some 9, .move, [.slot 8], [], [], none, true⟩, ⟨some 10, .move, [.slot 1], [], [], some (9, false), false⟩, ⟨some 11, .call ⟨1, vs 3, no 3, [.val false 1], ims 1, true⟩, [.slot 10, .const (.one (.int .i64 (0 : Int))), .const (.one (.int .i64 (16777215 : Int)))], [], [], some (9, false), false⟩, ⟨some 12, .not, [.slot 11], [], [], some (9, false), false⟩, op 13 .pick [.slot 9, .const (.one (.bool true)), .slot 12]]) (.cond (.slot 13) (.seq (.region false [ow 14 (.buildSlice false 0 1 (.int .u8) 0 [] [.int .u8 (0 : Int)]) [] [0] [0], mv 4 14]) (.ret)) (.skip))) (.seq (.region false [mv 15 0, o1 16 (.conv .u8) 15, mv 17 1, op 18 (.bin .rem) [.slot 17, .const (.one (.int .i64 (256 : Int)))], o1 19 (.conv .u8) 18, mv 20 1, op 21 (.bin .quo) [.slot 20, .const (.one (.int .i64 (256 : Int)))], op 22 (.bin .rem) [.slot 21, .const (.one (.int .i64 (256 : Int)))], o1 23 (.conv .u8) 22, mv 24 1, op 25 (.bin .quo) [.slot 24, .const (.one (.int .i64 (65536 : Int)))], o1 26 (.conv .u8) 25, ow 27 (.buildSlice false 1 1 (.int .u8) 5 [(0, 1), (1, 1), (2, 1), (3, 1), (4, 1)] [.int .u8 (0 : Int)]) [.const (.one (.int .u8 (85 : Int))), .slot 16, .slot 19, .slot 23, .slot 26] [1] [1], mv 5 27]) (.seq (.region false [mv 28 5, mv 29 5, ow 30 (.call ⟨7, vs 1, no 1, [.val false 1], ims 1, true⟩) [.slot 29] [1] [], o1 31 (.conv .u8) 30, ow 32 (.buildSlice false 2 1 (.int .u8) 1 [(0, 1)] [.int .u8 (0 : Int)]) [.slot 31] [2] [2], ow 33 (.append false 1 1 (.int .u8)) [.slot 28, .slot 32] [1, 2] [1], mv 4 33]) (.ret)))) }
def spec_LinkFrame.env (N : Nat) : Env := envOf (tbl [(7, spec_Checksum.fs N), (1, spec_l1In.fs N)] noFS)
def spec_LinkFrame.F (N : Nat) (x : Int × Int) : Option (List Int) := XFunc.run spec_LinkFrame.x (spec_LinkFrame.env N) N x
def spec_LinkFrame.fs (N : Nat) : FS := { arg := .pair (.int .i64) (.int .i64), ret := .list (.int .u8), fresh := true, F := spec_LinkFrame.F N }

theorem spec_LinkFrame.F_eq (N : Nat) (number : Int) (mask : Int) : spec_LinkFrame.F N (number, mask) =
    bindO (spec_l1In.F N (number, ((0 : Int), (255 : Int)))) fun r1 =>
    bif !r1 then
      some ([] : List Int)
    else
      bindO (spec_l1In.F N (mask, ((0 : Int), (16777215 : Int)))) fun r2 =>
      bif !r2 then
        some ([] : List Int)
      else
        bindO (spec_Checksum.F N ([(85 : Int), IntKind.wrap .u8 number, IntKind.wrap .u8 (Int.tmod mask (256 : Int)), IntKind.wrap .u8 (Int.tmod (quoI .i64 mask (256 : Int)) (256 : Int)), IntKind.wrap .u8 (quoI .i64 mask (65536 : Int))] : List Int)) fun r3 =>
        bif decide (List.length ([(85 : Int), IntKind.wrap .u8 number, IntKind.wrap .u8 (Int.tmod mask (256 : Int)), IntKind.wrap .u8 (Int.tmod (quoI .i64 mask (256 : Int)) (256 : Int)), IntKind.wrap .u8 (quoI .i64 mask (65536 : Int))] : List Int) + List.length ([IntKind.wrap .u8 r3] : List Int) ≤ maxN) then
        some (([(85 : Int), IntKind.wrap .u8 number, IntKind.wrap .u8 (Int.tmod mask (256 : Int)), IntKind.wrap .u8 (Int.tmod (quoI .i64 mask (256 : Int)) (256 : Int)), IntKind.wrap .u8 (quoI .i64 mask (65536 : Int))] : List Int) ++ ([IntKind.wrap .u8 r3] : List Int))
        else none := by kernel_rfl

def laws_FnExactLinkFrame.x : XFunc := { nslots := 46, nobj := 1, pars := [.val false 1, .val false 1], rowsIn := [none, none], rets := [.tmp 4 false 1], outs := [.imm], fresh := true, arg := .pair (.int .i64) (.int .i64), ret := .bool, body := .seq (.region false [op 4 .move [.const (.one (.bool false))]]) (.seq (.region false [mv 10 0, mv 11 1, o2 12 (.call ⟨26, vs 2, no 2, [.val false 1], ims 1, true⟩) 10 11, mv 5 12]) (.seq (.region false [mv 13 0, mv 14 1, ow 15 (.call ⟨23, vs 2, no 2, [.val false 1], [.own 0 1], true⟩) [.slot 13, .slot 14] [0] [0], mv 6 15]) (.seq (.seq (.region false [mv 16 6, mv 17 5, ow 18 (.call ⟨9, vs 2, no 2, [.val false 1], ims 1, true⟩) [.slot 16, .slot 17] [0] [], o1 19 .not 18]) (.cond (.slot 19) (.seq (.region false [op 4 .move [.const (.one (.bool false))]]) (.ret)) (.skip))) (.seq (.region false [op 7 .move [.const (.one (.int .i64 (1 : Int)))]]) (.seq (.region false [mv 20 6, mv 21 7, ow 22 (.call ⟨12, vs 2, [some (0, 1), none], [.val false 1], [.imm, .back 0], false⟩) [.slot 20, .slot 21] [0] [0], mv 7 22]) (.seq (.region false [op 8 .move [.const (.one (.int .i64 (1 : Int)))]]) (.seq (.region false [mv 23 6, mv 24 8, ow 25 (.call ⟨14, vs 2, no 2, [.val false 1], ims 1, true⟩) [.slot 23, .slot 24] [0] [], mv 8 25]) (.seq (.seq (.region false [mv 26 8, op 27 (.bin .lss) [.slot 26, .const (.one (.int .i64 (0 : Int)))]]) (.cond (.slot 27) (.seq (.region false [op 4 .move [.const (.one (.bool false))]]) (.ret)) (.skip))) (.seq (.seq (.region false [mv 28 8, mv 29 7, o2 30 (.bin .neq) 28 29]) (.cond (.slot 30) (.seq (.region false [op 4 .move [.const (.one (.bool false))]]) (.ret)) (.skip))) (.seq (.region false [mv 31 0, mv 32 1, o2 33 (.call ⟨23, vs 2, no 2, [.val false 1], ims 1, true⟩) 31 32, mv 9 33]) (.seq (.seq (.region false [mv 34 9, mv 35 5, o2 36 (.call ⟨9, vs 2, no 2, [.val false 1], ims 1, true⟩) 34 35, o1 37 .not 36]) (.cond (.slot 37) (.seq (.region false [op 4 .move [.const (.one (.bool false))]]) (.ret)) (.skip))) (.seq (.region false [op 8 .move [.const (.one (.int .i64 (1 : Int)))]]) (.seq (.region false [mv 38 6, mv 39 8, ow 40 (.call ⟨14, vs 2, no 2, [.val false 1], ims 1, true⟩) [.slot 38, .slot 39] [0] [], mv 8 40]) (.seq (.seq (.region false [mv 41 8, op 42 (.bin .lss) [.slot 41, .const (.one (.int .i64 (0 : Int)))]]) (.cond (.slot 42) (.seq (.region false [op 4 .move [.const (.one (.bool false))]]) (.ret)) (.skip))) (.seq (.seq (.region false [mv 43 8, mv 44 7, o2 45 (.bin .neq) 43 44]) (.cond (.slot 45) (.seq (.region false [op 4 .move [.const (.one (.bool false))]]) (.ret)) (.skip))) (.seq (.region false [op 4 .move [.const (.one (.bool true))]]) (.ret))))))))))))))))) }
def laws_FnExactLinkFrame.env (N : Nat) : Env := envOf (tbl [(23, impl_LinkFrame.fs N), (9, laws_eqByteS.fs N), (14, laws_heldByteS.fs N), (12, laws_markByteS.fs N), (26, spec_LinkFrame.fs N)] noFS)
def laws_FnExactLinkFrame.F (N : Nat) (x : Int × Int) : Option Bool := XFunc.run laws_FnExactLinkFrame.x (laws_FnExactLinkFrame.env N) N x
def laws_FnExactLinkFrame.fs (N : Nat) : FS := { arg := .pair (.int .i64) (.int .i64), ret := .bool, fresh := true, F := laws_FnExactLinkFrame.F N }

theorem laws_FnExactLinkFrame.F_eq (N : Nat) (aNumber : Int) (aMask : Int) : laws_FnExactLinkFrame.F N (aNumber, aMask) =
    bindO (spec_LinkFrame.F N (aNumber, aMask)) fun r1 =>
    bindO (impl_LinkFrame.F N (aNumber, aMask)) fun r2 =>
    bindO (laws_eqByteS.F N (r2, r1)) fun r3 =>
    bif !r3 then
      some false
    else
      bindO (laws_markByteS.F N (r2, (1 : Int))) fun r4 =>
      bindO (laws_heldByteS.F N (r4.2, (1 : Int))) fun r5 =>
      bif decide (r5 < (0 : Int)) then
        some false
      else
        bif r5 != r4.1 then
          some false
        else
          bindO (impl_LinkFrame.F N (aNumber, aMask)) fun r6 =>
          bindO (laws_eqByteS.F N (r6, r1)) fun r7 =>
          bif !r7 then
            some false
          else
            bindO (laws_heldByteS.F N (r4.2, (1 : Int))) fun r8 =>
            bif decide (r8 < (0 : Int)) then
              some false
            else
              bif r8 != r4.1 then
                some false
              else
                some true := by kernel_rfl

end Go.Kb
