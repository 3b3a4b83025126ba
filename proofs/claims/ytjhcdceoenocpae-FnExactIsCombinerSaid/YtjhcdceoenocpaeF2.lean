/- The texts of functions, printed by a program, and the equations of their runs. -/
import Derived.Test.YtjhcdceoenocpaeF1
import Derived.KernelRfl
namespace Go.Kb
def laws_big.x : XFunc := { nslots := 6, nobj := 0, pars := [.val false 1], rowsIn := [none], rets := [.tmp 2 false 1], outs := [.imm], fresh := true, arg := .list (.int .u8), ret := .bool, body := .seq (.region false [op 2 .move [.const (.one (.bool false))]]) (.seq (.region false [mv 3 0, o1 4 .len 3, op 5 (.bin .gtr) [.slot 4, .const (.one (.int .i64 (1048576 : Int)))], mv 2 5]) (.ret)) }
def laws_big.env (_ : Nat) : Env := envOf (tbl [] noFS)
def laws_big.F (N : Nat) (x : List Int) : Option Bool := XFunc.run laws_big.x (laws_big.env N) N x
def laws_big.fs (N : Nat) : FS := { arg := .list (.int .u8), ret := .bool, fresh := true, F := laws_big.F N }

theorem laws_big.F_eq (N : Nat) (code : List Int) : laws_big.F N code =
    some (decide ((List.length code : Int) > (1048576 : Int))) := by kernel_rfl

def spec_l1New.c1 : XCode := .seq (.seq (.region false [mv 8 4, mv 9 0, o1 10 .len 9, o2 11 (.bin .lss) 8 10, ⟨some 12, .move, [.slot 11], [], [], none, true⟩, ⟨some 13, .move, [.slot 4], [], [], some (12, true), false⟩, ⟨some 14, .bin .lss, [.slot 13, .const (.one (.int .i64 (4000 : Int)))], [], [], some (12, true), false⟩, op 15 .pick [.slot 12, .slot 14, .const (.one (.bool false))]]) (.cond (.slot 15) (.skip) (.exit 0))) (.seq (.block 1 (.region false [mv 18 3, op 19 (.bin .mul) [.slot 18, .const (.one (.int .i64 (131 : Int)))], mv 20 0, mv 21 4, o2 22 (.indexAddr (.int .u8)) 20 21, o1 23 (.load false 1) 22, o1 24 (.conv .i64) 23, o2 25 (.bin .add) 19 24, op 26 (.bin .add) [.slot 25, .const (.one (.int .i64 (7 : Int)))], op 27 (.bin .and) [.slot 26, .const (.one (.int .i64 (1073741823 : Int)))], mv 3 27])) (.region false [mv 16 4, op 17 (.bin .add) [.slot 16, .const (.one (.int .i64 (1 : Int)))], mv 4 17]))
def spec_l1New.c2 : XCode := .seq (.region false [mv 28 0, mv 29 3, o2 30 (.build [.nil, .int .i64 (0 : Int), .int .i64 (0 : Int)] [(0, 1), (2, 1)]) 28 29, ow 31 (.box 0) [.slot 30] [0] [0], mv 2 31]) (.ret)
def spec_l1New.x : XFunc := { nslots := 32, nobj := 1, pars := [.val false 1], rowsIn := [none], rets := [.ptr 2 3], outs := [.imm, .imm, .imm], fresh := false, arg := .list (.int .u8), ret := .pair (.list (.int .u8)) (.pair (.int .i64) (.int .i64)), body := .seq (.region false [op 2 .move [.const (.junk)]]) (.seq (.region false [mv 5 0, o1 6 .len 5, op 7 (.bin .add) [.const (.one (.int .i64 (10729 : Int))), .slot 6], mv 3 7]) (.seq (.seq (.region false [op 4 .move [.const (.one (.int .i64 (0 : Int)))]]) (.block 0 (.loop [.keep [0, 3, 4], .drop 0, .norm] (spec_l1New.c1)))) (spec_l1New.c2))) }
def spec_l1New.env (_ : Nat) : Env := envOf (tbl [] noFS)
def spec_l1New.F (N : Nat) (x : List Int) : Option ((List Int) × Int × Int) := XFunc.run spec_l1New.x (spec_l1New.env N) N x
def spec_l1New.fs (N : Nat) : FS := { arg := .list (.int .u8), ret := .pair (.list (.int .u8)) (.pair (.int .i64) (.int .i64)), fresh := false, F := spec_l1New.F N }
def spec_l1New.k2 (N : Nat) : Ex → S → Option ((List Int) × Int × Int) := seqK (fun s => XCode.runK (spec_l1New.env N) N (spec_l1New.c2) s (XFunc.endK spec_l1New.x)) (XFunc.endK spec_l1New.x)
def spec_l1New.k1 (N : Nat) : Ex → S → Option ((List Int) × Int × Int) := blockK 0 (spec_l1New.k2 N)
def spec_l1New.L1 (N : Nat) (n1 : Nat) (code : List Int) (h : Int) (i : Int) : Option ((List Int) × Int × Int) := loopK [.keep [0, 3, 4], .drop 0, .norm] (fun s k => XCode.runK (spec_l1New.env N) N spec_l1New.c1 s k) n1
  { t := [.one (.sl false (.int .u8) code), .junk, .junk, .one (.int .i64 h), .one (.int .i64 i), .junk, .junk, .junk, .junk, .junk, .junk, .junk, .junk, .junk, .junk, .junk, .junk, .junk, .junk, .junk, .junk, .junk, .junk, .junk, .junk, .junk, .junk, .junk, .junk, .junk, .junk, .junk], h := [.absent 0] }
  (spec_l1New.k1 N)

theorem spec_l1New.L1_eq (N : Nat) (n1 : Nat) (code : List Int) (h : Int) (i : Int) : spec_l1New.L1 N (n1 + 1) code h i =
    bif decide (i < (List.length code : Int)) then
      bif decide (i < (4000 : Int)) then
        bif inRange i (List.length code) then
        spec_l1New.L1 N n1 code (bitAnd .i64 (IntKind.wrap .i64 ((IntKind.wrap .i64 ((IntKind.wrap .i64 (h * (131 : Int))) + (IntKind.wrap .i64 (nth (0 : Int) code i)))) + (7 : Int))) (1073741823 : Int)) (IntKind.wrap .i64 (i + (1 : Int)))
        else none
      else
        some (code, ((0 : Int), h))
    else
      some (code, ((0 : Int), h)) := by kernel_rfl
theorem spec_l1New.L1_zero (N : Nat) (code : List Int) (h : Int) (i : Int) : spec_l1New.L1 N 0 code h i = none := rfl
theorem spec_l1New.F_eq (N : Nat) (code : List Int) : spec_l1New.F N code =
    spec_l1New.L1 N N code (IntKind.wrap .i64 ((10729 : Int) + (List.length code : Int))) (0 : Int) := by kernel_rfl

def spec_l24New.x : XFunc := { nslots := 19, nobj := 1, pars := [.val false 1, .val false 1], rowsIn := [none, none], rets := [.ptr 4 3], outs := [.imm, .imm, .imm], fresh := false, arg := .pair (.list (.int .u8)) (.int .i64), ret := .pair (.list (.int .u8)) (.pair (.int .i64) (.int .i64)), body := .seq (.region false [op 4 .move [.const (.junk)]]) (.seq (.region false [mv 6 0, ow 7 (.call ⟨236, vs 1, no 1, [.box 0 3], ims 3, false⟩) [.slot 6] [0] [0], mv 5 7]) (.seq (.region false [mv 8 5, mv 9 5, o1 10 .nilck 9, o1 11 (.fieldAddr 2) 10, ow 12 (.load false 1) [.slot 11] [0] [], mv 13 1, op 14 (.bin .mul) [.const (.one (.int .i64 (7919 : Int))), .slot 13], o2 15 (.bin .add) 12 14, o1 16 .nilck 8, o1 17 (.fieldAddr 2) 16, on (.store 1) [.slot 17, .slot 15] [0] [0]]) (.seq (.region false [mv 18 5, mv 4 18]) (.ret)))) }
def spec_l24New.env (N : Nat) : Env := envOf (tbl [(236, spec_l1New.fs N)] noFS)
def spec_l24New.F (N : Nat) (x : (List Int) × Int) : Option ((List Int) × Int × Int) := XFunc.run spec_l24New.x (spec_l24New.env N) N x
def spec_l24New.fs (N : Nat) : FS := { arg := .pair (.list (.int .u8)) (.int .i64), ret := .pair (.list (.int .u8)) (.pair (.int .i64) (.int .i64)), fresh := false, F := spec_l24New.F N }

theorem spec_l24New.F_eq (N : Nat) (code : List Int) (n_ : Int) : spec_l24New.F N (code, n_) =
    bindO (spec_l1New.F N code) fun r1 =>
    some (r1.1, (r1.2.1, IntKind.wrap .i64 (r1.2.2 + (IntKind.wrap .i64 ((7919 : Int) * n_))))) := by kernel_rfl

def spec_l1Byte.x : XFunc := { nslots := 58, nobj := 1, pars := [.box 0 3], rowsIn := [none, none, none], rets := [.tmp 2 false 1], outs := [.imm, .imm, .imm, .imm], fresh := false, arg := .pair (.list (.int .u8)) (.pair (.int .i64) (.int .i64)), ret := .pair (.int .i64) (.pair (.list (.int .u8)) (.pair (.int .i64) (.int .i64))), body := .seq (.region false [op 2 .move [.const (.one (.int .i64 (0 : Int)))]]) (.seq (.region false [mv 4 0, mv 5 0, o1 6 .nilck 5, o1 7 (.fieldAddr 2) 6, ow 8 (.load false 1) [.slot 7] [0] [], op 9 (.bin .mul) [.slot 8, .const (.one (.int .i64 (6364136223846793005 : Int)))], op 10 (.bin .add) [.slot 9, .const (.one (.int .i64 (1442695040888963407 : Int)))], o1 11 .nilck 4, o1 12 (.fieldAddr 2) 11, on (.store 1) [.slot 12, .slot 10] [0] [0]]) (.seq (.region true [mv 13 0, o1 14 .nilck 13, o1 15 (.fieldAddr 2) 14, ow 16 (.load false 1) [.slot 15] [0] [], op 17 (.bin .shr) [.slot 16, .const (.one (.int .u64 (33 : Int)))], mv 18 0, o1 19 .nilck 18, o1 20 (.fieldAddr 2) 19, ow 21 (.load false 1) [.slot 20] [0] [], op 22 (.bin .shr) [.slot 21, .const (.one (.int .u64 (45 : Int)))], o2 23 (.bin .xor) 17 22, op 24 (.bin .and) [.slot 23, .const (.one (.int .i64 (255 : Int)))], mv 3 24]) (.seq (.seq (.region true [mv 25 0, o1 26 .nilck 25, o1 27 (.fieldAddr 1) 26, ow 28 (.load false 1) [.slot 27] [0] [], mv 29 0, o1 30 .nilck 29, o1 31 (.fieldAddr 0) 30, ow 32 (.load false 1) [.slot 31] [0] [], o1 33 .len 32, o2 34 (.bin .lss) 28 33]) (.cond (.slot 34) (.seq (.region true [mv 35 3, mv 36 0, o1 37 .nilck 36, o1 38 (.fieldAddr 0) 37, ow 39 (.load false 1) [.slot 38] [0] [], mv 40 0, o1 41 .nilck 40, o1 42 (.fieldAddr 1) 41, ow 43 (.load false 1) [.slot 42] [0] [], o2 44 (.indexAddr (.int .u8)) 39 43, o1 45 (.load false 1) 44, o1 46 (.conv .i64) 45, o2 47 (.bin .add) 35 46, op 48 (.bin .and) [.slot 47, .const (.one (.int .i64 (255 : Int)))], mv 3 48]) (.region false [mv 49 0, mv 50 0, o1 51 .nilck 50, o1 52 (.fieldAddr 1) 51, ow 53 (.load false 1) [.slot 52] [0] [], op 54 (.bin .add) [.slot 53, .const (.one (.int .i64 (1 : Int)))], o1 55 .nilck 49, o1 56 (.fieldAddr 1) 55, on (.store 1) [.slot 56, .slot 54] [0] [0]])) (.skip))) (.seq (.region false [mv 57 3, mv 2 57]) (.ret))))) }
def spec_l1Byte.env (_ : Nat) : Env := envOf (tbl [] noFS)
def spec_l1Byte.F (N : Nat) (x : (List Int) × Int × Int) : Option (Int × (List Int) × Int × Int) := XFunc.run spec_l1Byte.x (spec_l1Byte.env N) N x
def spec_l1Byte.fs (N : Nat) : FS := { arg := .pair (.list (.int .u8)) (.pair (.int .i64) (.int .i64)), ret := .pair (.int .i64) (.pair (.list (.int .u8)) (.pair (.int .i64) (.int .i64))), fresh := false, F := spec_l1Byte.F N }

theorem spec_l1Byte.F_eq (N : Nat) (c : (List Int) × Int × Int) : spec_l1Byte.F N c =
    bif decide (c.2.1 < (List.length c.1 : Int)) then
      bif inRange c.2.1 (List.length c.1) then
      some (bitAnd .i64 (IntKind.wrap .i64 ((bitAnd .i64 (bitXor .i64 (shiftR .i64 (IntKind.wrap .i64 ((IntKind.wrap .i64 (c.2.2 * (6364136223846793005 : Int))) + (1442695040888963407 : Int))) (33 : Int)) (shiftR .i64 (IntKind.wrap .i64 ((IntKind.wrap .i64 (c.2.2 * (6364136223846793005 : Int))) + (1442695040888963407 : Int))) (45 : Int))) (255 : Int)) + (IntKind.wrap .i64 (nth (0 : Int) c.1 c.2.1)))) (255 : Int), (c.1, (IntKind.wrap .i64 (c.2.1 + (1 : Int)), IntKind.wrap .i64 ((IntKind.wrap .i64 (c.2.2 * (6364136223846793005 : Int))) + (1442695040888963407 : Int)))))
      else none
    else
      some (bitAnd .i64 (bitXor .i64 (shiftR .i64 (IntKind.wrap .i64 ((IntKind.wrap .i64 (c.2.2 * (6364136223846793005 : Int))) + (1442695040888963407 : Int))) (33 : Int)) (shiftR .i64 (IntKind.wrap .i64 ((IntKind.wrap .i64 (c.2.2 * (6364136223846793005 : Int))) + (1442695040888963407 : Int))) (45 : Int))) (255 : Int), (c.1, (c.2.1, IntKind.wrap .i64 ((IntKind.wrap .i64 (c.2.2 * (6364136223846793005 : Int))) + (1442695040888963407 : Int))))) := by kernel_rfl

def spec_l1Below.x : XFunc := { nslots := 37, nobj := 1, pars := [.box 0 3, .val false 1], rowsIn := [none, none, none, none], rets := [.tmp 4 false 1], outs := [.imm, .imm, .imm, .imm], fresh := false, arg := .pair (.pair (.list (.int .u8)) (.pair (.int .i64) (.int .i64))) (.int .i64), ret := .pair (.int .i64) (.pair (.list (.int .u8)) (.pair (.int .i64) (.int .i64))), body := .seq (.region false [op 4 .move [.const (.one (.int .i64 (0 : Int)))]]) (.seq (.seq (.region false [mv 9 1, op 10 (.bin .leq) [.slot 9, .const (.one (.int .i64 (0 : Int)))]]) (.cond (.slot 10) (.seq (.region false [op 4 .move [.const (.one (.int .i64 (0 : Int)))]]) (.ret)) (.skip))) (.seq (.seq (.region false [mv 11 1, op 12 (.bin .leq) [.slot 11, .const (.one (.int .i64 (256 : Int)))]]) (.cond (.slot 12) (.seq (.region false [mv 13 0, ow 14 (.call ⟨32, [.box 0 3], no 3, [.val false 1], ims 4, false⟩) [.slot 13] [0] [0], mv 15 1, o2 16 (.bin .rem) 14 15, mv 4 16]) (.ret)) (.skip))) (.seq (.region false [mv 17 0, ow 18 (.call ⟨32, [.box 0 3], no 3, [.val false 1], ims 4, false⟩) [.slot 17] [0] [0], mv 5 18]) (.seq (.region false [mv 19 0, ow 20 (.call ⟨32, [.box 0 3], no 3, [.val false 1], ims 4, false⟩) [.slot 19] [0] [0], mv 6 20]) (.seq (.region false [mv 21 0, ow 22 (.call ⟨32, [.box 0 3], no 3, [.val false 1], ims 4, false⟩) [.slot 21] [0] [0], mv 7 22]) (.seq (.region false [mv 23 0, ow 24 (.call ⟨32, [.box 0 3], no 3, [.val false 1], ims 4, false⟩) [.slot 23] [0] [0], mv 8 24]) (.seq (.region false [mv 25 5, op 26 (.bin .mul) [.slot 25, .const (.one (.int .i64 (16777216 : Int)))], mv 27 6, op 28 (.bin .mul) [.slot 27, .const (.one (.int .i64 (65536 : Int)))], o2 29 (.bin .add) 26 28, mv 30 7, op 31 (.bin .mul) [.slot 30, .const (.one (.int .i64 (256 : Int)))], o2 32 (.bin .add) 29 31, mv 33 8, o2 34 (.bin .add) 32 33, mv 35 1, o2 36 (.bin .rem) 34 35, mv 4 36]) (.ret)))))))) }
def spec_l1Below.env (N : Nat) : Env := envOf (tbl [(32, spec_l1Byte.fs N)] noFS)
def spec_l1Below.F (N : Nat) (x : ((List Int) × Int × Int) × Int) : Option (Int × (List Int) × Int × Int) := XFunc.run spec_l1Below.x (spec_l1Below.env N) N x
def spec_l1Below.fs (N : Nat) : FS := { arg := .pair (.pair (.list (.int .u8)) (.pair (.int .i64) (.int .i64))) (.int .i64), ret := .pair (.int .i64) (.pair (.list (.int .u8)) (.pair (.int .i64) (.int .i64))), fresh := false, F := spec_l1Below.F N }

theorem spec_l1Below.F_eq (N : Nat) (c : (List Int) × Int × Int) (n_ : Int) : spec_l1Below.F N (c, n_) =
    bif decide (n_ ≤ (0 : Int)) then
      some ((0 : Int), c)
    else
      bif decide (n_ ≤ (256 : Int)) then
        bindO (spec_l1Byte.F N c) fun r1 =>
        bif n_ != 0 then
        some (Int.tmod r1.1 n_, r1.2)
        else none
      else
        bindO (spec_l1Byte.F N c) fun r2 =>
        bindO (spec_l1Byte.F N r2.2) fun r3 =>
        bindO (spec_l1Byte.F N r3.2) fun r4 =>
        bindO (spec_l1Byte.F N r4.2) fun r5 =>
        bif n_ != 0 then
        some (Int.tmod (IntKind.wrap .i64 ((IntKind.wrap .i64 ((IntKind.wrap .i64 ((IntKind.wrap .i64 (r2.1 * (16777216 : Int))) + (IntKind.wrap .i64 (r3.1 * (65536 : Int))))) + (IntKind.wrap .i64 (r4.1 * (256 : Int))))) + r5.1)) n_, r5.2)
        else none := by kernel_rfl

def spec_MakeNumber.x : XFunc := { nslots := 12, nobj := 1, pars := [.val false 1, .val false 1, .val false 1], rowsIn := [none, none, none], rets := [.tmp 6 false 1], outs := [.imm], fresh := true, arg := .pair (.list (.int .u8)) (.pair (.int .i64) (.int .i64)), ret := .int .i64, body := .seq (.region false [op 6 .move [.const (.one (.int .i64 (0 : Int)))]]) (.seq (.region false [mv 7 0, mv 8 1, ow 9 (.call ⟨237, vs 2, no 2, [.box 0 3], ims 3, false⟩) [.slot 7, .slot 8] [0] [0], mv 10 2, ow 11 (.call ⟨33, [.box 0 3, .val false 1], no 4, [.val false 1], ims 4, false⟩) [.slot 9, .slot 10] [0] [0], mv 6 11]) (.ret)) }
def spec_MakeNumber.env (N : Nat) : Env := envOf (tbl [(33, spec_l1Below.fs N), (237, spec_l24New.fs N)] noFS)
def spec_MakeNumber.F (N : Nat) (x : (List Int) × Int × Int) : Option Int := XFunc.run spec_MakeNumber.x (spec_MakeNumber.env N) N x
def spec_MakeNumber.fs (N : Nat) : FS := { arg := .pair (.list (.int .u8)) (.pair (.int .i64) (.int .i64)), ret := .int .i64, fresh := true, F := spec_MakeNumber.F N }

theorem spec_MakeNumber.F_eq (N : Nat) (code : List Int) (place : Int) (n_ : Int) : spec_MakeNumber.F N (code, place, n_) =
    bindO (spec_l24New.F N (code, place)) fun r1 =>
    bindO (spec_l1Below.F N (r1, n_)) fun r2 =>
    some r2.1 := by kernel_rfl

def spec_l1PickInt.x : XFunc := { nslots := 12, nobj := 1, pars := [.box 0 3, .val false 1], rowsIn := [none, none, none, none], rets := [.tmp 4 false 1], outs := [.imm, .imm, .imm, .imm], fresh := false, arg := .pair (.pair (.list (.int .u8)) (.pair (.int .i64) (.int .i64))) (.list (.int .i64)), ret := .pair (.int .i64) (.pair (.list (.int .u8)) (.pair (.int .i64) (.int .i64))), body := .seq (.region false [op 4 .move [.const (.one (.int .i64 (0 : Int)))]]) (.seq (.region false [mv 5 1, mv 6 0, mv 7 1, o1 8 .len 7, ow 9 (.call ⟨33, [.box 0 3, .val false 1], no 4, [.val false 1], ims 4, false⟩) [.slot 6, .slot 8] [0] [0], o2 10 (.indexAddr (.int .i64)) 5 9, o1 11 (.load false 1) 10, mv 4 11]) (.ret)) }
def spec_l1PickInt.env (N : Nat) : Env := envOf (tbl [(33, spec_l1Below.fs N)] noFS)
def spec_l1PickInt.F (N : Nat) (x : ((List Int) × Int × Int) × List Int) : Option (Int × (List Int) × Int × Int) := XFunc.run spec_l1PickInt.x (spec_l1PickInt.env N) N x
def spec_l1PickInt.fs (N : Nat) : FS := { arg := .pair (.pair (.list (.int .u8)) (.pair (.int .i64) (.int .i64))) (.list (.int .i64)), ret := .pair (.int .i64) (.pair (.list (.int .u8)) (.pair (.int .i64) (.int .i64))), fresh := false, F := spec_l1PickInt.F N }

theorem spec_l1PickInt.F_eq (N : Nat) (c : (List Int) × Int × Int) (list : List Int) : spec_l1PickInt.F N (c, list) =
    bindO (spec_l1Below.F N (c, (List.length list : Int))) fun r1 =>
    bif inRange r1.1 (List.length list) then
    some (nth (0 : Int) list r1.1, r1.2)
    else none := by kernel_rfl

def spec_l15Mask.x : XFunc := { nslots := 8, nobj := 2, pars := [.box 0 3], rowsIn := [none, none, none], rets := [.tmp 2 false 1], outs := [.imm, .imm, .imm, .imm], fresh := false, arg := .pair (.list (.int .u8)) (.pair (.int .i64) (.int .i64)), ret := .pair (.int .i64) (.pair (.list (.int .u8)) (.pair (.int .i64) (.int .i64))), body := .seq (.region false [op 2 .move [.const (.one (.int .i64 (0 : Int)))]]) (.seq (.region false [mv 3 0, mv 4 0, ow 5 (.call ⟨33, [.box 0 3, .val false 1], no 4, [.val false 1], ims 4, false⟩) [.slot 4, .const (.one (.int .i64 (16777216 : Int)))] [0] [0], op 6 (.buildSlice true 1 2 (.int .i64) 8 [(0, 1), (1, 1), (2, 1), (3, 1), (4, 1), (5, 1), (6, 1), (7, 1)] [.int .i64 (0 : Int)]) [.const (.one (.int .i64 (0 : Int))), .const (.one (.int .i64 (1 : Int))), .const (.one (.int .i64 (255 : Int))), .const (.one (.int .i64 (256 : Int))), .const (.one (.int .i64 (65535 : Int))), .const (.one (.int .i64 (65536 : Int))), .const (.one (.int .i64 (16777215 : Int))), .slot 5], ow 7 (.call ⟨46, [.box 0 3, .val false 1], no 4, [.val false 1], ims 4, false⟩) [.slot 3, .slot 6] [0] [0], mv 2 7]) (.ret)) }
def spec_l15Mask.env (N : Nat) : Env := envOf (tbl [(33, spec_l1Below.fs N), (46, spec_l1PickInt.fs N)] noFS)
def spec_l15Mask.F (N : Nat) (x : (List Int) × Int × Int) : Option (Int × (List Int) × Int × Int) := XFunc.run spec_l15Mask.x (spec_l15Mask.env N) N x
def spec_l15Mask.fs (N : Nat) : FS := { arg := .pair (.list (.int .u8)) (.pair (.int .i64) (.int .i64)), ret := .pair (.int .i64) (.pair (.list (.int .u8)) (.pair (.int .i64) (.int .i64))), fresh := false, F := spec_l15Mask.F N }

theorem spec_l15Mask.F_eq (N : Nat) (c : (List Int) × Int × Int) : spec_l15Mask.F N c =
    bindO (spec_l1Below.F N (c, (16777216 : Int))) fun r1 =>
    bindO (spec_l1PickInt.F N (r1.2, ([(0 : Int), (1 : Int), (255 : Int), (256 : Int), (65535 : Int), (65536 : Int), (16777215 : Int), r1.1] : List Int))) fun r2 =>
    some r2 := by kernel_rfl

def spec_MakeMask.x : XFunc := { nslots := 9, nobj := 1, pars := [.val false 1, .val false 1], rowsIn := [none, none], rets := [.tmp 4 false 1], outs := [.imm], fresh := true, arg := .pair (.list (.int .u8)) (.int .i64), ret := .int .i64, body := .seq (.region false [op 4 .move [.const (.one (.int .i64 (0 : Int)))]]) (.seq (.region false [mv 5 0, mv 6 1, ow 7 (.call ⟨237, vs 2, no 2, [.box 0 3], ims 3, false⟩) [.slot 5, .slot 6] [0] [0], ow 8 (.call ⟨87, [.box 0 3], no 3, [.val false 1], ims 4, false⟩) [.slot 7] [0] [0], mv 4 8]) (.ret)) }
def spec_MakeMask.env (N : Nat) : Env := envOf (tbl [(87, spec_l15Mask.fs N), (237, spec_l24New.fs N)] noFS)
def spec_MakeMask.F (N : Nat) (x : (List Int) × Int) : Option Int := XFunc.run spec_MakeMask.x (spec_MakeMask.env N) N x
def spec_MakeMask.fs (N : Nat) : FS := { arg := .pair (.list (.int .u8)) (.int .i64), ret := .int .i64, fresh := true, F := spec_MakeMask.F N }

theorem spec_MakeMask.F_eq (N : Nat) (code : List Int) (place : Int) : spec_MakeMask.F N (code, place) =
    bindO (spec_l24New.F N (code, place)) fun r1 =>
    bindO (spec_l15Mask.F N r1) fun r2 =>
    some r2.1 := by kernel_rfl

def laws_FnBurst.c1 : XCode := .seq (.seq (.region false [mv 52 10, op 53 (.bin .lss) [.slot 52, .const (.one (.int .i64 (8 : Int)))]]) (.cond (.slot 53) (.skip) (.exit 0))) (.seq (.block 1 (.seq (.region false [mv 56 8, mv 57 10, o2 58 (.bin .shr) 56 57, op 59 (.bin .and) [.slot 58, .const (.one (.int .i64 (1 : Int)))], op 60 (.bin .eql) [.slot 59, .const (.one (.int .i64 (1 : Int)))]]) (.cond (.slot 60) (.seq (.region false [mv 61 7, mv 62 10, o2 63 (.bin .add) 61 62, mv 11 63]) (.region true [mv 64 9, mv 65 11, op 66 (.bin .quo) [.slot 65, .const (.one (.int .i64 (8 : Int)))], mv 67 9, mv 68 11, op 69 (.bin .quo) [.slot 68, .const (.one (.int .i64 (8 : Int)))], ow 70 (.indexAddr (.int .u8)) [.slot 67, .slot 69] [0] [], ow 71 (.load false 1) [.slot 70] [0] [], mv 72 11, op 73 (.bin .rem) [.slot 72, .const (.one (.int .i64 (8 : Int)))], op 74 (.bin .shr) [.const (.one (.int .u8 (128 : Int))), .slot 73], o2 75 (.bin .xor) 71 74, ow 76 (.indexAddr (.int .u8)) [.slot 64, .slot 66] [0] [], on (.store 1) [.slot 76, .slot 75] [0] [0]])) (.skip)))) (.region false [mv 54 10, op 55 (.bin .add) [.slot 54, .const (.one (.int .i64 (1 : Int)))], mv 10 55]))
def laws_FnBurst.c2 : XCode := .seq (.region false [mv 78 9, ow 79 (.call ⟨24, vs 1, no 1, [.val false 1, .val false 1, .val false 1], ims 3, true⟩) [.slot 78] [0] [], mv 77 79, o1 80 (.extract 0) 77, o1 81 (.extract 1) 77, o1 82 (.extract 2) 77, mv 12 80, mv 13 81, mv 14 82]) (.seq (.region false [mv 83 14, o1 84 .not 83, mv 2 84]) (.ret))
def laws_FnBurst.x : XFunc := { nslots := 85, nobj := 1, pars := [.val false 1], rowsIn := [none], rets := [.tmp 2 false 1], outs := [.imm], fresh := true, arg := .list (.int .u8), ret := .bool, body := .seq (.region false [op 2 .move [.const (.one (.bool false))]]) (.seq (.seq (.region false [mv 15 0, o1 16 (.call ⟨31, vs 1, no 1, [.val false 1], ims 1, true⟩) 15]) (.cond (.slot 16) (.seq (.region false [op 2 .move [.const (.one (.bool true))]]) (.ret)) (.skip))) (.seq (.region false [mv 17 0, op 18 (.call ⟨81, vs 3, no 3, [.val false 1], ims 1, true⟩) [.slot 17, .const (.one (.int .i64 (126 : Int))), .const (.one (.int .i64 (256 : Int)))], mv 19 0, op 20 (.call ⟨88, vs 2, no 2, [.val false 1], ims 1, true⟩) [.slot 19, .const (.one (.int .i64 (127 : Int)))], o2 21 (.call ⟨23, vs 2, no 2, [.val false 1], ims 1, true⟩) 18 20, mv 3 21]) (.seq (.region false [mv 23 3, o1 24 (.call ⟨24, vs 1, no 1, [.val false 1, .val false 1, .val false 1], ims 3, true⟩) 23, mv 22 24, o1 25 (.extract 0) 22, o1 26 (.extract 1) 22, o1 27 (.extract 2) 22, mv 4 25, mv 5 26, mv 6 27]) (.seq (.seq (.region true [mv 28 6, o1 29 .not 28, ⟨some 30, .move, [.slot 29], [], [], none, true⟩, ⟨some 31, .move, [.slot 3], [], [], some (30, false), false⟩, ⟨some 32, .len, [.slot 31], [], [], some (30, false), false⟩, ⟨some 33, .bin .neq, [.slot 32, .const (.one (.int .i64 (6 : Int)))], [], [], some (30, false), false⟩, op 34 .pick [.slot 30, .const (.one (.bool true)), .slot 33], ⟨some 35, .move, [.slot 34], [], [], none, true⟩, ⟨some 36, .move, [.slot 4], [], [], some (35, false), false⟩, ⟨some 37, .move, [.slot 5], [], [], some (35, false), false⟩, ⟨some 38, .call ⟨23, vs 2, no 2, [.val false 1], ims 1, true⟩, [.slot 36, .slot 37], [], [], some (35, false), false⟩, ⟨some 39, .b2s, [.slot 38], [], [], some (35, false), false⟩, ⟨some 40, .move, [.slot 3], [], [], some (35, false), false⟩, ⟨some 41, .b2s, [.slot 40], [], [], some (35, false), false⟩, ⟨some 42, .bin .neq, [.slot 39, .slot 41], [], [], some (35, false), false⟩, op 43 .pick [.slot 35, .const (.one (.bool true)), .slot 42]]) (.cond (.slot 43) (.seq (.region false [op 2 .move [.const (.one (.bool false))]]) (.ret)) (.skip))) (.seq (.region false [mv 44 0, op 45 (.call ⟨81, vs 3, no 3, [.val false 1], ims 1, true⟩) [.slot 44, .const (.one (.int .i64 (128 : Int))), .const (.one (.int .i64 (41 : Int)))], mv 7 45]) (.seq (.region false [mv 46 0, op 47 (.call ⟨81, vs 3, no 3, [.val false 1], ims 1, true⟩) [.slot 46, .const (.one (.int .i64 (129 : Int))), .const (.one (.int .i64 (255 : Int)))], op 48 (.bin .add) [.const (.one (.int .i64 (1 : Int))), .slot 47], mv 8 48]) (.seq (.region false [ow 49 (.buildSlice false 0 1 (.int .u8) 0 [] [.int .u8 (0 : Int)]) [] [0] [0], mv 50 3, ow 51 (.append false 0 1 (.int .u8)) [.slot 49, .slot 50] [0] [0], mv 9 51]) (.seq (.seq (.region false [op 10 .move [.const (.one (.int .i64 (0 : Int)))]]) (.block 0 (.loop [.keep [7, 8, 9, 10], .norm] (laws_FnBurst.c1)))) (laws_FnBurst.c2))))))))) }
def laws_FnBurst.env (N : Nat) : Env := envOf (tbl [(23, impl_LinkFrame.fs N), (24, impl_ReadFrame.fs N), (31, laws_big.fs N), (88, spec_MakeMask.fs N), (81, spec_MakeNumber.fs N)] noFS)
def laws_FnBurst.F (N : Nat) (x : List Int) : Option Bool := XFunc.run laws_FnBurst.x (laws_FnBurst.env N) N x
def laws_FnBurst.fs (N : Nat) : FS := { arg := .list (.int .u8), ret := .bool, fresh := true, F := laws_FnBurst.F N }
def laws_FnBurst.k2 (N : Nat) : Ex → S → Option Bool := seqK (fun s => XCode.runK (laws_FnBurst.env N) N (laws_FnBurst.c2) s (XFunc.endK laws_FnBurst.x)) (XFunc.endK laws_FnBurst.x)
def laws_FnBurst.k1 (N : Nat) : Ex → S → Option Bool := blockK 0 (laws_FnBurst.k2 N)
def laws_FnBurst.L1 (N : Nat) (n1 : Nat) (at_ : Int) (change : Int) (k_ : Int) (o0 : List Int) : Option Bool := loopK [.keep [7, 8, 9, 10], .norm] (fun s k => XCode.runK (laws_FnBurst.env N) N laws_FnBurst.c1 s k) n1
  { t := [.junk, .junk, .junk, .junk, .junk, .junk, .junk, .one (.int .i64 at_), .one (.int .i64 change), .one (.ref 0 0 .all), .one (.int .i64 k_), .junk, .junk, .junk, .junk, .junk, .junk, .junk, .junk, .junk, .junk, .junk, .junk, .junk, .junk, .junk, .junk, .junk, .junk, .junk, .junk, .junk, .junk, .junk, .junk, .junk, .junk, .junk, .junk, .junk, .junk, .junk, .junk, .junk, .junk, .junk, .junk, .junk, .junk, .junk, .junk, .junk, .junk, .junk, .junk, .junk, .junk, .junk, .junk, .junk, .junk, .junk, .junk, .junk, .junk, .junk, .junk, .junk, .junk, .junk, .junk, .junk, .junk, .junk, .junk, .junk, .junk, .junk, .junk, .junk, .junk, .junk, .junk, .junk, .junk], h := [.row 0 false true 1 (.int .u8) o0] }
  (laws_FnBurst.k1 N)

theorem laws_FnBurst.L1_eq (N : Nat) (n1 : Nat) (at_ : Int) (change : Int) (k_ : Int) (o0 : List Int) : laws_FnBurst.L1 N (n1 + 1) at_ change k_ o0 =
    bif decide (k_ < (8 : Int)) then
      bif decide (0 ≤ k_) then
      bif (bitAnd .i64 (shiftR .i64 change k_) (1 : Int)) == (1 : Int) then
        bif inRange (quoI .i64 (IntKind.wrap .i64 (at_ + k_)) (8 : Int)) (List.length o0) then
        bif decide (0 ≤ Int.tmod (IntKind.wrap .i64 (at_ + k_)) (8 : Int)) then
        bif inRange (quoI .i64 (IntKind.wrap .i64 (at_ + k_)) (8 : Int)) (List.length o0) then
        laws_FnBurst.L1 N n1 at_ change (IntKind.wrap .i64 (k_ + (1 : Int))) (List.set o0 (Int.toNat (quoI .i64 (IntKind.wrap .i64 (at_ + k_)) (8 : Int))) (bitXor .u8 (List.getD o0 (Int.toNat (quoI .i64 (IntKind.wrap .i64 (at_ + k_)) (8 : Int))) (0 : Int)) (shiftR .u8 (128 : Int) (Int.tmod (IntKind.wrap .i64 (at_ + k_)) (8 : Int)))))
        else none
        else none
        else none
      else
        laws_FnBurst.L1 N n1 at_ change (IntKind.wrap .i64 (k_ + (1 : Int))) o0
      else none
    else
      bindO (impl_ReadFrame.F N o0) fun r9 =>
      some (!r9.2.2) := by kernel_rfl
theorem laws_FnBurst.L1_zero (N : Nat) (at_ : Int) (change : Int) (k_ : Int) (o0 : List Int) : laws_FnBurst.L1 N 0 at_ change k_ o0 = none := rfl
theorem laws_FnBurst.F_eq (N : Nat) (code : List Int) : laws_FnBurst.F N code =
    bindO (laws_big.F N code) fun r1 =>
    bif r1 then
      some true
    else
      bindO (spec_MakeNumber.F N (code, ((126 : Int), (256 : Int)))) fun r2 =>
      bindO (spec_MakeMask.F N (code, (127 : Int))) fun r3 =>
      bindO (impl_LinkFrame.F N (r2, r3)) fun r4 =>
      bindO (impl_ReadFrame.F N r4) fun r5 =>
      bif !r5.2.2 then
        some false
      else
        bif (List.length r4 : Int) != (6 : Int) then
          some false
        else
          bindO (impl_LinkFrame.F N (r5.1, r5.2.1)) fun r6 =>
          bif !((bytesOf r6) == (bytesOf r4)) then
            some false
          else
            bindO (spec_MakeNumber.F N (code, ((128 : Int), (41 : Int)))) fun r7 =>
            bindO (spec_MakeNumber.F N (code, ((129 : Int), (255 : Int)))) fun r8 =>
            bif decide (List.length ([] : List Int) + List.length r4 ≤ maxN) then
            laws_FnBurst.L1 N N r7 (IntKind.wrap .i64 ((1 : Int) + r8)) (0 : Int) (([] : List Int) ++ r4)
            else none := by kernel_rfl

def spec_SilentTick.x : XFunc := { nslots := 25, nobj := 4, pars := [.val true 4], rowsIn := [none, none, none, none], rets := [.var 2 true 4], outs := [.own 1, .imm, .imm, .imm], fresh := true, arg := .pair (.list (.int .u8)) (.pair (.int .i64) (.pair (.int .i64) (.int .i64))), ret := .pair (.list (.int .u8)) (.pair (.int .i64) (.pair (.int .i64) (.int .i64))), body := .seq (.region false [ow 1 (.box 0) [.slot 0] [0] [0], ow 2 (.alloc 1 [.nil, .int .i64 (0 : Int), .int .i64 (0 : Int), .int .i64 (0 : Int)]) [] [1] [1]]) (.seq (.seq (.region false [ow 4 (.load true 4) [.slot 1] [0] [], o1 5 (.call ⟨19, [.val true 4], no 4, [.val false 1], ims 1, true⟩) 4, o1 6 .not 5]) (.cond (.slot 6) (.seq (.region false [op 7 (.build [.nil, .int .i64 (0 : Int), .int .i64 (0 : Int), .int .i64 (0 : Int)] []) [], on (.store 4) [.slot 2, .slot 7] [1] [1]]) (.ret)) (.skip))) (.seq (.region false [ow 8 (.load true 4) [.slot 1] [0] [], ow 3 (.alloc 2 [.nil, .int .i64 (0 : Int), .int .i64 (0 : Int), .int .i64 (0 : Int)]) [] [2] [2], on (.store 4) [.slot 3, .slot 8] [2] [2]]) (.seq (.region false [ow 9 (.buildSlice false 3 1 (.int .u8) 0 [] [.int .u8 (0 : Int)]) [] [3] [3], o1 10 (.fieldAddr 0) 1, ow 11 (.load false 1) [.slot 10] [0] [], ow 12 (.append false 3 1 (.int .u8)) [.slot 9, .slot 11] [3] [3], o1 13 (.fieldAddr 0) 3, on (.store 1) [.slot 13, .slot 12] [2] [2]]) (.seq (.region false [o1 14 (.fieldAddr 3) 1, ow 15 (.load false 1) [.slot 14] [0] [], op 16 (.bin .add) [.slot 15, .const (.one (.int .i64 (1 : Int)))], op 17 .min [.const (.one (.int .i64 (20 : Int))), .slot 16], o1 18 (.fieldAddr 3) 3, on (.store 1) [.slot 18, .slot 17] [2] [2]]) (.seq (.seq (.region false [o1 19 (.fieldAddr 3) 3, ow 20 (.load false 1) [.slot 19] [2] [], op 21 (.bin .eql) [.slot 20, .const (.one (.int .i64 (20 : Int)))]]) (.cond (.slot 21) (.seq (.region false [o1 22 (.fieldAddr 2) 3, on (.store 1) [.slot 22, .const (.one (.int .i64 (0 : Int)))] [2] [2]]) (.region false [o1 23 (.fieldAddr 1) 3, on (.store 1) [.slot 23, .const (.one (.int .i64 (-1 : Int)))] [2] [2]])) (.skip))) (.seq (.region false [ow 24 (.load true 4) [.slot 3] [2] [], on (.store 4) [.slot 2, .slot 24] [1] [1]]) (.ret))))))) }
def spec_SilentTick.env (N : Nat) : Env := envOf (tbl [(19, spec_IsReceiver.fs N)] noFS)
def spec_SilentTick.F (N : Nat) (x : (List Int) × Int × Int × Int) : Option ((List Int) × Int × Int × Int) := XFunc.run spec_SilentTick.x (spec_SilentTick.env N) N x
def spec_SilentTick.fs (N : Nat) : FS := { arg := .pair (.list (.int .u8)) (.pair (.int .i64) (.pair (.int .i64) (.int .i64))), ret := .pair (.list (.int .u8)) (.pair (.int .i64) (.pair (.int .i64) (.int .i64))), fresh := true, F := spec_SilentTick.F N }

theorem spec_SilentTick.F_eq (N : Nat) (r_ : (List Int) × Int × Int × Int) : spec_SilentTick.F N r_ =
    bindO (spec_IsReceiver.F N r_) fun r1 =>
    bif !r1 then
      some (([] : List Int), ((0 : Int), ((0 : Int), (0 : Int))))
    else
      bif decide (List.length ([] : List Int) + List.length r_.1 ≤ maxN) then
      bif (minI (20 : Int) (IntKind.wrap .i64 (r_.2.2.2 + (1 : Int)))) == (20 : Int) then
        some (([] : List Int) ++ r_.1, ((-1 : Int), ((0 : Int), minI (20 : Int) (IntKind.wrap .i64 (r_.2.2.2 + (1 : Int))))))
      else
        some (([] : List Int) ++ r_.1, (r_.2.1, (r_.2.2.1, minI (20 : Int) (IntKind.wrap .i64 (r_.2.2.2 + (1 : Int))))))
      else none := by kernel_rfl

def impl_SilentTick.x : XFunc := { nslots := 22, nobj := 3, pars := [.val true 4], rowsIn := [none, none, none, none], rets := [.var 2 true 4], outs := [.own 1, .imm, .imm, .imm], fresh := true, arg := .pair (.list (.int .u8)) (.pair (.int .i64) (.pair (.int .i64) (.int .i64))), ret := .pair (.list (.int .u8)) (.pair (.int .i64) (.pair (.int .i64) (.int .i64))), body := .seq (.region false [ow 1 (.box 0) [.slot 0] [0] [0], ow 2 (.alloc 1 [.nil, .int .i64 (0 : Int), .int .i64 (0 : Int), .int .i64 (0 : Int)]) [] [1] [1]]) (.seq (.seq (.region false [ow 3 (.load true 4) [.slot 1] [0] [], o1 4 (.call ⟨20, [.val true 4], no 4, [.val false 1], ims 1, true⟩) 3, o1 5 .not 4]) (.cond (.slot 5) (.seq (.region false [op 6 (.build [.nil, .int .i64 (0 : Int), .int .i64 (0 : Int), .int .i64 (0 : Int)] []) [], on (.store 4) [.slot 2, .slot 6] [1] [1]]) (.ret)) (.skip))) (.seq (.region false [o1 7 (.fieldAddr 0) 1, ow 8 (.load false 1) [.slot 7] [0] [], ow 9 (.append false 2 1 (.int .u8)) [.const (.one (.nil)), .slot 8] [2] [2], o1 10 (.fieldAddr 0) 1, on (.store 1) [.slot 10, .slot 9] [0] [0]]) (.seq (.region false [o1 11 (.fieldAddr 3) 1, ow 12 (.load false 1) [.slot 11] [0] [], op 13 (.bin .add) [.slot 12, .const (.one (.int .i64 (1 : Int)))], op 14 .min [.slot 13, .const (.one (.int .i64 (20 : Int)))], o1 15 (.fieldAddr 3) 1, on (.store 1) [.slot 15, .slot 14] [0] [0]]) (.seq (.seq (.region false [o1 16 (.fieldAddr 3) 1, ow 17 (.load false 1) [.slot 16] [0] [], op 18 (.bin .eql) [.slot 17, .const (.one (.int .i64 (20 : Int)))]]) (.cond (.slot 18) (.region false [o1 19 (.fieldAddr 2) 1, on (.store 1) [.slot 19, .const (.one (.int .i64 (0 : Int)))] [0] [0], o1 20 (.fieldAddr 1) 1, on (.store 1) [.slot 20, .const (.one (.int .i64 (-1 : Int)))] [0] [0]]) (.skip))) (.seq (.region false [ow 21 (.load true 4) [.slot 1] [0] [], on (.store 4) [.slot 2, .slot 21] [1] [1]]) (.ret)))))) }
def impl_SilentTick.env (N : Nat) : Env := envOf (tbl [(20, impl_IsReceiver.fs N)] noFS)
def impl_SilentTick.F (N : Nat) (x : (List Int) × Int × Int × Int) : Option ((List Int) × Int × Int × Int) := XFunc.run impl_SilentTick.x (impl_SilentTick.env N) N x
def impl_SilentTick.fs (N : Nat) : FS := { arg := .pair (.list (.int .u8)) (.pair (.int .i64) (.pair (.int .i64) (.int .i64))), ret := .pair (.list (.int .u8)) (.pair (.int .i64) (.pair (.int .i64) (.int .i64))), fresh := true, F := impl_SilentTick.F N }

theorem impl_SilentTick.F_eq (N : Nat) (r_ : (List Int) × Int × Int × Int) : impl_SilentTick.F N r_ =
    bindO (impl_IsReceiver.F N r_) fun r1 =>
    bif !r1 then
      some (([] : List Int), ((0 : Int), ((0 : Int), (0 : Int))))
    else
      bif decide (List.length r_.1 ≤ maxN) then
      bif (minI (IntKind.wrap .i64 (r_.2.2.2 + (1 : Int))) (20 : Int)) == (20 : Int) then
        some (r_.1, ((-1 : Int), ((0 : Int), minI (IntKind.wrap .i64 (r_.2.2.2 + (1 : Int))) (20 : Int))))
      else
        some (r_.1, (r_.2.1, (r_.2.2.1, minI (IntKind.wrap .i64 (r_.2.2.2 + (1 : Int))) (20 : Int))))
      else none := by kernel_rfl

def laws_FnExactSilentTick.x : XFunc := { nslots := 69, nobj := 7, pars := [.val true 4], rowsIn := [none, none, none, none], rets := [.tmp 2 false 1], outs := [.imm], fresh := true, arg := .pair (.list (.int .u8)) (.pair (.int .i64) (.pair (.int .i64) (.int .i64))), ret := .bool, body := .seq (.region false [ow 1 (.box 0) [.slot 0] [0] [0], op 2 .move [.const (.one (.bool false))]]) (.seq (.region false [op 3 .move [.const (.one (.int .i64 (1048576 : Int)))]]) (.seq (.region false [ow 11 (.load true 4) [.slot 1] [0] [], mv 12 3, o2 13 (.call ⟨18, [.val true 4, .val false 1], no 5, [.val false 1], ims 1, true⟩) 11 12, mv 3 13]) (.seq (.seq (.region false [mv 14 3, op 15 (.bin .lss) [.slot 14, .const (.one (.int .i64 (0 : Int)))]]) (.cond (.slot 15) (.seq (.region false [op 2 .move [.const (.one (.bool true))]]) (.ret)) (.skip))) (.seq (.region false [ow 16 (.load true 4) [.slot 1] [0] [], o1 17 (.call ⟨30, [.val true 4], no 4, [.val true 4], ims 4, true⟩) 16, o1 18 (.call ⟨249, [.val true 4], no 4, [.val true 4], ims 4, true⟩) 17, ow 4 (.alloc 1 [.nil, .int .i64 (0 : Int), .int .i64 (0 : Int), .int .i64 (0 : Int)]) [] [1] [1], on (.store 4) [.slot 4, .slot 18] [1] [1]]) (.seq (.region false [ow 19 (.load true 4) [.slot 1] [0] [], ow 20 (.call ⟨30, [.val true 4], no 4, [.val true 4], [.own 4 1, .imm, .imm, .imm], true⟩) [.slot 19] [4] [4], ow 5 (.alloc 2 [.nil, .int .i64 (0 : Int), .int .i64 (0 : Int), .int .i64 (0 : Int)]) [] [2] [2], on (.store 4) [.slot 5, .slot 20] [2] [2]]) (.seq (.region false [ow 21 (.load true 4) [.slot 5] [2] [], ow 22 (.call ⟨93, [.val true 4], no 4, [.val true 4], [.own 5 1, .imm, .imm, .imm], true⟩) [.slot 21] [4, 5] [5], ow 6 (.alloc 3 [.nil, .int .i64 (0 : Int), .int .i64 (0 : Int), .int .i64 (0 : Int)]) [] [3] [3], on (.store 4) [.slot 6, .slot 22] [3] [3]]) (.seq (.seq (.region false [ow 23 (.load true 4) [.slot 6] [3] [], ow 24 (.load true 4) [.slot 4] [1] [], ow 25 (.call ⟨11, [.val true 4, .val true 4], no 8, [.val false 1], ims 1, true⟩) [.slot 23, .slot 24] [5] [], o1 26 .not 25]) (.cond (.slot 26) (.seq (.region false [op 2 .move [.const (.one (.bool false))]]) (.ret)) (.skip))) (.seq (.seq (.region true [ow 27 (.load true 4) [.slot 5] [2] [], ow 28 (.load true 4) [.slot 1] [0] [], o1 29 (.call ⟨30, [.val true 4], no 4, [.val true 4], ims 4, true⟩) 28, ow 30 (.call ⟨11, [.val true 4, .val true 4], no 8, [.val false 1], ims 1, true⟩) [.slot 27, .slot 29] [4] [], o1 31 .not 30]) (.cond (.slot 31) (.seq (.region false [op 2 .move [.const (.one (.bool false))]]) (.ret)) (.skip))) (.seq (.region false [op 7 .move [.const (.one (.int .i64 (1 : Int)))]]) (.seq (.region false [ow 32 (.load true 4) [.slot 5] [2] [], mv 33 7, ow 34 (.call ⟨13, [.val true 4, .val false 1], [some (4, 1), none, none, none, none], [.val false 1], [.imm, .back 4], false⟩) [.slot 32, .slot 33] [4] [4], mv 7 34]) (.seq (.seq (.region false [mv 35 7, op 36 (.bin .lss) [.slot 35, .const (.one (.int .i64 (0 : Int)))], ⟨some 37, .move, [.slot 36], [], [], none, true⟩, ⟨some 38, .load true 4, [.slot 6], [3], [], some (37, false), false⟩, ⟨some 39, .load true 4, [.slot 4], [1], [], some (37, false), false⟩, ⟨some 40, .call ⟨11, [.val true 4, .val true 4], no 8, [.val false 1], ims 1, true⟩, [.slot 38, .slot 39], [5], [], some (37, false), false⟩, ⟨some 41, .not, [.slot 40], [], [], some (37, false), false⟩, op 42 .pick [.slot 37, .const (.one (.bool true)), .slot 41]]) (.cond (.slot 42) (.seq (.region false [op 2 .move [.const (.one (.bool false))]]) (.ret)) (.skip))) (.seq (.region false [op 8 .move [.const (.one (.int .i64 (1 : Int)))]]) (.seq (.region false [ow 43 (.load true 4) [.slot 6] [3] [], mv 44 8, ow 45 (.call ⟨13, [.val true 4, .val false 1], [some (5, 1), none, none, none, none], [.val false 1], [.imm, .back 5], false⟩) [.slot 43, .slot 44] [5] [5], mv 8 45]) (.seq (.region false [op 9 .move [.const (.one (.int .i64 (1 : Int)))]]) (.seq (.region false [ow 46 (.load true 4) [.slot 6] [3] [], mv 47 9, ow 48 (.call ⟨15, [.val true 4, .val false 1], no 5, [.val false 1], ims 1, true⟩) [.slot 46, .slot 47] [5] [], mv 9 48]) (.seq (.seq (.region false [mv 49 9, op 50 (.bin .lss) [.slot 49, .const (.one (.int .i64 (0 : Int)))]]) (.cond (.slot 50) (.seq (.region false [op 2 .move [.const (.one (.bool false))]]) (.ret)) (.skip))) (.seq (.seq (.region false [mv 51 9, mv 52 8, o2 53 (.bin .neq) 51 52]) (.cond (.slot 53) (.seq (.region false [op 2 .move [.const (.one (.bool false))]]) (.ret)) (.skip))) (.seq (.region false [ow 54 (.load true 4) [.slot 1] [0] [], o1 55 (.call ⟨30, [.val true 4], no 4, [.val true 4], ims 4, true⟩) 54, o1 56 (.call ⟨93, [.val true 4], no 4, [.val true 4], ims 4, true⟩) 55, ow 10 (.alloc 6 [.nil, .int .i64 (0 : Int), .int .i64 (0 : Int), .int .i64 (0 : Int)]) [] [6] [6], on (.store 4) [.slot 10, .slot 56] [6] [6]]) (.seq (.seq (.region false [ow 57 (.load true 4) [.slot 10] [6] [], ow 58 (.load true 4) [.slot 4] [1] [], o2 59 (.call ⟨11, [.val true 4, .val true 4], no 8, [.val false 1], ims 1, true⟩) 57 58, o1 60 .not 59]) (.cond (.slot 60) (.seq (.region false [op 2 .move [.const (.one (.bool false))]]) (.ret)) (.skip))) (.seq (.region false [op 9 .move [.const (.one (.int .i64 (1 : Int)))]]) (.seq (.region false [ow 61 (.load true 4) [.slot 6] [3] [], mv 62 9, ow 63 (.call ⟨15, [.val true 4, .val false 1], no 5, [.val false 1], ims 1, true⟩) [.slot 61, .slot 62] [5] [], mv 9 63]) (.seq (.seq (.region false [mv 64 9, op 65 (.bin .lss) [.slot 64, .const (.one (.int .i64 (0 : Int)))]]) (.cond (.slot 65) (.seq (.region false [op 2 .move [.const (.one (.bool false))]]) (.ret)) (.skip))) (.seq (.seq (.region false [mv 66 9, mv 67 8, o2 68 (.bin .neq) 66 67]) (.cond (.slot 68) (.seq (.region false [op 2 .move [.const (.one (.bool false))]]) (.ret)) (.skip))) (.seq (.region false [op 2 .move [.const (.one (.bool true))]]) (.ret))))))))))))))))))))))))) }
def laws_FnExactSilentTick.env (N : Nat) : Env := envOf (tbl [(93, impl_SilentTick.fs N), (11, laws_eqReceiver.fs N), (15, laws_heldReceiver.fs N), (13, laws_markReceiver.fs N), (18, laws_szReceiver.fs N), (30, laws_toReceiver.fs N), (249, spec_SilentTick.fs N)] noFS)
def laws_FnExactSilentTick.F (N : Nat) (x : (List Int) × Int × Int × Int) : Option Bool := XFunc.run laws_FnExactSilentTick.x (laws_FnExactSilentTick.env N) N x
def laws_FnExactSilentTick.fs (N : Nat) : FS := { arg := .pair (.list (.int .u8)) (.pair (.int .i64) (.pair (.int .i64) (.int .i64))), ret := .bool, fresh := true, F := laws_FnExactSilentTick.F N }

theorem laws_FnExactSilentTick.F_eq (N : Nat) (aR : (List Int) × Int × Int × Int) : laws_FnExactSilentTick.F N aR =
    bindO (laws_szReceiver.F N (aR, (1048576 : Int))) fun r1 =>
    bif decide (r1 < (0 : Int)) then
      some true
    else
      bindO (laws_toReceiver.F N aR) fun r2 =>
      bindO (spec_SilentTick.F N r2) fun r3 =>
      bindO (laws_toReceiver.F N aR) fun r4 =>
      bindO (impl_SilentTick.F N r4) fun r5 =>
      bindO (laws_eqReceiver.F N (r5, r3)) fun r6 =>
      bif !r6 then
        some false
      else
        bindO (laws_toReceiver.F N aR) fun r7 =>
        bindO (laws_eqReceiver.F N (r4, r7)) fun r8 =>
        bif !r8 then
          some false
        else
          bindO (laws_markReceiver.F N (r4, (1 : Int))) fun r9 =>
          bif decide (r9.1 < (0 : Int)) then
            some false
          else
            bindO (laws_eqReceiver.F N (r5, r3)) fun r10 =>
            bif !r10 then
              some false
            else
              bindO (laws_markReceiver.F N (r5, (1 : Int))) fun r11 =>
              bindO (laws_heldReceiver.F N ((r11.2, r5.2), (1 : Int))) fun r12 =>
              bif decide (r12 < (0 : Int)) then
                some false
              else
                bif r12 != r11.1 then
                  some false
                else
                  bindO (laws_toReceiver.F N aR) fun r13 =>
                  bindO (impl_SilentTick.F N r13) fun r14 =>
                  bindO (laws_eqReceiver.F N (r14, r3)) fun r15 =>
                  bif !r15 then
                    some false
                  else
                    bindO (laws_heldReceiver.F N ((r11.2, r5.2), (1 : Int))) fun r16 =>
                    bif decide (r16 < (0 : Int)) then
                      some false
                    else
                      bif r16 != r11.1 then
                        some false
                      else
                        some true := by kernel_rfl

def impl_ReceiveByte.x : XFunc := { nslots := 51, nobj := 4, pars := [.val true 4, .val false 1], rowsIn := [none, none, none, none, none], rets := [.var 4 true 4, .tmp 5 false 1], outs := [.own 1, .imm, .imm, .imm, .imm], fresh := true, arg := .pair (.pair (.list (.int .u8)) (.pair (.int .i64) (.pair (.int .i64) (.int .i64)))) (.int .u8), ret := .pair (.pair (.list (.int .u8)) (.pair (.int .i64) (.pair (.int .i64) (.int .i64)))) (.int .i64), body := .seq (.region false [ow 2 (.box 0) [.slot 0] [0] [0], ow 4 (.alloc 1 [.nil, .int .i64 (0 : Int), .int .i64 (0 : Int), .int .i64 (0 : Int)]) [] [1] [1], op 5 .move [.const (.one (.int .i64 (0 : Int)))]]) (.seq (.seq (.region false [ow 9 (.load true 4) [.slot 2] [0] [], o1 10 (.call ⟨20, [.val true 4], no 4, [.val false 1], ims 1, true⟩) 9, o1 11 .not 10]) (.cond (.slot 11) (.seq (.region false [op 12 (.build [.nil, .int .i64 (0 : Int), .int .i64 (0 : Int), .int .i64 (0 : Int)] []) [], on (.store 4) [.slot 4, .slot 12] [1] [1], op 5 .move [.const (.one (.int .i64 (0 : Int)))]]) (.ret)) (.skip))) (.seq (.region false [o1 13 (.fieldAddr 0) 2, ow 14 (.load false 1) [.slot 13] [0] [], ow 15 (.append false 2 1 (.int .u8)) [.const (.one (.nil)), .slot 14] [2] [2], mv 16 1, ow 17 (.buildSlice false 3 1 (.int .u8) 1 [(0, 1)] [.int .u8 (0 : Int)]) [.slot 16] [3] [3], ow 18 (.append false 2 1 (.int .u8)) [.slot 15, .slot 17] [2, 3] [2], o1 19 (.fieldAddr 0) 2, on (.store 1) [.slot 19, .slot 18] [0] [0]]) (.seq (.seq (.region false [o1 20 (.fieldAddr 0) 2, ow 21 (.load false 1) [.slot 20] [0] [], ow 22 .len [.slot 21] [2] [], op 23 (.bin .lss) [.slot 22, .const (.one (.int .i64 (6 : Int)))]]) (.cond (.slot 23) (.seq (.region false [ow 24 (.load true 4) [.slot 2] [0] [], on (.store 4) [.slot 4, .slot 24] [1] [1], op 5 .move [.const (.one (.int .i64 (1 : Int)))]]) (.ret)) (.skip))) (.seq (.region false [o1 26 (.fieldAddr 0) 2, ow 27 (.load false 1) [.slot 26] [0] [], ow 28 (.call ⟨24, vs 1, no 1, [.val false 1, .val false 1, .val false 1], ims 3, true⟩) [.slot 27] [2] [], mv 25 28, o1 29 (.extract 0) 25, o1 30 (.extract 1) 25, o1 31 (.extract 2) 25, mv 6 29, mv 7 30, mv 8 31]) (.seq (.seq (.region false [mv 32 8, o1 33 .not 32]) (.cond (.slot 33) (.seq (.region false [o1 34 (.fieldAddr 0) 2, ow 35 (.load false 1) [.slot 34] [0] [], ow 36 (.slice (.int .u8) true false) [.slot 35, .const (.one (.int .i64 (1 : Int)))] [2] [], o1 37 (.fieldAddr 0) 2, on (.store 1) [.slot 37, .slot 36] [0] [0]]) (.seq (.region false [ow 38 (.load true 4) [.slot 2] [0] [], on (.store 4) [.slot 4, .slot 38] [1] [1], op 5 .move [.const (.one (.int .i64 (1 : Int)))]]) (.ret))) (.skip))) (.seq (.region false [o1 39 (.fieldAddr 0) 2, on (.store 1) [.slot 39, .const (.one (.nil))] [0] [0]]) (.seq (.region false [o1 40 (.fieldAddr 3) 2, on (.store 1) [.slot 40, .const (.one (.int .i64 (0 : Int)))] [0] [0]]) (.seq (.seq (.region false [mv 41 6, o1 42 (.fieldAddr 1) 2, ow 43 (.load false 1) [.slot 42] [0] [], o2 44 (.bin .eql) 41 43]) (.cond (.slot 44) (.seq (.region false [ow 45 (.load true 4) [.slot 2] [0] [], on (.store 4) [.slot 4, .slot 45] [1] [1], op 5 .move [.const (.one (.int .i64 (3 : Int)))]]) (.ret)) (.skip))) (.seq (.region false [mv 46 6, mv 47 7, o1 48 (.fieldAddr 1) 2, on (.store 1) [.slot 48, .slot 46] [0] [0], o1 49 (.fieldAddr 2) 2, on (.store 1) [.slot 49, .slot 47] [0] [0]]) (.seq (.region false [ow 50 (.load true 4) [.slot 2] [0] [], on (.store 4) [.slot 4, .slot 50] [1] [1], op 5 .move [.const (.one (.int .i64 (2 : Int)))]]) (.ret))))))))))) }
def impl_ReceiveByte.env (N : Nat) : Env := envOf (tbl [(20, impl_IsReceiver.fs N), (24, impl_ReadFrame.fs N)] noFS)
def impl_ReceiveByte.F (N : Nat) (x : ((List Int) × Int × Int × Int) × Int) : Option (((List Int) × Int × Int × Int) × Int) := XFunc.run impl_ReceiveByte.x (impl_ReceiveByte.env N) N x
def impl_ReceiveByte.fs (N : Nat) : FS := { arg := .pair (.pair (.list (.int .u8)) (.pair (.int .i64) (.pair (.int .i64) (.int .i64)))) (.int .u8), ret := .pair (.pair (.list (.int .u8)) (.pair (.int .i64) (.pair (.int .i64) (.int .i64)))) (.int .i64), fresh := true, F := impl_ReceiveByte.F N }

theorem impl_ReceiveByte.F_eq (N : Nat) (r_ : (List Int) × Int × Int × Int) (x_ : Int) : impl_ReceiveByte.F N (r_, x_) =
    bindO (impl_IsReceiver.F N r_) fun r1 =>
    bif !r1 then
      some ((([] : List Int), ((0 : Int), ((0 : Int), (0 : Int)))), (0 : Int))
    else
      bif decide (List.length r_.1 ≤ maxN) then
      bif decide (List.length r_.1 + List.length ([x_] : List Int) ≤ maxN) then
      bif decide ((List.length (r_.1 ++ ([x_] : List Int)) : Int) < (6 : Int)) then
        some ((r_.1 ++ ([x_] : List Int), r_.2), (1 : Int))
      else
        bindO (impl_ReadFrame.F N (r_.1 ++ ([x_] : List Int))) fun r2 =>
        bif !r2.2.2 then
          bif decide (0 ≤ (1 : Int)) && decide ((1 : Int) ≤ (List.length (r_.1 ++ ([x_] : List Int)) : Int)) then
          some ((List.drop 1 (r_.1 ++ ([x_] : List Int)), r_.2), (1 : Int))
          else none
        else
          bif r2.1 == r_.2.1 then
            some ((([] : List Int), (r_.2.1, (r_.2.2.1, (0 : Int)))), (3 : Int))
          else
            some ((([] : List Int), (r2.1, (r2.2.1, (0 : Int)))), (2 : Int))
      else none
      else none := by kernel_rfl

def impl_ReceiveAll.c1 : XCode := .seq (.region false [o2 22 (.bin .lss) 21 20]) (.seq (.cond (.slot 22) (.skip) (.exit 0)) (.seq (.block 1 (.seq (.region false [o2 23 (.indexAddr (.int .u8)) 19 21, o1 24 (.load false 1) 23, mv 8 24]) (.seq (.region false [ow 26 (.load true 4) [.slot 2] [0] [], mv 27 8, ow 28 (.call ⟨90, [.val true 4, .val false 1], no 5, [.val true 4, .val false 1], [.own 6 1, .imm, .imm, .imm, .imm], true⟩) [.slot 26, .slot 27] [2, 6] [6], mv 25 28, o1 29 (.extract 0) 25, o1 30 (.extract 1) 25, ow 9 (.alloc 3 [.nil, .int .i64 (0 : Int), .int .i64 (0 : Int), .int .i64 (0 : Int)]) [] [3] [3], on (.store 4) [.slot 9, .slot 29] [3] [3], mv 10 30]) (.seq (.region false [ow 31 (.load true 4) [.slot 9] [3] [], on (.store 4) [.slot 2, .slot 31] [0] [0]]) (.seq (.region false [mv 32 10, op 33 (.bin .eql) [.slot 32, .const (.one (.int .i64 (2 : Int)))]]) (.cond (.slot 33) (.region false [mv 34 6, o1 35 (.fieldAddr 2) 2, ow 36 (.load false 1) [.slot 35] [0] [], ow 37 (.buildSlice false 4 2 (.int .i64) 1 [(0, 1)] [.int .i64 (0 : Int)]) [.slot 36] [4] [4], ow 38 (.append false 5 2 (.int .i64)) [.slot 34, .slot 37] [4, 5] [5], mv 6 38]) (.skip))))))) (.region false [op 39 (.bin .add) [.slot 21, .const (.one (.int .i64 (1 : Int)))], mv 21 39])))
def impl_ReceiveAll.c2 : XCode := .seq (.region false [ow 40 (.load true 4) [.slot 2] [0] [], mv 41 6, on (.store 4) [.slot 4, .slot 40] [1] [1], mv 5 41]) (.ret)
def impl_ReceiveAll.x : XFunc := { nslots := 42, nobj := 7, pars := [.val true 4, .val false 1], rowsIn := [none, none, none, none, none], rets := [.var 4 true 4, .tmp 5 false 1], outs := [.own 1, .imm, .imm, .imm, .own 2], fresh := true, arg := .pair (.pair (.list (.int .u8)) (.pair (.int .i64) (.pair (.int .i64) (.int .i64)))) (.list (.int .u8)), ret := .pair (.pair (.list (.int .u8)) (.pair (.int .i64) (.pair (.int .i64) (.int .i64)))) (.list (.int .i64)), body := .seq (.region false [ow 2 (.box 0) [.slot 0] [0] [0], ow 4 (.alloc 1 [.nil, .int .i64 (0 : Int), .int .i64 (0 : Int), .int .i64 (0 : Int)]) [] [1] [1], op 5 .move [.const (.one (.nil))]]) (.seq (.seq (.region false [ow 11 (.load true 4) [.slot 2] [0] [], o1 12 (.call ⟨20, [.val true 4], no 4, [.val false 1], ims 1, true⟩) 11, o1 13 .not 12]) (.cond (.slot 13) (.seq (.region false [op 14 (.build [.nil, .int .i64 (0 : Int), .int .i64 (0 : Int), .int .i64 (0 : Int)] []) [], on (.store 4) [.slot 4, .slot 14] [1] [1], op 5 .move [.const (.one (.nil))]]) (.ret)) (.skip))) (.seq (.region false [o1 15 (.fieldAddr 0) 2, ow 16 (.load false 1) [.slot 15] [0] [], ow 17 (.append false 2 1 (.int .u8)) [.const (.one (.nil)), .slot 16] [2] [2], o1 18 (.fieldAddr 0) 2, on (.store 1) [.slot 18, .slot 17] [0] [0]]) (.seq (.region false [op 6 .move [.const (.one (.nil))]]) (.seq (.seq (.region false [mv 19 1, o1 20 .len 19, op 21 .move [.const (.one (.int .i64 (0 : Int)))]]) (.block 0 (.loop [.rename 6 2, .mkrow (.slot 6) 5 2 (.int .i64), .keep [2, 4, 6, 19, 20, 21], .drop 3, .drop 4, .drop 6, .norm] (impl_ReceiveAll.c1)))) (impl_ReceiveAll.c2))))) }
def impl_ReceiveAll.env (N : Nat) : Env := envOf (tbl [(20, impl_IsReceiver.fs N), (90, impl_ReceiveByte.fs N)] noFS)
def impl_ReceiveAll.F (N : Nat) (x : ((List Int) × Int × Int × Int) × List Int) : Option (((List Int) × Int × Int × Int) × List Int) := XFunc.run impl_ReceiveAll.x (impl_ReceiveAll.env N) N x
def impl_ReceiveAll.fs (N : Nat) : FS := { arg := .pair (.pair (.list (.int .u8)) (.pair (.int .i64) (.pair (.int .i64) (.int .i64)))) (.list (.int .u8)), ret := .pair (.pair (.list (.int .u8)) (.pair (.int .i64) (.pair (.int .i64) (.int .i64)))) (.list (.int .i64)), fresh := true, F := impl_ReceiveAll.F N }
def impl_ReceiveAll.k2 (N : Nat) : Ex → S → Option (((List Int) × Int × Int × Int) × List Int) := seqK (fun s => XCode.runK (impl_ReceiveAll.env N) N (impl_ReceiveAll.c2) s (XFunc.endK impl_ReceiveAll.x)) (XFunc.endK impl_ReceiveAll.x)
def impl_ReceiveAll.k1 (N : Nat) : Ex → S → Option (((List Int) × Int × Int × Int) × List Int) := blockK 0 (impl_ReceiveAll.k2 N)
def impl_ReceiveAll.L1 (N : Nat) (n1 : Nat) (t19 : List Int) (t20 : Int) (t21 : Int) (o01 : Int) (o02 : Int) (o03 : Int) (o2 : List Int) (o5 : List Int) : Option (((List Int) × Int × Int × Int) × List Int) := loopK [.rename 6 2, .mkrow (.slot 6) 5 2 (.int .i64), .keep [2, 4, 6, 19, 20, 21], .drop 3, .drop 4, .drop 6, .norm] (fun s k => XCode.runK (impl_ReceiveAll.env N) N impl_ReceiveAll.c1 s k) n1
  { t := [.junk, .junk, .one (.ptr 0 0 0), .junk, .one (.ptr 1 0 0), .junk, .one (.ref 5 0 .all), .junk, .junk, .junk, .junk, .junk, .junk, .junk, .junk, .junk, .junk, .junk, .junk, .one (.sl false (.int .u8) t19), .one (.int .i64 t20), .one (.int .i64 t21), .junk, .junk, .junk, .junk, .junk, .junk, .junk, .junk, .junk, .junk, .junk, .junk, .junk, .junk, .junk, .junk, .junk, .junk, .junk, .junk], h := [.box 0 false [.ref 2 0 .all, .int .i64 o01, .int .i64 o02, .int .i64 o03], .box 0 false [.nil, .int .i64 (0 : Int), .int .i64 (0 : Int), .int .i64 (0 : Int)], .row 0 false true 1 (.int .u8) o2, .absent 0, .absent 0, .row 0 false true 2 (.int .i64) o5, .absent 0] }
  (impl_ReceiveAll.k1 N)

theorem impl_ReceiveAll.L1_eq (N : Nat) (n1 : Nat) (t19 : List Int) (t20 : Int) (t21 : Int) (o01 : Int) (o02 : Int) (o03 : Int) (o2 : List Int) (o5 : List Int) : impl_ReceiveAll.L1 N (n1 + 1) t19 t20 t21 o01 o02 o03 o2 o5 =
    bif decide (t21 < t20) then
      bif inRange t21 (List.length t19) then
      bindO (impl_ReceiveByte.F N ((o2, (o01, (o02, o03))), nth (0 : Int) t19 t21)) fun r2 =>
      bif r2.2 == (2 : Int) then
        bif decide (List.length o5 + List.length ([r2.1.2.2.1] : List Int) ≤ maxN) then
        impl_ReceiveAll.L1 N n1 t19 t20 (IntKind.wrap .i64 (t21 + (1 : Int))) r2.1.2.1 r2.1.2.2.1 r2.1.2.2.2 r2.1.1 (o5 ++ ([r2.1.2.2.1] : List Int))
        else none
      else
        impl_ReceiveAll.L1 N n1 t19 t20 (IntKind.wrap .i64 (t21 + (1 : Int))) r2.1.2.1 r2.1.2.2.1 r2.1.2.2.2 r2.1.1 o5
      else none
    else
      some ((o2, (o01, (o02, o03))), o5) := by kernel_rfl
theorem impl_ReceiveAll.L1_zero (N : Nat) (t19 : List Int) (t20 : Int) (t21 : Int) (o01 : Int) (o02 : Int) (o03 : Int) (o2 : List Int) (o5 : List Int) : impl_ReceiveAll.L1 N 0 t19 t20 t21 o01 o02 o03 o2 o5 = none := rfl
theorem impl_ReceiveAll.F_eq (N : Nat) (r_ : (List Int) × Int × Int × Int) (b : List Int) : impl_ReceiveAll.F N (r_, b) =
    bindO (impl_IsReceiver.F N r_) fun r1 =>
    bif !r1 then
      some ((([] : List Int), ((0 : Int), ((0 : Int), (0 : Int)))), ([] : List Int))
    else
      bif decide (List.length r_.1 ≤ maxN) then
      impl_ReceiveAll.L1 N N b (List.length b : Int) (0 : Int) r_.2.1 r_.2.2.1 r_.2.2.2 r_.1 ([] : List Int)
      else none := by kernel_rfl

def laws_sameInts.c1 : XCode := .seq (.seq (.region false [mv 11 5, mv 12 0, o1 13 .len 12, o2 14 (.bin .lss) 11 13]) (.cond (.slot 14) (.skip) (.exit 0))) (.seq (.block 1 (.seq (.region true [mv 17 0, mv 18 5, o2 19 (.indexAddr (.int .i64)) 17 18, o1 20 (.load false 1) 19, mv 21 1, mv 22 5, o2 23 (.indexAddr (.int .i64)) 21 22, o1 24 (.load false 1) 23, o2 25 (.bin .neq) 20 24]) (.cond (.slot 25) (.seq (.region false [op 4 .move [.const (.one (.bool false))]]) (.ret)) (.skip)))) (.region false [mv 15 5, op 16 (.bin .add) [.slot 15, .const (.one (.int .i64 (1 : Int)))], mv 5 16]))
def laws_sameInts.c2 : XCode := .seq (.region false [op 4 .move [.const (.one (.bool true))]]) (.ret)
def laws_sameInts.x : XFunc := { nslots := 26, nobj := 0, pars := [.val false 1, .val false 1], rowsIn := [none, none], rets := [.tmp 4 false 1], outs := [.imm], fresh := true, arg := .pair (.list (.int .i64)) (.list (.int .i64)), ret := .bool, body := .seq (.region false [op 4 .move [.const (.one (.bool false))]]) (.seq (.seq (.region false [mv 6 0, o1 7 .len 6, mv 8 1, o1 9 .len 8, o2 10 (.bin .neq) 7 9]) (.cond (.slot 10) (.seq (.region false [op 4 .move [.const (.one (.bool false))]]) (.ret)) (.skip))) (.seq (.seq (.region false [op 5 .move [.const (.one (.int .i64 (0 : Int)))]]) (.block 0 (.loop [.keep [0, 1, 5], .norm] (laws_sameInts.c1)))) (laws_sameInts.c2))) }
def laws_sameInts.env (_ : Nat) : Env := envOf (tbl [] noFS)
def laws_sameInts.F (N : Nat) (x : (List Int) × List Int) : Option Bool := XFunc.run laws_sameInts.x (laws_sameInts.env N) N x
def laws_sameInts.fs (N : Nat) : FS := { arg := .pair (.list (.int .i64)) (.list (.int .i64)), ret := .bool, fresh := true, F := laws_sameInts.F N }
def laws_sameInts.k2 (N : Nat) : Ex → S → Option Bool := seqK (fun s => XCode.runK (laws_sameInts.env N) N (laws_sameInts.c2) s (XFunc.endK laws_sameInts.x)) (XFunc.endK laws_sameInts.x)
def laws_sameInts.k1 (N : Nat) : Ex → S → Option Bool := blockK 0 (laws_sameInts.k2 N)
def laws_sameInts.L1 (N : Nat) (n1 : Nat) (a : List Int) (b : List Int) (i : Int) : Option Bool := loopK [.keep [0, 1, 5], .norm] (fun s k => XCode.runK (laws_sameInts.env N) N laws_sameInts.c1 s k) n1
  { t := [.one (.sl false (.int .i64) a), .one (.sl false (.int .i64) b), .junk, .junk, .junk, .one (.int .i64 i), .junk, .junk, .junk, .junk, .junk, .junk, .junk, .junk, .junk, .junk, .junk, .junk, .junk, .junk, .junk, .junk, .junk, .junk, .junk, .junk], h := [] }
  (laws_sameInts.k1 N)

theorem laws_sameInts.L1_eq (N : Nat) (n1 : Nat) (a : List Int) (b : List Int) (i : Int) : laws_sameInts.L1 N (n1 + 1) a b i =
    bif decide (i < (List.length a : Int)) then
      bif inRange i (List.length a) then
      bif inRange i (List.length b) then
      bif (nth (0 : Int) a i) != (nth (0 : Int) b i) then
        some false
      else
        laws_sameInts.L1 N n1 a b (IntKind.wrap .i64 (i + (1 : Int)))
      else none
      else none
    else
      some true := by kernel_rfl
theorem laws_sameInts.L1_zero (N : Nat) (a : List Int) (b : List Int) (i : Int) : laws_sameInts.L1 N 0 a b i = none := rfl
theorem laws_sameInts.F_eq (N : Nat) (a : List Int) (b : List Int) : laws_sameInts.F N (a, b) =
    bif (List.length a : Int) != (List.length b : Int) then
      some false
    else
      laws_sameInts.L1 N N a b (0 : Int) := by kernel_rfl

def laws_FnLink.c1 : XCode := .seq (.seq (.region false [mv 21 6, op 22 (.bin .gtr) [.slot 21, .const (.one (.int .i64 (0 : Int)))]]) (.cond (.slot 22) (.skip) (.exit 0))) (.seq (.block 1 (.seq (.region false [mv 25 0, mv 26 6, op 27 (.bin .add) [.const (.one (.int .i64 (131 : Int))), .slot 26], o2 28 (.call ⟨88, vs 2, no 2, [.val false 1], ims 1, true⟩) 25 27, mv 7 28]) (.seq (.region false [mv 29 6, mv 30 7, o2 31 (.call ⟨23, vs 2, no 2, [.val false 1], ims 1, true⟩) 29 30, mv 8 31]) (.seq (.region false [mv 32 4, mv 33 8, ow 34 (.append false 1 1 (.int .u8)) [.slot 32, .slot 33] [1] [1], mv 35 8, ow 36 (.append false 1 1 (.int .u8)) [.slot 34, .slot 35] [1] [1], mv 4 36]) (.region false [mv 37 5, mv 38 7, ow 39 (.buildSlice false 3 2 (.int .i64) 1 [(0, 1)] [.int .i64 (0 : Int)]) [.slot 38] [3] [3], ow 40 (.append false 2 2 (.int .i64)) [.slot 37, .slot 39] [2, 3] [2], mv 5 40]))))) (.region false [mv 23 6, op 24 (.bin .sub) [.slot 23, .const (.one (.int .i64 (1 : Int)))], mv 6 24]))
def laws_FnLink.c2 : XCode := .seq (.seq (.region false [mv 62 11, op 63 (.bin .lss) [.slot 62, .const (.one (.int .i64 (20 : Int)))]]) (.cond (.slot 63) (.skip) (.exit 2))) (.seq (.block 3 (.region false [ow 66 (.load true 4) [.slot 9] [4] [], o1 67 (.call ⟨93, [.val true 4], no 4, [.val true 4], ims 4, true⟩) 66, on (.store 4) [.slot 9, .slot 67] [4] [4]])) (.region false [mv 64 11, op 65 (.bin .add) [.slot 64, .const (.one (.int .i64 (1 : Int)))], mv 11 65]))
def laws_FnLink.c3 : XCode := .seq (.region true [ow 69 (.load true 4) [.slot 9] [4] [], op 70 (.call ⟨23, vs 2, no 2, [.val false 1], ims 1, true⟩) [.const (.one (.int .i64 (7 : Int))), .const (.one (.int .i64 (5 : Int)))], o2 71 (.call ⟨91, [.val true 4, .val false 1], no 5, [.val true 4, .val false 1], ims 5, true⟩) 69 70, mv 68 71, o1 72 (.extract 0) 68, o1 73 (.extract 1) 68, ow 12 (.alloc 5 [.nil, .int .i64 (0 : Int), .int .i64 (0 : Int), .int .i64 (0 : Int)]) [] [5] [5], on (.store 4) [.slot 12, .slot 72] [5] [5], mv 13 73]) (.seq (.region false [o1 74 (.fieldAddr 2) 9, ow 75 (.load false 1) [.slot 74] [4] [], op 76 (.bin .eql) [.slot 75, .const (.one (.int .i64 (0 : Int)))], ⟨some 77, .move, [.slot 76], [], [], none, true⟩, ⟨some 78, .fieldAddr 1, [.slot 9], [], [], some (77, true), false⟩, ⟨some 79, .load false 1, [.slot 78], [4], [], some (77, true), false⟩, ⟨some 80, .bin .eql, [.slot 79, .const (.one (.int .i64 (-1 : Int)))], [], [], some (77, true), false⟩, op 81 .pick [.slot 77, .slot 80, .const (.one (.bool false))], ⟨some 82, .move, [.slot 81], [], [], none, true⟩, ⟨some 83, .move, [.slot 13], [], [], some (82, true), false⟩, ⟨some 84, .len, [.slot 83], [], [], some (82, true), false⟩, ⟨some 85, .bin .eql, [.slot 84, .const (.one (.int .i64 (1 : Int)))], [], [], some (82, true), false⟩, op 86 .pick [.slot 82, .slot 85, .const (.one (.bool false))], ⟨some 87, .move, [.slot 86], [], [], none, true⟩, ⟨some 88, .fieldAddr 2, [.slot 12], [], [], some (87, true), false⟩, ⟨some 89, .load false 1, [.slot 88], [5], [], some (87, true), false⟩, ⟨some 90, .bin .eql, [.slot 89, .const (.one (.int .i64 (5 : Int)))], [], [], some (87, true), false⟩, op 91 .pick [.slot 87, .slot 90, .const (.one (.bool false))], ⟨some 92, .move, [.slot 91], [], [], none, true⟩, ⟨some 93, .fieldAddr 3, [.slot 12], [], [], some (92, true), false⟩, ⟨some 94, .load false 1, [.slot 93], [5], [], some (92, true), false⟩, ⟨some 95, .bin .eql, [.slot 94, .const (.one (.int .i64 (0 : Int)))], [], [], some (92, true), false⟩, op 96 .pick [.slot 92, .slot 95, .const (.one (.bool false))], mv 2 96]) (.ret))
def laws_FnLink.c4 : XCode := .seq (.region false [ow 42 (.load true 4) [.slot 3] [0] [], mv 43 4, ow 44 (.call ⟨91, [.val true 4, .val false 1], no 5, [.val true 4, .val false 1], ims 5, true⟩) [.slot 42, .slot 43] [1] [], mv 41 44, o1 45 (.extract 0) 41, o1 46 (.extract 1) 41, ow 9 (.alloc 4 [.nil, .int .i64 (0 : Int), .int .i64 (0 : Int), .int .i64 (0 : Int)]) [] [4] [4], on (.store 4) [.slot 9, .slot 45] [4] [4], mv 10 46]) (.seq (.seq (.region false [ow 47 (.load true 4) [.slot 3] [0] [], o1 48 (.call ⟨20, [.val true 4], no 4, [.val false 1], ims 1, true⟩) 47, o1 49 .not 48, ⟨some 50, .move, [.slot 49], [], [], none, true⟩, ⟨some 51, .move, [.slot 10], [], [], some (50, false), false⟩, ⟨some 52, .move, [.slot 5], [], [], some (50, false), false⟩, ⟨some 53, .call ⟨92, vs 2, no 2, [.val false 1], ims 1, true⟩, [.slot 51, .slot 52], [2], [], some (50, false), false⟩, ⟨some 54, .not, [.slot 53], [], [], some (50, false), false⟩, op 55 .pick [.slot 50, .const (.one (.bool true)), .slot 54], ⟨some 56, .move, [.slot 55], [], [], none, true⟩, ⟨some 57, .fieldAddr 0, [.slot 9], [], [], some (56, false), false⟩, ⟨some 58, .load false 1, [.slot 57], [4], [], some (56, false), false⟩, ⟨some 59, .len, [.slot 58], [], [], some (56, false), false⟩, ⟨some 60, .bin .neq, [.slot 59, .const (.one (.int .i64 (0 : Int)))], [], [], some (56, false), false⟩, op 61 .pick [.slot 56, .const (.one (.bool true)), .slot 60]]) (.cond (.slot 61) (.seq (.region false [op 2 .move [.const (.one (.bool false))]]) (.ret)) (.skip))) (.seq (.seq (.region false [op 11 .move [.const (.one (.int .i64 (0 : Int)))]]) (.block 2 (.loop [.keep [9, 11], .drop 0, .drop 1, .drop 2, .drop 3, .drop 5, .norm] (laws_FnLink.c2)))) (laws_FnLink.c3)))
def laws_FnLink.x : XFunc := { nslots := 97, nobj := 6, pars := [.val false 1], rowsIn := [none], rets := [.tmp 2 false 1], outs := [.imm], fresh := true, arg := .list (.int .u8), ret := .bool, body := .seq (.region false [op 2 .move [.const (.one (.bool false))]]) (.seq (.seq (.region false [mv 14 0, o1 15 (.call ⟨31, vs 1, no 1, [.val false 1], ims 1, true⟩) 14]) (.cond (.slot 15) (.seq (.region false [op 2 .move [.const (.one (.bool true))]]) (.ret)) (.skip))) (.seq (.region false [op 16 (.call ⟨29, [], [], [.val true 4], ims 4, true⟩) [], ow 3 (.alloc 0 [.nil, .int .i64 (0 : Int), .int .i64 (0 : Int), .int .i64 (0 : Int)]) [] [0] [0], on (.store 4) [.slot 3, .slot 16] [0] [0]]) (.seq (.region false [ow 17 (.buildSlice false 1 1 (.int .u8) 0 [] [.int .u8 (0 : Int)]) [] [1] [1], mv 4 17]) (.seq (.region false [ow 18 (.buildSlice false 2 2 (.int .i64) 0 [] [.int .i64 (0 : Int)]) [] [2] [2], mv 5 18]) (.seq (.seq (.region false [mv 19 0, op 20 (.call ⟨81, vs 3, no 3, [.val false 1], ims 1, true⟩) [.slot 19, .const (.one (.int .i64 (130 : Int))), .const (.one (.int .i64 (6 : Int)))], mv 6 20]) (.block 0 (.loop [.keep [0, 3, 4, 5, 6], .drop 3, .drop 4, .drop 5, .norm] (laws_FnLink.c1)))) (laws_FnLink.c4)))))) }
def laws_FnLink.env (N : Nat) : Env := envOf (tbl [(20, impl_IsReceiver.fs N), (23, impl_LinkFrame.fs N), (29, impl_NewReceiver.fs N), (91, impl_ReceiveAll.fs N), (93, impl_SilentTick.fs N), (31, laws_big.fs N), (92, laws_sameInts.fs N), (88, spec_MakeMask.fs N), (81, spec_MakeNumber.fs N)] noFS)
def laws_FnLink.F (N : Nat) (x : List Int) : Option Bool := XFunc.run laws_FnLink.x (laws_FnLink.env N) N x
def laws_FnLink.fs (N : Nat) : FS := { arg := .list (.int .u8), ret := .bool, fresh := true, F := laws_FnLink.F N }
def laws_FnLink.k2 (N : Nat) : Ex → S → Option Bool := seqK (fun s => XCode.runK (laws_FnLink.env N) N (laws_FnLink.c4) s (XFunc.endK laws_FnLink.x)) (XFunc.endK laws_FnLink.x)
def laws_FnLink.k1 (N : Nat) : Ex → S → Option Bool := blockK 0 (laws_FnLink.k2 N)
def laws_FnLink.k4 (N : Nat) : Ex → S → Option Bool := seqK (fun s => XCode.runK (laws_FnLink.env N) N (laws_FnLink.c3) s (XFunc.endK laws_FnLink.x)) (XFunc.endK laws_FnLink.x)
def laws_FnLink.k3 (N : Nat) : Ex → S → Option Bool := blockK 2 (laws_FnLink.k4 N)
def laws_FnLink.L1 (N : Nat) (n1 : Nat) (code : List Int) (n_ : Int) (o00 : List Int) (o01 : Int) (o02 : Int) (o03 : Int) (o1 : List Int) (o2 : List Int) : Option Bool := loopK [.keep [0, 3, 4, 5, 6], .drop 3, .drop 4, .drop 5, .norm] (fun s k => XCode.runK (laws_FnLink.env N) N laws_FnLink.c1 s k) n1
  { t := [.one (.sl false (.int .u8) code), .junk, .junk, .one (.ptr 0 0 0), .one (.ref 1 0 .all), .one (.ref 2 0 .all), .one (.int .i64 n_), .junk, .junk, .junk, .junk, .junk, .junk, .junk, .junk, .junk, .junk, .junk, .junk, .junk, .junk, .junk, .junk, .junk, .junk, .junk, .junk, .junk, .junk, .junk, .junk, .junk, .junk, .junk, .junk, .junk, .junk, .junk, .junk, .junk, .junk, .junk, .junk, .junk, .junk, .junk, .junk, .junk, .junk, .junk, .junk, .junk, .junk, .junk, .junk, .junk, .junk, .junk, .junk, .junk, .junk, .junk, .junk, .junk, .junk, .junk, .junk, .junk, .junk, .junk, .junk, .junk, .junk, .junk, .junk, .junk, .junk, .junk, .junk, .junk, .junk, .junk, .junk, .junk, .junk, .junk, .junk, .junk, .junk, .junk, .junk, .junk, .junk, .junk, .junk, .junk, .junk], h := [.box 0 false [.sl true (.int .u8) o00, .int .i64 o01, .int .i64 o02, .int .i64 o03], .row 0 false true 1 (.int .u8) o1, .row 0 false true 2 (.int .i64) o2, .absent 0, .absent 0, .absent 0] }
  (laws_FnLink.k1 N)
def laws_FnLink.L2 (N : Nat) (n2 : Nat) (i : Int) (o40 : List Int) (o41 : Int) (o42 : Int) (o43 : Int) : Option Bool := loopK [.keep [9, 11], .drop 0, .drop 1, .drop 2, .drop 3, .drop 5, .norm] (fun s k => XCode.runK (laws_FnLink.env N) N laws_FnLink.c2 s k) n2
  { t := [.junk, .junk, .junk, .junk, .junk, .junk, .junk, .junk, .junk, .one (.ptr 4 0 0), .junk, .one (.int .i64 i), .junk, .junk, .junk, .junk, .junk, .junk, .junk, .junk, .junk, .junk, .junk, .junk, .junk, .junk, .junk, .junk, .junk, .junk, .junk, .junk, .junk, .junk, .junk, .junk, .junk, .junk, .junk, .junk, .junk, .junk, .junk, .junk, .junk, .junk, .junk, .junk, .junk, .junk, .junk, .junk, .junk, .junk, .junk, .junk, .junk, .junk, .junk, .junk, .junk, .junk, .junk, .junk, .junk, .junk, .junk, .junk, .junk, .junk, .junk, .junk, .junk, .junk, .junk, .junk, .junk, .junk, .junk, .junk, .junk, .junk, .junk, .junk, .junk, .junk, .junk, .junk, .junk, .junk, .junk, .junk, .junk, .junk, .junk, .junk, .junk], h := [.absent 0, .absent 0, .absent 0, .absent 0, .box 0 false [.sl true (.int .u8) o40, .int .i64 o41, .int .i64 o42, .int .i64 o43], .absent 0] }
  (laws_FnLink.k3 N)

theorem laws_FnLink.L1_eq (N : Nat) (n1 : Nat) (code : List Int) (n_ : Int) (o00 : List Int) (o01 : Int) (o02 : Int) (o03 : Int) (o1 : List Int) (o2 : List Int) : laws_FnLink.L1 N (n1 + 1) code n_ o00 o01 o02 o03 o1 o2 =
    bif decide (n_ > (0 : Int)) then
      bindO (spec_MakeMask.F N (code, IntKind.wrap .i64 ((131 : Int) + n_))) fun r4 =>
      bindO (impl_LinkFrame.F N (n_, r4)) fun r5 =>
      bif decide (List.length o1 + List.length r5 ≤ maxN) then
      bif decide (List.length (o1 ++ r5) + List.length r5 ≤ maxN) then
      bif decide (List.length o2 + List.length ([r4] : List Int) ≤ maxN) then
      laws_FnLink.L1 N n1 code (IntKind.wrap .i64 (n_ - (1 : Int))) o00 o01 o02 o03 ((o1 ++ r5) ++ r5) (o2 ++ ([r4] : List Int))
      else none
      else none
      else none
    else
      bindO (impl_ReceiveAll.F N ((o00, (o01, (o02, o03))), o1)) fun r6 =>
      bindO (impl_IsReceiver.F N (o00, (o01, (o02, o03)))) fun r7 =>
      bif !r7 then
        some false
      else
        bindO (laws_sameInts.F N (r6.2, o2)) fun r8 =>
        bif !r8 then
          some false
        else
          bif (List.length r6.1.1 : Int) != (0 : Int) then
            some false
          else
            laws_FnLink.L2 N N (0 : Int) r6.1.1 r6.1.2.1 r6.1.2.2.1 r6.1.2.2.2 := by kernel_rfl
theorem laws_FnLink.L1_zero (N : Nat) (code : List Int) (n_ : Int) (o00 : List Int) (o01 : Int) (o02 : Int) (o03 : Int) (o1 : List Int) (o2 : List Int) : laws_FnLink.L1 N 0 code n_ o00 o01 o02 o03 o1 o2 = none := rfl
theorem laws_FnLink.L2_eq (N : Nat) (n2 : Nat) (i : Int) (o40 : List Int) (o41 : Int) (o42 : Int) (o43 : Int) : laws_FnLink.L2 N (n2 + 1) i o40 o41 o42 o43 =
    bif decide (i < (20 : Int)) then
      bindO (impl_SilentTick.F N (o40, (o41, (o42, o43)))) fun r9 =>
      laws_FnLink.L2 N n2 (IntKind.wrap .i64 (i + (1 : Int))) r9.1 r9.2.1 r9.2.2.1 r9.2.2.2
    else
      bindO (impl_LinkFrame.F N ((7 : Int), (5 : Int))) fun r10 =>
      bindO (impl_ReceiveAll.F N ((o40, (o41, (o42, o43))), r10)) fun r11 =>
      bif o42 == (0 : Int) then
        bif o41 == (-1 : Int) then
          bif (List.length r11.2 : Int) == (1 : Int) then
            bif r11.1.2.2.1 == (5 : Int) then
              some (r11.1.2.2.2 == (0 : Int))
            else
              some false
          else
            some false
        else
          some false
      else
        some false := by kernel_rfl
theorem laws_FnLink.L2_zero (N : Nat) (i : Int) (o40 : List Int) (o41 : Int) (o42 : Int) (o43 : Int) : laws_FnLink.L2 N 0 i o40 o41 o42 o43 = none := rfl
theorem laws_FnLink.F_eq (N : Nat) (code : List Int) : laws_FnLink.F N code =
    bindO (laws_big.F N code) fun r1 =>
    bif r1 then
      some true
    else
      bindO (impl_NewReceiver.F N ()) fun r2 =>
      bindO (spec_MakeNumber.F N (code, ((130 : Int), (6 : Int)))) fun r3 =>
      laws_FnLink.L1 N N code r3 r2.1 r2.2.1 r2.2.2.1 r2.2.2.2 ([] : List Int) ([] : List Int) := by kernel_rfl

def spec_ReceiveByte.x : XFunc := { nslots := 55, nobj := 6, pars := [.val true 4, .val false 1], rowsIn := [none, none, none, none, none], rets := [.var 4 true 4, .tmp 5 false 1], outs := [.own 1, .imm, .imm, .imm, .imm], fresh := true, arg := .pair (.pair (.list (.int .u8)) (.pair (.int .i64) (.pair (.int .i64) (.int .i64)))) (.int .u8), ret := .pair (.pair (.list (.int .u8)) (.pair (.int .i64) (.pair (.int .i64) (.int .i64)))) (.int .i64), body := .seq (.region false [ow 2 (.box 0) [.slot 0] [0] [0], ow 4 (.alloc 1 [.nil, .int .i64 (0 : Int), .int .i64 (0 : Int), .int .i64 (0 : Int)]) [] [1] [1], op 5 .move [.const (.one (.int .i64 (0 : Int)))]]) (.seq (.seq (.region false [ow 10 (.load true 4) [.slot 2] [0] [], o1 11 (.call ⟨19, [.val true 4], no 4, [.val false 1], ims 1, true⟩) 10, o1 12 .not 11]) (.cond (.slot 12) (.seq (.region false [op 13 (.build [.nil, .int .i64 (0 : Int), .int .i64 (0 : Int), .int .i64 (0 : Int)] []) [], on (.store 4) [.slot 4, .slot 13] [1] [1], op 5 .move [.const (.one (.int .i64 (0 : Int)))]]) (.ret)) (.skip))) (.seq (.region false [ow 14 (.load true 4) [.slot 2] [0] [], ow 6 (.alloc 2 [.nil, .int .i64 (0 : Int), .int .i64 (0 : Int), .int .i64 (0 : Int)]) [] [2] [2], on (.store 4) [.slot 6, .slot 14] [2] [2]]) (.seq (.region false [ow 15 (.buildSlice false 3 1 (.int .u8) 0 [] [.int .u8 (0 : Int)]) [] [3] [3], o1 16 (.fieldAddr 0) 2, ow 17 (.load false 1) [.slot 16] [0] [], ow 18 (.append false 3 1 (.int .u8)) [.slot 15, .slot 17] [3] [3], mv 19 1, ow 20 (.buildSlice false 4 1 (.int .u8) 1 [(0, 1)] [.int .u8 (0 : Int)]) [.slot 19] [4] [4], ow 21 (.append false 3 1 (.int .u8)) [.slot 18, .slot 20] [3, 4] [3], o1 22 (.fieldAddr 0) 6, on (.store 1) [.slot 22, .slot 21] [2] [2]]) (.seq (.seq (.region false [o1 23 (.fieldAddr 0) 6, ow 24 (.load false 1) [.slot 23] [2] [], ow 25 .len [.slot 24] [3] [], op 26 (.bin .lss) [.slot 25, .const (.one (.int .i64 (6 : Int)))]]) (.cond (.slot 26) (.seq (.region false [ow 27 (.load true 4) [.slot 6] [2] [], on (.store 4) [.slot 4, .slot 27] [1] [1], op 5 .move [.const (.one (.int .i64 (1 : Int)))]]) (.ret)) (.skip))) (.seq (.region false [o1 29 (.fieldAddr 0) 6, ow 30 (.load false 1) [.slot 29] [2] [], ow 31 (.call ⟨22, vs 1, no 1, [.val false 1, .val false 1, .val false 1], ims 3, true⟩) [.slot 30] [3] [], mv 28 31, o1 32 (.extract 0) 28, o1 33 (.extract 1) 28, o1 34 (.extract 2) 28, mv 7 32, mv 8 33, mv 9 34]) (.seq (.seq (.region false [mv 35 9, o1 36 .not 35]) (.cond (.slot 36) (.seq (.region false [o1 37 (.fieldAddr 0) 6, ow 38 (.load false 1) [.slot 37] [2] [], ow 39 (.slice (.int .u8) true false) [.slot 38, .const (.one (.int .i64 (1 : Int)))] [3] [], o1 40 (.fieldAddr 0) 6, on (.store 1) [.slot 40, .slot 39] [2] [2]]) (.seq (.region false [ow 41 (.load true 4) [.slot 6] [2] [], on (.store 4) [.slot 4, .slot 41] [1] [1], op 5 .move [.const (.one (.int .i64 (1 : Int)))]]) (.ret))) (.skip))) (.seq (.region false [ow 42 (.buildSlice false 5 1 (.int .u8) 0 [] [.int .u8 (0 : Int)]) [] [5] [5], o1 43 (.fieldAddr 0) 6, on (.store 1) [.slot 43, .slot 42] [2] [2]]) (.seq (.region false [o1 44 (.fieldAddr 3) 6, on (.store 1) [.slot 44, .const (.one (.int .i64 (0 : Int)))] [2] [2]]) (.seq (.seq (.region false [mv 45 7, o1 46 (.fieldAddr 1) 2, ow 47 (.load false 1) [.slot 46] [0] [], o2 48 (.bin .eql) 45 47]) (.cond (.slot 48) (.seq (.region false [ow 49 (.load true 4) [.slot 6] [2] [], on (.store 4) [.slot 4, .slot 49] [1] [1], op 5 .move [.const (.one (.int .i64 (3 : Int)))]]) (.ret)) (.skip))) (.seq (.region false [mv 50 7, o1 51 (.fieldAddr 1) 6, on (.store 1) [.slot 51, .slot 50] [2] [2]]) (.seq (.region false [mv 52 8, o1 53 (.fieldAddr 2) 6, on (.store 1) [.slot 53, .slot 52] [2] [2]]) (.seq (.region false [ow 54 (.load true 4) [.slot 6] [2] [], on (.store 4) [.slot 4, .slot 54] [1] [1], op 5 .move [.const (.one (.int .i64 (2 : Int)))]]) (.ret))))))))))))) }
def spec_ReceiveByte.env (N : Nat) : Env := envOf (tbl [(19, spec_IsReceiver.fs N), (22, spec_ReadFrame.fs N)] noFS)
def spec_ReceiveByte.F (N : Nat) (x : ((List Int) × Int × Int × Int) × Int) : Option (((List Int) × Int × Int × Int) × Int) := XFunc.run spec_ReceiveByte.x (spec_ReceiveByte.env N) N x
def spec_ReceiveByte.fs (N : Nat) : FS := { arg := .pair (.pair (.list (.int .u8)) (.pair (.int .i64) (.pair (.int .i64) (.int .i64)))) (.int .u8), ret := .pair (.pair (.list (.int .u8)) (.pair (.int .i64) (.pair (.int .i64) (.int .i64)))) (.int .i64), fresh := true, F := spec_ReceiveByte.F N }

theorem spec_ReceiveByte.F_eq (N : Nat) (r_ : (List Int) × Int × Int × Int) (x_ : Int) : spec_ReceiveByte.F N (r_, x_) =
    bindO (spec_IsReceiver.F N r_) fun r1 =>
    bif !r1 then
      some ((([] : List Int), ((0 : Int), ((0 : Int), (0 : Int)))), (0 : Int))
    else
      bif decide (List.length ([] : List Int) + List.length r_.1 ≤ maxN) then
      bif decide (List.length (([] : List Int) ++ r_.1) + List.length ([x_] : List Int) ≤ maxN) then
      bif decide ((List.length ((([] : List Int) ++ r_.1) ++ ([x_] : List Int)) : Int) < (6 : Int)) then
        some (((([] : List Int) ++ r_.1) ++ ([x_] : List Int), r_.2), (1 : Int))
      else
        bindO (spec_ReadFrame.F N ((([] : List Int) ++ r_.1) ++ ([x_] : List Int))) fun r2 =>
        bif !r2.2.2 then
          bif decide (0 ≤ (1 : Int)) && decide ((1 : Int) ≤ (List.length ((([] : List Int) ++ r_.1) ++ ([x_] : List Int)) : Int)) then
          some ((List.drop 1 ((([] : List Int) ++ r_.1) ++ ([x_] : List Int)), r_.2), (1 : Int))
          else none
        else
          bif r2.1 == r_.2.1 then
            some ((([] : List Int), (r_.2.1, (r_.2.2.1, (0 : Int)))), (3 : Int))
          else
            some ((([] : List Int), (r2.1, (r2.2.1, (0 : Int)))), (2 : Int))
      else none
      else none := by kernel_rfl

def laws_FnExactReceiveByte.x : XFunc := { nslots := 101, nobj := 7, pars := [.val true 4, .val false 1], rowsIn := [none, none, none, none, none], rets := [.tmp 4 false 1], outs := [.imm], fresh := true, arg := .pair (.pair (.list (.int .u8)) (.pair (.int .i64) (.pair (.int .i64) (.int .i64)))) (.int .u8), ret := .bool, body := .seq (.region false [ow 2 (.box 0) [.slot 0] [0] [0], op 4 .move [.const (.one (.bool false))]]) (.seq (.region false [op 5 .move [.const (.one (.int .i64 (1048576 : Int)))]]) (.seq (.region false [ow 16 (.load true 4) [.slot 2] [0] [], mv 17 5, o2 18 (.call ⟨18, [.val true 4, .val false 1], no 5, [.val false 1], ims 1, true⟩) 16 17, mv 5 18]) (.seq (.seq (.region false [mv 19 5, op 20 (.bin .lss) [.slot 19, .const (.one (.int .i64 (0 : Int)))]]) (.cond (.slot 20) (.seq (.region false [op 4 .move [.const (.one (.bool true))]]) (.ret)) (.skip))) (.seq (.region false [ow 22 (.load true 4) [.slot 2] [0] [], o1 23 (.call ⟨30, [.val true 4], no 4, [.val true 4], ims 4, true⟩) 22, mv 24 1, o2 25 (.call ⟨325, [.val true 4, .val false 1], no 5, [.val true 4, .val false 1], ims 5, true⟩) 23 24, mv 21 25, o1 26 (.extract 0) 21, o1 27 (.extract 1) 21, ow 6 (.alloc 1 [.nil, .int .i64 (0 : Int), .int .i64 (0 : Int), .int .i64 (0 : Int)]) [] [1] [1], on (.store 4) [.slot 6, .slot 26] [1] [1], mv 7 27]) (.seq (.region false [ow 28 (.load true 4) [.slot 2] [0] [], ow 29 (.call ⟨30, [.val true 4], no 4, [.val true 4], [.own 4 1, .imm, .imm, .imm], true⟩) [.slot 28] [4] [4], ow 8 (.alloc 2 [.nil, .int .i64 (0 : Int), .int .i64 (0 : Int), .int .i64 (0 : Int)]) [] [2] [2], on (.store 4) [.slot 8, .slot 29] [2] [2]]) (.seq (.region false [ow 31 (.load true 4) [.slot 8] [2] [], mv 32 1, ow 33 (.call ⟨90, [.val true 4, .val false 1], no 5, [.val true 4, .val false 1], [.own 5 1, .imm, .imm, .imm, .imm], true⟩) [.slot 31, .slot 32] [4, 5] [5], mv 30 33, o1 34 (.extract 0) 30, o1 35 (.extract 1) 30, ow 9 (.alloc 3 [.nil, .int .i64 (0 : Int), .int .i64 (0 : Int), .int .i64 (0 : Int)]) [] [3] [3], on (.store 4) [.slot 9, .slot 34] [3] [3], mv 10 35]) (.seq (.seq (.region false [ow 36 (.load true 4) [.slot 9] [3] [], ow 37 (.load true 4) [.slot 6] [1] [], ow 38 (.call ⟨11, [.val true 4, .val true 4], no 8, [.val false 1], ims 1, true⟩) [.slot 36, .slot 37] [5] [], o1 39 .not 38, ⟨some 40, .move, [.slot 39], [], [], none, true⟩, ⟨some 41, .move, [.slot 10], [], [], some (40, false), false⟩, ⟨some 42, .move, [.slot 7], [], [], some (40, false), false⟩, ⟨some 43, .bin .neq, [.slot 41, .slot 42], [], [], some (40, false), false⟩, op 44 .pick [.slot 40, .const (.one (.bool true)), .slot 43]]) (.cond (.slot 44) (.seq (.region false [op 4 .move [.const (.one (.bool false))]]) (.ret)) (.skip))) (.seq (.seq (.region true [ow 45 (.load true 4) [.slot 8] [2] [], ow 46 (.load true 4) [.slot 2] [0] [], o1 47 (.call ⟨30, [.val true 4], no 4, [.val true 4], ims 4, true⟩) 46, ow 48 (.call ⟨11, [.val true 4, .val true 4], no 8, [.val false 1], ims 1, true⟩) [.slot 45, .slot 47] [4] [], o1 49 .not 48]) (.cond (.slot 49) (.seq (.region false [op 4 .move [.const (.one (.bool false))]]) (.ret)) (.skip))) (.seq (.region false [op 11 .move [.const (.one (.int .i64 (1 : Int)))]]) (.seq (.region false [ow 50 (.load true 4) [.slot 8] [2] [], mv 51 11, ow 52 (.call ⟨13, [.val true 4, .val false 1], [some (4, 1), none, none, none, none], [.val false 1], [.imm, .back 4], false⟩) [.slot 50, .slot 51] [4] [4], mv 11 52]) (.seq (.seq (.region false [mv 53 11, op 54 (.bin .lss) [.slot 53, .const (.one (.int .i64 (0 : Int)))], ⟨some 55, .move, [.slot 54], [], [], none, true⟩, ⟨some 56, .load true 4, [.slot 9], [3], [], some (55, false), false⟩, ⟨some 57, .load true 4, [.slot 6], [1], [], some (55, false), false⟩, ⟨some 58, .call ⟨11, [.val true 4, .val true 4], no 8, [.val false 1], ims 1, true⟩, [.slot 56, .slot 57], [5], [], some (55, false), false⟩, ⟨some 59, .not, [.slot 58], [], [], some (55, false), false⟩, op 60 .pick [.slot 55, .const (.one (.bool true)), .slot 59], ⟨some 61, .move, [.slot 60], [], [], none, true⟩, ⟨some 62, .move, [.slot 10], [], [], some (61, false), false⟩, ⟨some 63, .move, [.slot 7], [], [], some (61, false), false⟩, ⟨some 64, .bin .neq, [.slot 62, .slot 63], [], [], some (61, false), false⟩, op 65 .pick [.slot 61, .const (.one (.bool true)), .slot 64]]) (.cond (.slot 65) (.seq (.region false [op 4 .move [.const (.one (.bool false))]]) (.ret)) (.skip))) (.seq (.region false [op 12 .move [.const (.one (.int .i64 (1 : Int)))]]) (.seq (.region false [ow 66 (.load true 4) [.slot 9] [3] [], mv 67 12, ow 68 (.call ⟨13, [.val true 4, .val false 1], [some (5, 1), none, none, none, none], [.val false 1], [.imm, .back 5], false⟩) [.slot 66, .slot 67] [5] [5], mv 12 68]) (.seq (.region false [op 13 .move [.const (.one (.int .i64 (1 : Int)))]]) (.seq (.region false [ow 69 (.load true 4) [.slot 9] [3] [], mv 70 13, ow 71 (.call ⟨15, [.val true 4, .val false 1], no 5, [.val false 1], ims 1, true⟩) [.slot 69, .slot 70] [5] [], mv 13 71]) (.seq (.seq (.region false [mv 72 13, op 73 (.bin .lss) [.slot 72, .const (.one (.int .i64 (0 : Int)))]]) (.cond (.slot 73) (.seq (.region false [op 4 .move [.const (.one (.bool false))]]) (.ret)) (.skip))) (.seq (.seq (.region false [mv 74 13, mv 75 12, o2 76 (.bin .neq) 74 75]) (.cond (.slot 76) (.seq (.region false [op 4 .move [.const (.one (.bool false))]]) (.ret)) (.skip))) (.seq (.region false [ow 78 (.load true 4) [.slot 2] [0] [], o1 79 (.call ⟨30, [.val true 4], no 4, [.val true 4], ims 4, true⟩) 78, mv 80 1, o2 81 (.call ⟨90, [.val true 4, .val false 1], no 5, [.val true 4, .val false 1], ims 5, true⟩) 79 80, mv 77 81, o1 82 (.extract 0) 77, o1 83 (.extract 1) 77, ow 14 (.alloc 6 [.nil, .int .i64 (0 : Int), .int .i64 (0 : Int), .int .i64 (0 : Int)]) [] [6] [6], on (.store 4) [.slot 14, .slot 82] [6] [6], mv 15 83]) (.seq (.seq (.region false [ow 84 (.load true 4) [.slot 14] [6] [], ow 85 (.load true 4) [.slot 6] [1] [], o2 86 (.call ⟨11, [.val true 4, .val true 4], no 8, [.val false 1], ims 1, true⟩) 84 85, o1 87 .not 86, ⟨some 88, .move, [.slot 87], [], [], none, true⟩, ⟨some 89, .move, [.slot 15], [], [], some (88, false), false⟩, ⟨some 90, .move, [.slot 7], [], [], some (88, false), false⟩, ⟨some 91, .bin .neq, [.slot 89, .slot 90], [], [], some (88, false), false⟩, op 92 .pick [.slot 88, .const (.one (.bool true)), .slot 91]]) (.cond (.slot 92) (.seq (.region false [op 4 .move [.const (.one (.bool false))]]) (.ret)) (.skip))) (.seq (.region false [op 13 .move [.const (.one (.int .i64 (1 : Int)))]]) (.seq (.region false [ow 93 (.load true 4) [.slot 9] [3] [], mv 94 13, ow 95 (.call ⟨15, [.val true 4, .val false 1], no 5, [.val false 1], ims 1, true⟩) [.slot 93, .slot 94] [5] [], mv 13 95]) (.seq (.seq (.region false [mv 96 13, op 97 (.bin .lss) [.slot 96, .const (.one (.int .i64 (0 : Int)))]]) (.cond (.slot 97) (.seq (.region false [op 4 .move [.const (.one (.bool false))]]) (.ret)) (.skip))) (.seq (.seq (.region false [mv 98 13, mv 99 12, o2 100 (.bin .neq) 98 99]) (.cond (.slot 100) (.seq (.region false [op 4 .move [.const (.one (.bool false))]]) (.ret)) (.skip))) (.seq (.region false [op 4 .move [.const (.one (.bool true))]]) (.ret))))))))))))))))))))))))) }
def laws_FnExactReceiveByte.env (N : Nat) : Env := envOf (tbl [(90, impl_ReceiveByte.fs N), (11, laws_eqReceiver.fs N), (15, laws_heldReceiver.fs N), (13, laws_markReceiver.fs N), (18, laws_szReceiver.fs N), (30, laws_toReceiver.fs N), (325, spec_ReceiveByte.fs N)] noFS)
def laws_FnExactReceiveByte.F (N : Nat) (x : ((List Int) × Int × Int × Int) × Int) : Option Bool := XFunc.run laws_FnExactReceiveByte.x (laws_FnExactReceiveByte.env N) N x
def laws_FnExactReceiveByte.fs (N : Nat) : FS := { arg := .pair (.pair (.list (.int .u8)) (.pair (.int .i64) (.pair (.int .i64) (.int .i64)))) (.int .u8), ret := .bool, fresh := true, F := laws_FnExactReceiveByte.F N }

theorem laws_FnExactReceiveByte.F_eq (N : Nat) (aR : (List Int) × Int × Int × Int) (aX : Int) : laws_FnExactReceiveByte.F N (aR, aX) =
    bindO (laws_szReceiver.F N (aR, (1048576 : Int))) fun r1 =>
    bif decide (r1 < (0 : Int)) then
      some true
    else
      bindO (laws_toReceiver.F N aR) fun r2 =>
      bindO (spec_ReceiveByte.F N (r2, aX)) fun r3 =>
      bindO (laws_toReceiver.F N aR) fun r4 =>
      bindO (impl_ReceiveByte.F N (r4, aX)) fun r5 =>
      bindO (laws_eqReceiver.F N (r5.1, r3.1)) fun r6 =>
      bif !r6 then
        some false
      else
        bif r5.2 != r3.2 then
          some false
        else
          bindO (laws_toReceiver.F N aR) fun r7 =>
          bindO (laws_eqReceiver.F N (r4, r7)) fun r8 =>
          bif !r8 then
            some false
          else
            bindO (laws_markReceiver.F N (r4, (1 : Int))) fun r9 =>
            bif decide (r9.1 < (0 : Int)) then
              some false
            else
              bindO (laws_eqReceiver.F N (r5.1, r3.1)) fun r10 =>
              bif !r10 then
                some false
              else
                bif r5.2 != r3.2 then
                  some false
                else
                  bindO (laws_markReceiver.F N (r5.1, (1 : Int))) fun r11 =>
                  bindO (laws_heldReceiver.F N ((r11.2, r5.1.2), (1 : Int))) fun r12 =>
                  bif decide (r12 < (0 : Int)) then
                    some false
                  else
                    bif r12 != r11.1 then
                      some false
                    else
                      bindO (laws_toReceiver.F N aR) fun r13 =>
                      bindO (impl_ReceiveByte.F N (r13, aX)) fun r14 =>
                      bindO (laws_eqReceiver.F N (r14.1, r3.1)) fun r15 =>
                      bif !r15 then
                        some false
                      else
                        bif r14.2 != r3.2 then
                          some false
                        else
                          bindO (laws_heldReceiver.F N ((r11.2, r5.1.2), (1 : Int))) fun r16 =>
                          bif decide (r16 < (0 : Int)) then
                            some false
                          else
                            bif r16 != r11.1 then
                              some false
                            else
                              some true := by kernel_rfl

def spec_ReceiveAll.c1 : XCode := .seq (.seq (.region false [mv 18 8, mv 19 1, o1 20 .len 19, o2 21 (.bin .lss) 18 20]) (.cond (.slot 21) (.skip) (.exit 0))) (.seq (.block 1 (.seq (.region true [ow 25 (.load true 4) [.slot 7] [3] [], mv 26 1, mv 27 8, o2 28 (.indexAddr (.int .u8)) 26 27, o1 29 (.load false 1) 28, ow 30 (.call ⟨325, [.val true 4, .val false 1], no 5, [.val true 4, .val false 1], [.own 8 1, .imm, .imm, .imm, .imm], true⟩) [.slot 25, .slot 29] [4, 8] [8], mv 24 30, o1 31 (.extract 0) 24, o1 32 (.extract 1) 24, ow 9 (.alloc 5 [.nil, .int .i64 (0 : Int), .int .i64 (0 : Int), .int .i64 (0 : Int)]) [] [5] [5], on (.store 4) [.slot 9, .slot 31] [5] [5], mv 10 32]) (.seq (.seq (.region false [mv 33 10, op 34 (.bin .eql) [.slot 33, .const (.one (.int .i64 (0 : Int)))]]) (.cond (.slot 34) (.seq (.region false [op 35 (.build [.nil, .int .i64 (0 : Int), .int .i64 (0 : Int), .int .i64 (0 : Int)] []) [], ow 36 (.buildSlice false 6 2 (.int .i64) 0 [] [.int .i64 (0 : Int)]) [] [6] [6], on (.store 4) [.slot 4, .slot 35] [1] [1], mv 5 36]) (.ret)) (.skip))) (.seq (.seq (.region false [mv 37 10, op 38 (.bin .eql) [.slot 37, .const (.one (.int .i64 (2 : Int)))]]) (.cond (.slot 38) (.region false [mv 39 6, o1 40 (.fieldAddr 2) 9, ow 41 (.load false 1) [.slot 40] [5] [], ow 42 (.buildSlice false 7 2 (.int .i64) 1 [(0, 1)] [.int .i64 (0 : Int)]) [.slot 41] [7] [7], ow 43 (.append false 2 2 (.int .i64)) [.slot 39, .slot 42] [2, 7] [2], mv 6 43]) (.skip))) (.region false [ow 44 (.load true 4) [.slot 9] [5] [], on (.store 4) [.slot 7, .slot 44] [3] [3]]))))) (.region false [mv 22 8, op 23 (.bin .add) [.slot 22, .const (.one (.int .i64 (1 : Int)))], mv 8 23]))
def spec_ReceiveAll.c2 : XCode := .seq (.seq (.region false [ow 45 (.load true 4) [.slot 7] [3] [], ow 46 (.call ⟨19, [.val true 4], no 4, [.val false 1], ims 1, true⟩) [.slot 45] [4] [], o1 47 .not 46]) (.cond (.slot 47) (.seq (.region false [op 48 (.build [.nil, .int .i64 (0 : Int), .int .i64 (0 : Int), .int .i64 (0 : Int)] []) [], ow 49 (.buildSlice false 9 2 (.int .i64) 0 [] [.int .i64 (0 : Int)]) [] [9] [9], on (.store 4) [.slot 4, .slot 48] [1] [1], mv 5 49]) (.ret)) (.skip))) (.seq (.region false [ow 50 (.load true 4) [.slot 7] [3] [], mv 51 6, on (.store 4) [.slot 4, .slot 50] [1] [1], mv 5 51]) (.ret))
def spec_ReceiveAll.x : XFunc := { nslots := 52, nobj := 10, pars := [.val true 4, .val false 1], rowsIn := [none, none, none, none, none], rets := [.var 4 true 4, .tmp 5 false 1], outs := [.own 1, .imm, .imm, .imm, .own 2], fresh := true, arg := .pair (.pair (.list (.int .u8)) (.pair (.int .i64) (.pair (.int .i64) (.int .i64)))) (.list (.int .u8)), ret := .pair (.pair (.list (.int .u8)) (.pair (.int .i64) (.pair (.int .i64) (.int .i64)))) (.list (.int .i64)), body := .seq (.region false [ow 2 (.box 0) [.slot 0] [0] [0], ow 4 (.alloc 1 [.nil, .int .i64 (0 : Int), .int .i64 (0 : Int), .int .i64 (0 : Int)]) [] [1] [1], op 5 .move [.const (.one (.nil))]]) (.seq (.region false [ow 11 (.buildSlice false 2 2 (.int .i64) 0 [] [.int .i64 (0 : Int)]) [] [2] [2], mv 6 11]) (.seq (.region false [ow 12 (.load true 4) [.slot 2] [0] [], ow 7 (.alloc 3 [.nil, .int .i64 (0 : Int), .int .i64 (0 : Int), .int .i64 (0 : Int)]) [] [3] [3], on (.store 4) [.slot 7, .slot 12] [3] [3]]) (.seq (.region false [ow 13 (.buildSlice false 4 1 (.int .u8) 0 [] [.int .u8 (0 : Int)]) [] [4] [4], o1 14 (.fieldAddr 0) 2, ow 15 (.load false 1) [.slot 14] [0] [], ow 16 (.append false 4 1 (.int .u8)) [.slot 13, .slot 15] [4] [4], o1 17 (.fieldAddr 0) 7, on (.store 1) [.slot 17, .slot 16] [3] [3]]) (.seq (.seq (.region false [op 8 .move [.const (.one (.int .i64 (0 : Int)))]]) (.block 0 (.loop [.rename 8 4, .keep [1, 4, 6, 7, 8], .drop 0, .drop 5, .drop 6, .drop 7, .drop 8, .drop 9, .norm] (spec_ReceiveAll.c1)))) (spec_ReceiveAll.c2))))) }
def spec_ReceiveAll.env (N : Nat) : Env := envOf (tbl [(19, spec_IsReceiver.fs N), (325, spec_ReceiveByte.fs N)] noFS)
def spec_ReceiveAll.F (N : Nat) (x : ((List Int) × Int × Int × Int) × List Int) : Option (((List Int) × Int × Int × Int) × List Int) := XFunc.run spec_ReceiveAll.x (spec_ReceiveAll.env N) N x
def spec_ReceiveAll.fs (N : Nat) : FS := { arg := .pair (.pair (.list (.int .u8)) (.pair (.int .i64) (.pair (.int .i64) (.int .i64)))) (.list (.int .u8)), ret := .pair (.pair (.list (.int .u8)) (.pair (.int .i64) (.pair (.int .i64) (.int .i64)))) (.list (.int .i64)), fresh := true, F := spec_ReceiveAll.F N }
def spec_ReceiveAll.k2 (N : Nat) : Ex → S → Option (((List Int) × Int × Int × Int) × List Int) := seqK (fun s => XCode.runK (spec_ReceiveAll.env N) N (spec_ReceiveAll.c2) s (XFunc.endK spec_ReceiveAll.x)) (XFunc.endK spec_ReceiveAll.x)
def spec_ReceiveAll.k1 (N : Nat) : Ex → S → Option (((List Int) × Int × Int × Int) × List Int) := blockK 0 (spec_ReceiveAll.k2 N)
def spec_ReceiveAll.L1 (N : Nat) (n1 : Nat) (b : List Int) (i : Int) (o2 : List Int) (o31 : Int) (o32 : Int) (o33 : Int) (o4 : List Int) : Option (((List Int) × Int × Int × Int) × List Int) := loopK [.rename 8 4, .keep [1, 4, 6, 7, 8], .drop 0, .drop 5, .drop 6, .drop 7, .drop 8, .drop 9, .norm] (fun s k => XCode.runK (spec_ReceiveAll.env N) N spec_ReceiveAll.c1 s k) n1
  { t := [.junk, .one (.sl false (.int .u8) b), .junk, .junk, .one (.ptr 1 0 0), .junk, .one (.ref 2 0 .all), .one (.ptr 3 0 0), .one (.int .i64 i), .junk, .junk, .junk, .junk, .junk, .junk, .junk, .junk, .junk, .junk, .junk, .junk, .junk, .junk, .junk, .junk, .junk, .junk, .junk, .junk, .junk, .junk, .junk, .junk, .junk, .junk, .junk, .junk, .junk, .junk, .junk, .junk, .junk, .junk, .junk, .junk, .junk, .junk, .junk, .junk, .junk, .junk, .junk], h := [.absent 0, .box 0 false [.nil, .int .i64 (0 : Int), .int .i64 (0 : Int), .int .i64 (0 : Int)], .row 0 false true 2 (.int .i64) o2, .box 0 false [.ref 4 0 .all, .int .i64 o31, .int .i64 o32, .int .i64 o33], .row 0 false true 1 (.int .u8) o4, .absent 0, .absent 0, .absent 0, .absent 0, .absent 0] }
  (spec_ReceiveAll.k1 N)

theorem spec_ReceiveAll.L1_eq (N : Nat) (n1 : Nat) (b : List Int) (i : Int) (o2 : List Int) (o31 : Int) (o32 : Int) (o33 : Int) (o4 : List Int) : spec_ReceiveAll.L1 N (n1 + 1) b i o2 o31 o32 o33 o4 =
    bif decide (i < (List.length b : Int)) then
      bif inRange i (List.length b) then
      bindO (spec_ReceiveByte.F N ((o4, (o31, (o32, o33))), nth (0 : Int) b i)) fun r1 =>
      bif r1.2 == (0 : Int) then
        some ((([] : List Int), ((0 : Int), ((0 : Int), (0 : Int)))), ([] : List Int))
      else
        bif r1.2 == (2 : Int) then
          bif decide (List.length o2 + List.length ([r1.1.2.2.1] : List Int) ≤ maxN) then
          spec_ReceiveAll.L1 N n1 b (IntKind.wrap .i64 (i + (1 : Int))) (o2 ++ ([r1.1.2.2.1] : List Int)) r1.1.2.1 r1.1.2.2.1 r1.1.2.2.2 r1.1.1
          else none
        else
          spec_ReceiveAll.L1 N n1 b (IntKind.wrap .i64 (i + (1 : Int))) o2 r1.1.2.1 r1.1.2.2.1 r1.1.2.2.2 r1.1.1
      else none
    else
      bindO (spec_IsReceiver.F N (o4, (o31, (o32, o33)))) fun r2 =>
      bif !r2 then
        some ((([] : List Int), ((0 : Int), ((0 : Int), (0 : Int)))), ([] : List Int))
      else
        some ((o4, (o31, (o32, o33))), o2) := by kernel_rfl
theorem spec_ReceiveAll.L1_zero (N : Nat) (b : List Int) (i : Int) (o2 : List Int) (o31 : Int) (o32 : Int) (o33 : Int) (o4 : List Int) : spec_ReceiveAll.L1 N 0 b i o2 o31 o32 o33 o4 = none := rfl
theorem spec_ReceiveAll.F_eq (N : Nat) (r_ : (List Int) × Int × Int × Int) (b : List Int) : spec_ReceiveAll.F N (r_, b) =
    bif decide (List.length ([] : List Int) + List.length r_.1 ≤ maxN) then
    spec_ReceiveAll.L1 N N b (0 : Int) ([] : List Int) r_.2.1 r_.2.2.1 r_.2.2.2 (([] : List Int) ++ r_.1)
    else none := by kernel_rfl

def laws_eqIntS.c1 : XCode := .seq (.seq (.region false [mv 11 5, mv 12 0, o1 13 .len 12, o2 14 (.bin .lss) 11 13]) (.cond (.slot 14) (.skip) (.exit 0))) (.seq (.block 1 (.seq (.region true [mv 17 0, mv 18 5, o2 19 (.indexAddr (.int .i64)) 17 18, o1 20 (.load false 1) 19, mv 21 1, mv 22 5, o2 23 (.indexAddr (.int .i64)) 21 22, o1 24 (.load false 1) 23, o2 25 (.bin .neq) 20 24]) (.cond (.slot 25) (.seq (.region false [op 4 .move [.const (.one (.bool false))]]) (.ret)) (.skip)))) (.region false [mv 15 5, op 16 (.bin .add) [.slot 15, .const (.one (.int .i64 (1 : Int)))], mv 5 16]))
def laws_eqIntS.c2 : XCode := .seq (.region false [op 4 .move [.const (.one (.bool true))]]) (.ret)
def laws_eqIntS.x : XFunc := { nslots := 26, nobj := 0, pars := [.val false 1, .val false 1], rowsIn := [none, none], rets := [.tmp 4 false 1], outs := [.imm], fresh := true, arg := .pair (.list (.int .i64)) (.list (.int .i64)), ret := .bool, body := .seq (.region false [op 4 .move [.const (.one (.bool false))]]) (.seq (.seq (.region false [mv 6 0, o1 7 .len 6, mv 8 1, o1 9 .len 8, o2 10 (.bin .neq) 7 9]) (.cond (.slot 10) (.seq (.region false [op 4 .move [.const (.one (.bool false))]]) (.ret)) (.skip))) (.seq (.seq (.region false [op 5 .move [.const (.one (.int .i64 (0 : Int)))]]) (.block 0 (.loop [.keep [0, 1, 5], .norm] (laws_eqIntS.c1)))) (laws_eqIntS.c2))) }
def laws_eqIntS.env (_ : Nat) : Env := envOf (tbl [] noFS)
def laws_eqIntS.F (N : Nat) (x : (List Int) × List Int) : Option Bool := XFunc.run laws_eqIntS.x (laws_eqIntS.env N) N x
def laws_eqIntS.fs (N : Nat) : FS := { arg := .pair (.list (.int .i64)) (.list (.int .i64)), ret := .bool, fresh := true, F := laws_eqIntS.F N }
def laws_eqIntS.k2 (N : Nat) : Ex → S → Option Bool := seqK (fun s => XCode.runK (laws_eqIntS.env N) N (laws_eqIntS.c2) s (XFunc.endK laws_eqIntS.x)) (XFunc.endK laws_eqIntS.x)
def laws_eqIntS.k1 (N : Nat) : Ex → S → Option Bool := blockK 0 (laws_eqIntS.k2 N)
def laws_eqIntS.L1 (N : Nat) (n1 : Nat) (a : List Int) (b : List Int) (i : Int) : Option Bool := loopK [.keep [0, 1, 5], .norm] (fun s k => XCode.runK (laws_eqIntS.env N) N laws_eqIntS.c1 s k) n1
  { t := [.one (.sl false (.int .i64) a), .one (.sl false (.int .i64) b), .junk, .junk, .junk, .one (.int .i64 i), .junk, .junk, .junk, .junk, .junk, .junk, .junk, .junk, .junk, .junk, .junk, .junk, .junk, .junk, .junk, .junk, .junk, .junk, .junk, .junk], h := [] }
  (laws_eqIntS.k1 N)

theorem laws_eqIntS.L1_eq (N : Nat) (n1 : Nat) (a : List Int) (b : List Int) (i : Int) : laws_eqIntS.L1 N (n1 + 1) a b i =
    bif decide (i < (List.length a : Int)) then
      bif inRange i (List.length a) then
      bif inRange i (List.length b) then
      bif (nth (0 : Int) a i) != (nth (0 : Int) b i) then
        some false
      else
        laws_eqIntS.L1 N n1 a b (IntKind.wrap .i64 (i + (1 : Int)))
      else none
      else none
    else
      some true := by kernel_rfl
theorem laws_eqIntS.L1_zero (N : Nat) (a : List Int) (b : List Int) (i : Int) : laws_eqIntS.L1 N 0 a b i = none := rfl
theorem laws_eqIntS.F_eq (N : Nat) (a : List Int) (b : List Int) : laws_eqIntS.F N (a, b) =
    bif (List.length a : Int) != (List.length b : Int) then
      some false
    else
      laws_eqIntS.L1 N N a b (0 : Int) := by kernel_rfl

def laws_markIntS.c1 : XCode := .seq (.seq (.region false [mv 6 5, mv 7 0, ow 8 .len [.slot 7] [0] [], o2 9 (.bin .lss) 6 8]) (.cond (.slot 9) (.skip) (.exit 0))) (.seq (.block 1 (.seq (.region false [mv 12 0, mv 13 5, mv 14 1, ow 15 (.indexAddr (.int .i64)) [.slot 12, .slot 13] [0] [], on (.store 1) [.slot 15, .slot 14] [0] [0]]) (.region false [mv 16 1, op 17 (.bin .add) [.slot 16, .const (.one (.int .i64 (1 : Int)))], mv 1 17]))) (.region false [mv 10 5, op 11 (.bin .add) [.slot 10, .const (.one (.int .i64 (1 : Int)))], mv 5 11]))
def laws_markIntS.c2 : XCode := .seq (.region false [mv 18 1, mv 4 18]) (.ret)
def laws_markIntS.x : XFunc := { nslots := 19, nobj := 1, pars := [.val false 1, .val false 1], rowsIn := [some (0, 2), none], rets := [.tmp 4 false 1], outs := [.imm, .back 0], fresh := false, arg := .pair (.list (.int .i64)) (.int .i64), ret := .pair (.int .i64) (.list (.int .i64)), body := .seq (.region false [op 4 .move [.const (.one (.int .i64 (0 : Int)))]]) (.seq (.seq (.region false [op 5 .move [.const (.one (.int .i64 (0 : Int)))]]) (.block 0 (.loop [.keep [0, 1, 5], .norm] (laws_markIntS.c1)))) (laws_markIntS.c2)) }
def laws_markIntS.env (_ : Nat) : Env := envOf (tbl [] noFS)
def laws_markIntS.F (N : Nat) (x : (List Int) × Int) : Option (Int × List Int) := XFunc.run laws_markIntS.x (laws_markIntS.env N) N x
def laws_markIntS.fs (N : Nat) : FS := { arg := .pair (.list (.int .i64)) (.int .i64), ret := .pair (.int .i64) (.list (.int .i64)), fresh := false, F := laws_markIntS.F N }
def laws_markIntS.k2 (N : Nat) : Ex → S → Option (Int × List Int) := seqK (fun s => XCode.runK (laws_markIntS.env N) N (laws_markIntS.c2) s (XFunc.endK laws_markIntS.x)) (XFunc.endK laws_markIntS.x)
def laws_markIntS.k1 (N : Nat) : Ex → S → Option (Int × List Int) := blockK 0 (laws_markIntS.k2 N)
def laws_markIntS.L1 (N : Nat) (n1 : Nat) (k_ : Int) (i : Int) (o0 : List Int) : Option (Int × List Int) := loopK [.keep [0, 1, 5], .norm] (fun s k => XCode.runK (laws_markIntS.env N) N laws_markIntS.c1 s k) n1
  { t := [.one (.ref 0 0 .all), .one (.int .i64 k_), .junk, .junk, .junk, .one (.int .i64 i), .junk, .junk, .junk, .junk, .junk, .junk, .junk, .junk, .junk, .junk, .junk, .junk, .junk], h := [.row 0 true false 2 (.int .i64) o0] }
  (laws_markIntS.k1 N)

theorem laws_markIntS.L1_eq (N : Nat) (n1 : Nat) (k_ : Int) (i : Int) (o0 : List Int) : laws_markIntS.L1 N (n1 + 1) k_ i o0 =
    bif decide (i < (List.length o0 : Int)) then
      bif inRange i (List.length o0) then
      laws_markIntS.L1 N n1 (IntKind.wrap .i64 (k_ + (1 : Int))) (IntKind.wrap .i64 (i + (1 : Int))) (List.set o0 (Int.toNat i) k_)
      else none
    else
      some (k_, o0) := by kernel_rfl
theorem laws_markIntS.L1_zero (N : Nat) (k_ : Int) (i : Int) (o0 : List Int) : laws_markIntS.L1 N 0 k_ i o0 = none := rfl
theorem laws_markIntS.F_eq (N : Nat) (a : List Int) (k_ : Int) : laws_markIntS.F N (a, k_) =
    laws_markIntS.L1 N N k_ (0 : Int) a := by kernel_rfl

def laws_heldIntS.c1 : XCode := .seq (.seq (.region false [mv 6 5, mv 7 0, o1 8 .len 7, o2 9 (.bin .lss) 6 8]) (.cond (.slot 9) (.skip) (.exit 0))) (.seq (.block 1 (.seq (.seq (.region false [mv 12 0, mv 13 5, o2 14 (.indexAddr (.int .i64)) 12 13, o1 15 (.load false 1) 14, mv 16 1, o2 17 (.bin .neq) 15 16]) (.cond (.slot 17) (.seq (.region false [op 4 .move [.const (.one (.int .i64 (-1 : Int)))]]) (.ret)) (.skip))) (.region false [mv 18 1, op 19 (.bin .add) [.slot 18, .const (.one (.int .i64 (1 : Int)))], mv 1 19]))) (.region false [mv 10 5, op 11 (.bin .add) [.slot 10, .const (.one (.int .i64 (1 : Int)))], mv 5 11]))
def laws_heldIntS.c2 : XCode := .seq (.region false [mv 20 1, mv 4 20]) (.ret)
def laws_heldIntS.x : XFunc := { nslots := 21, nobj := 0, pars := [.val false 1, .val false 1], rowsIn := [none, none], rets := [.tmp 4 false 1], outs := [.imm], fresh := true, arg := .pair (.list (.int .i64)) (.int .i64), ret := .int .i64, body := .seq (.region false [op 4 .move [.const (.one (.int .i64 (0 : Int)))]]) (.seq (.seq (.region false [op 5 .move [.const (.one (.int .i64 (0 : Int)))]]) (.block 0 (.loop [.keep [0, 1, 5], .norm] (laws_heldIntS.c1)))) (laws_heldIntS.c2)) }
def laws_heldIntS.env (_ : Nat) : Env := envOf (tbl [] noFS)
def laws_heldIntS.F (N : Nat) (x : (List Int) × Int) : Option Int := XFunc.run laws_heldIntS.x (laws_heldIntS.env N) N x
def laws_heldIntS.fs (N : Nat) : FS := { arg := .pair (.list (.int .i64)) (.int .i64), ret := .int .i64, fresh := true, F := laws_heldIntS.F N }
def laws_heldIntS.k2 (N : Nat) : Ex → S → Option Int := seqK (fun s => XCode.runK (laws_heldIntS.env N) N (laws_heldIntS.c2) s (XFunc.endK laws_heldIntS.x)) (XFunc.endK laws_heldIntS.x)
def laws_heldIntS.k1 (N : Nat) : Ex → S → Option Int := blockK 0 (laws_heldIntS.k2 N)
def laws_heldIntS.L1 (N : Nat) (n1 : Nat) (a : List Int) (k_ : Int) (i : Int) : Option Int := loopK [.keep [0, 1, 5], .norm] (fun s k => XCode.runK (laws_heldIntS.env N) N laws_heldIntS.c1 s k) n1
  { t := [.one (.sl false (.int .i64) a), .one (.int .i64 k_), .junk, .junk, .junk, .one (.int .i64 i), .junk, .junk, .junk, .junk, .junk, .junk, .junk, .junk, .junk, .junk, .junk, .junk, .junk, .junk, .junk], h := [] }
  (laws_heldIntS.k1 N)

theorem laws_heldIntS.L1_eq (N : Nat) (n1 : Nat) (a : List Int) (k_ : Int) (i : Int) : laws_heldIntS.L1 N (n1 + 1) a k_ i =
    bif decide (i < (List.length a : Int)) then
      bif inRange i (List.length a) then
      bif (nth (0 : Int) a i) != k_ then
        some (-1 : Int)
      else
        laws_heldIntS.L1 N n1 a (IntKind.wrap .i64 (k_ + (1 : Int))) (IntKind.wrap .i64 (i + (1 : Int)))
      else none
    else
      some k_ := by kernel_rfl
theorem laws_heldIntS.L1_zero (N : Nat) (a : List Int) (k_ : Int) (i : Int) : laws_heldIntS.L1 N 0 a k_ i = none := rfl
theorem laws_heldIntS.F_eq (N : Nat) (a : List Int) (k_ : Int) : laws_heldIntS.F N (a, k_) =
    laws_heldIntS.L1 N N a k_ (0 : Int) := by kernel_rfl

def laws_FnExactReceiveAll.x : XFunc := { nslots := 133, nobj := 9, pars := [.val true 4, .val false 1], rowsIn := [none, none, none, none, none], rets := [.tmp 4 false 1], outs := [.imm], fresh := true, arg := .pair (.pair (.list (.int .u8)) (.pair (.int .i64) (.pair (.int .i64) (.int .i64)))) (.list (.int .u8)), ret := .bool, body := .seq (.region false [ow 2 (.box 0) [.slot 0] [0] [0], op 4 .move [.const (.one (.bool false))]]) (.seq (.seq (.region false [mv 17 1, o1 18 .len 17, op 19 (.bin .gtr) [.slot 18, .const (.one (.int .i64 (1048576 : Int)))]]) (.cond (.slot 19) (.seq (.region false [op 4 .move [.const (.one (.bool true))]]) (.ret)) (.skip))) (.seq (.region false [op 5 .move [.const (.one (.int .i64 (1048576 : Int)))]]) (.seq (.region false [ow 20 (.load true 4) [.slot 2] [0] [], mv 21 5, o2 22 (.call ⟨18, [.val true 4, .val false 1], no 5, [.val false 1], ims 1, true⟩) 20 21, mv 5 22]) (.seq (.seq (.region false [mv 23 5, op 24 (.bin .lss) [.slot 23, .const (.one (.int .i64 (0 : Int)))]]) (.cond (.slot 24) (.seq (.region false [op 4 .move [.const (.one (.bool true))]]) (.ret)) (.skip))) (.seq (.region false [ow 26 (.load true 4) [.slot 2] [0] [], o1 27 (.call ⟨30, [.val true 4], no 4, [.val true 4], ims 4, true⟩) 26, mv 28 1, o1 29 (.call ⟨6, vs 1, no 1, [.val false 1], ims 1, true⟩) 28, o2 30 (.call ⟨330, [.val true 4, .val false 1], no 5, [.val true 4, .val false 1], ims 5, true⟩) 27 29, mv 25 30, o1 31 (.extract 0) 25, o1 32 (.extract 1) 25, ow 6 (.alloc 1 [.nil, .int .i64 (0 : Int), .int .i64 (0 : Int), .int .i64 (0 : Int)]) [] [1] [1], on (.store 4) [.slot 6, .slot 31] [1] [1], mv 7 32]) (.seq (.region false [ow 33 (.load true 4) [.slot 2] [0] [], ow 34 (.call ⟨30, [.val true 4], no 4, [.val true 4], [.own 4 1, .imm, .imm, .imm], true⟩) [.slot 33] [4] [4], ow 8 (.alloc 2 [.nil, .int .i64 (0 : Int), .int .i64 (0 : Int), .int .i64 (0 : Int)]) [] [2] [2], on (.store 4) [.slot 8, .slot 34] [2] [2]]) (.seq (.region false [mv 35 1, ow 36 (.call ⟨6, vs 1, no 1, [.val false 1], [.own 5 1], true⟩) [.slot 35] [5] [5], mv 9 36]) (.seq (.region false [ow 38 (.load true 4) [.slot 8] [2] [], mv 39 9, ow 40 (.call ⟨91, [.val true 4, .val false 1], no 5, [.val true 4, .val false 1], [.own 6 1, .imm, .imm, .imm, .own 7 2], true⟩) [.slot 38, .slot 39] [4, 5, 6, 7] [6, 7], mv 37 40, o1 41 (.extract 0) 37, o1 42 (.extract 1) 37, ow 10 (.alloc 3 [.nil, .int .i64 (0 : Int), .int .i64 (0 : Int), .int .i64 (0 : Int)]) [] [3] [3], on (.store 4) [.slot 10, .slot 41] [3] [3], mv 11 42]) (.seq (.seq (.region false [ow 43 (.load true 4) [.slot 10] [3] [], ow 44 (.load true 4) [.slot 6] [1] [], ow 45 (.call ⟨11, [.val true 4, .val true 4], no 8, [.val false 1], ims 1, true⟩) [.slot 43, .slot 44] [6] [], o1 46 .not 45, ⟨some 47, .move, [.slot 46], [], [], none, true⟩, ⟨some 48, .move, [.slot 11], [], [], some (47, false), false⟩, ⟨some 49, .move, [.slot 7], [], [], some (47, false), false⟩, ⟨some 50, .call ⟨239, vs 2, no 2, [.val false 1], ims 1, true⟩, [.slot 48, .slot 49], [7], [], some (47, false), false⟩, ⟨some 51, .not, [.slot 50], [], [], some (47, false), false⟩, op 52 .pick [.slot 47, .const (.one (.bool true)), .slot 51]]) (.cond (.slot 52) (.seq (.region false [op 4 .move [.const (.one (.bool false))]]) (.ret)) (.skip))) (.seq (.seq (.region true [ow 53 (.load true 4) [.slot 8] [2] [], ow 54 (.load true 4) [.slot 2] [0] [], o1 55 (.call ⟨30, [.val true 4], no 4, [.val true 4], ims 4, true⟩) 54, ow 56 (.call ⟨11, [.val true 4, .val true 4], no 8, [.val false 1], ims 1, true⟩) [.slot 53, .slot 55] [4] [], o1 57 .not 56]) (.cond (.slot 57) (.seq (.region false [op 4 .move [.const (.one (.bool false))]]) (.ret)) (.skip))) (.seq (.seq (.region false [mv 58 9, mv 59 1, o1 60 (.call ⟨6, vs 1, no 1, [.val false 1], ims 1, true⟩) 59, ow 61 (.call ⟨9, vs 2, no 2, [.val false 1], ims 1, true⟩) [.slot 58, .slot 60] [5] [], o1 62 .not 61]) (.cond (.slot 62) (.seq (.region false [op 4 .move [.const (.one (.bool false))]]) (.ret)) (.skip))) (.seq (.region false [op 12 .move [.const (.one (.int .i64 (1 : Int)))]]) (.seq (.region false [ow 63 (.load true 4) [.slot 8] [2] [], mv 64 12, ow 65 (.call ⟨13, [.val true 4, .val false 1], [some (4, 1), none, none, none, none], [.val false 1], [.imm, .back 4], false⟩) [.slot 63, .slot 64] [4] [4], mv 12 65]) (.seq (.region false [mv 66 9, mv 67 12, ow 68 (.call ⟨12, vs 2, [some (5, 1), none], [.val false 1], [.imm, .back 5], false⟩) [.slot 66, .slot 67] [5] [5], mv 12 68]) (.seq (.seq (.region false [mv 69 12, op 70 (.bin .lss) [.slot 69, .const (.one (.int .i64 (0 : Int)))], ⟨some 71, .move, [.slot 70], [], [], none, true⟩, ⟨some 72, .load true 4, [.slot 10], [3], [], some (71, false), false⟩, ⟨some 73, .load true 4, [.slot 6], [1], [], some (71, false), false⟩, ⟨some 74, .call ⟨11, [.val true 4, .val true 4], no 8, [.val false 1], ims 1, true⟩, [.slot 72, .slot 73], [6], [], some (71, false), false⟩, ⟨some 75, .not, [.slot 74], [], [], some (71, false), false⟩, op 76 .pick [.slot 71, .const (.one (.bool true)), .slot 75], ⟨some 77, .move, [.slot 76], [], [], none, true⟩, ⟨some 78, .move, [.slot 11], [], [], some (77, false), false⟩, ⟨some 79, .move, [.slot 7], [], [], some (77, false), false⟩, ⟨some 80, .call ⟨239, vs 2, no 2, [.val false 1], ims 1, true⟩, [.slot 78, .slot 79], [7], [], some (77, false), false⟩, ⟨some 81, .not, [.slot 80], [], [], some (77, false), false⟩, op 82 .pick [.slot 77, .const (.one (.bool true)), .slot 81]]) (.cond (.slot 82) (.seq (.region false [op 4 .move [.const (.one (.bool false))]]) (.ret)) (.skip))) (.seq (.region false [op 13 .move [.const (.one (.int .i64 (1 : Int)))]]) (.seq (.region false [ow 83 (.load true 4) [.slot 10] [3] [], mv 84 13, ow 85 (.call ⟨13, [.val true 4, .val false 1], [some (6, 1), none, none, none, none], [.val false 1], [.imm, .back 6], false⟩) [.slot 83, .slot 84] [6] [6], mv 13 85]) (.seq (.region false [mv 86 11, mv 87 13, ow 88 (.call ⟨242, vs 2, [some (7, 2), none], [.val false 1], [.imm, .back 7], false⟩) [.slot 86, .slot 87] [7] [7], mv 13 88]) (.seq (.region false [op 14 .move [.const (.one (.int .i64 (1 : Int)))]]) (.seq (.region false [ow 89 (.load true 4) [.slot 10] [3] [], mv 90 14, ow 91 (.call ⟨15, [.val true 4, .val false 1], no 5, [.val false 1], ims 1, true⟩) [.slot 89, .slot 90] [6] [], mv 14 91]) (.seq (.seq (.region false [mv 92 14, op 93 (.bin .lss) [.slot 92, .const (.one (.int .i64 (0 : Int)))]]) (.cond (.slot 93) (.seq (.region false [op 4 .move [.const (.one (.bool false))]]) (.ret)) (.skip))) (.seq (.region false [mv 94 11, mv 95 14, ow 96 (.call ⟨245, vs 2, no 2, [.val false 1], ims 1, true⟩) [.slot 94, .slot 95] [7] [], mv 14 96]) (.seq (.seq (.region false [mv 97 14, op 98 (.bin .lss) [.slot 97, .const (.one (.int .i64 (0 : Int)))]]) (.cond (.slot 98) (.seq (.region false [op 4 .move [.const (.one (.bool false))]]) (.ret)) (.skip))) (.seq (.seq (.region false [mv 99 14, mv 100 13, o2 101 (.bin .neq) 99 100]) (.cond (.slot 101) (.seq (.region false [op 4 .move [.const (.one (.bool false))]]) (.ret)) (.skip))) (.seq (.region false [ow 103 (.load true 4) [.slot 2] [0] [], o1 104 (.call ⟨30, [.val true 4], no 4, [.val true 4], ims 4, true⟩) 103, mv 105 1, o1 106 (.call ⟨6, vs 1, no 1, [.val false 1], ims 1, true⟩) 105, o2 107 (.call ⟨91, [.val true 4, .val false 1], no 5, [.val true 4, .val false 1], ims 5, true⟩) 104 106, mv 102 107, o1 108 (.extract 0) 102, o1 109 (.extract 1) 102, ow 15 (.alloc 8 [.nil, .int .i64 (0 : Int), .int .i64 (0 : Int), .int .i64 (0 : Int)]) [] [8] [8], on (.store 4) [.slot 15, .slot 108] [8] [8], mv 16 109]) (.seq (.seq (.region false [ow 110 (.load true 4) [.slot 15] [8] [], ow 111 (.load true 4) [.slot 6] [1] [], o2 112 (.call ⟨11, [.val true 4, .val true 4], no 8, [.val false 1], ims 1, true⟩) 110 111, o1 113 .not 112, ⟨some 114, .move, [.slot 113], [], [], none, true⟩, ⟨some 115, .move, [.slot 16], [], [], some (114, false), false⟩, ⟨some 116, .move, [.slot 7], [], [], some (114, false), false⟩, ⟨some 117, .call ⟨239, vs 2, no 2, [.val false 1], ims 1, true⟩, [.slot 115, .slot 116], [], [], some (114, false), false⟩, ⟨some 118, .not, [.slot 117], [], [], some (114, false), false⟩, op 119 .pick [.slot 114, .const (.one (.bool true)), .slot 118]]) (.cond (.slot 119) (.seq (.region false [op 4 .move [.const (.one (.bool false))]]) (.ret)) (.skip))) (.seq (.region false [op 14 .move [.const (.one (.int .i64 (1 : Int)))]]) (.seq (.region false [ow 120 (.load true 4) [.slot 10] [3] [], mv 121 14, ow 122 (.call ⟨15, [.val true 4, .val false 1], no 5, [.val false 1], ims 1, true⟩) [.slot 120, .slot 121] [6] [], mv 14 122]) (.seq (.seq (.region false [mv 123 14, op 124 (.bin .lss) [.slot 123, .const (.one (.int .i64 (0 : Int)))]]) (.cond (.slot 124) (.seq (.region false [op 4 .move [.const (.one (.bool false))]]) (.ret)) (.skip))) (.seq (.region false [mv 125 11, mv 126 14, ow 127 (.call ⟨245, vs 2, no 2, [.val false 1], ims 1, true⟩) [.slot 125, .slot 126] [7] [], mv 14 127]) (.seq (.seq (.region false [mv 128 14, op 129 (.bin .lss) [.slot 128, .const (.one (.int .i64 (0 : Int)))]]) (.cond (.slot 129) (.seq (.region false [op 4 .move [.const (.one (.bool false))]]) (.ret)) (.skip))) (.seq (.seq (.region false [mv 130 14, mv 131 13, o2 132 (.bin .neq) 130 131]) (.cond (.slot 132) (.seq (.region false [op 4 .move [.const (.one (.bool false))]]) (.ret)) (.skip))) (.seq (.region false [op 4 .move [.const (.one (.bool true))]]) (.ret)))))))))))))))))))))))))))))))))) }
def laws_FnExactReceiveAll.env (N : Nat) : Env := envOf (tbl [(91, impl_ReceiveAll.fs N), (9, laws_eqByteS.fs N), (239, laws_eqIntS.fs N), (11, laws_eqReceiver.fs N), (245, laws_heldIntS.fs N), (15, laws_heldReceiver.fs N), (12, laws_markByteS.fs N), (242, laws_markIntS.fs N), (13, laws_markReceiver.fs N), (18, laws_szReceiver.fs N), (6, laws_toByteS.fs N), (30, laws_toReceiver.fs N), (330, spec_ReceiveAll.fs N)] noFS)
def laws_FnExactReceiveAll.F (N : Nat) (x : ((List Int) × Int × Int × Int) × List Int) : Option Bool := XFunc.run laws_FnExactReceiveAll.x (laws_FnExactReceiveAll.env N) N x
def laws_FnExactReceiveAll.fs (N : Nat) : FS := { arg := .pair (.pair (.list (.int .u8)) (.pair (.int .i64) (.pair (.int .i64) (.int .i64)))) (.list (.int .u8)), ret := .bool, fresh := true, F := laws_FnExactReceiveAll.F N }

theorem laws_FnExactReceiveAll.F_eq (N : Nat) (aR : (List Int) × Int × Int × Int) (aB : List Int) : laws_FnExactReceiveAll.F N (aR, aB) =
    bif decide ((List.length aB : Int) > (1048576 : Int)) then
      some true
    else
      bindO (laws_szReceiver.F N (aR, (1048576 : Int))) fun r1 =>
      bif decide (r1 < (0 : Int)) then
        some true
      else
        bindO (laws_toReceiver.F N aR) fun r2 =>
        bindO (laws_toByteS.F N aB) fun r3 =>
        bindO (spec_ReceiveAll.F N (r2, r3)) fun r4 =>
        bindO (laws_toReceiver.F N aR) fun r5 =>
        bindO (laws_toByteS.F N aB) fun r6 =>
        bindO (impl_ReceiveAll.F N (r5, r6)) fun r7 =>
        bindO (laws_eqReceiver.F N (r7.1, r4.1)) fun r8 =>
        bif !r8 then
          some false
        else
          bindO (laws_eqIntS.F N (r7.2, r4.2)) fun r9 =>
          bif !r9 then
            some false
          else
            bindO (laws_toReceiver.F N aR) fun r10 =>
            bindO (laws_eqReceiver.F N (r5, r10)) fun r11 =>
            bif !r11 then
              some false
            else
              bindO (laws_toByteS.F N aB) fun r12 =>
              bindO (laws_eqByteS.F N (r6, r12)) fun r13 =>
              bif !r13 then
                some false
              else
                bindO (laws_markReceiver.F N (r5, (1 : Int))) fun r14 =>
                bindO (laws_markByteS.F N (r6, r14.1)) fun r15 =>
                bif decide (r15.1 < (0 : Int)) then
                  some false
                else
                  bindO (laws_eqReceiver.F N (r7.1, r4.1)) fun r16 =>
                  bif !r16 then
                    some false
                  else
                    bindO (laws_eqIntS.F N (r7.2, r4.2)) fun r17 =>
                    bif !r17 then
                      some false
                    else
                      bindO (laws_markReceiver.F N (r7.1, (1 : Int))) fun r18 =>
                      bindO (laws_markIntS.F N (r7.2, r18.1)) fun r19 =>
                      bindO (laws_heldReceiver.F N ((r18.2, r7.1.2), (1 : Int))) fun r20 =>
                      bif decide (r20 < (0 : Int)) then
                        some false
                      else
                        bindO (laws_heldIntS.F N (r19.2, r20)) fun r21 =>
                        bif decide (r21 < (0 : Int)) then
                          some false
                        else
                          bif r21 != r19.1 then
                            some false
                          else
                            bindO (laws_toReceiver.F N aR) fun r22 =>
                            bindO (laws_toByteS.F N aB) fun r23 =>
                            bindO (impl_ReceiveAll.F N (r22, r23)) fun r24 =>
                            bindO (laws_eqReceiver.F N (r24.1, r4.1)) fun r25 =>
                            bif !r25 then
                              some false
                            else
                              bindO (laws_eqIntS.F N (r24.2, r4.2)) fun r26 =>
                              bif !r26 then
                                some false
                              else
                                bindO (laws_heldReceiver.F N ((r18.2, r7.1.2), (1 : Int))) fun r27 =>
                                bif decide (r27 < (0 : Int)) then
                                  some false
                                else
                                  bindO (laws_heldIntS.F N (r19.2, r27)) fun r28 =>
                                  bif decide (r28 < (0 : Int)) then
                                    some false
                                  else
                                    bif r28 != r19.1 then
                                      some false
                                    else
                                      some true := by kernel_rfl

end Go.Kb
