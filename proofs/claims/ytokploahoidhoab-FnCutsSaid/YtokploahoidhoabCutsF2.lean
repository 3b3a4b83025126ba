/- The texts of functions, printed by a program, and the equations of their runs. -/
import Derived.Test.YtokploahoidhoabCutsF1
import Derived.KernelRfl
namespace Go.Kb
def laws_big.x : XFunc := { nslots := 6, nobj := 0, pars := [.val false 1], rowsIn := [none], rets := [.tmp 2 false 1], outs := [.imm], fresh := true, arg := .list (.int .u8), ret := .bool, body := .seq (.region false [op 2 .move [.const (.one (.bool false))]]) (.seq (.region false [mv 3 0, o1 4 .len 3, op 5 (.bin .gtr) [.slot 4, .const (.one (.int .i64 (1048576 : Int)))], mv 2 5]) (.ret)) }
def laws_big.env (_ : Nat) : Env := envOf (tbl [] noFS)
def laws_big.F (N : Nat) (x : List Int) : Option Bool := XFunc.run laws_big.x (laws_big.env N) N x
def laws_big.fs (N : Nat) : FS := { arg := .list (.int .u8), ret := .bool, fresh := true, F := laws_big.F N }

theorem laws_big.F_eq (N : Nat) (code : List Int) : laws_big.F N code =
    some (decide ((List.length code : Int) > (1048576 : Int))) := by kernel_rfl

def spec_l1New.c1 : XCode := .seq (.seq (.region false [mv 8 4, mv 9 0, o1 10 .len 9, o2 11 (.bin .lss) 8 10, ⟨some 12, .move, [.slot 11], [], [], none, true, .none⟩, ⟨some 13, .move, [.slot 4], [], [], some (12, true), false, .none⟩, ⟨some 14, .bin .lss, [.slot 13, .const (.one (.int .i64 (4000 : Int)))], [], [], some (12, true), false, .none⟩, op 15 .pick [.slot 12, .slot 14, .const (.one (.bool false))]]) (.cond (.slot 15) (.skip) (.exit 0))) (.seq (.block 1 (.region false [mv 18 3, op 19 (.bin .mul) [.slot 18, .const (.one (.int .i64 (131 : Int)))], mv 20 0, mv 21 4, o2 22 (.indexAddr (.int .u8)) 20 21, o1 23 (.load false 1) 22, o1 24 (.conv .i64) 23, o2 25 (.bin .add) 19 24, op 26 (.bin .add) [.slot 25, .const (.one (.int .i64 (7 : Int)))], op 27 (.bin .and) [.slot 26, .const (.one (.int .i64 (1073741823 : Int)))], mv 3 27])) (.region false [mv 16 4, op 17 (.bin .add) [.slot 16, .const (.one (.int .i64 (1 : Int)))], mv 4 17]))
def spec_l1New.c2 : XCode := .seq (.region false [mv 28 0, mv 29 3, o2 30 (.build [.nil, .int .i64 (0 : Int), .int .i64 (0 : Int)] [(0, 1), (2, 1)]) 28 29, ow 31 (.box 0) [.slot 30] [0] [0], mv 2 31]) (.ret)
def spec_l1New.x : XFunc := { nslots := 32, nobj := 1, pars := [.val false 1], rowsIn := [none], rets := [.ptr 2 3], outs := [.imm, .imm, .imm], fresh := false, arg := .list (.int .u8), ret := .pair (.list (.int .u8)) (.pair (.int .i64) (.int .i64)), body := .seq (.region false [op 2 .move [.const (.junk)]]) (.seq (.region false [mv 5 0, o1 6 .len 5, op 7 (.bin .add) [.const (.one (.int .i64 (10729 : Int))), .slot 6], mv 3 7]) (.seq (.seq (.region false [op 4 .move [.const (.one (.int .i64 (0 : Int)))]]) (.block 0 (.loop [.keep [0, 3, 4], .drop 0, .norm] (spec_l1New.c1)))) (spec_l1New.c2))) }
def spec_l1New.env (_ : Nat) : Env := envOf (tbl [] noFS)
def spec_l1New.F (N : Nat) (x : List Int) : Option ((List Int) × Int × Int) := XFunc.run spec_l1New.x (spec_l1New.env N) N x
def spec_l1New.fs (N : Nat) : FS := { arg := .list (.int .u8), ret := .pair (.list (.int .u8)) (.pair (.int .i64) (.int .i64)), fresh := false, F := spec_l1New.F N }
def spec_l1New.k2 (N : Nat) : Ex → S → Option ((List Int) × Int × Int) := seqK (fun s => XCode.runK (spec_l1New.env N) N (spec_l1New.c2) s (XFunc.endK spec_l1New.x)) (XFunc.endK spec_l1New.x)
def spec_l1New.k1 (N : Nat) : Ex → S → Option ((List Int) × Int × Int) := blockK 0 (spec_l1New.k2 N)
def spec_l1New.L1 (N : Nat) (n1 : Nat) (code : List Int) (h : Int) (i : Int) : Option ((List Int) × Int × Int) := loopK [.keep [0, 3, 4], .drop 0, .norm] (fun s k => XCode.runK (spec_l1New.env N) N spec_l1New.c1 s k) n1
  { t := [.one (.sl false (.int .u8) code), .junk, .junk, .one (.int .i64 h), .one (.int .i64 i), .junk, .junk, .junk, .junk, .junk, .junk, .junk, .junk, .junk, .junk, .junk, .junk, .junk, .junk, .junk, .junk, .junk, .junk, .junk, .junk, .junk, .junk, .junk, .junk, .junk, .junk, .junk], h := [.absent 0] }
  (spec_l1New.k1 N)

theorem spec_l1New.L1_eq (N : Nat) (n1 : Nat) (code : List Int) (h : Int) (i : Int) : spec_l1New.L1 N (n1 + 1) code h i =
    bif decide (i < (List.length code : Int)) then
      bif decide (i < (4000 : Int)) then
        bif inRange i (List.length code) then
        spec_l1New.L1 N n1 code (bitAnd .i64 (IntKind.wrap .i64 ((IntKind.wrap .i64 ((IntKind.wrap .i64 (h * (131 : Int))) + (IntKind.wrap .i64 (nth (0 : Int) code i)))) + (7 : Int))) (1073741823 : Int)) (IntKind.wrap .i64 (i + (1 : Int)))
        else none
      else
        some (code, ((0 : Int), h))
    else
      some (code, ((0 : Int), h)) := by kernel_rfl
theorem spec_l1New.F_eq (N : Nat) (code : List Int) : spec_l1New.F N code =
    spec_l1New.L1 N N code (IntKind.wrap .i64 ((10729 : Int) + (List.length code : Int))) (0 : Int) := by kernel_rfl

def spec_l24New.x : XFunc := { nslots := 19, nobj := 1, pars := [.val false 1, .val false 1], rowsIn := [none, none], rets := [.ptr 4 3], outs := [.imm, .imm, .imm], fresh := false, arg := .pair (.list (.int .u8)) (.int .i64), ret := .pair (.list (.int .u8)) (.pair (.int .i64) (.int .i64)), body := .seq (.region false [op 4 .move [.const (.junk)]]) (.seq (.region false [mv 6 0, ow 7 (.call ⟨236, vs 1, no 1, [.box 0 3], ims 3, false⟩) [.slot 6] [0] [0], mv 5 7]) (.seq (.region false [mv 8 5, mv 9 5, o1 10 .nilck 9, o1 11 (.fieldAddr 2) 10, ow 12 (.load false 1) [.slot 11] [0] [], mv 13 1, op 14 (.bin .mul) [.const (.one (.int .i64 (7919 : Int))), .slot 13], o2 15 (.bin .add) 12 14, o1 16 .nilck 8, o1 17 (.fieldAddr 2) 16, on (.store 1) [.slot 17, .slot 15] [0] [0]]) (.seq (.region false [mv 18 5, mv 4 18]) (.ret)))) }
def spec_l24New.env (N : Nat) : Env := envOf (tbl [(236, spec_l1New.fs N)] noFS)
def spec_l24New.F (N : Nat) (x : (List Int) × Int) : Option ((List Int) × Int × Int) := XFunc.run spec_l24New.x (spec_l24New.env N) N x
def spec_l24New.fs (N : Nat) : FS := { arg := .pair (.list (.int .u8)) (.int .i64), ret := .pair (.list (.int .u8)) (.pair (.int .i64) (.int .i64)), fresh := false, F := spec_l24New.F N }

theorem spec_l24New.F_eq (N : Nat) (code : List Int) (n_ : Int) : spec_l24New.F N (code, n_) =
    bindO (spec_l1New.F N code) fun r1 =>
    some (r1.1, (r1.2.1, IntKind.wrap .i64 (r1.2.2 + (IntKind.wrap .i64 ((7919 : Int) * n_))))) := by kernel_rfl

def spec_l1Byte.x : XFunc := { nslots := 58, nobj := 1, pars := [.box 0 3], rowsIn := [none, none, none], rets := [.tmp 2 false 1], outs := [.imm, .imm, .imm, .imm], fresh := false, arg := .pair (.list (.int .u8)) (.pair (.int .i64) (.int .i64)), ret := .pair (.int .i64) (.pair (.list (.int .u8)) (.pair (.int .i64) (.int .i64))), body := .seq (.region false [op 2 .move [.const (.one (.int .i64 (0 : Int)))]]) (.seq (.region false [mv 4 0, mv 5 0, o1 6 .nilck 5, o1 7 (.fieldAddr 2) 6, ow 8 (.load false 1) [.slot 7] [0] [], op 9 (.bin .mul) [.slot 8, .const (.one (.int .i64 (6364136223846793005 : Int)))], op 10 (.bin .add) [.slot 9, .const (.one (.int .i64 (1442695040888963407 : Int)))], o1 11 .nilck 4, o1 12 (.fieldAddr 2) 11, on (.store 1) [.slot 12, .slot 10] [0] [0]]) (.seq (.region true [mv 13 0, o1 14 .nilck 13, o1 15 (.fieldAddr 2) 14, ow 16 (.load false 1) [.slot 15] [0] [], op 17 (.bin .shr) [.slot 16, .const (.one (.int .u64 (33 : Int)))], mv 18 0, o1 19 .nilck 18, o1 20 (.fieldAddr 2) 19, ow 21 (.load false 1) [.slot 20] [0] [], op 22 (.bin .shr) [.slot 21, .const (.one (.int .u64 (45 : Int)))], o2 23 (.bin .xor) 17 22, op 24 (.bin .and) [.slot 23, .const (.one (.int .i64 (255 : Int)))], mv 3 24]) (.seq (.seq (.region true [mv 25 0, o1 26 .nilck 25, o1 27 (.fieldAddr 1) 26, ow 28 (.load false 1) [.slot 27] [0] [], mv 29 0, o1 30 .nilck 29, o1 31 (.fieldAddr 0) 30, ow 32 (.load false 1) [.slot 31] [0] [], o1 33 .len 32, o2 34 (.bin .lss) 28 33]) (.cond (.slot 34) (.seq (.region true [mv 35 3, mv 36 0, o1 37 .nilck 36, o1 38 (.fieldAddr 0) 37, ow 39 (.load false 1) [.slot 38] [0] [], mv 40 0, o1 41 .nilck 40, o1 42 (.fieldAddr 1) 41, ow 43 (.load false 1) [.slot 42] [0] [], o2 44 (.indexAddr (.int .u8)) 39 43, o1 45 (.load false 1) 44, o1 46 (.conv .i64) 45, o2 47 (.bin .add) 35 46, op 48 (.bin .and) [.slot 47, .const (.one (.int .i64 (255 : Int)))], mv 3 48]) (.region false [mv 49 0, mv 50 0, o1 51 .nilck 50, o1 52 (.fieldAddr 1) 51, ow 53 (.load false 1) [.slot 52] [0] [], op 54 (.bin .add) [.slot 53, .const (.one (.int .i64 (1 : Int)))], o1 55 .nilck 49, o1 56 (.fieldAddr 1) 55, on (.store 1) [.slot 56, .slot 54] [0] [0]])) (.skip))) (.seq (.region false [mv 57 3, mv 2 57]) (.ret))))) }
def spec_l1Byte.env (_ : Nat) : Env := envOf (tbl [] noFS)
def spec_l1Byte.F (N : Nat) (x : (List Int) × Int × Int) : Option (Int × (List Int) × Int × Int) := XFunc.run spec_l1Byte.x (spec_l1Byte.env N) N x
def spec_l1Byte.fs (N : Nat) : FS := { arg := .pair (.list (.int .u8)) (.pair (.int .i64) (.int .i64)), ret := .pair (.int .i64) (.pair (.list (.int .u8)) (.pair (.int .i64) (.int .i64))), fresh := false, F := spec_l1Byte.F N }

theorem spec_l1Byte.F_eq (N : Nat) (c : (List Int) × Int × Int) : spec_l1Byte.F N c =
    bif decide (c.2.1 < (List.length c.1 : Int)) then
      bif inRange c.2.1 (List.length c.1) then
      some (bitAnd .i64 (IntKind.wrap .i64 ((bitAnd .i64 (bitXor .i64 (shiftR .i64 (IntKind.wrap .i64 ((IntKind.wrap .i64 (c.2.2 * (6364136223846793005 : Int))) + (1442695040888963407 : Int))) (33 : Int)) (shiftR .i64 (IntKind.wrap .i64 ((IntKind.wrap .i64 (c.2.2 * (6364136223846793005 : Int))) + (1442695040888963407 : Int))) (45 : Int))) (255 : Int)) + (IntKind.wrap .i64 (nth (0 : Int) c.1 c.2.1)))) (255 : Int), (c.1, (IntKind.wrap .i64 (c.2.1 + (1 : Int)), IntKind.wrap .i64 ((IntKind.wrap .i64 (c.2.2 * (6364136223846793005 : Int))) + (1442695040888963407 : Int)))))
      else none
    else
      some (bitAnd .i64 (bitXor .i64 (shiftR .i64 (IntKind.wrap .i64 ((IntKind.wrap .i64 (c.2.2 * (6364136223846793005 : Int))) + (1442695040888963407 : Int))) (33 : Int)) (shiftR .i64 (IntKind.wrap .i64 ((IntKind.wrap .i64 (c.2.2 * (6364136223846793005 : Int))) + (1442695040888963407 : Int))) (45 : Int))) (255 : Int), (c.1, (c.2.1, IntKind.wrap .i64 ((IntKind.wrap .i64 (c.2.2 * (6364136223846793005 : Int))) + (1442695040888963407 : Int))))) := by kernel_rfl

def spec_l1Below.x : XFunc := { nslots := 37, nobj := 1, pars := [.box 0 3, .val false 1], rowsIn := [none, none, none, none], rets := [.tmp 4 false 1], outs := [.imm, .imm, .imm, .imm], fresh := false, arg := .pair (.pair (.list (.int .u8)) (.pair (.int .i64) (.int .i64))) (.int .i64), ret := .pair (.int .i64) (.pair (.list (.int .u8)) (.pair (.int .i64) (.int .i64))), body := .seq (.region false [op 4 .move [.const (.one (.int .i64 (0 : Int)))]]) (.seq (.seq (.region false [mv 9 1, op 10 (.bin .leq) [.slot 9, .const (.one (.int .i64 (0 : Int)))]]) (.cond (.slot 10) (.seq (.region false [op 4 .move [.const (.one (.int .i64 (0 : Int)))]]) (.ret)) (.skip))) (.seq (.seq (.region false [mv 11 1, op 12 (.bin .leq) [.slot 11, .const (.one (.int .i64 (256 : Int)))]]) (.cond (.slot 12) (.seq (.region false [mv 13 0, ow 14 (.call ⟨32, [.box 0 3], no 3, [.val false 1], ims 4, false⟩) [.slot 13] [0] [0], mv 15 1, o2 16 (.bin .rem) 14 15, mv 4 16]) (.ret)) (.skip))) (.seq (.region false [mv 17 0, ow 18 (.call ⟨32, [.box 0 3], no 3, [.val false 1], ims 4, false⟩) [.slot 17] [0] [0], mv 5 18]) (.seq (.region false [mv 19 0, ow 20 (.call ⟨32, [.box 0 3], no 3, [.val false 1], ims 4, false⟩) [.slot 19] [0] [0], mv 6 20]) (.seq (.region false [mv 21 0, ow 22 (.call ⟨32, [.box 0 3], no 3, [.val false 1], ims 4, false⟩) [.slot 21] [0] [0], mv 7 22]) (.seq (.region false [mv 23 0, ow 24 (.call ⟨32, [.box 0 3], no 3, [.val false 1], ims 4, false⟩) [.slot 23] [0] [0], mv 8 24]) (.seq (.region false [mv 25 5, op 26 (.bin .mul) [.slot 25, .const (.one (.int .i64 (16777216 : Int)))], mv 27 6, op 28 (.bin .mul) [.slot 27, .const (.one (.int .i64 (65536 : Int)))], o2 29 (.bin .add) 26 28, mv 30 7, op 31 (.bin .mul) [.slot 30, .const (.one (.int .i64 (256 : Int)))], o2 32 (.bin .add) 29 31, mv 33 8, o2 34 (.bin .add) 32 33, mv 35 1, o2 36 (.bin .rem) 34 35, mv 4 36]) (.ret)))))))) }
def spec_l1Below.env (N : Nat) : Env := envOf (tbl [(32, spec_l1Byte.fs N)] noFS)
def spec_l1Below.F (N : Nat) (x : ((List Int) × Int × Int) × Int) : Option (Int × (List Int) × Int × Int) := XFunc.run spec_l1Below.x (spec_l1Below.env N) N x
def spec_l1Below.fs (N : Nat) : FS := { arg := .pair (.pair (.list (.int .u8)) (.pair (.int .i64) (.int .i64))) (.int .i64), ret := .pair (.int .i64) (.pair (.list (.int .u8)) (.pair (.int .i64) (.int .i64))), fresh := false, F := spec_l1Below.F N }

theorem spec_l1Below.F_eq (N : Nat) (c : (List Int) × Int × Int) (n_ : Int) : spec_l1Below.F N (c, n_) =
    bif decide (n_ ≤ (0 : Int)) then
      some ((0 : Int), c)
    else
      bif decide (n_ ≤ (256 : Int)) then
        bindO (spec_l1Byte.F N c) fun r1 =>
        bif n_ != 0 then
        some (Int.tmod r1.1 n_, r1.2)
        else none
      else
        bindO (spec_l1Byte.F N c) fun r2 =>
        bindO (spec_l1Byte.F N r2.2) fun r3 =>
        bindO (spec_l1Byte.F N r3.2) fun r4 =>
        bindO (spec_l1Byte.F N r4.2) fun r5 =>
        bif n_ != 0 then
        some (Int.tmod (IntKind.wrap .i64 ((IntKind.wrap .i64 ((IntKind.wrap .i64 ((IntKind.wrap .i64 (r2.1 * (16777216 : Int))) + (IntKind.wrap .i64 (r3.1 * (65536 : Int))))) + (IntKind.wrap .i64 (r4.1 * (256 : Int))))) + r5.1)) n_, r5.2)
        else none := by kernel_rfl

def spec_MakeNumber.x : XFunc := { nslots := 12, nobj := 1, pars := [.val false 1, .val false 1, .val false 1], rowsIn := [none, none, none], rets := [.tmp 6 false 1], outs := [.imm], fresh := true, arg := .pair (.list (.int .u8)) (.pair (.int .i64) (.int .i64)), ret := .int .i64, body := .seq (.region false [op 6 .move [.const (.one (.int .i64 (0 : Int)))]]) (.seq (.region false [mv 7 0, mv 8 1, ow 9 (.call ⟨237, vs 2, no 2, [.box 0 3], ims 3, false⟩) [.slot 7, .slot 8] [0] [0], mv 10 2, ow 11 (.call ⟨33, [.box 0 3, .val false 1], no 4, [.val false 1], ims 4, false⟩) [.slot 9, .slot 10] [0] [0], mv 6 11]) (.ret)) }
def spec_MakeNumber.env (N : Nat) : Env := envOf (tbl [(33, spec_l1Below.fs N), (237, spec_l24New.fs N)] noFS)
def spec_MakeNumber.F (N : Nat) (x : (List Int) × Int × Int) : Option Int := XFunc.run spec_MakeNumber.x (spec_MakeNumber.env N) N x
def spec_MakeNumber.fs (N : Nat) : FS := { arg := .pair (.list (.int .u8)) (.pair (.int .i64) (.int .i64)), ret := .int .i64, fresh := true, F := spec_MakeNumber.F N }

theorem spec_MakeNumber.F_eq (N : Nat) (code : List Int) (place : Int) (n_ : Int) : spec_MakeNumber.F N (code, place, n_) =
    bindO (spec_l24New.F N (code, place)) fun r1 =>
    bindO (spec_l1Below.F N (r1, n_)) fun r2 =>
    some r2.1 := by kernel_rfl

end Go.Kb
