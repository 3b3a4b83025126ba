/- The texts of functions, printed by a program, and the equations of their runs. -/
import Derived.Test.YtnoifcpgionjkaaCombinedF1
import Derived.Test.YtnoifcpgionjkaaCombinedF2
import Derived.Test.YtnoifcpgionjkaaCombinedF3
import Derived.KernelRfl
namespace Go.Kb
def spec_l11Count.c1 : XCode := .seq (.seq (.region false [mv 5 4, op 6 (.bin .leq) [.slot 5, .const (.one (.int .i64 (31 : Int)))]]) (.cond (.slot 6) (.skip) (.exit 0))) (.seq (.block 1 (.region false [mv 9 3, mv 10 0, mv 11 4, o2 12 (.bin .shr) 10 11, op 13 (.bin .and) [.slot 12, .const (.one (.int .i64 (1 : Int)))], o2 14 (.bin .add) 9 13, mv 3 14])) (.region false [mv 7 4, op 8 (.bin .add) [.slot 7, .const (.one (.int .i64 (1 : Int)))], mv 4 8]))
def spec_l11Count.c2 : XCode := .seq (.region false [mv 15 3, mv 2 15]) (.ret)
def spec_l11Count.x : XFunc := { nslots := 16, nobj := 0, pars := [.val false 1], rowsIn := [none], rets := [.tmp 2 false 1], outs := [.imm], fresh := true, arg := .int .i64, ret := .int .i64, body := .seq (.region false [op 2 .move [.const (.one (.int .i64 (0 : Int)))]]) (.seq (.region false [op 3 .move [.const (.one (.int .i64 (0 : Int)))]]) (.seq (.seq (.region false [op 4 .move [.const (.one (.int .i64 (0 : Int)))]]) (.block 0 (.loop [.keep [0, 3, 4], .norm] (spec_l11Count.c1)))) (spec_l11Count.c2))) }
def spec_l11Count.env (_ : Nat) : Env := envOf (tbl [] noFS)
def spec_l11Count.F (N : Nat) (x : Int) : Option Int := XFunc.run spec_l11Count.x (spec_l11Count.env N) N x
def spec_l11Count.fs (N : Nat) : FS := { arg := .int .i64, ret := .int .i64, fresh := true, F := spec_l11Count.F N }
def spec_l11Count.k2 (N : Nat) : Ex → S → Option Int := seqK (fun s => XCode.runK (spec_l11Count.env N) N (spec_l11Count.c2) s (XFunc.endK spec_l11Count.x)) (XFunc.endK spec_l11Count.x)
def spec_l11Count.k1 (N : Nat) : Ex → S → Option Int := blockK 0 (spec_l11Count.k2 N)
def spec_l11Count.L1 (N : Nat) (n1 : Nat) (mask : Int) (n_ : Int) (k_ : Int) : Option Int := loopK [.keep [0, 3, 4], .norm] (fun s k => XCode.runK (spec_l11Count.env N) N spec_l11Count.c1 s k) n1
  { t := [.one (.int .i64 mask), .junk, .junk, .one (.int .i64 n_), .one (.int .i64 k_), .junk, .junk, .junk, .junk, .junk, .junk, .junk, .junk, .junk, .junk, .junk], h := [] }
  (spec_l11Count.k1 N)

theorem spec_l11Count.L1_eq (N : Nat) (n1 : Nat) (mask : Int) (n_ : Int) (k_ : Int) : spec_l11Count.L1 N (n1 + 1) mask n_ k_ =
    bif decide (k_ ≤ (31 : Int)) then
      bif decide (0 ≤ k_) then
      spec_l11Count.L1 N n1 mask (IntKind.wrap .i64 (n_ + (bitAnd .i64 (shiftR .i64 mask k_) (1 : Int)))) (IntKind.wrap .i64 (k_ + (1 : Int)))
      else none
    else
      some n_ := by kernel_rfl
theorem spec_l11Count.F_eq (N : Nat) (mask : Int) : spec_l11Count.F N mask =
    spec_l11Count.L1 N N mask (0 : Int) (0 : Int) := by kernel_rfl

def spec_IsCombos.c1 : XCode := .seq (.seq (.region false [mv 37 4, mv 38 3, o2 39 (.bin .lss) 37 38]) (.cond (.slot 39) (.skip) (.exit 2))) (.seq (.block 3 (.seq (.region true [mv 42 0, mv 43 4, o2 44 (.indexAddr (.pair (.int .i64) (.int .i64))) 42 43, o1 45 (.fieldAddr 0) 44, o1 46 (.load false 1) 45, mv 47 0, mv 48 3, o2 49 (.indexAddr (.pair (.int .i64) (.int .i64))) 47 48, o1 50 (.fieldAddr 0) 49, o1 51 (.load false 1) 50, o2 52 (.bin .eql) 46 51, ⟨some 53, .move, [.slot 52], [], [], none, true⟩, ⟨some 54, .move, [.slot 0], [], [], some (53, false), false⟩, ⟨some 55, .move, [.slot 4], [], [], some (53, false), false⟩, ⟨some 56, .indexAddr (.pair (.int .i64) (.int .i64)), [.slot 54, .slot 55], [], [], some (53, false), false⟩, ⟨some 57, .fieldAddr 1, [.slot 56], [], [], some (53, false), false⟩, ⟨some 58, .load false 1, [.slot 57], [], [], some (53, false), false⟩, ⟨some 59, .move, [.slot 0], [], [], some (53, false), false⟩, ⟨some 60, .move, [.slot 3], [], [], some (53, false), false⟩, ⟨some 61, .indexAddr (.pair (.int .i64) (.int .i64)), [.slot 59, .slot 60], [], [], some (53, false), false⟩, ⟨some 62, .fieldAddr 1, [.slot 61], [], [], some (53, false), false⟩, ⟨some 63, .load false 1, [.slot 62], [], [], some (53, false), false⟩, ⟨some 64, .bin .eql, [.slot 58, .slot 63], [], [], some (53, false), false⟩, op 65 .pick [.slot 53, .const (.one (.bool true)), .slot 64]]) (.cond (.slot 65) (.seq (.region false [op 2 .move [.const (.one (.bool false))]]) (.ret)) (.skip)))) (.region false [mv 40 4, op 41 (.bin .add) [.slot 40, .const (.one (.int .i64 (1 : Int)))], mv 4 41]))
def spec_IsCombos.c2 : XCode := .region false [mv 9 3, op 10 (.bin .add) [.slot 9, .const (.one (.int .i64 (1 : Int)))], mv 3 10]
def spec_IsCombos.c3 : XCode := .seq (.seq (.region false [mv 5 3, mv 6 0, o1 7 .len 6, o2 8 (.bin .lss) 5 7]) (.cond (.slot 8) (.skip) (.exit 0))) (.seq (.block 1 (.seq (.seq (.region false [mv 11 0, mv 12 3, o2 13 (.indexAddr (.pair (.int .i64) (.int .i64))) 11 12, o1 14 (.fieldAddr 0) 13, o1 15 (.load false 1) 14, op 16 (.call ⟨1, vs 3, no 3, [.val false 1], ims 1, true⟩) [.slot 15, .const (.one (.int .i64 (0 : Int))), .const (.one (.int .i64 (16777215 : Int)))], o1 17 .not 16, ⟨some 18, .move, [.slot 17], [], [], none, true⟩, ⟨some 19, .move, [.slot 0], [], [], some (18, false), false⟩, ⟨some 20, .move, [.slot 3], [], [], some (18, false), false⟩, ⟨some 21, .indexAddr (.pair (.int .i64) (.int .i64)), [.slot 19, .slot 20], [], [], some (18, false), false⟩, ⟨some 22, .fieldAddr 0, [.slot 21], [], [], some (18, false), false⟩, ⟨some 23, .load false 1, [.slot 22], [], [], some (18, false), false⟩, ⟨some 24, .call ⟨35, vs 1, no 1, [.val false 1], ims 1, true⟩, [.slot 23], [], [], some (18, false), false⟩, ⟨some 25, .call ⟨1, vs 3, no 3, [.val false 1], ims 1, true⟩, [.slot 24, .const (.one (.int .i64 (2 : Int))), .const (.one (.int .i64 (4 : Int)))], [], [], some (18, false), false⟩, ⟨some 26, .not, [.slot 25], [], [], some (18, false), false⟩, op 27 .pick [.slot 18, .const (.one (.bool true)), .slot 26], ⟨some 28, .move, [.slot 27], [], [], none, true⟩, ⟨some 29, .move, [.slot 0], [], [], some (28, false), false⟩, ⟨some 30, .move, [.slot 3], [], [], some (28, false), false⟩, ⟨some 31, .indexAddr (.pair (.int .i64) (.int .i64)), [.slot 29, .slot 30], [], [], some (28, false), false⟩, ⟨some 32, .fieldAddr 1, [.slot 31], [], [], some (28, false), false⟩, ⟨some 33, .load false 1, [.slot 32], [], [], some (28, false), false⟩, ⟨some 34, .call ⟨1, vs 3, no 3, [.val false 1], ims 1, true⟩, [.slot 33, .const (.one (.int .i64 (24 : Int))), .const (.one (.int .i64 (31 : Int)))], [], [], some (28, false), false⟩, ⟨some 35, .not, [.slot 34], [], [], some (28, false), false⟩, op 36 .pick [.slot 28, .const (.one (.bool true)), .slot 35]]) (.cond (.slot 36) (.seq (.region false [op 2 .move [.const (.one (.bool false))]]) (.ret)) (.skip))) (.seq (.region false [op 4 .move [.const (.one (.int .i64 (0 : Int)))]]) (.block 2 (.loop [.keep [0, 3, 4], .norm] (spec_IsCombos.c1)))))) (spec_IsCombos.c2))
def spec_IsCombos.c4 : XCode := .seq (.region false [mv 66 0, o1 67 .len 66, op 68 (.bin .leq) [.slot 67, .const (.one (.int .i64 (8 : Int)))], mv 2 68]) (.ret)
def spec_IsCombos.x : XFunc := { nslots := 69, nobj := 0, pars := [.val false 1], rowsIn := [none], rets := [.tmp 2 false 1], outs := [.imm], fresh := true, arg := .list (.pair (.int .i64) (.int .i64)), ret := .bool, body := .seq (.region false [op 2 .move [.const (.one (.bool false))]]) (.seq (.seq (.region false [op 3 .move [.const (.one (.int .i64 (0 : Int)))]]) (.block 0 (.loop [.keep [0, 3], .norm] (spec_IsCombos.c3)))) (spec_IsCombos.c4)) }
def spec_IsCombos.env (N : Nat) : Env := envOf (tbl [(35, spec_l11Count.fs N), (1, spec_l1In.fs N)] noFS)
def spec_IsCombos.F (N : Nat) (x : List (Int × Int)) : Option Bool := XFunc.run spec_IsCombos.x (spec_IsCombos.env N) N x
def spec_IsCombos.fs (N : Nat) : FS := { arg := .list (.pair (.int .i64) (.int .i64)), ret := .bool, fresh := true, F := spec_IsCombos.F N }
def spec_IsCombos.k2 (N : Nat) : Ex → S → Option Bool := seqK (fun s => XCode.runK (spec_IsCombos.env N) N (spec_IsCombos.c4) s (XFunc.endK spec_IsCombos.x)) (XFunc.endK spec_IsCombos.x)
def spec_IsCombos.k1 (N : Nat) : Ex → S → Option Bool := blockK 0 (spec_IsCombos.k2 N)
def spec_IsCombos.k6 (N : Nat) (n1 : Nat) : Ex → S → Option Bool := seqK (fun s => bindO (S.ghosts s [.keep [0, 3], .norm]) fun s1 => loopK [.keep [0, 3], .norm] (fun s k => XCode.runK (spec_IsCombos.env N) N spec_IsCombos.c3 s k) n1 s1 (spec_IsCombos.k1 N)) (spec_IsCombos.k1 N)
def spec_IsCombos.k5 (N : Nat) (n1 : Nat) : Ex → S → Option Bool := seqK (fun s => XCode.runK (spec_IsCombos.env N) N (spec_IsCombos.c2) s (spec_IsCombos.k6 N n1)) (spec_IsCombos.k6 N n1)
def spec_IsCombos.k4 (N : Nat) (n1 : Nat) : Ex → S → Option Bool := blockK 1 (spec_IsCombos.k5 N n1)
def spec_IsCombos.k3 (N : Nat) (n1 : Nat) : Ex → S → Option Bool := blockK 2 (spec_IsCombos.k4 N n1)
def spec_IsCombos.L1 (N : Nat) (n1 : Nat) (l_ : List (Int × Int)) (i : Int) : Option Bool := loopK [.keep [0, 3], .norm] (fun s k => XCode.runK (spec_IsCombos.env N) N spec_IsCombos.c3 s k) n1
  { t := [.one (.sl false (.pair (.int .i64) (.int .i64)) l_), .junk, .junk, .one (.int .i64 i), .junk, .junk, .junk, .junk, .junk, .junk, .junk, .junk, .junk, .junk, .junk, .junk, .junk, .junk, .junk, .junk, .junk, .junk, .junk, .junk, .junk, .junk, .junk, .junk, .junk, .junk, .junk, .junk, .junk, .junk, .junk, .junk, .junk, .junk, .junk, .junk, .junk, .junk, .junk, .junk, .junk, .junk, .junk, .junk, .junk, .junk, .junk, .junk, .junk, .junk, .junk, .junk, .junk, .junk, .junk, .junk, .junk, .junk, .junk, .junk, .junk, .junk, .junk, .junk, .junk], h := [] }
  (spec_IsCombos.k1 N)
def spec_IsCombos.L2 (N : Nat) (n1 : Nat) (n2 : Nat) (l_ : List (Int × Int)) (i : Int) (k_ : Int) : Option Bool := loopK [.keep [0, 3, 4], .norm] (fun s k => XCode.runK (spec_IsCombos.env N) N spec_IsCombos.c1 s k) n2
  { t := [.one (.sl false (.pair (.int .i64) (.int .i64)) l_), .junk, .junk, .one (.int .i64 i), .one (.int .i64 k_), .junk, .junk, .junk, .junk, .junk, .junk, .junk, .junk, .junk, .junk, .junk, .junk, .junk, .junk, .junk, .junk, .junk, .junk, .junk, .junk, .junk, .junk, .junk, .junk, .junk, .junk, .junk, .junk, .junk, .junk, .junk, .junk, .junk, .junk, .junk, .junk, .junk, .junk, .junk, .junk, .junk, .junk, .junk, .junk, .junk, .junk, .junk, .junk, .junk, .junk, .junk, .junk, .junk, .junk, .junk, .junk, .junk, .junk, .junk, .junk, .junk, .junk, .junk, .junk], h := [] }
  (spec_IsCombos.k3 N n1)

theorem spec_IsCombos.L1_eq (N : Nat) (n1 : Nat) (l_ : List (Int × Int)) (i : Int) : spec_IsCombos.L1 N (n1 + 1) l_ i =
    bif decide (i < (List.length l_ : Int)) then
      bif inRange i (List.length l_) then
      bindO (spec_l1In.F N ((nth ((0 : Int), (0 : Int)) l_ i).1, ((0 : Int), (16777215 : Int)))) fun r1 =>
      bif !r1 then
        some false
      else
        bif inRange i (List.length l_) then
        bindO (spec_l11Count.F N ((nth ((0 : Int), (0 : Int)) l_ i).1)) fun r2 =>
        bindO (spec_l1In.F N (r2, ((2 : Int), (4 : Int)))) fun r3 =>
        bif !r3 then
          some false
        else
          bif inRange i (List.length l_) then
          bindO (spec_l1In.F N ((nth ((0 : Int), (0 : Int)) l_ i).2, ((24 : Int), (31 : Int)))) fun r4 =>
          bif !r4 then
            some false
          else
            spec_IsCombos.L2 N n1 N l_ i (0 : Int)
          else none
        else none
      else none
    else
      some (decide ((List.length l_ : Int) ≤ (8 : Int))) := by kernel_rfl
theorem spec_IsCombos.L2_eq (N : Nat) (n1 : Nat) (n2 : Nat) (l_ : List (Int × Int)) (i : Int) (k_ : Int) : spec_IsCombos.L2 N n1 (n2 + 1) l_ i k_ =
    bif decide (k_ < i) then
      bif inRange k_ (List.length l_) then
      bif inRange i (List.length l_) then
      bif ((nth ((0 : Int), (0 : Int)) l_ k_).1) == ((nth ((0 : Int), (0 : Int)) l_ i).1) then
        some false
      else
        bif inRange k_ (List.length l_) then
        bif inRange i (List.length l_) then
        bif ((nth ((0 : Int), (0 : Int)) l_ k_).2) == ((nth ((0 : Int), (0 : Int)) l_ i).2) then
          some false
        else
          spec_IsCombos.L2 N n1 n2 l_ i (IntKind.wrap .i64 (k_ + (1 : Int)))
        else none
        else none
      else none
      else none
    else
      spec_IsCombos.L1 N n1 l_ (IntKind.wrap .i64 (i + (1 : Int))) := by kernel_rfl
theorem spec_IsCombos.F_eq (N : Nat) (l_ : List (Int × Int)) : spec_IsCombos.F N l_ =
    spec_IsCombos.L1 N N l_ (0 : Int) := by kernel_rfl

def spec_l11Keys.c1 : XCode := .seq (.seq (.region false [mv 6 5, mv 7 0, o1 8 .len 7, o2 9 (.bin .lss) 6 8]) (.cond (.slot 9) (.skip) (.exit 0))) (.seq (.block 1 (.seq (.region false [mv 12 0, mv 13 5, o2 14 (.indexAddr (.pair (.int .i64) (.int .i64))) 12 13, o1 15 (.fieldAddr 1) 14, o1 16 (.load false 1) 15, mv 17 1, o2 18 (.bin .eql) 16 17]) (.cond (.slot 18) (.seq (.region false [mv 19 0, mv 20 5, o2 21 (.indexAddr (.pair (.int .i64) (.int .i64))) 19 20, o1 22 (.fieldAddr 0) 21, o1 23 (.load false 1) 22, mv 4 23]) (.ret)) (.skip)))) (.region false [mv 10 5, op 11 (.bin .add) [.slot 10, .const (.one (.int .i64 (1 : Int)))], mv 5 11]))
def spec_l11Keys.c2 : XCode := .seq (.region false [op 4 .move [.const (.one (.int .i64 (0 : Int)))]]) (.ret)
def spec_l11Keys.x : XFunc := { nslots := 24, nobj := 0, pars := [.val false 1, .val false 1], rowsIn := [none, none], rets := [.tmp 4 false 1], outs := [.imm], fresh := true, arg := .pair (.list (.pair (.int .i64) (.int .i64))) (.int .i64), ret := .int .i64, body := .seq (.region false [op 4 .move [.const (.one (.int .i64 (0 : Int)))]]) (.seq (.seq (.region false [op 5 .move [.const (.one (.int .i64 (0 : Int)))]]) (.block 0 (.loop [.keep [0, 1, 5], .norm] (spec_l11Keys.c1)))) (spec_l11Keys.c2)) }
def spec_l11Keys.env (_ : Nat) : Env := envOf (tbl [] noFS)
def spec_l11Keys.F (N : Nat) (x : (List (Int × Int)) × Int) : Option Int := XFunc.run spec_l11Keys.x (spec_l11Keys.env N) N x
def spec_l11Keys.fs (N : Nat) : FS := { arg := .pair (.list (.pair (.int .i64) (.int .i64))) (.int .i64), ret := .int .i64, fresh := true, F := spec_l11Keys.F N }
def spec_l11Keys.k2 (N : Nat) : Ex → S → Option Int := seqK (fun s => XCode.runK (spec_l11Keys.env N) N (spec_l11Keys.c2) s (XFunc.endK spec_l11Keys.x)) (XFunc.endK spec_l11Keys.x)
def spec_l11Keys.k1 (N : Nat) : Ex → S → Option Int := blockK 0 (spec_l11Keys.k2 N)
def spec_l11Keys.L1 (N : Nat) (n1 : Nat) (l_ : List (Int × Int)) (out : Int) (i : Int) : Option Int := loopK [.keep [0, 1, 5], .norm] (fun s k => XCode.runK (spec_l11Keys.env N) N spec_l11Keys.c1 s k) n1
  { t := [.one (.sl false (.pair (.int .i64) (.int .i64)) l_), .one (.int .i64 out), .junk, .junk, .junk, .one (.int .i64 i), .junk, .junk, .junk, .junk, .junk, .junk, .junk, .junk, .junk, .junk, .junk, .junk, .junk, .junk, .junk, .junk, .junk, .junk], h := [] }
  (spec_l11Keys.k1 N)

theorem spec_l11Keys.L1_eq (N : Nat) (n1 : Nat) (l_ : List (Int × Int)) (out : Int) (i : Int) : spec_l11Keys.L1 N (n1 + 1) l_ out i =
    bif decide (i < (List.length l_ : Int)) then
      bif inRange i (List.length l_) then
      bif ((nth ((0 : Int), (0 : Int)) l_ i).2) == out then
        bif inRange i (List.length l_) then
        some ((nth ((0 : Int), (0 : Int)) l_ i).1)
        else none
      else
        spec_l11Keys.L1 N n1 l_ out (IntKind.wrap .i64 (i + (1 : Int)))
      else none
    else
      some (0 : Int) := by kernel_rfl
theorem spec_l11Keys.F_eq (N : Nat) (l_ : List (Int × Int)) (out : Int) : spec_l11Keys.F N (l_, out) =
    spec_l11Keys.L1 N N l_ out (0 : Int) := by kernel_rfl

def spec_l11Active.c1 : XCode := .seq (.seq (.region false [mv 53 7, mv 54 4, o2 55 (.bin .lss) 53 54]) (.cond (.slot 55) (.skip) (.exit 2))) (.seq (.block 3 (.seq (.region true [o1 58 (.fieldAddr 6) 1, ow 59 (.load false 1) [.slot 58] [0] [], mv 60 7, o2 61 (.indexAddr (.pair (.int .i64) (.pair (.int .i64) (.bool)))) 59 60, o1 62 (.fieldAddr 0) 61, o1 63 (.load false 1) 62, o1 64 (.fieldAddr 0) 5, ow 65 (.load false 1) [.slot 64] [1] [], o2 66 (.bin .eql) 63 65]) (.cond (.slot 66) (.seq (.region false [op 2 .move [.const (.one (.bool false))]]) (.ret)) (.skip)))) (.region false [mv 56 7, op 57 (.bin .add) [.slot 56, .const (.one (.int .i64 (1 : Int)))], mv 7 57]))
def spec_l11Active.c2 : XCode := .region false [mv 67 3, o1 68 (.fieldAddr 1) 5, ow 69 (.load false 1) [.slot 68] [1] [], o2 70 (.bin .or) 67 69, mv 3 70]
def spec_l11Active.c3 : XCode := .region false [mv 15 4, op 16 (.bin .add) [.slot 15, .const (.one (.int .i64 (1 : Int)))], mv 4 16]
def spec_l11Active.c4 : XCode := .seq (.seq (.region false [mv 10 4, o1 11 (.fieldAddr 6) 1, ow 12 (.load false 1) [.slot 11] [0] [], o1 13 .len 12, o2 14 (.bin .lss) 10 13]) (.cond (.slot 14) (.skip) (.exit 0))) (.seq (.block 1 (.seq (.region false [o1 17 (.fieldAddr 6) 1, ow 18 (.load false 1) [.slot 17] [0] [], mv 19 4, o2 20 (.indexAddr (.pair (.int .i64) (.pair (.int .i64) (.bool)))) 18 19, o1 21 (.load true 3) 20, ow 5 (.alloc 1 [.int .i64 (0 : Int), .int .i64 (0 : Int), .bool false]) [] [1] [1], on (.store 3) [.slot 5, .slot 21] [1] [1]]) (.seq (.region false [o1 22 (.fieldAddr 0) 1, ow 23 (.load false 1) [.slot 22] [0] [], o1 24 (.fieldAddr 0) 5, ow 25 (.load false 1) [.slot 24] [1] [], o2 26 (.call ⟨37, vs 2, no 2, [.val false 1], ims 1, true⟩) 23 25, mv 6 26]) (.seq (.seq (.region false [o1 27 (.fieldAddr 1) 5, ow 28 (.load false 1) [.slot 27] [1] [], op 29 (.bin .leq) [.slot 28, .const (.one (.int .i64 (0 : Int)))], ⟨some 30, .move, [.slot 29], [], [], none, true⟩, ⟨some 31, .fieldAddr 1, [.slot 5], [], [], some (30, false), false⟩, ⟨some 32, .load false 1, [.slot 31], [1], [], some (30, false), false⟩, ⟨some 33, .move, [.slot 6], [], [], some (30, false), false⟩, ⟨some 34, .bin .andNot, [.slot 32, .slot 33], [], [], some (30, false), false⟩, ⟨some 35, .bin .neq, [.slot 34, .const (.one (.int .i64 (0 : Int)))], [], [], some (30, false), false⟩, op 36 .pick [.slot 30, .const (.one (.bool true)), .slot 35], ⟨some 37, .move, [.slot 36], [], [], none, true⟩, ⟨some 38, .fieldAddr 2, [.slot 5], [], [], some (37, false), false⟩, ⟨some 39, .load false 1, [.slot 38], [1], [], some (37, false), false⟩, ⟨some 40, .fieldAddr 1, [.slot 5], [], [], some (37, false), false⟩, ⟨some 41, .load false 1, [.slot 40], [1], [], some (37, false), false⟩, ⟨some 42, .move, [.slot 6], [], [], some (37, false), false⟩, ⟨some 43, .bin .eql, [.slot 41, .slot 42], [], [], some (37, false), false⟩, ⟨some 44, .eqBool true, [.slot 39, .slot 43], [], [], some (37, false), false⟩, op 45 .pick [.slot 37, .const (.one (.bool true)), .slot 44], ⟨some 46, .move, [.slot 45], [], [], none, true⟩, ⟨some 47, .fieldAddr 1, [.slot 5], [], [], some (46, false), false⟩, ⟨some 48, .load false 1, [.slot 47], [1], [], some (46, false), false⟩, ⟨some 49, .move, [.slot 3], [], [], some (46, false), false⟩, ⟨some 50, .bin .and, [.slot 48, .slot 49], [], [], some (46, false), false⟩, ⟨some 51, .bin .neq, [.slot 50, .const (.one (.int .i64 (0 : Int)))], [], [], some (46, false), false⟩, op 52 .pick [.slot 46, .const (.one (.bool true)), .slot 51]]) (.cond (.slot 52) (.seq (.region false [op 2 .move [.const (.one (.bool false))]]) (.ret)) (.skip))) (.seq (.seq (.region false [op 7 .move [.const (.one (.int .i64 (0 : Int)))]]) (.block 2 (.loop [.keep [1, 3, 4, 5, 7], .norm] (spec_l11Active.c1)))) (spec_l11Active.c2)))))) (spec_l11Active.c3))
def spec_l11Active.c5 : XCode := .seq (.region false [o1 71 (.fieldAddr 5) 1, ow 72 (.load false 1) [.slot 71] [0] [], op 73 (.call ⟨1, vs 3, no 3, [.val false 1], ims 1, true⟩) [.slot 72, .const (.one (.int .i64 (0 : Int))), .const (.one (.int .i64 (16777215 : Int)))], mv 2 73]) (.ret)
def spec_l11Active.x : XFunc := { nslots := 74, nobj := 2, pars := [.val true 7], rowsIn := [none, none, none, none, none, none, none], rets := [.tmp 2 false 1], outs := [.imm], fresh := true, arg := .pair (.list (.pair (.int .i64) (.int .i64))) (.pair (.int .i64) (.pair (.list (.pair (.int .i64) (.pair (.int .i64) (.bool)))) (.pair (.int .i64) (.pair (.int .i64) (.pair (.int .i64) (.list (.pair (.int .i64) (.pair (.int .i64) (.bool))))))))), ret := .bool, body := .seq (.region false [ow 1 (.box 0) [.slot 0] [0] [0], op 2 .move [.const (.one (.bool false))]]) (.seq (.region false [o1 8 (.fieldAddr 5) 1, ow 9 (.load false 1) [.slot 8] [0] [], mv 3 9]) (.seq (.seq (.region false [op 4 .move [.const (.one (.int .i64 (0 : Int)))]]) (.block 0 (.loop [.keep [1, 3, 4], .drop 1, .norm] (spec_l11Active.c4)))) (spec_l11Active.c5))) }
def spec_l11Active.env (N : Nat) : Env := envOf (tbl [(37, spec_l11Keys.fs N), (1, spec_l1In.fs N)] noFS)
def spec_l11Active.F (N : Nat) (x : (List (Int × Int)) × Int × (List (Int × Int × Bool)) × Int × Int × Int × List (Int × Int × Bool)) : Option Bool := XFunc.run spec_l11Active.x (spec_l11Active.env N) N x
def spec_l11Active.fs (N : Nat) : FS := { arg := .pair (.list (.pair (.int .i64) (.int .i64))) (.pair (.int .i64) (.pair (.list (.pair (.int .i64) (.pair (.int .i64) (.bool)))) (.pair (.int .i64) (.pair (.int .i64) (.pair (.int .i64) (.list (.pair (.int .i64) (.pair (.int .i64) (.bool))))))))), ret := .bool, fresh := true, F := spec_l11Active.F N }
def spec_l11Active.k2 (N : Nat) : Ex → S → Option Bool := seqK (fun s => XCode.runK (spec_l11Active.env N) N (spec_l11Active.c5) s (XFunc.endK spec_l11Active.x)) (XFunc.endK spec_l11Active.x)
def spec_l11Active.k1 (N : Nat) : Ex → S → Option Bool := blockK 0 (spec_l11Active.k2 N)
def spec_l11Active.k7 (N : Nat) (n1 : Nat) : Ex → S → Option Bool := seqK (fun s => bindO (S.ghosts s [.keep [1, 3, 4], .drop 1, .norm]) fun s1 => loopK [.keep [1, 3, 4], .drop 1, .norm] (fun s k => XCode.runK (spec_l11Active.env N) N spec_l11Active.c4 s k) n1 s1 (spec_l11Active.k1 N)) (spec_l11Active.k1 N)
def spec_l11Active.k6 (N : Nat) (n1 : Nat) : Ex → S → Option Bool := seqK (fun s => XCode.runK (spec_l11Active.env N) N (spec_l11Active.c3) s (spec_l11Active.k7 N n1)) (spec_l11Active.k7 N n1)
def spec_l11Active.k5 (N : Nat) (n1 : Nat) : Ex → S → Option Bool := blockK 1 (spec_l11Active.k6 N n1)
def spec_l11Active.k4 (N : Nat) (n1 : Nat) : Ex → S → Option Bool := seqK (fun s => XCode.runK (spec_l11Active.env N) N (spec_l11Active.c2) s (spec_l11Active.k5 N n1)) (spec_l11Active.k5 N n1)
def spec_l11Active.k3 (N : Nat) (n1 : Nat) : Ex → S → Option Bool := blockK 2 (spec_l11Active.k4 N n1)
def spec_l11Active.L1 (N : Nat) (n1 : Nat) (held : Int) (i : Int) (o00 : List (Int × Int)) (o01 : Int) (o02 : List (Int × Int × Bool)) (o03 : Int) (o04 : Int) (o05 : Int) (o06 : List (Int × Int × Bool)) : Option Bool := loopK [.keep [1, 3, 4], .drop 1, .norm] (fun s k => XCode.runK (spec_l11Active.env N) N spec_l11Active.c4 s k) n1
  { t := [.junk, .one (.ptr 0 0 0), .junk, .one (.int .i64 held), .one (.int .i64 i), .junk, .junk, .junk, .junk, .junk, .junk, .junk, .junk, .junk, .junk, .junk, .junk, .junk, .junk, .junk, .junk, .junk, .junk, .junk, .junk, .junk, .junk, .junk, .junk, .junk, .junk, .junk, .junk, .junk, .junk, .junk, .junk, .junk, .junk, .junk, .junk, .junk, .junk, .junk, .junk, .junk, .junk, .junk, .junk, .junk, .junk, .junk, .junk, .junk, .junk, .junk, .junk, .junk, .junk, .junk, .junk, .junk, .junk, .junk, .junk, .junk, .junk, .junk, .junk, .junk, .junk, .junk, .junk, .junk], h := [.box 0 false [.sl false (.pair (.int .i64) (.int .i64)) o00, .int .i64 o01, .sl false (.pair (.int .i64) (.pair (.int .i64) (.bool))) o02, .int .i64 o03, .int .i64 o04, .int .i64 o05, .sl false (.pair (.int .i64) (.pair (.int .i64) (.bool))) o06], .absent 0] }
  (spec_l11Active.k1 N)
def spec_l11Active.L2 (N : Nat) (n1 : Nat) (n2 : Nat) (held : Int) (i : Int) (k_ : Int) (o00 : List (Int × Int)) (o01 : Int) (o02 : List (Int × Int × Bool)) (o03 : Int) (o04 : Int) (o05 : Int) (o06 : List (Int × Int × Bool)) (o10 : Int) (o11 : Int) (o12 : Bool) : Option Bool := loopK [.keep [1, 3, 4, 5, 7], .norm] (fun s k => XCode.runK (spec_l11Active.env N) N spec_l11Active.c1 s k) n2
  { t := [.junk, .one (.ptr 0 0 0), .junk, .one (.int .i64 held), .one (.int .i64 i), .one (.ptr 1 0 0), .junk, .one (.int .i64 k_), .junk, .junk, .junk, .junk, .junk, .junk, .junk, .junk, .junk, .junk, .junk, .junk, .junk, .junk, .junk, .junk, .junk, .junk, .junk, .junk, .junk, .junk, .junk, .junk, .junk, .junk, .junk, .junk, .junk, .junk, .junk, .junk, .junk, .junk, .junk, .junk, .junk, .junk, .junk, .junk, .junk, .junk, .junk, .junk, .junk, .junk, .junk, .junk, .junk, .junk, .junk, .junk, .junk, .junk, .junk, .junk, .junk, .junk, .junk, .junk, .junk, .junk, .junk, .junk, .junk, .junk], h := [.box 0 false [.sl false (.pair (.int .i64) (.int .i64)) o00, .int .i64 o01, .sl false (.pair (.int .i64) (.pair (.int .i64) (.bool))) o02, .int .i64 o03, .int .i64 o04, .int .i64 o05, .sl false (.pair (.int .i64) (.pair (.int .i64) (.bool))) o06], .box 0 false [.int .i64 o10, .int .i64 o11, .bool o12]] }
  (spec_l11Active.k3 N n1)

theorem spec_l11Active.L1_eq (N : Nat) (n1 : Nat) (held : Int) (i : Int) (o00 : List (Int × Int)) (o01 : Int) (o02 : List (Int × Int × Bool)) (o03 : Int) (o04 : Int) (o05 : Int) (o06 : List (Int × Int × Bool)) : spec_l11Active.L1 N (n1 + 1) held i o00 o01 o02 o03 o04 o05 o06 =
    bif decide (i < (List.length o06 : Int)) then
      bif inRange i (List.length o06) then
      bindO (spec_l11Keys.F N (o00, (nth ((0 : Int), ((0 : Int), false)) o06 i).1)) fun r1 =>
      bif decide ((((nth ((0 : Int), ((0 : Int), false)) o06 i).2).1) ≤ (0 : Int)) then
        some false
      else
        bif (bitAndNot .i64 (((nth ((0 : Int), ((0 : Int), false)) o06 i).2).1) r1) != (0 : Int) then
          some false
        else
          bif (((nth ((0 : Int), ((0 : Int), false)) o06 i).2).2) != ((((nth ((0 : Int), ((0 : Int), false)) o06 i).2).1) == r1) then
            some false
          else
            bif (bitAnd .i64 (((nth ((0 : Int), ((0 : Int), false)) o06 i).2).1) held) != (0 : Int) then
              some false
            else
              spec_l11Active.L2 N n1 N held i (0 : Int) o00 o01 o02 o03 o04 o05 o06 ((nth ((0 : Int), ((0 : Int), false)) o06 i).1) (((nth ((0 : Int), ((0 : Int), false)) o06 i).2).1) (((nth ((0 : Int), ((0 : Int), false)) o06 i).2).2)
      else none
    else
      bindO (spec_l1In.F N (o05, ((0 : Int), (16777215 : Int)))) fun r2 =>
      some r2 := by kernel_rfl
theorem spec_l11Active.L2_eq (N : Nat) (n1 : Nat) (n2 : Nat) (held : Int) (i : Int) (k_ : Int) (o00 : List (Int × Int)) (o01 : Int) (o02 : List (Int × Int × Bool)) (o03 : Int) (o04 : Int) (o05 : Int) (o06 : List (Int × Int × Bool)) (o10 : Int) (o11 : Int) (o12 : Bool) : spec_l11Active.L2 N n1 (n2 + 1) held i k_ o00 o01 o02 o03 o04 o05 o06 o10 o11 o12 =
    bif decide (k_ < i) then
      bif inRange k_ (List.length o06) then
      bif ((nth ((0 : Int), ((0 : Int), false)) o06 k_).1) == o10 then
        some false
      else
        spec_l11Active.L2 N n1 n2 held i (IntKind.wrap .i64 (k_ + (1 : Int))) o00 o01 o02 o03 o04 o05 o06 o10 o11 o12
      else none
    else
      spec_l11Active.L1 N n1 (bitOr .i64 held o11) (IntKind.wrap .i64 (i + (1 : Int))) o00 o01 o02 o03 o04 o05 o06 := by kernel_rfl
theorem spec_l11Active.F_eq (N : Nat) (c : (List (Int × Int)) × Int × (List (Int × Int × Bool)) × Int × Int × Int × List (Int × Int × Bool)) : spec_l11Active.F N c =
    spec_l11Active.L1 N N c.2.2.2.2.2.1 (0 : Int) c.1 c.2.1 c.2.2.1 c.2.2.2.1 c.2.2.2.2.1 c.2.2.2.2.2.1 c.2.2.2.2.2.2 := by kernel_rfl

def spec_l11Held.c1 : XCode := .seq (.seq (.region false [mv 7 4, o1 8 (.fieldAddr 6) 1, ow 9 (.load false 1) [.slot 8] [0] [], o1 10 .len 9, o2 11 (.bin .lss) 7 10]) (.cond (.slot 11) (.skip) (.exit 0))) (.seq (.block 1 (.region false [mv 14 3, o1 15 (.fieldAddr 6) 1, ow 16 (.load false 1) [.slot 15] [0] [], mv 17 4, o2 18 (.indexAddr (.pair (.int .i64) (.pair (.int .i64) (.bool)))) 16 17, o1 19 (.fieldAddr 1) 18, o1 20 (.load false 1) 19, o2 21 (.bin .or) 14 20, mv 3 21])) (.region false [mv 12 4, op 13 (.bin .add) [.slot 12, .const (.one (.int .i64 (1 : Int)))], mv 4 13]))
def spec_l11Held.c2 : XCode := .seq (.region false [mv 22 3, mv 2 22]) (.ret)
def spec_l11Held.x : XFunc := { nslots := 23, nobj := 1, pars := [.val true 7], rowsIn := [none, none, none, none, none, none, none], rets := [.tmp 2 false 1], outs := [.imm], fresh := true, arg := .pair (.list (.pair (.int .i64) (.int .i64))) (.pair (.int .i64) (.pair (.list (.pair (.int .i64) (.pair (.int .i64) (.bool)))) (.pair (.int .i64) (.pair (.int .i64) (.pair (.int .i64) (.list (.pair (.int .i64) (.pair (.int .i64) (.bool))))))))), ret := .int .i64, body := .seq (.region false [ow 1 (.box 0) [.slot 0] [0] [0], op 2 .move [.const (.one (.int .i64 (0 : Int)))]]) (.seq (.region false [o1 5 (.fieldAddr 5) 1, ow 6 (.load false 1) [.slot 5] [0] [], mv 3 6]) (.seq (.seq (.region false [op 4 .move [.const (.one (.int .i64 (0 : Int)))]]) (.block 0 (.loop [.keep [1, 3, 4], .norm] (spec_l11Held.c1)))) (spec_l11Held.c2))) }
def spec_l11Held.env (_ : Nat) : Env := envOf (tbl [] noFS)
def spec_l11Held.F (N : Nat) (x : (List (Int × Int)) × Int × (List (Int × Int × Bool)) × Int × Int × Int × List (Int × Int × Bool)) : Option Int := XFunc.run spec_l11Held.x (spec_l11Held.env N) N x
def spec_l11Held.fs (N : Nat) : FS := { arg := .pair (.list (.pair (.int .i64) (.int .i64))) (.pair (.int .i64) (.pair (.list (.pair (.int .i64) (.pair (.int .i64) (.bool)))) (.pair (.int .i64) (.pair (.int .i64) (.pair (.int .i64) (.list (.pair (.int .i64) (.pair (.int .i64) (.bool))))))))), ret := .int .i64, fresh := true, F := spec_l11Held.F N }
def spec_l11Held.k2 (N : Nat) : Ex → S → Option Int := seqK (fun s => XCode.runK (spec_l11Held.env N) N (spec_l11Held.c2) s (XFunc.endK spec_l11Held.x)) (XFunc.endK spec_l11Held.x)
def spec_l11Held.k1 (N : Nat) : Ex → S → Option Int := blockK 0 (spec_l11Held.k2 N)
def spec_l11Held.L1 (N : Nat) (n1 : Nat) (held : Int) (i : Int) (o00 : List (Int × Int)) (o01 : Int) (o02 : List (Int × Int × Bool)) (o03 : Int) (o04 : Int) (o05 : Int) (o06 : List (Int × Int × Bool)) : Option Int := loopK [.keep [1, 3, 4], .norm] (fun s k => XCode.runK (spec_l11Held.env N) N spec_l11Held.c1 s k) n1
  { t := [.junk, .one (.ptr 0 0 0), .junk, .one (.int .i64 held), .one (.int .i64 i), .junk, .junk, .junk, .junk, .junk, .junk, .junk, .junk, .junk, .junk, .junk, .junk, .junk, .junk, .junk, .junk, .junk, .junk], h := [.box 0 false [.sl false (.pair (.int .i64) (.int .i64)) o00, .int .i64 o01, .sl false (.pair (.int .i64) (.pair (.int .i64) (.bool))) o02, .int .i64 o03, .int .i64 o04, .int .i64 o05, .sl false (.pair (.int .i64) (.pair (.int .i64) (.bool))) o06]] }
  (spec_l11Held.k1 N)

theorem spec_l11Held.L1_eq (N : Nat) (n1 : Nat) (held : Int) (i : Int) (o00 : List (Int × Int)) (o01 : Int) (o02 : List (Int × Int × Bool)) (o03 : Int) (o04 : Int) (o05 : Int) (o06 : List (Int × Int × Bool)) : spec_l11Held.L1 N (n1 + 1) held i o00 o01 o02 o03 o04 o05 o06 =
    bif decide (i < (List.length o06 : Int)) then
      bif inRange i (List.length o06) then
      spec_l11Held.L1 N n1 (bitOr .i64 held (((nth ((0 : Int), ((0 : Int), false)) o06 i).2).1)) (IntKind.wrap .i64 (i + (1 : Int))) o00 o01 o02 o03 o04 o05 o06
      else none
    else
      some held := by kernel_rfl
theorem spec_l11Held.F_eq (N : Nat) (c : (List (Int × Int)) × Int × (List (Int × Int × Bool)) × Int × Int × Int × List (Int × Int × Bool)) : spec_l11Held.F N c =
    spec_l11Held.L1 N N c.2.2.2.2.2.1 (0 : Int) c.1 c.2.1 c.2.2.1 c.2.2.2.1 c.2.2.2.2.1 c.2.2.2.2.2.1 c.2.2.2.2.2.2 := by kernel_rfl

def spec_IsEvent.x : XFunc := { nslots := 11, nobj := 1, pars := [.val true 3], rowsIn := [none, none, none], rets := [.tmp 2 false 1], outs := [.imm], fresh := true, arg := .pair (.int .i64) (.pair (.int .i64) (.bool)), ret := .bool, body := .seq (.region false [ow 1 (.box 0) [.slot 0] [0] [0], op 2 .move [.const (.one (.bool false))]]) (.seq (.region false [o1 3 (.fieldAddr 0) 1, ow 4 (.load false 1) [.slot 3] [0] [], op 5 (.call ⟨1, vs 3, no 3, [.val false 1], ims 1, true⟩) [.slot 4, .const (.one (.int .i64 (0 : Int))), .const (.one (.int .i64 (1000000 : Int)))], ⟨some 6, .move, [.slot 5], [], [], none, true⟩, ⟨some 7, .fieldAddr 1, [.slot 1], [], [], some (6, true), false⟩, ⟨some 8, .load false 1, [.slot 7], [0], [], some (6, true), false⟩, ⟨some 9, .call ⟨1, vs 3, no 3, [.val false 1], ims 1, true⟩, [.slot 8, .const (.one (.int .i64 (0 : Int))), .const (.one (.int .i64 (31 : Int)))], [], [], some (6, true), false⟩, op 10 .pick [.slot 6, .slot 9, .const (.one (.bool false))], mv 2 10]) (.ret)) }
def spec_IsEvent.env (N : Nat) : Env := envOf (tbl [(1, spec_l1In.fs N)] noFS)
def spec_IsEvent.F (N : Nat) (x : Int × Int × Bool) : Option Bool := XFunc.run spec_IsEvent.x (spec_IsEvent.env N) N x
def spec_IsEvent.fs (N : Nat) : FS := { arg := .pair (.int .i64) (.pair (.int .i64) (.bool)), ret := .bool, fresh := true, F := spec_IsEvent.F N }

theorem spec_IsEvent.F_eq (N : Nat) (e : Int × Int × Bool) : spec_IsEvent.F N e =
    bindO (spec_l1In.F N (e.1, ((0 : Int), (1000000 : Int)))) fun r1 =>
    bif r1 then
      bindO (spec_l1In.F N (e.2.1, ((0 : Int), (31 : Int)))) fun r2 =>
      some r2
    else
      some false := by kernel_rfl

def spec_l10Follows.c1 : XCode := .seq (.seq (.region false [mv 10 9, mv 11 0, o1 12 .len 11, o2 13 (.bin .lss) 10 12]) (.cond (.slot 13) (.skip) (.exit 0))) (.seq (.block 1 (.seq (.seq (.region true [mv 16 0, mv 17 9, o2 18 (.indexAddr (.pair (.int .i64) (.pair (.int .i64) (.bool)))) 16 17, o1 19 (.load true 3) 18, o1 20 (.call ⟨40, [.val true 3], no 3, [.val false 1], ims 1, true⟩) 19, o1 21 .not 20, ⟨some 22, .move, [.slot 21], [], [], none, true⟩, ⟨some 23, .move, [.slot 0], [], [], some (22, false), false⟩, ⟨some 24, .move, [.slot 9], [], [], some (22, false), false⟩, ⟨some 25, .indexAddr (.pair (.int .i64) (.pair (.int .i64) (.bool))), [.slot 23, .slot 24], [], [], some (22, false), false⟩, ⟨some 26, .fieldAddr 1, [.slot 25], [], [], some (22, false), false⟩, ⟨some 27, .load false 1, [.slot 26], [], [], some (22, false), false⟩, ⟨some 28, .move, [.slot 2], [], [], some (22, false), false⟩, ⟨some 29, .bin .geq, [.slot 27, .slot 28], [], [], some (22, false), false⟩, op 30 .pick [.slot 22, .const (.one (.bool true)), .slot 29], ⟨some 31, .move, [.slot 30], [], [], none, true⟩, ⟨some 32, .move, [.slot 0], [], [], some (31, false), false⟩, ⟨some 33, .move, [.slot 9], [], [], some (31, false), false⟩, ⟨some 34, .indexAddr (.pair (.int .i64) (.pair (.int .i64) (.bool))), [.slot 32, .slot 33], [], [], some (31, false), false⟩, ⟨some 35, .fieldAddr 0, [.slot 34], [], [], some (31, false), false⟩, ⟨some 36, .load false 1, [.slot 35], [], [], some (31, false), false⟩, ⟨some 37, .move, [.slot 3], [], [], some (31, false), false⟩, ⟨some 38, .bin .lss, [.slot 36, .slot 37], [], [], some (31, false), false⟩, op 39 .pick [.slot 31, .const (.one (.bool true)), .slot 38], ⟨some 40, .move, [.slot 39], [], [], none, true⟩, ⟨some 41, .move, [.slot 0], [], [], some (40, false), false⟩, ⟨some 42, .move, [.slot 9], [], [], some (40, false), false⟩, ⟨some 43, .indexAddr (.pair (.int .i64) (.pair (.int .i64) (.bool))), [.slot 41, .slot 42], [], [], some (40, false), false⟩, ⟨some 44, .fieldAddr 2, [.slot 43], [], [], some (40, false), false⟩, ⟨some 45, .load false 1, [.slot 44], [], [], some (40, false), false⟩, ⟨some 46, .move, [.slot 1], [], [], some (40, false), false⟩, ⟨some 47, .move, [.slot 0], [], [], some (40, false), false⟩, ⟨some 48, .move, [.slot 9], [], [], some (40, false), false⟩, ⟨some 49, .indexAddr (.pair (.int .i64) (.pair (.int .i64) (.bool))), [.slot 47, .slot 48], [], [], some (40, false), false⟩, ⟨some 50, .fieldAddr 1, [.slot 49], [], [], some (40, false), false⟩, ⟨some 51, .load false 1, [.slot 50], [], [], some (40, false), false⟩, ⟨some 52, .bin .shr, [.slot 46, .slot 51], [], [], some (40, false), false⟩, ⟨some 53, .bin .and, [.slot 52, .const (.one (.int .i64 (1 : Int)))], [], [], some (40, false), false⟩, ⟨some 54, .bin .eql, [.slot 53, .const (.one (.int .i64 (1 : Int)))], [], [], some (40, false), false⟩, ⟨some 55, .eqBool false, [.slot 45, .slot 54], [], [], some (40, false), false⟩, op 56 .pick [.slot 40, .const (.one (.bool true)), .slot 55]]) (.cond (.slot 56) (.seq (.region false [op 8 .move [.const (.one (.bool false))]]) (.ret)) (.skip))) (.seq (.region false [mv 57 0, mv 58 9, o2 59 (.indexAddr (.pair (.int .i64) (.pair (.int .i64) (.bool)))) 57 58, o1 60 (.fieldAddr 0) 59, o1 61 (.load false 1) 60, mv 3 61]) (.region false [mv 62 1, mv 63 0, mv 64 9, o2 65 (.indexAddr (.pair (.int .i64) (.pair (.int .i64) (.bool)))) 63 64, o1 66 (.fieldAddr 1) 65, o1 67 (.load false 1) 66, op 68 (.bin .shl) [.const (.one (.int .i64 (1 : Int))), .slot 67], o2 69 (.bin .xor) 62 68, mv 1 69])))) (.region false [mv 14 9, op 15 (.bin .add) [.slot 14, .const (.one (.int .i64 (1 : Int)))], mv 9 15]))
def spec_l10Follows.c2 : XCode := .seq (.region false [mv 70 0, o1 71 .len 70, op 72 (.bin .leq) [.slot 71, .const (.one (.int .i64 (64 : Int)))], mv 8 72]) (.ret)
def spec_l10Follows.x : XFunc := { nslots := 73, nobj := 0, pars := [.val false 1, .val false 1, .val false 1, .val false 1], rowsIn := [none, none, none, none], rets := [.tmp 8 false 1], outs := [.imm], fresh := true, arg := .pair (.list (.pair (.int .i64) (.pair (.int .i64) (.bool)))) (.pair (.int .i64) (.pair (.int .i64) (.int .i64))), ret := .bool, body := .seq (.region false [op 8 .move [.const (.one (.bool false))]]) (.seq (.seq (.region false [op 9 .move [.const (.one (.int .i64 (0 : Int)))]]) (.block 0 (.loop [.keep [0, 1, 2, 3, 9], .norm] (spec_l10Follows.c1)))) (spec_l10Follows.c2)) }
def spec_l10Follows.env (N : Nat) : Env := envOf (tbl [(40, spec_IsEvent.fs N)] noFS)
def spec_l10Follows.F (N : Nat) (x : (List (Int × Int × Bool)) × Int × Int × Int) : Option Bool := XFunc.run spec_l10Follows.x (spec_l10Follows.env N) N x
def spec_l10Follows.fs (N : Nat) : FS := { arg := .pair (.list (.pair (.int .i64) (.pair (.int .i64) (.bool)))) (.pair (.int .i64) (.pair (.int .i64) (.int .i64))), ret := .bool, fresh := true, F := spec_l10Follows.F N }
def spec_l10Follows.k2 (N : Nat) : Ex → S → Option Bool := seqK (fun s => XCode.runK (spec_l10Follows.env N) N (spec_l10Follows.c2) s (XFunc.endK spec_l10Follows.x)) (XFunc.endK spec_l10Follows.x)
def spec_l10Follows.k1 (N : Nat) : Ex → S → Option Bool := blockK 0 (spec_l10Follows.k2 N)
def spec_l10Follows.L1 (N : Nat) (n1 : Nat) (l_ : List (Int × Int × Bool)) (held : Int) (keys : Int) (from_ : Int) (i : Int) : Option Bool := loopK [.keep [0, 1, 2, 3, 9], .norm] (fun s k => XCode.runK (spec_l10Follows.env N) N spec_l10Follows.c1 s k) n1
  { t := [.one (.sl false (.pair (.int .i64) (.pair (.int .i64) (.bool))) l_), .one (.int .i64 held), .one (.int .i64 keys), .one (.int .i64 from_), .junk, .junk, .junk, .junk, .junk, .one (.int .i64 i), .junk, .junk, .junk, .junk, .junk, .junk, .junk, .junk, .junk, .junk, .junk, .junk, .junk, .junk, .junk, .junk, .junk, .junk, .junk, .junk, .junk, .junk, .junk, .junk, .junk, .junk, .junk, .junk, .junk, .junk, .junk, .junk, .junk, .junk, .junk, .junk, .junk, .junk, .junk, .junk, .junk, .junk, .junk, .junk, .junk, .junk, .junk, .junk, .junk, .junk, .junk, .junk, .junk, .junk, .junk, .junk, .junk, .junk, .junk, .junk, .junk, .junk, .junk], h := [] }
  (spec_l10Follows.k1 N)

theorem spec_l10Follows.L1_eq (N : Nat) (n1 : Nat) (l_ : List (Int × Int × Bool)) (held : Int) (keys : Int) (from_ : Int) (i : Int) : spec_l10Follows.L1 N (n1 + 1) l_ held keys from_ i =
    bif decide (i < (List.length l_ : Int)) then
      bif inRange i (List.length l_) then
      bindO (spec_IsEvent.F N ((nth ((0 : Int), ((0 : Int), false)) l_ i).1, ((nth ((0 : Int), ((0 : Int), false)) l_ i).2))) fun r1 =>
      bif !r1 then
        some false
      else
        bif inRange i (List.length l_) then
        bif decide ((((nth ((0 : Int), ((0 : Int), false)) l_ i).2).1) ≥ keys) then
          some false
        else
          bif inRange i (List.length l_) then
          bif decide (((nth ((0 : Int), ((0 : Int), false)) l_ i).1) < from_) then
            some false
          else
            bif inRange i (List.length l_) then
            bif inRange i (List.length l_) then
            bif decide (0 ≤ ((nth ((0 : Int), ((0 : Int), false)) l_ i).2).1) then
            bif (((nth ((0 : Int), ((0 : Int), false)) l_ i).2).2) == ((bitAnd .i64 (shiftR .i64 held (((nth ((0 : Int), ((0 : Int), false)) l_ i).2).1)) (1 : Int)) == (1 : Int)) then
              some false
            else
              bif inRange i (List.length l_) then
              bif inRange i (List.length l_) then
              bif decide (0 ≤ ((nth ((0 : Int), ((0 : Int), false)) l_ i).2).1) then
              spec_l10Follows.L1 N n1 l_ (bitXor .i64 held (shiftL .i64 (1 : Int) (((nth ((0 : Int), ((0 : Int), false)) l_ i).2).1))) keys ((nth ((0 : Int), ((0 : Int), false)) l_ i).1) (IntKind.wrap .i64 (i + (1 : Int)))
              else none
              else none
              else none
            else none
            else none
            else none
          else none
        else none
      else none
    else
      some (decide ((List.length l_ : Int) ≤ (64 : Int))) := by kernel_rfl
theorem spec_l10Follows.L1_zero (N : Nat) (l_ : List (Int × Int × Bool)) (held : Int) (keys : Int) (from_ : Int) (i : Int) : spec_l10Follows.L1 N 0 l_ held keys from_ i = none := rfl
theorem spec_l10Follows.F_eq (N : Nat) (l_ : List (Int × Int × Bool)) (held : Int) (keys : Int) (from_ : Int) : spec_l10Follows.F N (l_, held, keys, from_) =
    spec_l10Follows.L1 N N l_ held keys from_ (0 : Int) := by kernel_rfl

def spec_IsCombiner.x : XFunc := { nslots := 57, nobj := 1, pars := [.val true 7], rowsIn := [none, none, none, none, none, none, none], rets := [.tmp 2 false 1], outs := [.imm], fresh := true, arg := .pair (.list (.pair (.int .i64) (.int .i64))) (.pair (.int .i64) (.pair (.list (.pair (.int .i64) (.pair (.int .i64) (.bool)))) (.pair (.int .i64) (.pair (.int .i64) (.pair (.int .i64) (.list (.pair (.int .i64) (.pair (.int .i64) (.bool))))))))), ret := .bool, body := .seq (.region false [ow 1 (.box 0) [.slot 0] [0] [0], op 2 .move [.const (.one (.bool false))]]) (.seq (.seq (.region false [o1 3 (.fieldAddr 0) 1, ow 4 (.load false 1) [.slot 3] [0] [], o1 5 (.call ⟨36, vs 1, no 1, [.val false 1], ims 1, true⟩) 4, o1 6 .not 5, ⟨some 7, .move, [.slot 6], [], [], none, true⟩, ⟨some 8, .fieldAddr 1, [.slot 1], [], [], some (7, false), false⟩, ⟨some 9, .load false 1, [.slot 8], [0], [], some (7, false), false⟩, ⟨some 10, .call ⟨1, vs 3, no 3, [.val false 1], ims 1, true⟩, [.slot 9, .const (.one (.int .i64 (1 : Int))), .const (.one (.int .i64 (200 : Int)))], [], [], some (7, false), false⟩, ⟨some 11, .not, [.slot 10], [], [], some (7, false), false⟩, op 12 .pick [.slot 7, .const (.one (.bool true)), .slot 11], ⟨some 13, .move, [.slot 12], [], [], none, true⟩, ⟨some 14, .fieldAddr 3, [.slot 1], [], [], some (13, false), false⟩, ⟨some 15, .load false 1, [.slot 14], [0], [], some (13, false), false⟩, ⟨some 16, .call ⟨1, vs 3, no 3, [.val false 1], ims 1, true⟩, [.slot 15, .const (.one (.int .i64 (0 : Int))), .const (.one (.int .i64 (1000000 : Int)))], [], [], some (13, false), false⟩, ⟨some 17, .not, [.slot 16], [], [], some (13, false), false⟩, op 18 .pick [.slot 13, .const (.one (.bool true)), .slot 17], ⟨some 19, .move, [.slot 18], [], [], none, true⟩, ⟨some 20, .fieldAddr 4, [.slot 1], [], [], some (19, false), false⟩, ⟨some 21, .load false 1, [.slot 20], [0], [], some (19, false), false⟩, ⟨some 22, .fieldAddr 3, [.slot 1], [], [], some (19, false), false⟩, ⟨some 23, .load false 1, [.slot 22], [0], [], some (19, false), false⟩, ⟨some 24, .call ⟨1, vs 3, no 3, [.val false 1], ims 1, true⟩, [.slot 21, .const (.one (.int .i64 (0 : Int))), .slot 23], [], [], some (19, false), false⟩, ⟨some 25, .not, [.slot 24], [], [], some (19, false), false⟩, op 26 .pick [.slot 19, .const (.one (.bool true)), .slot 25], ⟨some 27, .move, [.slot 26], [], [], none, true⟩, ⟨some 28, .load true 7, [.slot 1], [0], [], some (27, false), false⟩, ⟨some 29, .call ⟨38, [.val true 7], no 7, [.val false 1], ims 1, true⟩, [.slot 28], [], [], some (27, false), false⟩, ⟨some 30, .not, [.slot 29], [], [], some (27, false), false⟩, op 31 .pick [.slot 27, .const (.one (.bool true)), .slot 30]]) (.cond (.slot 31) (.seq (.region false [op 2 .move [.const (.one (.bool false))]]) (.ret)) (.skip))) (.seq (.region true [o1 32 (.fieldAddr 2) 1, ow 33 (.load false 1) [.slot 32] [0] [], ow 34 (.load true 7) [.slot 1] [0] [], o1 35 (.call ⟨39, [.val true 7], no 7, [.val false 1], ims 1, true⟩) 34, op 36 (.call ⟨41, vs 4, no 4, [.val false 1], ims 1, true⟩) [.slot 33, .slot 35, .const (.one (.int .i64 (24 : Int))), .const (.one (.int .i64 (0 : Int)))], ⟨some 37, .move, [.slot 36], [], [], none, true⟩, ⟨some 38, .fieldAddr 2, [.slot 1], [], [], some (37, true), false⟩, ⟨some 39, .load false 1, [.slot 38], [0], [], some (37, true), false⟩, ⟨some 40, .len, [.slot 39], [], [], some (37, true), false⟩, ⟨some 41, .bin .eql, [.slot 40, .const (.one (.int .i64 (0 : Int)))], [], [], some (37, true), false⟩, ⟨some 42, .move, [.slot 41], [], [], some (37, true), true⟩, ⟨some 43, .fieldAddr 2, [.slot 1], [], [], some (42, false), false⟩, ⟨some 44, .load false 1, [.slot 43], [0], [], some (42, false), false⟩, ⟨some 45, .fieldAddr 2, [.slot 1], [], [], some (42, false), false⟩, ⟨some 46, .load false 1, [.slot 45], [0], [], some (42, false), false⟩, ⟨some 47, .len, [.slot 46], [], [], some (42, false), false⟩, ⟨some 48, .bin .sub, [.slot 47, .const (.one (.int .i64 (1 : Int)))], [], [], some (42, false), false⟩, ⟨some 49, .indexAddr (.pair (.int .i64) (.pair (.int .i64) (.bool))), [.slot 44, .slot 48], [], [], some (42, false), false⟩, ⟨some 50, .fieldAddr 0, [.slot 49], [], [], some (42, false), false⟩, ⟨some 51, .load false 1, [.slot 50], [], [], some (42, false), false⟩, ⟨some 52, .fieldAddr 3, [.slot 1], [], [], some (42, false), false⟩, ⟨some 53, .load false 1, [.slot 52], [0], [], some (42, false), false⟩, ⟨some 54, .bin .leq, [.slot 51, .slot 53], [], [], some (42, false), false⟩, ⟨some 55, .pick, [.slot 42, .const (.one (.bool true)), .slot 54], [], [], some (37, true), false⟩, op 56 .pick [.slot 37, .slot 55, .const (.one (.bool false))], mv 2 56]) (.ret))) }
def spec_IsCombiner.env (N : Nat) : Env := envOf (tbl [(36, spec_IsCombos.fs N), (41, spec_l10Follows.fs N), (38, spec_l11Active.fs N), (39, spec_l11Held.fs N), (1, spec_l1In.fs N)] noFS)
def spec_IsCombiner.F (N : Nat) (x : (List (Int × Int)) × Int × (List (Int × Int × Bool)) × Int × Int × Int × List (Int × Int × Bool)) : Option Bool := XFunc.run spec_IsCombiner.x (spec_IsCombiner.env N) N x
def spec_IsCombiner.fs (N : Nat) : FS := { arg := .pair (.list (.pair (.int .i64) (.int .i64))) (.pair (.int .i64) (.pair (.list (.pair (.int .i64) (.pair (.int .i64) (.bool)))) (.pair (.int .i64) (.pair (.int .i64) (.pair (.int .i64) (.list (.pair (.int .i64) (.pair (.int .i64) (.bool))))))))), ret := .bool, fresh := true, F := spec_IsCombiner.F N }

theorem spec_IsCombiner.F_eq (N : Nat) (c : (List (Int × Int)) × Int × (List (Int × Int × Bool)) × Int × Int × Int × List (Int × Int × Bool)) : spec_IsCombiner.F N c =
    bindO (spec_IsCombos.F N c.1) fun r1 =>
    bif !r1 then
      some false
    else
      bindO (spec_l1In.F N (c.2.1, ((1 : Int), (200 : Int)))) fun r2 =>
      bif !r2 then
        some false
      else
        bindO (spec_l1In.F N (c.2.2.2.1, ((0 : Int), (1000000 : Int)))) fun r3 =>
        bif !r3 then
          some false
        else
          bindO (spec_l1In.F N (c.2.2.2.2.1, ((0 : Int), c.2.2.2.1))) fun r4 =>
          bif !r4 then
            some false
          else
            bindO (spec_l11Active.F N c) fun r5 =>
            bif !r5 then
              some false
            else
              bindO (spec_l11Held.F N c) fun r6 =>
              bindO (spec_l10Follows.F N (c.2.2.1, (r6, ((24 : Int), (0 : Int))))) fun r7 =>
              bif r7 then
                bif (List.length c.2.2.1 : Int) == (0 : Int) then
                  some true
                else
                  bif inRange (IntKind.wrap .i64 ((List.length c.2.2.1 : Int) - (1 : Int))) (List.length c.2.2.1) then
                  some (decide (((nth ((0 : Int), ((0 : Int), false)) c.2.2.1 (IntKind.wrap .i64 ((List.length c.2.2.1 : Int) - (1 : Int)))).1) ≤ c.2.2.2.1))
                  else none
              else
                some false := by kernel_rfl

def spec_l11Copy.x : XFunc := { nslots := 21, nobj := 6, pars := [.val true 7], rowsIn := [none, none, none, none, none, none, none], rets := [.var 2 true 7], outs := [.own 3, .imm, .own 4, .imm, .imm, .imm, .own 5], fresh := true, arg := .pair (.list (.pair (.int .i64) (.int .i64))) (.pair (.int .i64) (.pair (.list (.pair (.int .i64) (.pair (.int .i64) (.bool)))) (.pair (.int .i64) (.pair (.int .i64) (.pair (.int .i64) (.list (.pair (.int .i64) (.pair (.int .i64) (.bool))))))))), ret := .pair (.list (.pair (.int .i64) (.int .i64))) (.pair (.int .i64) (.pair (.list (.pair (.int .i64) (.pair (.int .i64) (.bool)))) (.pair (.int .i64) (.pair (.int .i64) (.pair (.int .i64) (.list (.pair (.int .i64) (.pair (.int .i64) (.bool))))))))), body := .seq (.region false [ow 1 (.box 0) [.slot 0] [0] [0], ow 2 (.alloc 1 [.nil, .int .i64 (0 : Int), .nil, .int .i64 (0 : Int), .int .i64 (0 : Int), .int .i64 (0 : Int), .nil]) [] [1] [1]]) (.seq (.region false [ow 4 (.load true 7) [.slot 1] [0] [], ow 3 (.alloc 2 [.nil, .int .i64 (0 : Int), .nil, .int .i64 (0 : Int), .int .i64 (0 : Int), .int .i64 (0 : Int), .nil]) [] [2] [2], on (.store 7) [.slot 3, .slot 4] [2] [2]]) (.seq (.region false [ow 5 (.buildSlice false 3 3 (.pair (.int .i64) (.int .i64)) 0 [] [.int .i64 (0 : Int), .int .i64 (0 : Int)]) [] [3] [3], o1 6 (.fieldAddr 0) 1, ow 7 (.load false 1) [.slot 6] [0] [], ow 8 (.append false 3 3 (.pair (.int .i64) (.int .i64))) [.slot 5, .slot 7] [3] [3], o1 9 (.fieldAddr 0) 3, on (.store 1) [.slot 9, .slot 8] [2] [2]]) (.seq (.region false [ow 10 (.buildSlice false 4 4 (.pair (.int .i64) (.pair (.int .i64) (.bool))) 0 [] [.int .i64 (0 : Int), .int .i64 (0 : Int), .bool false]) [] [4] [4], o1 11 (.fieldAddr 2) 1, ow 12 (.load false 1) [.slot 11] [0] [], ow 13 (.append false 4 4 (.pair (.int .i64) (.pair (.int .i64) (.bool)))) [.slot 10, .slot 12] [4] [4], o1 14 (.fieldAddr 2) 3, on (.store 1) [.slot 14, .slot 13] [2] [2]]) (.seq (.region false [ow 15 (.buildSlice false 5 5 (.pair (.int .i64) (.pair (.int .i64) (.bool))) 0 [] [.int .i64 (0 : Int), .int .i64 (0 : Int), .bool false]) [] [5] [5], o1 16 (.fieldAddr 6) 1, ow 17 (.load false 1) [.slot 16] [0] [], ow 18 (.append false 5 5 (.pair (.int .i64) (.pair (.int .i64) (.bool)))) [.slot 15, .slot 17] [5] [5], o1 19 (.fieldAddr 6) 3, on (.store 1) [.slot 19, .slot 18] [2] [2]]) (.seq (.region false [ow 20 (.load true 7) [.slot 3] [2] [], on (.store 7) [.slot 2, .slot 20] [1] [1]]) (.ret)))))) }
def spec_l11Copy.env (_ : Nat) : Env := envOf (tbl [] noFS)
def spec_l11Copy.F (N : Nat) (x : (List (Int × Int)) × Int × (List (Int × Int × Bool)) × Int × Int × Int × List (Int × Int × Bool)) : Option ((List (Int × Int)) × Int × (List (Int × Int × Bool)) × Int × Int × Int × List (Int × Int × Bool)) := XFunc.run spec_l11Copy.x (spec_l11Copy.env N) N x
def spec_l11Copy.fs (N : Nat) : FS := { arg := .pair (.list (.pair (.int .i64) (.int .i64))) (.pair (.int .i64) (.pair (.list (.pair (.int .i64) (.pair (.int .i64) (.bool)))) (.pair (.int .i64) (.pair (.int .i64) (.pair (.int .i64) (.list (.pair (.int .i64) (.pair (.int .i64) (.bool))))))))), ret := .pair (.list (.pair (.int .i64) (.int .i64))) (.pair (.int .i64) (.pair (.list (.pair (.int .i64) (.pair (.int .i64) (.bool)))) (.pair (.int .i64) (.pair (.int .i64) (.pair (.int .i64) (.list (.pair (.int .i64) (.pair (.int .i64) (.bool))))))))), fresh := true, F := spec_l11Copy.F N }

theorem spec_l11Copy.F_eq (N : Nat) (c : (List (Int × Int)) × Int × (List (Int × Int × Bool)) × Int × Int × Int × List (Int × Int × Bool)) : spec_l11Copy.F N c =
    bif decide (List.length ([] : List (Int × Int)) + List.length c.1 ≤ maxN) then
    bif decide (List.length ([] : List (Int × Int × Bool)) + List.length c.2.2.1 ≤ maxN) then
    bif decide (List.length ([] : List (Int × Int × Bool)) + List.length c.2.2.2.2.2.2 ≤ maxN) then
    some (([] : List (Int × Int)) ++ c.1, (c.2.1, (([] : List (Int × Int × Bool)) ++ c.2.2.1, (c.2.2.2.1, (c.2.2.2.2.1, (c.2.2.2.2.2.1, ([] : List (Int × Int × Bool)) ++ c.2.2.2.2.2.2))))))
    else none
    else none
    else none := by kernel_rfl

def spec_NewCombiner.x : XFunc := { nslots := 16, nobj := 2, pars := [.val false 1, .val false 1], rowsIn := [none, none], rets := [.var 4 true 7, .tmp 5 false 1], outs := [.imm, .imm, .imm, .imm, .imm, .imm, .imm, .imm], fresh := true, arg := .pair (.list (.pair (.int .i64) (.int .i64))) (.int .i64), ret := .pair (.pair (.list (.pair (.int .i64) (.int .i64))) (.pair (.int .i64) (.pair (.list (.pair (.int .i64) (.pair (.int .i64) (.bool)))) (.pair (.int .i64) (.pair (.int .i64) (.pair (.int .i64) (.list (.pair (.int .i64) (.pair (.int .i64) (.bool)))))))))) (.bool), body := .seq (.region false [ow 4 (.alloc 0 [.nil, .int .i64 (0 : Int), .nil, .int .i64 (0 : Int), .int .i64 (0 : Int), .int .i64 (0 : Int), .nil]) [] [0] [0], op 5 .move [.const (.one (.bool false))]]) (.seq (.region false [mv 7 0, mv 8 1, o2 9 (.build [.nil, .int .i64 (0 : Int), .nil, .int .i64 (0 : Int), .int .i64 (0 : Int), .int .i64 (0 : Int), .nil] [(0, 1), (1, 1)]) 7 8, ow 6 (.alloc 1 [.nil, .int .i64 (0 : Int), .nil, .int .i64 (0 : Int), .int .i64 (0 : Int), .int .i64 (0 : Int), .nil]) [] [1] [1], on (.store 7) [.slot 6, .slot 9] [1] [1]]) (.seq (.seq (.region false [ow 10 (.load true 7) [.slot 6] [1] [], o1 11 (.call ⟨42, [.val true 7], no 7, [.val false 1], ims 1, true⟩) 10, o1 12 .not 11]) (.cond (.slot 12) (.seq (.region false [op 13 (.build [.nil, .int .i64 (0 : Int), .nil, .int .i64 (0 : Int), .int .i64 (0 : Int), .int .i64 (0 : Int), .nil] []) [], on (.store 7) [.slot 4, .slot 13] [0] [0], op 5 .move [.const (.one (.bool false))]]) (.ret)) (.skip))) (.seq (.region false [ow 14 (.load true 7) [.slot 6] [1] [], o1 15 (.call ⟨43, [.val true 7], no 7, [.val true 7], ims 7, true⟩) 14, on (.store 7) [.slot 4, .slot 15] [0] [0], op 5 .move [.const (.one (.bool true))]]) (.ret)))) }
def spec_NewCombiner.env (N : Nat) : Env := envOf (tbl [(42, spec_IsCombiner.fs N), (43, spec_l11Copy.fs N)] noFS)
def spec_NewCombiner.F (N : Nat) (x : (List (Int × Int)) × Int) : Option (((List (Int × Int)) × Int × (List (Int × Int × Bool)) × Int × Int × Int × List (Int × Int × Bool)) × Bool) := XFunc.run spec_NewCombiner.x (spec_NewCombiner.env N) N x
def spec_NewCombiner.fs (N : Nat) : FS := { arg := .pair (.list (.pair (.int .i64) (.int .i64))) (.int .i64), ret := .pair (.pair (.list (.pair (.int .i64) (.int .i64))) (.pair (.int .i64) (.pair (.list (.pair (.int .i64) (.pair (.int .i64) (.bool)))) (.pair (.int .i64) (.pair (.int .i64) (.pair (.int .i64) (.list (.pair (.int .i64) (.pair (.int .i64) (.bool)))))))))) (.bool), fresh := true, F := spec_NewCombiner.F N }

theorem spec_NewCombiner.F_eq (N : Nat) (l_ : List (Int × Int)) (term_ : Int) : spec_NewCombiner.F N (l_, term_) =
    bindO (spec_IsCombiner.F N (l_, (term_, (([] : List (Int × Int × Bool)), ((0 : Int), ((0 : Int), ((0 : Int), ([] : List (Int × Int × Bool))))))))) fun r1 =>
    bif !r1 then
      some ((([] : List (Int × Int)), ((0 : Int), (([] : List (Int × Int × Bool)), ((0 : Int), ((0 : Int), ((0 : Int), ([] : List (Int × Int × Bool)))))))), false)
    else
      bindO (spec_l11Copy.F N (l_, (term_, (([] : List (Int × Int × Bool)), ((0 : Int), ((0 : Int), ((0 : Int), ([] : List (Int × Int × Bool))))))))) fun r2 =>
      some (r2, true) := by kernel_rfl

def math_bits_OnesCount32.x : XFunc := { nslots := 21, nobj := 0, pars := [.val false 1], rowsIn := [none], rets := [.tmp 2 false 1], outs := [.imm], fresh := true, arg := .int .u32, ret := .int .i64, body := .seq (.region false [op 2 .move [.const (.one (.int .i64 (0 : Int)))]]) (.seq (.region true [mv 3 0, op 4 (.bin .shr) [.slot 3, .const (.one (.int .u64 (24 : Int)))], op 5 .strIndex [.const (.one (.str ([0, 1, 1, 2, 1, 2, 2, 3, 1, 2, 2, 3, 2, 3, 3, 4, 1, 2, 2, 3, 2, 3, 3, 4, 2, 3, 3, 4, 3, 4, 4, 5, 1, 2, 2, 3, 2, 3, 3, 4, 2, 3, 3, 4, 3, 4, 4, 5, 2, 3, 3, 4, 3, 4, 4, 5, 3, 4, 4, 5, 4, 5, 5, 6, 1, 2, 2, 3, 2, 3, 3, 4, 2, 3, 3, 4, 3, 4, 4, 5, 2, 3, 3, 4, 3, 4, 4, 5, 3, 4, 4, 5, 4, 5, 5, 6, 2, 3, 3, 4, 3, 4, 4, 5, 3, 4, 4, 5, 4, 5, 5, 6, 3, 4, 4, 5, 4, 5, 5, 6, 4, 5, 5, 6, 5, 6, 6, 7, 1, 2, 2, 3, 2, 3, 3, 4, 2, 3, 3, 4, 3, 4, 4, 5, 2, 3, 3, 4, 3, 4, 4, 5, 3, 4, 4, 5, 4, 5, 5, 6, 2, 3, 3, 4, 3, 4, 4, 5, 3, 4, 4, 5, 4, 5, 5, 6, 3, 4, 4, 5, 4, 5, 5, 6, 4, 5, 5, 6, 5, 6, 6, 7, 2, 3, 3, 4, 3, 4, 4, 5, 3, 4, 4, 5, 4, 5, 5, 6, 3, 4, 4, 5, 4, 5, 5, 6, 4, 5, 5, 6, 5, 6, 6, 7, 3, 4, 4, 5, 4, 5, 5, 6, 4, 5, 5, 6, 5, 6, 6, 7, 4, 5, 5, 6, 5, 6, 6, 7, 5, 6, 6, 7, 6, 7, 7, 8] : List UInt8))), .slot 4], mv 6 0, op 7 (.bin .shr) [.slot 6, .const (.one (.int .u64 (16 : Int)))], op 8 (.bin .and) [.slot 7, .const (.one (.int .u32 (255 : Int)))], op 9 .strIndex [.const (.one (.str ([0, 1, 1, 2, 1, 2, 2, 3, 1, 2, 2, 3, 2, 3, 3, 4, 1, 2, 2, 3, 2, 3, 3, 4, 2, 3, 3, 4, 3, 4, 4, 5, 1, 2, 2, 3, 2, 3, 3, 4, 2, 3, 3, 4, 3, 4, 4, 5, 2, 3, 3, 4, 3, 4, 4, 5, 3, 4, 4, 5, 4, 5, 5, 6, 1, 2, 2, 3, 2, 3, 3, 4, 2, 3, 3, 4, 3, 4, 4, 5, 2, 3, 3, 4, 3, 4, 4, 5, 3, 4, 4, 5, 4, 5, 5, 6, 2, 3, 3, 4, 3, 4, 4, 5, 3, 4, 4, 5, 4, 5, 5, 6, 3, 4, 4, 5, 4, 5, 5, 6, 4, 5, 5, 6, 5, 6, 6, 7, 1, 2, 2, 3, 2, 3, 3, 4, 2, 3, 3, 4, 3, 4, 4, 5, 2, 3, 3, 4, 3, 4, 4, 5, 3, 4, 4, 5, 4, 5, 5, 6, 2, 3, 3, 4, 3, 4, 4, 5, 3, 4, 4, 5, 4, 5, 5, 6, 3, 4, 4, 5, 4, 5, 5, 6, 4, 5, 5, 6, 5, 6, 6, 7, 2, 3, 3, 4, 3, 4, 4, 5, 3, 4, 4, 5, 4, 5, 5, 6, 3, 4, 4, 5, 4, 5, 5, 6, 4, 5, 5, 6, 5, 6, 6, 7, 3, 4, 4, 5, 4, 5, 5, 6, 4, 5, 5, 6, 5, 6, 6, 7, 4, 5, 5, 6, 5, 6, 6, 7, 5, 6, 6, 7, 6, 7, 7, 8] : List UInt8))), .slot 8], o2 10 (.bin .add) 5 9, mv 11 0, op 12 (.bin .shr) [.slot 11, .const (.one (.int .u64 (8 : Int)))], op 13 (.bin .and) [.slot 12, .const (.one (.int .u32 (255 : Int)))], op 14 .strIndex [.const (.one (.str ([0, 1, 1, 2, 1, 2, 2, 3, 1, 2, 2, 3, 2, 3, 3, 4, 1, 2, 2, 3, 2, 3, 3, 4, 2, 3, 3, 4, 3, 4, 4, 5, 1, 2, 2, 3, 2, 3, 3, 4, 2, 3, 3, 4, 3, 4, 4, 5, 2, 3, 3, 4, 3, 4, 4, 5, 3, 4, 4, 5, 4, 5, 5, 6, 1, 2, 2, 3, 2, 3, 3, 4, 2, 3, 3, 4, 3, 4, 4, 5, 2, 3, 3, 4, 3, 4, 4, 5, 3, 4, 4, 5, 4, 5, 5, 6, 2, 3, 3, 4, 3, 4, 4, 5, 3, 4, 4, 5, 4, 5, 5, 6, 3, 4, 4, 5, 4, 5, 5, 6, 4, 5, 5, 6, 5, 6, 6, 7, 1, 2, 2, 3, 2, 3, 3, 4, 2, 3, 3, 4, 3, 4, 4, 5, 2, 3, 3, 4, 3, 4, 4, 5, 3, 4, 4, 5, 4, 5, 5, 6, 2, 3, 3, 4, 3, 4, 4, 5, 3, 4, 4, 5, 4, 5, 5, 6, 3, 4, 4, 5, 4, 5, 5, 6, 4, 5, 5, 6, 5, 6, 6, 7, 2, 3, 3, 4, 3, 4, 4, 5, 3, 4, 4, 5, 4, 5, 5, 6, 3, 4, 4, 5, 4, 5, 5, 6, 4, 5, 5, 6, 5, 6, 6, 7, 3, 4, 4, 5, 4, 5, 5, 6, 4, 5, 5, 6, 5, 6, 6, 7, 4, 5, 5, 6, 5, 6, 6, 7, 5, 6, 6, 7, 6, 7, 7, 8] : List UInt8))), .slot 13], o2 15 (.bin .add) 10 14, mv 16 0, op 17 (.bin .and) [.slot 16, .const (.one (.int .u32 (255 : Int)))], op 18 .strIndex [.const (.one (.str ([0, 1, 1, 2, 1, 2, 2, 3, 1, 2, 2, 3, 2, 3, 3, 4, 1, 2, 2, 3, 2, 3, 3, 4, 2, 3, 3, 4, 3, 4, 4, 5, 1, 2, 2, 3, 2, 3, 3, 4, 2, 3, 3, 4, 3, 4, 4, 5, 2, 3, 3, 4, 3, 4, 4, 5, 3, 4, 4, 5, 4, 5, 5, 6, 1, 2, 2, 3, 2, 3, 3, 4, 2, 3, 3, 4, 3, 4, 4, 5, 2, 3, 3, 4, 3, 4, 4, 5, 3, 4, 4, 5, 4, 5, 5, 6, 2, 3, 3, 4, 3, 4, 4, 5, 3, 4, 4, 5, 4, 5, 5, 6, 3, 4, 4, 5, 4, 5, 5, 6, 4, 5, 5, 6, 5, 6, 6, 7, 1, 2, 2, 3, 2, 3, 3, 4, 2, 3, 3, 4, 3, 4, 4, 5, 2, 3, 3, 4, 3, 4, 4, 5, 3, 4, 4, 5, 4, 5, 5, 6, 2, 3, 3, 4, 3, 4, 4, 5, 3, 4, 4, 5, 4, 5, 5, 6, 3, 4, 4, 5, 4, 5, 5, 6, 4, 5, 5, 6, 5, 6, 6, 7, 2, 3, 3, 4, 3, 4, 4, 5, 3, 4, 4, 5, 4, 5, 5, 6, 3, 4, 4, 5, 4, 5, 5, 6, 4, 5, 5, 6, 5, 6, 6, 7, 3, 4, 4, 5, 4, 5, 5, 6, 4, 5, 5, 6, 5, 6, 6, 7, 4, 5, 5, 6, 5, 6, 6, 7, 5, 6, 6, 7, 6, 7, 7, 8] : List UInt8))), .slot 17], o2 19 (.bin .add) 15 18, o1 20 (.conv .i64) 19, mv 2 20]) (.ret)) }
def math_bits_OnesCount32.env (_ : Nat) : Env := envOf (tbl [] noFS)
def math_bits_OnesCount32.F (N : Nat) (x : Int) : Option Int := XFunc.run math_bits_OnesCount32.x (math_bits_OnesCount32.env N) N x
def math_bits_OnesCount32.fs (N : Nat) : FS := { arg := .int .u32, ret := .int .i64, fresh := true, F := math_bits_OnesCount32.F N }

def math_bits_OnesCount64.x : XFunc := { nslots := 35, nobj := 0, pars := [.val false 1], rowsIn := [none], rets := [.tmp 2 false 1], outs := [.imm], fresh := true, arg := .int .u64, ret := .int .i64, body := .seq (.region false [op 2 .move [.const (.one (.int .i64 (0 : Int)))]]) (.seq (.region false [mv 3 0, op 4 (.bin .shr) [.slot 3, .const (.one (.int .u64 (1 : Int)))], op 5 (.bin .and) [.slot 4, .const (.one (.int .u64 (6148914691236517205 : Int)))], mv 6 0, op 7 (.bin .and) [.slot 6, .const (.one (.int .u64 (6148914691236517205 : Int)))], o2 8 (.bin .add) 5 7, mv 0 8]) (.seq (.region false [mv 9 0, op 10 (.bin .shr) [.slot 9, .const (.one (.int .u64 (2 : Int)))], op 11 (.bin .and) [.slot 10, .const (.one (.int .u64 (3689348814741910323 : Int)))], mv 12 0, op 13 (.bin .and) [.slot 12, .const (.one (.int .u64 (3689348814741910323 : Int)))], o2 14 (.bin .add) 11 13, mv 0 14]) (.seq (.region false [mv 15 0, op 16 (.bin .shr) [.slot 15, .const (.one (.int .u64 (4 : Int)))], mv 17 0, o2 18 (.bin .add) 16 17, op 19 (.bin .and) [.slot 18, .const (.one (.int .u64 (1085102592571150095 : Int)))], mv 0 19]) (.seq (.region false [mv 20 0, mv 21 0, op 22 (.bin .shr) [.slot 21, .const (.one (.int .u64 (8 : Int)))], o2 23 (.bin .add) 20 22, mv 0 23]) (.seq (.region false [mv 24 0, mv 25 0, op 26 (.bin .shr) [.slot 25, .const (.one (.int .u64 (16 : Int)))], o2 27 (.bin .add) 24 26, mv 0 27]) (.seq (.region false [mv 28 0, mv 29 0, op 30 (.bin .shr) [.slot 29, .const (.one (.int .u64 (32 : Int)))], o2 31 (.bin .add) 28 30, mv 0 31]) (.seq (.region false [mv 32 0, o1 33 (.conv .i64) 32, op 34 (.bin .and) [.slot 33, .const (.one (.int .i64 (127 : Int)))], mv 2 34]) (.ret)))))))) }
def math_bits_OnesCount64.env (_ : Nat) : Env := envOf (tbl [] noFS)
def math_bits_OnesCount64.F (N : Nat) (x : Int) : Option Int := XFunc.run math_bits_OnesCount64.x (math_bits_OnesCount64.env N) N x
def math_bits_OnesCount64.fs (N : Nat) : FS := { arg := .int .u64, ret := .int .i64, fresh := true, F := math_bits_OnesCount64.F N }

theorem math_bits_OnesCount64.F_eq (N : Nat) (x_ : Int) : math_bits_OnesCount64.F N x_ =
    some (bitAnd .i64 (IntKind.wrap .i64 (IntKind.wrap .u64 ((IntKind.wrap .u64 ((IntKind.wrap .u64 ((bitAnd .u64 (IntKind.wrap .u64 ((shiftR .u64 (IntKind.wrap .u64 ((bitAnd .u64 (shiftR .u64 (IntKind.wrap .u64 ((bitAnd .u64 (shiftR .u64 x_ (1 : Int)) (6148914691236517205 : Int)) + (bitAnd .u64 x_ (6148914691236517205 : Int)))) (2 : Int)) (3689348814741910323 : Int)) + (bitAnd .u64 (IntKind.wrap .u64 ((bitAnd .u64 (shiftR .u64 x_ (1 : Int)) (6148914691236517205 : Int)) + (bitAnd .u64 x_ (6148914691236517205 : Int)))) (3689348814741910323 : Int)))) (4 : Int)) + (IntKind.wrap .u64 ((bitAnd .u64 (shiftR .u64 (IntKind.wrap .u64 ((bitAnd .u64 (shiftR .u64 x_ (1 : Int)) (6148914691236517205 : Int)) + (bitAnd .u64 x_ (6148914691236517205 : Int)))) (2 : Int)) (3689348814741910323 : Int)) + (bitAnd .u64 (IntKind.wrap .u64 ((bitAnd .u64 (shiftR .u64 x_ (1 : Int)) (6148914691236517205 : Int)) + (bitAnd .u64 x_ (6148914691236517205 : Int)))) (3689348814741910323 : Int)))))) (1085102592571150095 : Int)) + (shiftR .u64 (bitAnd .u64 (IntKind.wrap .u64 ((shiftR .u64 (IntKind.wrap .u64 ((bitAnd .u64 (shiftR .u64 (IntKind.wrap .u64 ((bitAnd .u64 (shiftR .u64 x_ (1 : Int)) (6148914691236517205 : Int)) + (bitAnd .u64 x_ (6148914691236517205 : Int)))) (2 : Int)) (3689348814741910323 : Int)) + (bitAnd .u64 (IntKind.wrap .u64 ((bitAnd .u64 (shiftR .u64 x_ (1 : Int)) (6148914691236517205 : Int)) + (bitAnd .u64 x_ (6148914691236517205 : Int)))) (3689348814741910323 : Int)))) (4 : Int)) + (IntKind.wrap .u64 ((bitAnd .u64 (shiftR .u64 (IntKind.wrap .u64 ((bitAnd .u64 (shiftR .u64 x_ (1 : Int)) (6148914691236517205 : Int)) + (bitAnd .u64 x_ (6148914691236517205 : Int)))) (2 : Int)) (3689348814741910323 : Int)) + (bitAnd .u64 (IntKind.wrap .u64 ((bitAnd .u64 (shiftR .u64 x_ (1 : Int)) (6148914691236517205 : Int)) + (bitAnd .u64 x_ (6148914691236517205 : Int)))) (3689348814741910323 : Int)))))) (1085102592571150095 : Int)) (8 : Int)))) + (shiftR .u64 (IntKind.wrap .u64 ((bitAnd .u64 (IntKind.wrap .u64 ((shiftR .u64 (IntKind.wrap .u64 ((bitAnd .u64 (shiftR .u64 (IntKind.wrap .u64 ((bitAnd .u64 (shiftR .u64 x_ (1 : Int)) (6148914691236517205 : Int)) + (bitAnd .u64 x_ (6148914691236517205 : Int)))) (2 : Int)) (3689348814741910323 : Int)) + (bitAnd .u64 (IntKind.wrap .u64 ((bitAnd .u64 (shiftR .u64 x_ (1 : Int)) (6148914691236517205 : Int)) + (bitAnd .u64 x_ (6148914691236517205 : Int)))) (3689348814741910323 : Int)))) (4 : Int)) + (IntKind.wrap .u64 ((bitAnd .u64 (shiftR .u64 (IntKind.wrap .u64 ((bitAnd .u64 (shiftR .u64 x_ (1 : Int)) (6148914691236517205 : Int)) + (bitAnd .u64 x_ (6148914691236517205 : Int)))) (2 : Int)) (3689348814741910323 : Int)) + (bitAnd .u64 (IntKind.wrap .u64 ((bitAnd .u64 (shiftR .u64 x_ (1 : Int)) (6148914691236517205 : Int)) + (bitAnd .u64 x_ (6148914691236517205 : Int)))) (3689348814741910323 : Int)))))) (1085102592571150095 : Int)) + (shiftR .u64 (bitAnd .u64 (IntKind.wrap .u64 ((shiftR .u64 (IntKind.wrap .u64 ((bitAnd .u64 (shiftR .u64 (IntKind.wrap .u64 ((bitAnd .u64 (shiftR .u64 x_ (1 : Int)) (6148914691236517205 : Int)) + (bitAnd .u64 x_ (6148914691236517205 : Int)))) (2 : Int)) (3689348814741910323 : Int)) + (bitAnd .u64 (IntKind.wrap .u64 ((bitAnd .u64 (shiftR .u64 x_ (1 : Int)) (6148914691236517205 : Int)) + (bitAnd .u64 x_ (6148914691236517205 : Int)))) (3689348814741910323 : Int)))) (4 : Int)) + (IntKind.wrap .u64 ((bitAnd .u64 (shiftR .u64 (IntKind.wrap .u64 ((bitAnd .u64 (shiftR .u64 x_ (1 : Int)) (6148914691236517205 : Int)) + (bitAnd .u64 x_ (6148914691236517205 : Int)))) (2 : Int)) (3689348814741910323 : Int)) + (bitAnd .u64 (IntKind.wrap .u64 ((bitAnd .u64 (shiftR .u64 x_ (1 : Int)) (6148914691236517205 : Int)) + (bitAnd .u64 x_ (6148914691236517205 : Int)))) (3689348814741910323 : Int)))))) (1085102592571150095 : Int)) (8 : Int)))) (16 : Int)))) + (shiftR .u64 (IntKind.wrap .u64 ((IntKind.wrap .u64 ((bitAnd .u64 (IntKind.wrap .u64 ((shiftR .u64 (IntKind.wrap .u64 ((bitAnd .u64 (shiftR .u64 (IntKind.wrap .u64 ((bitAnd .u64 (shiftR .u64 x_ (1 : Int)) (6148914691236517205 : Int)) + (bitAnd .u64 x_ (6148914691236517205 : Int)))) (2 : Int)) (3689348814741910323 : Int)) + (bitAnd .u64 (IntKind.wrap .u64 ((bitAnd .u64 (shiftR .u64 x_ (1 : Int)) (6148914691236517205 : Int)) + (bitAnd .u64 x_ (6148914691236517205 : Int)))) (3689348814741910323 : Int)))) (4 : Int)) + (IntKind.wrap .u64 ((bitAnd .u64 (shiftR .u64 (IntKind.wrap .u64 ((bitAnd .u64 (shiftR .u64 x_ (1 : Int)) (6148914691236517205 : Int)) + (bitAnd .u64 x_ (6148914691236517205 : Int)))) (2 : Int)) (3689348814741910323 : Int)) + (bitAnd .u64 (IntKind.wrap .u64 ((bitAnd .u64 (shiftR .u64 x_ (1 : Int)) (6148914691236517205 : Int)) + (bitAnd .u64 x_ (6148914691236517205 : Int)))) (3689348814741910323 : Int)))))) (1085102592571150095 : Int)) + (shiftR .u64 (bitAnd .u64 (IntKind.wrap .u64 ((shiftR .u64 (IntKind.wrap .u64 ((bitAnd .u64 (shiftR .u64 (IntKind.wrap .u64 ((bitAnd .u64 (shiftR .u64 x_ (1 : Int)) (6148914691236517205 : Int)) + (bitAnd .u64 x_ (6148914691236517205 : Int)))) (2 : Int)) (3689348814741910323 : Int)) + (bitAnd .u64 (IntKind.wrap .u64 ((bitAnd .u64 (shiftR .u64 x_ (1 : Int)) (6148914691236517205 : Int)) + (bitAnd .u64 x_ (6148914691236517205 : Int)))) (3689348814741910323 : Int)))) (4 : Int)) + (IntKind.wrap .u64 ((bitAnd .u64 (shiftR .u64 (IntKind.wrap .u64 ((bitAnd .u64 (shiftR .u64 x_ (1 : Int)) (6148914691236517205 : Int)) + (bitAnd .u64 x_ (6148914691236517205 : Int)))) (2 : Int)) (3689348814741910323 : Int)) + (bitAnd .u64 (IntKind.wrap .u64 ((bitAnd .u64 (shiftR .u64 x_ (1 : Int)) (6148914691236517205 : Int)) + (bitAnd .u64 x_ (6148914691236517205 : Int)))) (3689348814741910323 : Int)))))) (1085102592571150095 : Int)) (8 : Int)))) + (shiftR .u64 (IntKind.wrap .u64 ((bitAnd .u64 (IntKind.wrap .u64 ((shiftR .u64 (IntKind.wrap .u64 ((bitAnd .u64 (shiftR .u64 (IntKind.wrap .u64 ((bitAnd .u64 (shiftR .u64 x_ (1 : Int)) (6148914691236517205 : Int)) + (bitAnd .u64 x_ (6148914691236517205 : Int)))) (2 : Int)) (3689348814741910323 : Int)) + (bitAnd .u64 (IntKind.wrap .u64 ((bitAnd .u64 (shiftR .u64 x_ (1 : Int)) (6148914691236517205 : Int)) + (bitAnd .u64 x_ (6148914691236517205 : Int)))) (3689348814741910323 : Int)))) (4 : Int)) + (IntKind.wrap .u64 ((bitAnd .u64 (shiftR .u64 (IntKind.wrap .u64 ((bitAnd .u64 (shiftR .u64 x_ (1 : Int)) (6148914691236517205 : Int)) + (bitAnd .u64 x_ (6148914691236517205 : Int)))) (2 : Int)) (3689348814741910323 : Int)) + (bitAnd .u64 (IntKind.wrap .u64 ((bitAnd .u64 (shiftR .u64 x_ (1 : Int)) (6148914691236517205 : Int)) + (bitAnd .u64 x_ (6148914691236517205 : Int)))) (3689348814741910323 : Int)))))) (1085102592571150095 : Int)) + (shiftR .u64 (bitAnd .u64 (IntKind.wrap .u64 ((shiftR .u64 (IntKind.wrap .u64 ((bitAnd .u64 (shiftR .u64 (IntKind.wrap .u64 ((bitAnd .u64 (shiftR .u64 x_ (1 : Int)) (6148914691236517205 : Int)) + (bitAnd .u64 x_ (6148914691236517205 : Int)))) (2 : Int)) (3689348814741910323 : Int)) + (bitAnd .u64 (IntKind.wrap .u64 ((bitAnd .u64 (shiftR .u64 x_ (1 : Int)) (6148914691236517205 : Int)) + (bitAnd .u64 x_ (6148914691236517205 : Int)))) (3689348814741910323 : Int)))) (4 : Int)) + (IntKind.wrap .u64 ((bitAnd .u64 (shiftR .u64 (IntKind.wrap .u64 ((bitAnd .u64 (shiftR .u64 x_ (1 : Int)) (6148914691236517205 : Int)) + (bitAnd .u64 x_ (6148914691236517205 : Int)))) (2 : Int)) (3689348814741910323 : Int)) + (bitAnd .u64 (IntKind.wrap .u64 ((bitAnd .u64 (shiftR .u64 x_ (1 : Int)) (6148914691236517205 : Int)) + (bitAnd .u64 x_ (6148914691236517205 : Int)))) (3689348814741910323 : Int)))))) (1085102592571150095 : Int)) (8 : Int)))) (16 : Int)))) (32 : Int))))) (127 : Int)) := by kernel_rfl

def math_bits_OnesCount.x : XFunc := { nslots := 8, nobj := 0, pars := [.val false 1], rowsIn := [none], rets := [.tmp 2 false 1], outs := [.imm], fresh := true, arg := .int .u64, ret := .int .i64, body := .seq (.region false [op 2 .move [.const (.one (.int .i64 (0 : Int)))]]) (.seq (.cond (.const (.one (.bool false))) (.seq (.region false [⟨some 3, .dead, [], [], [], none, false⟩, ⟨some 4, .dead, [], [], [], none, false⟩, ⟨some 5, .dead, [], [], [], none, false⟩, ⟨some 2, .dead, [], [], [], none, false⟩]) (.ret)) (.skip)) (.seq (.region false [mv 6 0, o1 7 (.call ⟨61, vs 1, no 1, [.val false 1], ims 1, true⟩) 6, mv 2 7]) (.ret))) }
def math_bits_OnesCount.env (N : Nat) : Env := envOf (tbl [(61, math_bits_OnesCount64.fs N)] noFS)
def math_bits_OnesCount.F (N : Nat) (x : Int) : Option Int := XFunc.run math_bits_OnesCount.x (math_bits_OnesCount.env N) N x
def math_bits_OnesCount.fs (N : Nat) : FS := { arg := .int .u64, ret := .int .i64, fresh := true, F := math_bits_OnesCount.F N }

theorem math_bits_OnesCount.F_eq (N : Nat) (x_ : Int) : math_bits_OnesCount.F N x_ =
    bindO (math_bits_OnesCount64.F N x_) fun r1 =>
    some r1 := by kernel_rfl

def impl_IsCombos.c1 : XCode := .seq (.region false [o2 51 (.bin .lss) 50 49]) (.seq (.cond (.slot 51) (.skip) (.exit 2)) (.seq (.block 3 (.seq (.region false [o2 52 (.indexAddr (.pair (.int .i64) (.int .i64))) 48 50, o1 53 (.load true 2) 52, ow 7 (.alloc 1 [.int .i64 (0 : Int), .int .i64 (0 : Int)]) [] [1] [1], on (.store 2) [.slot 7, .slot 53] [1] [1]]) (.seq (.region false [o1 54 (.fieldAddr 0) 7, ow 55 (.load false 1) [.slot 54] [1] [], o1 56 (.fieldAddr 0) 4, ow 57 (.load false 1) [.slot 56] [0] [], o2 58 (.bin .eql) 55 57, ⟨some 59, .move, [.slot 58], [], [], none, true⟩, ⟨some 60, .fieldAddr 1, [.slot 7], [], [], some (59, false), false⟩, ⟨some 61, .load false 1, [.slot 60], [1], [], some (59, false), false⟩, ⟨some 62, .fieldAddr 1, [.slot 4], [], [], some (59, false), false⟩, ⟨some 63, .load false 1, [.slot 62], [0], [], some (59, false), false⟩, ⟨some 64, .bin .eql, [.slot 61, .slot 63], [], [], some (59, false), false⟩, op 65 .pick [.slot 59, .const (.one (.bool true)), .slot 64]]) (.cond (.slot 65) (.seq (.region false [op 2 .move [.const (.one (.bool false))]]) (.ret)) (.skip))))) (.region false [op 66 (.bin .add) [.slot 50, .const (.one (.int .i64 (1 : Int)))], mv 50 66])))
def impl_IsCombos.c2 : XCode := .region false [op 67 (.bin .add) [.slot 13, .const (.one (.int .i64 (1 : Int)))], mv 13 67]
def impl_IsCombos.c3 : XCode := .seq (.region false [o2 14 (.bin .lss) 13 12]) (.seq (.cond (.slot 14) (.skip) (.exit 0)) (.seq (.block 1 (.seq (.region false [mv 15 13, o2 16 (.indexAddr (.pair (.int .i64) (.int .i64))) 11 13, o1 17 (.load true 2) 16, ow 4 (.alloc 0 [.int .i64 (0 : Int), .int .i64 (0 : Int)]) [] [0] [0], mv 3 15, on (.store 2) [.slot 4, .slot 17] [0] [0]]) (.seq (.seq (.region false [o1 18 (.fieldAddr 0) 4, ow 19 (.load false 1) [.slot 18] [0] [], op 20 (.bin .lss) [.slot 19, .const (.one (.int .i64 (0 : Int)))], ⟨some 21, .move, [.slot 20], [], [], none, true⟩, ⟨some 22, .fieldAddr 0, [.slot 4], [], [], some (21, false), false⟩, ⟨some 23, .load false 1, [.slot 22], [0], [], some (21, false), false⟩, ⟨some 24, .bin .gtr, [.slot 23, .const (.one (.int .i64 (16777215 : Int)))], [], [], some (21, false), false⟩, op 25 .pick [.slot 21, .const (.one (.bool true)), .slot 24], ⟨some 26, .move, [.slot 25], [], [], none, true⟩, ⟨some 27, .fieldAddr 1, [.slot 4], [], [], some (26, false), false⟩, ⟨some 28, .load false 1, [.slot 27], [0], [], some (26, false), false⟩, ⟨some 29, .bin .lss, [.slot 28, .const (.one (.int .i64 (24 : Int)))], [], [], some (26, false), false⟩, op 30 .pick [.slot 26, .const (.one (.bool true)), .slot 29], ⟨some 31, .move, [.slot 30], [], [], none, true⟩, ⟨some 32, .fieldAddr 1, [.slot 4], [], [], some (31, false), false⟩, ⟨some 33, .load false 1, [.slot 32], [0], [], some (31, false), false⟩, ⟨some 34, .bin .gtr, [.slot 33, .const (.one (.int .i64 (31 : Int)))], [], [], some (31, false), false⟩, op 35 .pick [.slot 31, .const (.one (.bool true)), .slot 34]]) (.cond (.slot 35) (.seq (.region false [op 2 .move [.const (.one (.bool false))]]) (.ret)) (.skip))) (.seq (.seq (.region false [o1 36 (.fieldAddr 0) 4, ow 37 (.load false 1) [.slot 36] [0] [], o1 38 (.conv .u64) 37, o1 39 (.call ⟨62, vs 1, no 1, [.val false 1], ims 1, true⟩) 38, mv 5 39]) (.seq (.region false [mv 40 5, op 41 (.bin .lss) [.slot 40, .const (.one (.int .i64 (2 : Int)))], ⟨some 42, .move, [.slot 41], [], [], none, true⟩, ⟨some 43, .move, [.slot 5], [], [], some (42, false), false⟩, ⟨some 44, .bin .gtr, [.slot 43, .const (.one (.int .i64 (4 : Int)))], [], [], some (42, false), false⟩, op 45 .pick [.slot 42, .const (.one (.bool true)), .slot 44]]) (.cond (.slot 45) (.seq (.region false [op 2 .move [.const (.one (.bool false))]]) (.ret)) (.skip)))) (.seq (.region false [mv 46 0, mv 47 3, o2 48 (.slice (.pair (.int .i64) (.int .i64)) false true) 46 47, o1 49 .len 48, op 50 .move [.const (.one (.int .i64 (0 : Int)))]]) (.block 2 (.loop [.keep [0, 4, 11, 12, 13, 48, 49, 50], .drop 1, .norm] (impl_IsCombos.c1)))))))) (impl_IsCombos.c2)))
def impl_IsCombos.c4 : XCode := .seq (.region false [op 2 .move [.const (.one (.bool true))]]) (.ret)
def impl_IsCombos.x : XFunc := { nslots := 68, nobj := 2, pars := [.val false 1], rowsIn := [none], rets := [.tmp 2 false 1], outs := [.imm], fresh := true, arg := .list (.pair (.int .i64) (.int .i64)), ret := .bool, body := .seq (.region false [op 2 .move [.const (.one (.bool false))]]) (.seq (.seq (.region false [mv 8 0, o1 9 .len 8, op 10 (.bin .gtr) [.slot 9, .const (.one (.int .i64 (8 : Int)))]]) (.cond (.slot 10) (.seq (.region false [op 2 .move [.const (.one (.bool false))]]) (.ret)) (.skip))) (.seq (.seq (.region false [mv 11 0, o1 12 .len 11, op 13 .move [.const (.one (.int .i64 (0 : Int)))]]) (.block 0 (.loop [.keep [0, 11, 12, 13], .drop 0, .drop 1, .norm] (impl_IsCombos.c3)))) (impl_IsCombos.c4))) }
def impl_IsCombos.env (N : Nat) : Env := envOf (tbl [(62, math_bits_OnesCount.fs N)] noFS)
def impl_IsCombos.F (N : Nat) (x : List (Int × Int)) : Option Bool := XFunc.run impl_IsCombos.x (impl_IsCombos.env N) N x
def impl_IsCombos.fs (N : Nat) : FS := { arg := .list (.pair (.int .i64) (.int .i64)), ret := .bool, fresh := true, F := impl_IsCombos.F N }
def impl_IsCombos.k2 (N : Nat) : Ex → S → Option Bool := seqK (fun s => XCode.runK (impl_IsCombos.env N) N (impl_IsCombos.c4) s (XFunc.endK impl_IsCombos.x)) (XFunc.endK impl_IsCombos.x)
def impl_IsCombos.k1 (N : Nat) : Ex → S → Option Bool := blockK 0 (impl_IsCombos.k2 N)
def impl_IsCombos.k6 (N : Nat) (n1 : Nat) : Ex → S → Option Bool := seqK (fun s => bindO (S.ghosts s [.keep [0, 11, 12, 13], .drop 0, .drop 1, .norm]) fun s1 => loopK [.keep [0, 11, 12, 13], .drop 0, .drop 1, .norm] (fun s k => XCode.runK (impl_IsCombos.env N) N impl_IsCombos.c3 s k) n1 s1 (impl_IsCombos.k1 N)) (impl_IsCombos.k1 N)
def impl_IsCombos.k5 (N : Nat) (n1 : Nat) : Ex → S → Option Bool := seqK (fun s => XCode.runK (impl_IsCombos.env N) N (impl_IsCombos.c2) s (impl_IsCombos.k6 N n1)) (impl_IsCombos.k6 N n1)
def impl_IsCombos.k4 (N : Nat) (n1 : Nat) : Ex → S → Option Bool := blockK 1 (impl_IsCombos.k5 N n1)
def impl_IsCombos.k3 (N : Nat) (n1 : Nat) : Ex → S → Option Bool := blockK 2 (impl_IsCombos.k4 N n1)
def impl_IsCombos.L1 (N : Nat) (n1 : Nat) (l_ : List (Int × Int)) (t11 : List (Int × Int)) (t12 : Int) (t13 : Int) : Option Bool := loopK [.keep [0, 11, 12, 13], .drop 0, .drop 1, .norm] (fun s k => XCode.runK (impl_IsCombos.env N) N impl_IsCombos.c3 s k) n1
  { t := [.one (.sl false (.pair (.int .i64) (.int .i64)) l_), .junk, .junk, .junk, .junk, .junk, .junk, .junk, .junk, .junk, .junk, .one (.sl false (.pair (.int .i64) (.int .i64)) t11), .one (.int .i64 t12), .one (.int .i64 t13), .junk, .junk, .junk, .junk, .junk, .junk, .junk, .junk, .junk, .junk, .junk, .junk, .junk, .junk, .junk, .junk, .junk, .junk, .junk, .junk, .junk, .junk, .junk, .junk, .junk, .junk, .junk, .junk, .junk, .junk, .junk, .junk, .junk, .junk, .junk, .junk, .junk, .junk, .junk, .junk, .junk, .junk, .junk, .junk, .junk, .junk, .junk, .junk, .junk, .junk, .junk, .junk, .junk, .junk], h := [.absent 0, .absent 0] }
  (impl_IsCombos.k1 N)
def impl_IsCombos.L2 (N : Nat) (n1 : Nat) (n2 : Nat) (l_ : List (Int × Int)) (t11 : List (Int × Int)) (t12 : Int) (t13 : Int) (t48 : List (Int × Int)) (t49 : Int) (t50 : Int) (o00 : Int) (o01 : Int) : Option Bool := loopK [.keep [0, 4, 11, 12, 13, 48, 49, 50], .drop 1, .norm] (fun s k => XCode.runK (impl_IsCombos.env N) N impl_IsCombos.c1 s k) n2
  { t := [.one (.sl false (.pair (.int .i64) (.int .i64)) l_), .junk, .junk, .junk, .one (.ptr 0 0 0), .junk, .junk, .junk, .junk, .junk, .junk, .one (.sl false (.pair (.int .i64) (.int .i64)) t11), .one (.int .i64 t12), .one (.int .i64 t13), .junk, .junk, .junk, .junk, .junk, .junk, .junk, .junk, .junk, .junk, .junk, .junk, .junk, .junk, .junk, .junk, .junk, .junk, .junk, .junk, .junk, .junk, .junk, .junk, .junk, .junk, .junk, .junk, .junk, .junk, .junk, .junk, .junk, .junk, .one (.sl false (.pair (.int .i64) (.int .i64)) t48), .one (.int .i64 t49), .one (.int .i64 t50), .junk, .junk, .junk, .junk, .junk, .junk, .junk, .junk, .junk, .junk, .junk, .junk, .junk, .junk, .junk, .junk, .junk], h := [.box 0 false [.int .i64 o00, .int .i64 o01], .absent 0] }
  (impl_IsCombos.k3 N n1)

theorem impl_IsCombos.L1_eq (N : Nat) (n1 : Nat) (l_ : List (Int × Int)) (t11 : List (Int × Int)) (t12 : Int) (t13 : Int) : impl_IsCombos.L1 N (n1 + 1) l_ t11 t12 t13 =
    bif decide (t13 < t12) then
      bif inRange t13 (List.length t11) then
      bif decide (((nth ((0 : Int), (0 : Int)) t11 t13).1) < (0 : Int)) then
        some false
      else
        bif decide (((nth ((0 : Int), (0 : Int)) t11 t13).1) > (16777215 : Int)) then
          some false
        else
          bif decide (((nth ((0 : Int), (0 : Int)) t11 t13).2) < (24 : Int)) then
            some false
          else
            bif decide (((nth ((0 : Int), (0 : Int)) t11 t13).2) > (31 : Int)) then
              some false
            else
              bindO (math_bits_OnesCount.F N (IntKind.wrap .u64 ((nth ((0 : Int), (0 : Int)) t11 t13).1))) fun r1 =>
              bif decide (r1 < (2 : Int)) then
                some false
              else
                bif decide (r1 > (4 : Int)) then
                  some false
                else
                  bif decide (0 ≤ t13) && decide (t13 ≤ (List.length l_ : Int)) then
                  impl_IsCombos.L2 N n1 N l_ t11 t12 t13 (List.take (Int.toNat t13) l_) (List.length (List.take (Int.toNat t13) l_) : Int) (0 : Int) ((nth ((0 : Int), (0 : Int)) t11 t13).1) ((nth ((0 : Int), (0 : Int)) t11 t13).2)
                  else none
      else none
    else
      some true := by kernel_rfl
theorem impl_IsCombos.L1_zero (N : Nat) (l_ : List (Int × Int)) (t11 : List (Int × Int)) (t12 : Int) (t13 : Int) : impl_IsCombos.L1 N 0 l_ t11 t12 t13 = none := rfl
theorem impl_IsCombos.L2_eq (N : Nat) (n1 : Nat) (n2 : Nat) (l_ : List (Int × Int)) (t11 : List (Int × Int)) (t12 : Int) (t13 : Int) (t48 : List (Int × Int)) (t49 : Int) (t50 : Int) (o00 : Int) (o01 : Int) : impl_IsCombos.L2 N n1 (n2 + 1) l_ t11 t12 t13 t48 t49 t50 o00 o01 =
    bif decide (t50 < t49) then
      bif inRange t50 (List.length t48) then
      bif ((nth ((0 : Int), (0 : Int)) t48 t50).1) == o00 then
        some false
      else
        bif ((nth ((0 : Int), (0 : Int)) t48 t50).2) == o01 then
          some false
        else
          impl_IsCombos.L2 N n1 n2 l_ t11 t12 t13 t48 t49 (IntKind.wrap .i64 (t50 + (1 : Int))) o00 o01
      else none
    else
      impl_IsCombos.L1 N n1 l_ t11 t12 (IntKind.wrap .i64 (t13 + (1 : Int))) := by kernel_rfl
theorem impl_IsCombos.L2_zero (N : Nat) (n1 : Nat) (l_ : List (Int × Int)) (t11 : List (Int × Int)) (t12 : Int) (t13 : Int) (t48 : List (Int × Int)) (t49 : Int) (t50 : Int) (o00 : Int) (o01 : Int) : impl_IsCombos.L2 N n1 0 l_ t11 t12 t13 t48 t49 t50 o00 o01 = none := rfl
theorem impl_IsCombos.F_eq (N : Nat) (l_ : List (Int × Int)) : impl_IsCombos.F N l_ =
    bif decide ((List.length l_ : Int) > (8 : Int)) then
      some false
    else
      impl_IsCombos.L1 N N l_ l_ (List.length l_ : Int) (0 : Int) := by kernel_rfl

def impl_comboOf.c1 : XCode := .seq (.region false [o2 11 (.bin .lss) 10 9]) (.seq (.cond (.slot 11) (.skip) (.exit 0)) (.seq (.block 1 (.seq (.region false [o2 12 (.indexAddr (.pair (.int .i64) (.int .i64))) 8 10, o1 13 (.load true 2) 12, ow 7 (.alloc 1 [.int .i64 (0 : Int), .int .i64 (0 : Int)]) [] [1] [1], on (.store 2) [.slot 7, .slot 13] [1] [1]]) (.seq (.region false [o1 14 (.fieldAddr 1) 7, ow 15 (.load false 1) [.slot 14] [1] [], mv 16 1, o2 17 (.bin .eql) 15 16]) (.cond (.slot 17) (.seq (.region false [ow 18 (.load true 2) [.slot 7] [1] [], on (.store 2) [.slot 4, .slot 18] [0] [0], op 5 .move [.const (.one (.bool true))]]) (.ret)) (.skip))))) (.region false [op 19 (.bin .add) [.slot 10, .const (.one (.int .i64 (1 : Int)))], mv 10 19])))
def impl_comboOf.c2 : XCode := .seq (.region false [op 20 (.build [.int .i64 (0 : Int), .int .i64 (0 : Int)] []) [], on (.store 2) [.slot 4, .slot 20] [0] [0], op 5 .move [.const (.one (.bool false))]]) (.ret)
def impl_comboOf.x : XFunc := { nslots := 21, nobj := 2, pars := [.val false 1, .val false 1], rowsIn := [none, none], rets := [.var 4 true 2, .tmp 5 false 1], outs := [.imm, .imm, .imm], fresh := true, arg := .pair (.list (.pair (.int .i64) (.int .i64))) (.int .i64), ret := .pair (.pair (.int .i64) (.int .i64)) (.bool), body := .seq (.region false [ow 4 (.alloc 0 [.int .i64 (0 : Int), .int .i64 (0 : Int)]) [] [0] [0], op 5 .move [.const (.one (.bool false))]]) (.seq (.seq (.region false [mv 8 0, o1 9 .len 8, op 10 .move [.const (.one (.int .i64 (0 : Int)))]]) (.block 0 (.loop [.keep [1, 4, 8, 9, 10], .drop 1, .norm] (impl_comboOf.c1)))) (impl_comboOf.c2)) }
def impl_comboOf.env (_ : Nat) : Env := envOf (tbl [] noFS)
def impl_comboOf.F (N : Nat) (x : (List (Int × Int)) × Int) : Option ((Int × Int) × Bool) := XFunc.run impl_comboOf.x (impl_comboOf.env N) N x
def impl_comboOf.fs (N : Nat) : FS := { arg := .pair (.list (.pair (.int .i64) (.int .i64))) (.int .i64), ret := .pair (.pair (.int .i64) (.int .i64)) (.bool), fresh := true, F := impl_comboOf.F N }
def impl_comboOf.k2 (N : Nat) : Ex → S → Option ((Int × Int) × Bool) := seqK (fun s => XCode.runK (impl_comboOf.env N) N (impl_comboOf.c2) s (XFunc.endK impl_comboOf.x)) (XFunc.endK impl_comboOf.x)
def impl_comboOf.k1 (N : Nat) : Ex → S → Option ((Int × Int) × Bool) := blockK 0 (impl_comboOf.k2 N)
def impl_comboOf.L1 (N : Nat) (n1 : Nat) (out : Int) (t8 : List (Int × Int)) (t9 : Int) (t10 : Int) : Option ((Int × Int) × Bool) := loopK [.keep [1, 4, 8, 9, 10], .drop 1, .norm] (fun s k => XCode.runK (impl_comboOf.env N) N impl_comboOf.c1 s k) n1
  { t := [.junk, .one (.int .i64 out), .junk, .junk, .one (.ptr 0 0 0), .junk, .junk, .junk, .one (.sl false (.pair (.int .i64) (.int .i64)) t8), .one (.int .i64 t9), .one (.int .i64 t10), .junk, .junk, .junk, .junk, .junk, .junk, .junk, .junk, .junk, .junk], h := [.box 0 false [.int .i64 (0 : Int), .int .i64 (0 : Int)], .absent 0] }
  (impl_comboOf.k1 N)

theorem impl_comboOf.L1_eq (N : Nat) (n1 : Nat) (out : Int) (t8 : List (Int × Int)) (t9 : Int) (t10 : Int) : impl_comboOf.L1 N (n1 + 1) out t8 t9 t10 =
    bif decide (t10 < t9) then
      bif inRange t10 (List.length t8) then
      bif ((nth ((0 : Int), (0 : Int)) t8 t10).2) == out then
        some ((nth ((0 : Int), (0 : Int)) t8 t10), true)
      else
        impl_comboOf.L1 N n1 out t8 t9 (IntKind.wrap .i64 (t10 + (1 : Int)))
      else none
    else
      some (((0 : Int), (0 : Int)), false) := by kernel_rfl
theorem impl_comboOf.F_eq (N : Nat) (l_ : List (Int × Int)) (out : Int) : impl_comboOf.F N (l_, out) =
    impl_comboOf.L1 N N out l_ (List.length l_ : Int) (0 : Int) := by kernel_rfl

def impl_bit.x : XFunc := { nslots := 9, nobj := 0, pars := [.val false 1, .val false 1], rowsIn := [none, none], rets := [.tmp 4 false 1], outs := [.imm], fresh := true, arg := .pair (.int .i64) (.int .i64), ret := .int .i64, body := .seq (.region false [op 4 .move [.const (.one (.int .i64 (0 : Int)))]]) (.seq (.region false [mv 5 0, mv 6 1, o2 7 (.bin .shr) 5 6, op 8 (.bin .and) [.slot 7, .const (.one (.int .i64 (1 : Int)))], mv 4 8]) (.ret)) }
def impl_bit.env (_ : Nat) : Env := envOf (tbl [] noFS)
def impl_bit.F (N : Nat) (x : Int × Int) : Option Int := XFunc.run impl_bit.x (impl_bit.env N) N x
def impl_bit.fs (N : Nat) : FS := { arg := .pair (.int .i64) (.int .i64), ret := .int .i64, fresh := true, F := impl_bit.F N }

theorem impl_bit.F_eq (N : Nat) (mask : Int) (k_ : Int) : impl_bit.F N (mask, k_) =
    bif decide (0 ≤ k_) then
    some (bitAnd .i64 (shiftR .i64 mask k_) (1 : Int))
    else none := by kernel_rfl

def impl_activeFits.c1 : XCode := .seq (.region false [o2 12 (.bin .lss) 11 10]) (.seq (.cond (.slot 12) (.skip) (.exit 0)) (.seq (.block 1 (.seq (.region false [o2 13 (.indexAddr (.pair (.int .i64) (.pair (.int .i64) (.bool)))) 9 11, o1 14 (.load true 3) 13, ow 5 (.alloc 1 [.int .i64 (0 : Int), .int .i64 (0 : Int), .bool false]) [] [1] [1], on (.store 3) [.slot 5, .slot 14] [1] [1]]) (.seq (.region false [o1 16 (.fieldAddr 0) 1, ow 17 (.load false 1) [.slot 16] [0] [], o1 18 (.fieldAddr 0) 5, ow 19 (.load false 1) [.slot 18] [1] [], o2 20 (.call ⟨64, vs 2, no 2, [.val true 2, .val false 1], ims 3, true⟩) 17 19, mv 15 20, o1 21 (.extract 0) 15, o1 22 (.extract 1) 15, ow 6 (.alloc 2 [.int .i64 (0 : Int), .int .i64 (0 : Int)]) [] [2] [2], on (.store 2) [.slot 6, .slot 21] [2] [2], mv 7 22]) (.seq (.seq (.region false [mv 23 7, o1 24 .not 23, ⟨some 25, .move, [.slot 24], [], [], none, true⟩, ⟨some 26, .move, [.slot 3], [], [], some (25, false), false⟩, ⟨some 27, .fieldAddr 0, [.slot 5], [], [], some (25, false), false⟩, ⟨some 28, .load false 1, [.slot 27], [1], [], some (25, false), false⟩, ⟨some 29, .call ⟨65, vs 2, no 2, [.val false 1], ims 1, true⟩, [.slot 26, .slot 28], [], [], some (25, false), false⟩, ⟨some 30, .bin .eql, [.slot 29, .const (.one (.int .i64 (1 : Int)))], [], [], some (25, false), false⟩, op 31 .pick [.slot 25, .const (.one (.bool true)), .slot 30], ⟨some 32, .move, [.slot 31], [], [], none, true⟩, ⟨some 33, .fieldAddr 1, [.slot 5], [], [], some (32, false), false⟩, ⟨some 34, .load false 1, [.slot 33], [1], [], some (32, false), false⟩, ⟨some 35, .bin .leq, [.slot 34, .const (.one (.int .i64 (0 : Int)))], [], [], some (32, false), false⟩, op 36 .pick [.slot 32, .const (.one (.bool true)), .slot 35], ⟨some 37, .move, [.slot 36], [], [], none, true⟩, ⟨some 38, .fieldAddr 1, [.slot 5], [], [], some (37, false), false⟩, ⟨some 39, .load false 1, [.slot 38], [1], [], some (37, false), false⟩, ⟨some 40, .fieldAddr 0, [.slot 6], [], [], some (37, false), false⟩, ⟨some 41, .load false 1, [.slot 40], [2], [], some (37, false), false⟩, ⟨some 42, .bin .andNot, [.slot 39, .slot 41], [], [], some (37, false), false⟩, ⟨some 43, .bin .neq, [.slot 42, .const (.one (.int .i64 (0 : Int)))], [], [], some (37, false), false⟩, op 44 .pick [.slot 37, .const (.one (.bool true)), .slot 43], ⟨some 45, .move, [.slot 44], [], [], none, true⟩, ⟨some 46, .fieldAddr 2, [.slot 5], [], [], some (45, false), false⟩, ⟨some 47, .load false 1, [.slot 46], [1], [], some (45, false), false⟩, ⟨some 48, .fieldAddr 1, [.slot 5], [], [], some (45, false), false⟩, ⟨some 49, .load false 1, [.slot 48], [1], [], some (45, false), false⟩, ⟨some 50, .fieldAddr 0, [.slot 6], [], [], some (45, false), false⟩, ⟨some 51, .load false 1, [.slot 50], [2], [], some (45, false), false⟩, ⟨some 52, .bin .eql, [.slot 49, .slot 51], [], [], some (45, false), false⟩, ⟨some 53, .eqBool true, [.slot 47, .slot 52], [], [], some (45, false), false⟩, op 54 .pick [.slot 45, .const (.one (.bool true)), .slot 53]]) (.cond (.slot 54) (.seq (.region false [op 2 .move [.const (.one (.bool false))]]) (.ret)) (.skip))) (.region false [mv 55 3, o1 56 (.fieldAddr 0) 5, ow 57 (.load false 1) [.slot 56] [1] [], op 58 (.bin .shl) [.const (.one (.int .i64 (1 : Int))), .slot 57], o2 59 (.bin .or) 55 58, mv 3 59]))))) (.region false [op 60 (.bin .add) [.slot 11, .const (.one (.int .i64 (1 : Int)))], mv 11 60])))
def impl_activeFits.c2 : XCode := .seq (.region false [op 2 .move [.const (.one (.bool true))]]) (.ret)
def impl_activeFits.x : XFunc := { nslots := 61, nobj := 3, pars := [.val true 7], rowsIn := [none, none, none, none, none, none, none], rets := [.tmp 2 false 1], outs := [.imm], fresh := true, arg := .pair (.list (.pair (.int .i64) (.int .i64))) (.pair (.int .i64) (.pair (.list (.pair (.int .i64) (.pair (.int .i64) (.bool)))) (.pair (.int .i64) (.pair (.int .i64) (.pair (.int .i64) (.list (.pair (.int .i64) (.pair (.int .i64) (.bool))))))))), ret := .bool, body := .seq (.region false [ow 1 (.box 0) [.slot 0] [0] [0], op 2 .move [.const (.one (.bool false))]]) (.seq (.region false [op 3 .move [.const (.one (.int .i64 (0 : Int)))]]) (.seq (.seq (.region false [o1 8 (.fieldAddr 6) 1, ow 9 (.load false 1) [.slot 8] [0] [], o1 10 .len 9, op 11 .move [.const (.one (.int .i64 (0 : Int)))]]) (.block 0 (.loop [.keep [1, 3, 9, 10, 11], .drop 1, .drop 2, .norm] (impl_activeFits.c1)))) (impl_activeFits.c2))) }
def impl_activeFits.env (N : Nat) : Env := envOf (tbl [(65, impl_bit.fs N), (64, impl_comboOf.fs N)] noFS)
def impl_activeFits.F (N : Nat) (x : (List (Int × Int)) × Int × (List (Int × Int × Bool)) × Int × Int × Int × List (Int × Int × Bool)) : Option Bool := XFunc.run impl_activeFits.x (impl_activeFits.env N) N x
def impl_activeFits.fs (N : Nat) : FS := { arg := .pair (.list (.pair (.int .i64) (.int .i64))) (.pair (.int .i64) (.pair (.list (.pair (.int .i64) (.pair (.int .i64) (.bool)))) (.pair (.int .i64) (.pair (.int .i64) (.pair (.int .i64) (.list (.pair (.int .i64) (.pair (.int .i64) (.bool))))))))), ret := .bool, fresh := true, F := impl_activeFits.F N }
def impl_activeFits.k2 (N : Nat) : Ex → S → Option Bool := seqK (fun s => XCode.runK (impl_activeFits.env N) N (impl_activeFits.c2) s (XFunc.endK impl_activeFits.x)) (XFunc.endK impl_activeFits.x)
def impl_activeFits.k1 (N : Nat) : Ex → S → Option Bool := blockK 0 (impl_activeFits.k2 N)
def impl_activeFits.L1 (N : Nat) (n1 : Nat) (seen : Int) (t9 : List (Int × Int × Bool)) (t10 : Int) (t11 : Int) (o00 : List (Int × Int)) (o01 : Int) (o02 : List (Int × Int × Bool)) (o03 : Int) (o04 : Int) (o05 : Int) (o06 : List (Int × Int × Bool)) : Option Bool := loopK [.keep [1, 3, 9, 10, 11], .drop 1, .drop 2, .norm] (fun s k => XCode.runK (impl_activeFits.env N) N impl_activeFits.c1 s k) n1
  { t := [.junk, .one (.ptr 0 0 0), .junk, .one (.int .i64 seen), .junk, .junk, .junk, .junk, .junk, .one (.sl false (.pair (.int .i64) (.pair (.int .i64) (.bool))) t9), .one (.int .i64 t10), .one (.int .i64 t11), .junk, .junk, .junk, .junk, .junk, .junk, .junk, .junk, .junk, .junk, .junk, .junk, .junk, .junk, .junk, .junk, .junk, .junk, .junk, .junk, .junk, .junk, .junk, .junk, .junk, .junk, .junk, .junk, .junk, .junk, .junk, .junk, .junk, .junk, .junk, .junk, .junk, .junk, .junk, .junk, .junk, .junk, .junk, .junk, .junk, .junk, .junk, .junk, .junk], h := [.box 0 false [.sl false (.pair (.int .i64) (.int .i64)) o00, .int .i64 o01, .sl false (.pair (.int .i64) (.pair (.int .i64) (.bool))) o02, .int .i64 o03, .int .i64 o04, .int .i64 o05, .sl false (.pair (.int .i64) (.pair (.int .i64) (.bool))) o06], .absent 0, .absent 0] }
  (impl_activeFits.k1 N)

theorem impl_activeFits.L1_eq (N : Nat) (n1 : Nat) (seen : Int) (t9 : List (Int × Int × Bool)) (t10 : Int) (t11 : Int) (o00 : List (Int × Int)) (o01 : Int) (o02 : List (Int × Int × Bool)) (o03 : Int) (o04 : Int) (o05 : Int) (o06 : List (Int × Int × Bool)) : impl_activeFits.L1 N (n1 + 1) seen t9 t10 t11 o00 o01 o02 o03 o04 o05 o06 =
    bif decide (t11 < t10) then
      bif inRange t11 (List.length t9) then
      bindO (impl_comboOf.F N (o00, (nth ((0 : Int), ((0 : Int), false)) t9 t11).1)) fun r1 =>
      bif !r1.2 then
        some false
      else
        bindO (impl_bit.F N (seen, (nth ((0 : Int), ((0 : Int), false)) t9 t11).1)) fun r2 =>
        bif r2 == (1 : Int) then
          some false
        else
          bif decide ((((nth ((0 : Int), ((0 : Int), false)) t9 t11).2).1) ≤ (0 : Int)) then
            some false
          else
            bif (bitAndNot .i64 (((nth ((0 : Int), ((0 : Int), false)) t9 t11).2).1) r1.1.1) != (0 : Int) then
              some false
            else
              bif (((nth ((0 : Int), ((0 : Int), false)) t9 t11).2).2) != ((((nth ((0 : Int), ((0 : Int), false)) t9 t11).2).1) == r1.1.1) then
                some false
              else
                bif decide (0 ≤ (nth ((0 : Int), ((0 : Int), false)) t9 t11).1) then
                impl_activeFits.L1 N n1 (bitOr .i64 seen (shiftL .i64 (1 : Int) ((nth ((0 : Int), ((0 : Int), false)) t9 t11).1))) t9 t10 (IntKind.wrap .i64 (t11 + (1 : Int))) o00 o01 o02 o03 o04 o05 o06
                else none
      else none
    else
      some true := by kernel_rfl
theorem impl_activeFits.F_eq (N : Nat) (c : (List (Int × Int)) × Int × (List (Int × Int × Bool)) × Int × Int × Int × List (Int × Int × Bool)) : impl_activeFits.F N c =
    impl_activeFits.L1 N N (0 : Int) c.2.2.2.2.2.2 (List.length c.2.2.2.2.2.2 : Int) (0 : Int) c.1 c.2.1 c.2.2.1 c.2.2.2.1 c.2.2.2.2.1 c.2.2.2.2.2.1 c.2.2.2.2.2.2 := by kernel_rfl

def impl_switchesDown.c1 : XCode := .seq (.region false [o2 13 (.bin .lss) 12 11]) (.seq (.cond (.slot 13) (.skip) (.exit 0)) (.seq (.block 1 (.seq (.region false [o2 14 (.indexAddr (.pair (.int .i64) (.pair (.int .i64) (.bool)))) 10 12, o1 15 (.load true 3) 14, ow 6 (.alloc 1 [.int .i64 (0 : Int), .int .i64 (0 : Int), .bool false]) [] [1] [1], on (.store 3) [.slot 6, .slot 15] [1] [1]]) (.seq (.seq (.region false [mv 16 4, o1 17 (.fieldAddr 1) 6, ow 18 (.load false 1) [.slot 17] [1] [], o2 19 (.bin .and) 16 18, op 20 (.bin .neq) [.slot 19, .const (.one (.int .i64 (0 : Int)))]]) (.cond (.slot 20) (.seq (.region false [op 2 .move [.const (.one (.int .i64 (0 : Int)))], op 3 .move [.const (.one (.bool false))]]) (.ret)) (.skip))) (.region false [mv 21 4, o1 22 (.fieldAddr 1) 6, ow 23 (.load false 1) [.slot 22] [1] [], o2 24 (.bin .or) 21 23, mv 4 24])))) (.region false [op 25 (.bin .add) [.slot 12, .const (.one (.int .i64 (1 : Int)))], mv 12 25])))
def impl_switchesDown.c2 : XCode := .seq (.region false [mv 26 4, mv 2 26, op 3 .move [.const (.one (.bool true))]]) (.ret)
def impl_switchesDown.x : XFunc := { nslots := 27, nobj := 2, pars := [.val true 7], rowsIn := [none, none, none, none, none, none, none], rets := [.tmp 2 false 1, .tmp 3 false 1], outs := [.imm, .imm], fresh := true, arg := .pair (.list (.pair (.int .i64) (.int .i64))) (.pair (.int .i64) (.pair (.list (.pair (.int .i64) (.pair (.int .i64) (.bool)))) (.pair (.int .i64) (.pair (.int .i64) (.pair (.int .i64) (.list (.pair (.int .i64) (.pair (.int .i64) (.bool))))))))), ret := .pair (.int .i64) (.bool), body := .seq (.region false [ow 1 (.box 0) [.slot 0] [0] [0], op 2 .move [.const (.one (.int .i64 (0 : Int)))], op 3 .move [.const (.one (.bool false))]]) (.seq (.region false [o1 7 (.fieldAddr 5) 1, ow 8 (.load false 1) [.slot 7] [0] [], mv 4 8]) (.seq (.seq (.region false [o1 9 (.fieldAddr 6) 1, ow 10 (.load false 1) [.slot 9] [0] [], o1 11 .len 10, op 12 .move [.const (.one (.int .i64 (0 : Int)))]]) (.block 0 (.loop [.keep [4, 10, 11, 12], .drop 0, .drop 1, .norm] (impl_switchesDown.c1)))) (impl_switchesDown.c2))) }
def impl_switchesDown.env (_ : Nat) : Env := envOf (tbl [] noFS)
def impl_switchesDown.F (N : Nat) (x : (List (Int × Int)) × Int × (List (Int × Int × Bool)) × Int × Int × Int × List (Int × Int × Bool)) : Option (Int × Bool) := XFunc.run impl_switchesDown.x (impl_switchesDown.env N) N x
def impl_switchesDown.fs (N : Nat) : FS := { arg := .pair (.list (.pair (.int .i64) (.int .i64))) (.pair (.int .i64) (.pair (.list (.pair (.int .i64) (.pair (.int .i64) (.bool)))) (.pair (.int .i64) (.pair (.int .i64) (.pair (.int .i64) (.list (.pair (.int .i64) (.pair (.int .i64) (.bool))))))))), ret := .pair (.int .i64) (.bool), fresh := true, F := impl_switchesDown.F N }
def impl_switchesDown.k2 (N : Nat) : Ex → S → Option (Int × Bool) := seqK (fun s => XCode.runK (impl_switchesDown.env N) N (impl_switchesDown.c2) s (XFunc.endK impl_switchesDown.x)) (XFunc.endK impl_switchesDown.x)
def impl_switchesDown.k1 (N : Nat) : Ex → S → Option (Int × Bool) := blockK 0 (impl_switchesDown.k2 N)
def impl_switchesDown.L1 (N : Nat) (n1 : Nat) (down : Int) (t10 : List (Int × Int × Bool)) (t11 : Int) (t12 : Int) : Option (Int × Bool) := loopK [.keep [4, 10, 11, 12], .drop 0, .drop 1, .norm] (fun s k => XCode.runK (impl_switchesDown.env N) N impl_switchesDown.c1 s k) n1
  { t := [.junk, .junk, .junk, .junk, .one (.int .i64 down), .junk, .junk, .junk, .junk, .junk, .one (.sl false (.pair (.int .i64) (.pair (.int .i64) (.bool))) t10), .one (.int .i64 t11), .one (.int .i64 t12), .junk, .junk, .junk, .junk, .junk, .junk, .junk, .junk, .junk, .junk, .junk, .junk, .junk, .junk], h := [.absent 0, .absent 0] }
  (impl_switchesDown.k1 N)

theorem impl_switchesDown.L1_eq (N : Nat) (n1 : Nat) (down : Int) (t10 : List (Int × Int × Bool)) (t11 : Int) (t12 : Int) : impl_switchesDown.L1 N (n1 + 1) down t10 t11 t12 =
    bif decide (t12 < t11) then
      bif inRange t12 (List.length t10) then
      bif (bitAnd .i64 down (((nth ((0 : Int), ((0 : Int), false)) t10 t12).2).1)) != (0 : Int) then
        some ((0 : Int), false)
      else
        impl_switchesDown.L1 N n1 (bitOr .i64 down (((nth ((0 : Int), ((0 : Int), false)) t10 t12).2).1)) t10 t11 (IntKind.wrap .i64 (t12 + (1 : Int)))
      else none
    else
      some (down, true) := by kernel_rfl
theorem impl_switchesDown.F_eq (N : Nat) (c : (List (Int × Int)) × Int × (List (Int × Int × Bool)) × Int × Int × Int × List (Int × Int × Bool)) : impl_switchesDown.F N c =
    impl_switchesDown.L1 N N c.2.2.2.2.2.1 c.2.2.2.2.2.2 (List.length c.2.2.2.2.2.2 : Int) (0 : Int) := by kernel_rfl

def impl_IsEvent.x : XFunc := { nslots := 21, nobj := 1, pars := [.val true 3], rowsIn := [none, none, none], rets := [.tmp 2 false 1], outs := [.imm], fresh := true, arg := .pair (.int .i64) (.pair (.int .i64) (.bool)), ret := .bool, body := .seq (.region false [ow 1 (.box 0) [.slot 0] [0] [0], op 2 .move [.const (.one (.bool false))]]) (.seq (.region false [o1 3 (.fieldAddr 0) 1, ow 4 (.load false 1) [.slot 3] [0] [], op 5 (.bin .geq) [.slot 4, .const (.one (.int .i64 (0 : Int)))], ⟨some 6, .move, [.slot 5], [], [], none, true⟩, ⟨some 7, .fieldAddr 0, [.slot 1], [], [], some (6, true), false⟩, ⟨some 8, .load false 1, [.slot 7], [0], [], some (6, true), false⟩, ⟨some 9, .bin .leq, [.slot 8, .const (.one (.int .i64 (1000000 : Int)))], [], [], some (6, true), false⟩, op 10 .pick [.slot 6, .slot 9, .const (.one (.bool false))], ⟨some 11, .move, [.slot 10], [], [], none, true⟩, ⟨some 12, .fieldAddr 1, [.slot 1], [], [], some (11, true), false⟩, ⟨some 13, .load false 1, [.slot 12], [0], [], some (11, true), false⟩, ⟨some 14, .bin .geq, [.slot 13, .const (.one (.int .i64 (0 : Int)))], [], [], some (11, true), false⟩, op 15 .pick [.slot 11, .slot 14, .const (.one (.bool false))], ⟨some 16, .move, [.slot 15], [], [], none, true⟩, ⟨some 17, .fieldAddr 1, [.slot 1], [], [], some (16, true), false⟩, ⟨some 18, .load false 1, [.slot 17], [0], [], some (16, true), false⟩, ⟨some 19, .bin .leq, [.slot 18, .const (.one (.int .i64 (31 : Int)))], [], [], some (16, true), false⟩, op 20 .pick [.slot 16, .slot 19, .const (.one (.bool false))], mv 2 20]) (.ret)) }
def impl_IsEvent.env (_ : Nat) : Env := envOf (tbl [] noFS)
def impl_IsEvent.F (N : Nat) (x : Int × Int × Bool) : Option Bool := XFunc.run impl_IsEvent.x (impl_IsEvent.env N) N x
def impl_IsEvent.fs (N : Nat) : FS := { arg := .pair (.int .i64) (.pair (.int .i64) (.bool)), ret := .bool, fresh := true, F := impl_IsEvent.F N }

theorem impl_IsEvent.F_eq (N : Nat) (e : Int × Int × Bool) : impl_IsEvent.F N e =
    bif decide (e.1 ≥ (0 : Int)) then
      bif decide (e.1 ≤ (1000000 : Int)) then
        bif decide (e.2.1 ≥ (0 : Int)) then
          some (decide (e.2.1 ≤ (31 : Int)))
        else
          some false
      else
        some false
    else
      some false := by kernel_rfl

def impl_follow.c1 : XCode := .seq (.region false [o2 14 (.bin .lss) 13 12]) (.seq (.cond (.slot 14) (.skip) (.exit 0)) (.seq (.block 1 (.seq (.region false [mv 15 13, o2 16 (.indexAddr (.pair (.int .i64) (.pair (.int .i64) (.bool)))) 11 13, o1 17 (.load true 3) 16, ow 7 (.alloc 0 [.int .i64 (0 : Int), .int .i64 (0 : Int), .bool false]) [] [0] [0], mv 6 15, on (.store 3) [.slot 7, .slot 17] [0] [0]]) (.seq (.seq (.region true [ow 18 (.load true 3) [.slot 7] [0] [], o1 19 (.call ⟨68, [.val true 3], no 3, [.val false 1], ims 1, true⟩) 18, o1 20 .not 19, ⟨some 21, .move, [.slot 20], [], [], none, true⟩, ⟨some 22, .move, [.slot 6], [], [], some (21, false), false⟩, ⟨some 23, .bin .gtr, [.slot 22, .const (.one (.int .i64 (0 : Int)))], [], [], some (21, false), false⟩, ⟨some 24, .move, [.slot 23], [], [], some (21, false), true⟩, ⟨some 25, .move, [.slot 0], [], [], some (24, true), false⟩, ⟨some 26, .move, [.slot 6], [], [], some (24, true), false⟩, ⟨some 27, .bin .sub, [.slot 26, .const (.one (.int .i64 (1 : Int)))], [], [], some (24, true), false⟩, ⟨some 28, .indexAddr (.pair (.int .i64) (.pair (.int .i64) (.bool))), [.slot 25, .slot 27], [], [], some (24, true), false⟩, ⟨some 29, .fieldAddr 0, [.slot 28], [], [], some (24, true), false⟩, ⟨some 30, .load false 1, [.slot 29], [], [], some (24, true), false⟩, ⟨some 31, .fieldAddr 0, [.slot 7], [], [], some (24, true), false⟩, ⟨some 32, .load false 1, [.slot 31], [0], [], some (24, true), false⟩, ⟨some 33, .bin .gtr, [.slot 30, .slot 32], [], [], some (24, true), false⟩, ⟨some 34, .pick, [.slot 24, .slot 33, .const (.one (.bool false))], [], [], some (21, false), false⟩, op 35 .pick [.slot 21, .const (.one (.bool true)), .slot 34], ⟨some 36, .move, [.slot 35], [], [], none, true⟩, ⟨some 37, .fieldAddr 2, [.slot 7], [], [], some (36, false), false⟩, ⟨some 38, .load false 1, [.slot 37], [0], [], some (36, false), false⟩, ⟨some 39, .move, [.slot 1], [], [], some (36, false), false⟩, ⟨some 40, .fieldAddr 1, [.slot 7], [], [], some (36, false), false⟩, ⟨some 41, .load false 1, [.slot 40], [0], [], some (36, false), false⟩, ⟨some 42, .call ⟨65, vs 2, no 2, [.val false 1], ims 1, true⟩, [.slot 39, .slot 41], [], [], some (36, false), false⟩, ⟨some 43, .bin .eql, [.slot 42, .const (.one (.int .i64 (1 : Int)))], [], [], some (36, false), false⟩, ⟨some 44, .eqBool false, [.slot 38, .slot 43], [], [], some (36, false), false⟩, op 45 .pick [.slot 36, .const (.one (.bool true)), .slot 44]]) (.cond (.slot 45) (.seq (.region false [op 4 .move [.const (.one (.int .i64 (0 : Int)))], op 5 .move [.const (.one (.bool false))]]) (.ret)) (.skip))) (.region false [mv 46 1, o1 47 (.fieldAddr 1) 7, ow 48 (.load false 1) [.slot 47] [0] [], op 49 (.bin .shl) [.const (.one (.int .i64 (1 : Int))), .slot 48], o2 50 (.bin .xor) 46 49, mv 1 50])))) (.region false [op 51 (.bin .add) [.slot 13, .const (.one (.int .i64 (1 : Int)))], mv 13 51])))
def impl_follow.c2 : XCode := .seq (.region false [mv 52 1, mv 4 52, op 5 .move [.const (.one (.bool true))]]) (.ret)
def impl_follow.x : XFunc := { nslots := 53, nobj := 1, pars := [.val false 1, .val false 1], rowsIn := [none, none], rets := [.tmp 4 false 1, .tmp 5 false 1], outs := [.imm, .imm], fresh := true, arg := .pair (.list (.pair (.int .i64) (.pair (.int .i64) (.bool)))) (.int .i64), ret := .pair (.int .i64) (.bool), body := .seq (.region false [op 4 .move [.const (.one (.int .i64 (0 : Int)))], op 5 .move [.const (.one (.bool false))]]) (.seq (.seq (.region false [mv 8 0, o1 9 .len 8, op 10 (.bin .gtr) [.slot 9, .const (.one (.int .i64 (64 : Int)))]]) (.cond (.slot 10) (.seq (.region false [op 4 .move [.const (.one (.int .i64 (0 : Int)))], op 5 .move [.const (.one (.bool false))]]) (.ret)) (.skip))) (.seq (.seq (.region false [mv 11 0, o1 12 .len 11, op 13 .move [.const (.one (.int .i64 (0 : Int)))]]) (.block 0 (.loop [.keep [0, 1, 11, 12, 13], .drop 0, .norm] (impl_follow.c1)))) (impl_follow.c2))) }
def impl_follow.env (N : Nat) : Env := envOf (tbl [(68, impl_IsEvent.fs N), (65, impl_bit.fs N)] noFS)
def impl_follow.F (N : Nat) (x : (List (Int × Int × Bool)) × Int) : Option (Int × Bool) := XFunc.run impl_follow.x (impl_follow.env N) N x
def impl_follow.fs (N : Nat) : FS := { arg := .pair (.list (.pair (.int .i64) (.pair (.int .i64) (.bool)))) (.int .i64), ret := .pair (.int .i64) (.bool), fresh := true, F := impl_follow.F N }
def impl_follow.k2 (N : Nat) : Ex → S → Option (Int × Bool) := seqK (fun s => XCode.runK (impl_follow.env N) N (impl_follow.c2) s (XFunc.endK impl_follow.x)) (XFunc.endK impl_follow.x)
def impl_follow.k1 (N : Nat) : Ex → S → Option (Int × Bool) := blockK 0 (impl_follow.k2 N)
def impl_follow.L1 (N : Nat) (n1 : Nat) (l_ : List (Int × Int × Bool)) (down : Int) (t11 : List (Int × Int × Bool)) (t12 : Int) (t13 : Int) : Option (Int × Bool) := loopK [.keep [0, 1, 11, 12, 13], .drop 0, .norm] (fun s k => XCode.runK (impl_follow.env N) N impl_follow.c1 s k) n1
  { t := [.one (.sl false (.pair (.int .i64) (.pair (.int .i64) (.bool))) l_), .one (.int .i64 down), .junk, .junk, .junk, .junk, .junk, .junk, .junk, .junk, .junk, .one (.sl false (.pair (.int .i64) (.pair (.int .i64) (.bool))) t11), .one (.int .i64 t12), .one (.int .i64 t13), .junk, .junk, .junk, .junk, .junk, .junk, .junk, .junk, .junk, .junk, .junk, .junk, .junk, .junk, .junk, .junk, .junk, .junk, .junk, .junk, .junk, .junk, .junk, .junk, .junk, .junk, .junk, .junk, .junk, .junk, .junk, .junk, .junk, .junk, .junk, .junk, .junk, .junk, .junk], h := [.absent 0] }
  (impl_follow.k1 N)

theorem impl_follow.L1_eq (N : Nat) (n1 : Nat) (l_ : List (Int × Int × Bool)) (down : Int) (t11 : List (Int × Int × Bool)) (t12 : Int) (t13 : Int) : impl_follow.L1 N (n1 + 1) l_ down t11 t12 t13 =
    bif decide (t13 < t12) then
      bif inRange t13 (List.length t11) then
      bindO (impl_IsEvent.F N ((nth ((0 : Int), ((0 : Int), false)) t11 t13).1, ((nth ((0 : Int), ((0 : Int), false)) t11 t13).2))) fun r1 =>
      bif !r1 then
        some ((0 : Int), false)
      else
        bif decide (t13 > (0 : Int)) then
          bif inRange (IntKind.wrap .i64 (t13 - (1 : Int))) (List.length l_) then
          bif decide (((nth ((0 : Int), ((0 : Int), false)) l_ (IntKind.wrap .i64 (t13 - (1 : Int)))).1) > ((nth ((0 : Int), ((0 : Int), false)) t11 t13).1)) then
            some ((0 : Int), false)
          else
            bindO (impl_bit.F N (down, ((nth ((0 : Int), ((0 : Int), false)) t11 t13).2).1)) fun r2 =>
            bif (((nth ((0 : Int), ((0 : Int), false)) t11 t13).2).2) == (r2 == (1 : Int)) then
              some ((0 : Int), false)
            else
              bif decide (0 ≤ ((nth ((0 : Int), ((0 : Int), false)) t11 t13).2).1) then
              impl_follow.L1 N n1 l_ (bitXor .i64 down (shiftL .i64 (1 : Int) (((nth ((0 : Int), ((0 : Int), false)) t11 t13).2).1))) t11 t12 (IntKind.wrap .i64 (t13 + (1 : Int)))
              else none
          else none
        else
          bindO (impl_bit.F N (down, ((nth ((0 : Int), ((0 : Int), false)) t11 t13).2).1)) fun r3 =>
          bif (((nth ((0 : Int), ((0 : Int), false)) t11 t13).2).2) == (r3 == (1 : Int)) then
            some ((0 : Int), false)
          else
            bif decide (0 ≤ ((nth ((0 : Int), ((0 : Int), false)) t11 t13).2).1) then
            impl_follow.L1 N n1 l_ (bitXor .i64 down (shiftL .i64 (1 : Int) (((nth ((0 : Int), ((0 : Int), false)) t11 t13).2).1))) t11 t12 (IntKind.wrap .i64 (t13 + (1 : Int)))
            else none
      else none
    else
      some (down, true) := by kernel_rfl
theorem impl_follow.F_eq (N : Nat) (l_ : List (Int × Int × Bool)) (down : Int) : impl_follow.F N (l_, down) =
    bif decide ((List.length l_ : Int) > (64 : Int)) then
      some ((0 : Int), false)
    else
      impl_follow.L1 N N l_ down l_ (List.length l_ : Int) (0 : Int) := by kernel_rfl

def impl_queueFits.c1 : XCode := .seq (.region false [o2 14 (.bin .lss) 13 12]) (.seq (.cond (.slot 14) (.skip) (.exit 0)) (.seq (.block 1 (.seq (.region false [o2 15 (.indexAddr (.pair (.int .i64) (.pair (.int .i64) (.bool)))) 11 13, o1 16 (.load true 3) 15, ow 8 (.alloc 0 [.int .i64 (0 : Int), .int .i64 (0 : Int), .bool false]) [] [0] [0], on (.store 3) [.slot 8, .slot 16] [0] [0]]) (.seq (.region false [o1 17 (.fieldAddr 1) 8, ow 18 (.load false 1) [.slot 17] [0] [], mv 19 2, o2 20 (.bin .geq) 18 19]) (.cond (.slot 20) (.seq (.region false [op 6 .move [.const (.one (.bool false))]]) (.ret)) (.skip))))) (.region false [op 21 (.bin .add) [.slot 13, .const (.one (.int .i64 (1 : Int)))], mv 13 21])))
def impl_queueFits.c2 : XCode := .seq (.region false [mv 23 0, mv 24 1, o2 25 (.call ⟨69, vs 2, no 2, [.val false 1, .val false 1], ims 2, true⟩) 23 24, mv 22 25, o1 26 (.extract 0) 22, o1 27 (.extract 1) 22, mv 9 26, mv 10 27]) (.seq (.region false [mv 28 10, mv 6 28]) (.ret))
def impl_queueFits.x : XFunc := { nslots := 29, nobj := 1, pars := [.val false 1, .val false 1, .val false 1], rowsIn := [none, none, none], rets := [.tmp 6 false 1], outs := [.imm], fresh := true, arg := .pair (.list (.pair (.int .i64) (.pair (.int .i64) (.bool)))) (.pair (.int .i64) (.int .i64)), ret := .bool, body := .seq (.region false [op 6 .move [.const (.one (.bool false))]]) (.seq (.seq (.region false [mv 11 0, o1 12 .len 11, op 13 .move [.const (.one (.int .i64 (0 : Int)))]]) (.block 0 (.loop [.keep [0, 1, 2, 11, 12, 13], .drop 0, .norm] (impl_queueFits.c1)))) (impl_queueFits.c2)) }
def impl_queueFits.env (N : Nat) : Env := envOf (tbl [(69, impl_follow.fs N)] noFS)
def impl_queueFits.F (N : Nat) (x : (List (Int × Int × Bool)) × Int × Int) : Option Bool := XFunc.run impl_queueFits.x (impl_queueFits.env N) N x
def impl_queueFits.fs (N : Nat) : FS := { arg := .pair (.list (.pair (.int .i64) (.pair (.int .i64) (.bool)))) (.pair (.int .i64) (.int .i64)), ret := .bool, fresh := true, F := impl_queueFits.F N }
def impl_queueFits.k2 (N : Nat) : Ex → S → Option Bool := seqK (fun s => XCode.runK (impl_queueFits.env N) N (impl_queueFits.c2) s (XFunc.endK impl_queueFits.x)) (XFunc.endK impl_queueFits.x)
def impl_queueFits.k1 (N : Nat) : Ex → S → Option Bool := blockK 0 (impl_queueFits.k2 N)
def impl_queueFits.L1 (N : Nat) (n1 : Nat) (queue : List (Int × Int × Bool)) (down : Int) (keys : Int) (t11 : List (Int × Int × Bool)) (t12 : Int) (t13 : Int) : Option Bool := loopK [.keep [0, 1, 2, 11, 12, 13], .drop 0, .norm] (fun s k => XCode.runK (impl_queueFits.env N) N impl_queueFits.c1 s k) n1
  { t := [.one (.sl false (.pair (.int .i64) (.pair (.int .i64) (.bool))) queue), .one (.int .i64 down), .one (.int .i64 keys), .junk, .junk, .junk, .junk, .junk, .junk, .junk, .junk, .one (.sl false (.pair (.int .i64) (.pair (.int .i64) (.bool))) t11), .one (.int .i64 t12), .one (.int .i64 t13), .junk, .junk, .junk, .junk, .junk, .junk, .junk, .junk, .junk, .junk, .junk, .junk, .junk, .junk, .junk], h := [.absent 0] }
  (impl_queueFits.k1 N)

theorem impl_queueFits.L1_eq (N : Nat) (n1 : Nat) (queue : List (Int × Int × Bool)) (down : Int) (keys : Int) (t11 : List (Int × Int × Bool)) (t12 : Int) (t13 : Int) : impl_queueFits.L1 N (n1 + 1) queue down keys t11 t12 t13 =
    bif decide (t13 < t12) then
      bif inRange t13 (List.length t11) then
      bif decide ((((nth ((0 : Int), ((0 : Int), false)) t11 t13).2).1) ≥ keys) then
        some false
      else
        impl_queueFits.L1 N n1 queue down keys t11 t12 (IntKind.wrap .i64 (t13 + (1 : Int)))
      else none
    else
      bindO (impl_follow.F N (queue, down)) fun r1 =>
      some r1.2 := by kernel_rfl
theorem impl_queueFits.F_eq (N : Nat) (queue : List (Int × Int × Bool)) (down : Int) (keys : Int) : impl_queueFits.F N (queue, down, keys) =
    impl_queueFits.L1 N N queue down keys queue (List.length queue : Int) (0 : Int) := by kernel_rfl

def impl_notBehind.x : XFunc := { nslots := 19, nobj := 0, pars := [.val false 1, .val false 1], rowsIn := [none, none], rets := [.tmp 4 false 1], outs := [.imm], fresh := true, arg := .pair (.list (.pair (.int .i64) (.pair (.int .i64) (.bool)))) (.int .i64), ret := .bool, body := .seq (.region false [op 4 .move [.const (.one (.bool false))]]) (.seq (.region false [mv 5 0, o1 6 .len 5, op 7 (.bin .eql) [.slot 6, .const (.one (.int .i64 (0 : Int)))], ⟨some 8, .move, [.slot 7], [], [], none, true⟩, ⟨some 9, .move, [.slot 0], [], [], some (8, false), false⟩, ⟨some 10, .move, [.slot 0], [], [], some (8, false), false⟩, ⟨some 11, .len, [.slot 10], [], [], some (8, false), false⟩, ⟨some 12, .bin .sub, [.slot 11, .const (.one (.int .i64 (1 : Int)))], [], [], some (8, false), false⟩, ⟨some 13, .indexAddr (.pair (.int .i64) (.pair (.int .i64) (.bool))), [.slot 9, .slot 12], [], [], some (8, false), false⟩, ⟨some 14, .fieldAddr 0, [.slot 13], [], [], some (8, false), false⟩, ⟨some 15, .load false 1, [.slot 14], [], [], some (8, false), false⟩, ⟨some 16, .move, [.slot 1], [], [], some (8, false), false⟩, ⟨some 17, .bin .leq, [.slot 15, .slot 16], [], [], some (8, false), false⟩, op 18 .pick [.slot 8, .const (.one (.bool true)), .slot 17], mv 4 18]) (.ret)) }
def impl_notBehind.env (_ : Nat) : Env := envOf (tbl [] noFS)
def impl_notBehind.F (N : Nat) (x : (List (Int × Int × Bool)) × Int) : Option Bool := XFunc.run impl_notBehind.x (impl_notBehind.env N) N x
def impl_notBehind.fs (N : Nat) : FS := { arg := .pair (.list (.pair (.int .i64) (.pair (.int .i64) (.bool)))) (.int .i64), ret := .bool, fresh := true, F := impl_notBehind.F N }

theorem impl_notBehind.F_eq (N : Nat) (l_ : List (Int × Int × Bool)) (time : Int) : impl_notBehind.F N (l_, time) =
    bif (List.length l_ : Int) == (0 : Int) then
      some true
    else
      bif inRange (IntKind.wrap .i64 ((List.length l_ : Int) - (1 : Int))) (List.length l_) then
      some (decide (((nth ((0 : Int), ((0 : Int), false)) l_ (IntKind.wrap .i64 ((List.length l_ : Int) - (1 : Int)))).1) ≤ time))
      else none := by kernel_rfl

def impl_IsCombiner.x : XFunc := { nslots := 75, nobj := 1, pars := [.val true 7], rowsIn := [none, none, none, none, none, none, none], rets := [.tmp 2 false 1], outs := [.imm], fresh := true, arg := .pair (.list (.pair (.int .i64) (.int .i64))) (.pair (.int .i64) (.pair (.list (.pair (.int .i64) (.pair (.int .i64) (.bool)))) (.pair (.int .i64) (.pair (.int .i64) (.pair (.int .i64) (.list (.pair (.int .i64) (.pair (.int .i64) (.bool))))))))), ret := .bool, body := .seq (.region false [ow 1 (.box 0) [.slot 0] [0] [0], op 2 .move [.const (.one (.bool false))]]) (.seq (.seq (.region false [o1 5 (.fieldAddr 0) 1, ow 6 (.load false 1) [.slot 5] [0] [], o1 7 (.call ⟨63, vs 1, no 1, [.val false 1], ims 1, true⟩) 6, o1 8 .not 7, ⟨some 9, .move, [.slot 8], [], [], none, true⟩, ⟨some 10, .fieldAddr 1, [.slot 1], [], [], some (9, false), false⟩, ⟨some 11, .load false 1, [.slot 10], [0], [], some (9, false), false⟩, ⟨some 12, .bin .lss, [.slot 11, .const (.one (.int .i64 (1 : Int)))], [], [], some (9, false), false⟩, op 13 .pick [.slot 9, .const (.one (.bool true)), .slot 12], ⟨some 14, .move, [.slot 13], [], [], none, true⟩, ⟨some 15, .fieldAddr 1, [.slot 1], [], [], some (14, false), false⟩, ⟨some 16, .load false 1, [.slot 15], [0], [], some (14, false), false⟩, ⟨some 17, .bin .gtr, [.slot 16, .const (.one (.int .i64 (200 : Int)))], [], [], some (14, false), false⟩, op 18 .pick [.slot 14, .const (.one (.bool true)), .slot 17], ⟨some 19, .move, [.slot 18], [], [], none, true⟩, ⟨some 20, .fieldAddr 3, [.slot 1], [], [], some (19, false), false⟩, ⟨some 21, .load false 1, [.slot 20], [0], [], some (19, false), false⟩, ⟨some 22, .bin .lss, [.slot 21, .const (.one (.int .i64 (0 : Int)))], [], [], some (19, false), false⟩, op 23 .pick [.slot 19, .const (.one (.bool true)), .slot 22], ⟨some 24, .move, [.slot 23], [], [], none, true⟩, ⟨some 25, .fieldAddr 3, [.slot 1], [], [], some (24, false), false⟩, ⟨some 26, .load false 1, [.slot 25], [0], [], some (24, false), false⟩, ⟨some 27, .bin .gtr, [.slot 26, .const (.one (.int .i64 (1000000 : Int)))], [], [], some (24, false), false⟩, op 28 .pick [.slot 24, .const (.one (.bool true)), .slot 27], ⟨some 29, .move, [.slot 28], [], [], none, true⟩, ⟨some 30, .fieldAddr 4, [.slot 1], [], [], some (29, false), false⟩, ⟨some 31, .load false 1, [.slot 30], [0], [], some (29, false), false⟩, ⟨some 32, .bin .lss, [.slot 31, .const (.one (.int .i64 (0 : Int)))], [], [], some (29, false), false⟩, op 33 .pick [.slot 29, .const (.one (.bool true)), .slot 32], ⟨some 34, .move, [.slot 33], [], [], none, true⟩, ⟨some 35, .fieldAddr 4, [.slot 1], [], [], some (34, false), false⟩, ⟨some 36, .load false 1, [.slot 35], [0], [], some (34, false), false⟩, ⟨some 37, .fieldAddr 3, [.slot 1], [], [], some (34, false), false⟩, ⟨some 38, .load false 1, [.slot 37], [0], [], some (34, false), false⟩, ⟨some 39, .bin .gtr, [.slot 36, .slot 38], [], [], some (34, false), false⟩, op 40 .pick [.slot 34, .const (.one (.bool true)), .slot 39], ⟨some 41, .move, [.slot 40], [], [], none, true⟩, ⟨some 42, .fieldAddr 5, [.slot 1], [], [], some (41, false), false⟩, ⟨some 43, .load false 1, [.slot 42], [0], [], some (41, false), false⟩, ⟨some 44, .bin .lss, [.slot 43, .const (.one (.int .i64 (0 : Int)))], [], [], some (41, false), false⟩, op 45 .pick [.slot 41, .const (.one (.bool true)), .slot 44], ⟨some 46, .move, [.slot 45], [], [], none, true⟩, ⟨some 47, .fieldAddr 5, [.slot 1], [], [], some (46, false), false⟩, ⟨some 48, .load false 1, [.slot 47], [0], [], some (46, false), false⟩, ⟨some 49, .bin .gtr, [.slot 48, .const (.one (.int .i64 (16777215 : Int)))], [], [], some (46, false), false⟩, op 50 .pick [.slot 46, .const (.one (.bool true)), .slot 49], ⟨some 51, .move, [.slot 50], [], [], none, true⟩, ⟨some 52, .load true 7, [.slot 1], [0], [], some (51, false), false⟩, ⟨some 53, .call ⟨66, [.val true 7], no 7, [.val false 1], ims 1, true⟩, [.slot 52], [], [], some (51, false), false⟩, ⟨some 54, .not, [.slot 53], [], [], some (51, false), false⟩, op 55 .pick [.slot 51, .const (.one (.bool true)), .slot 54]]) (.cond (.slot 55) (.seq (.region false [op 2 .move [.const (.one (.bool false))]]) (.ret)) (.skip))) (.seq (.region false [ow 57 (.load true 7) [.slot 1] [0] [], o1 58 (.call ⟨67, [.val true 7], no 7, [.val false 1, .val false 1], ims 2, true⟩) 57, mv 56 58, o1 59 (.extract 0) 56, o1 60 (.extract 1) 56, mv 3 59, mv 4 60]) (.seq (.region false [mv 61 4, ⟨some 62, .move, [.slot 61], [], [], none, true⟩, ⟨some 63, .fieldAddr 2, [.slot 1], [], [], some (62, true), false⟩, ⟨some 64, .load false 1, [.slot 63], [0], [], some (62, true), false⟩, ⟨some 65, .move, [.slot 3], [], [], some (62, true), false⟩, ⟨some 66, .call ⟨70, vs 3, no 3, [.val false 1], ims 1, true⟩, [.slot 64, .slot 65, .const (.one (.int .i64 (24 : Int)))], [], [], some (62, true), false⟩, op 67 .pick [.slot 62, .slot 66, .const (.one (.bool false))], ⟨some 68, .move, [.slot 67], [], [], none, true⟩, ⟨some 69, .fieldAddr 2, [.slot 1], [], [], some (68, true), false⟩, ⟨some 70, .load false 1, [.slot 69], [0], [], some (68, true), false⟩, ⟨some 71, .fieldAddr 3, [.slot 1], [], [], some (68, true), false⟩, ⟨some 72, .load false 1, [.slot 71], [0], [], some (68, true), false⟩, ⟨some 73, .call ⟨71, vs 2, no 2, [.val false 1], ims 1, true⟩, [.slot 70, .slot 72], [], [], some (68, true), false⟩, op 74 .pick [.slot 68, .slot 73, .const (.one (.bool false))], mv 2 74]) (.ret)))) }
def impl_IsCombiner.env (N : Nat) : Env := envOf (tbl [(63, impl_IsCombos.fs N), (66, impl_activeFits.fs N), (71, impl_notBehind.fs N), (70, impl_queueFits.fs N), (67, impl_switchesDown.fs N)] noFS)
def impl_IsCombiner.F (N : Nat) (x : (List (Int × Int)) × Int × (List (Int × Int × Bool)) × Int × Int × Int × List (Int × Int × Bool)) : Option Bool := XFunc.run impl_IsCombiner.x (impl_IsCombiner.env N) N x
def impl_IsCombiner.fs (N : Nat) : FS := { arg := .pair (.list (.pair (.int .i64) (.int .i64))) (.pair (.int .i64) (.pair (.list (.pair (.int .i64) (.pair (.int .i64) (.bool)))) (.pair (.int .i64) (.pair (.int .i64) (.pair (.int .i64) (.list (.pair (.int .i64) (.pair (.int .i64) (.bool))))))))), ret := .bool, fresh := true, F := impl_IsCombiner.F N }

theorem impl_IsCombiner.F_eq (N : Nat) (c : (List (Int × Int)) × Int × (List (Int × Int × Bool)) × Int × Int × Int × List (Int × Int × Bool)) : impl_IsCombiner.F N c =
    bindO (impl_IsCombos.F N c.1) fun r1 =>
    bif !r1 then
      some false
    else
      bif decide (c.2.1 < (1 : Int)) then
        some false
      else
        bif decide (c.2.1 > (200 : Int)) then
          some false
        else
          bif decide (c.2.2.2.1 < (0 : Int)) then
            some false
          else
            bif decide (c.2.2.2.1 > (1000000 : Int)) then
              some false
            else
              bif decide (c.2.2.2.2.1 < (0 : Int)) then
                some false
              else
                bif decide (c.2.2.2.2.1 > c.2.2.2.1) then
                  some false
                else
                  bif decide (c.2.2.2.2.2.1 < (0 : Int)) then
                    some false
                  else
                    bif decide (c.2.2.2.2.2.1 > (16777215 : Int)) then
                      some false
                    else
                      bindO (impl_activeFits.F N c) fun r2 =>
                      bif !r2 then
                        some false
                      else
                        bindO (impl_switchesDown.F N c) fun r3 =>
                        bif r3.2 then
                          bindO (impl_queueFits.F N (c.2.2.1, (r3.1, (24 : Int)))) fun r4 =>
                          bif r4 then
                            bindO (impl_notBehind.F N (c.2.2.1, c.2.2.2.1)) fun r5 =>
                            some r5
                          else
                            some false
                        else
                          some false := by kernel_rfl

end Go.Kb
