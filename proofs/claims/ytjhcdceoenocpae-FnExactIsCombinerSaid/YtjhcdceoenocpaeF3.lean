/- The texts of functions, printed by a program, and the equations of their runs. -/
import Derived.Test.YtjhcdceoenocpaeF1
import Derived.Test.YtjhcdceoenocpaeF2
import Derived.KernelRfl
namespace Go.Kb
def laws_szIntS.x : XFunc := { nslots := 12, nobj := 0, pars := [.val false 1, .val false 1], rowsIn := [none, none], rets := [.tmp 4 false 1], outs := [.imm], fresh := true, arg := .pair (.list (.int .i64)) (.int .i64), ret := .int .i64, body := .seq (.region false [op 4 .move [.const (.one (.int .i64 (0 : Int)))]]) (.seq (.region false [mv 5 1, mv 6 0, o1 7 .len 6, o2 8 (.bin .sub) 5 7, mv 1 8]) (.seq (.seq (.region false [mv 9 1, op 10 (.bin .lss) [.slot 9, .const (.one (.int .i64 (0 : Int)))]]) (.cond (.slot 10) (.seq (.region false [op 4 .move [.const (.one (.int .i64 (-1 : Int)))]]) (.ret)) (.skip))) (.seq (.region false [mv 11 1, mv 4 11]) (.ret)))) }
def laws_szIntS.env (_ : Nat) : Env := envOf (tbl [] noFS)
def laws_szIntS.F (N : Nat) (x : (List Int) × Int) : Option Int := XFunc.run laws_szIntS.x (laws_szIntS.env N) N x
def laws_szIntS.fs (N : Nat) : FS := { arg := .pair (.list (.int .i64)) (.int .i64), ret := .int .i64, fresh := true, F := laws_szIntS.F N }

theorem laws_szIntS.F_eq (N : Nat) (a : List Int) (left : Int) : laws_szIntS.F N (a, left) =
    bif decide ((IntKind.wrap .i64 (left - (List.length a : Int))) < (0 : Int)) then
      some (-1 : Int)
    else
      some (IntKind.wrap .i64 (left - (List.length a : Int))) := by kernel_rfl

def laws_szIntSS.c1 : XCode := .seq (.seq (.region false [mv 12 5, mv 13 0, o1 14 .len 13, o2 15 (.bin .lss) 12 14]) (.cond (.slot 15) (.skip) (.exit 0))) (.seq (.block 1 (.seq (.region false [mv 18 0, mv 19 5, o2 20 (.indexAddr (.list (.int .i64))) 18 19, o1 21 (.load false 1) 20, mv 22 1, o2 23 (.call ⟨251, vs 2, no 2, [.val false 1], ims 1, true⟩) 21 22, mv 1 23]) (.seq (.region false [mv 24 1, op 25 (.bin .lss) [.slot 24, .const (.one (.int .i64 (0 : Int)))]]) (.cond (.slot 25) (.seq (.region false [op 4 .move [.const (.one (.int .i64 (-1 : Int)))]]) (.ret)) (.skip))))) (.region false [mv 16 5, op 17 (.bin .add) [.slot 16, .const (.one (.int .i64 (1 : Int)))], mv 5 17]))
def laws_szIntSS.c2 : XCode := .seq (.region false [mv 26 1, mv 4 26]) (.ret)
def laws_szIntSS.x : XFunc := { nslots := 27, nobj := 0, pars := [.val false 1, .val false 1], rowsIn := [none, none], rets := [.tmp 4 false 1], outs := [.imm], fresh := true, arg := .pair (.list (.list (.int .i64))) (.int .i64), ret := .int .i64, body := .seq (.region false [op 4 .move [.const (.one (.int .i64 (0 : Int)))]]) (.seq (.region false [mv 6 1, mv 7 0, o1 8 .len 7, o2 9 (.bin .sub) 6 8, mv 1 9]) (.seq (.seq (.region false [mv 10 1, op 11 (.bin .lss) [.slot 10, .const (.one (.int .i64 (0 : Int)))]]) (.cond (.slot 11) (.seq (.region false [op 4 .move [.const (.one (.int .i64 (-1 : Int)))]]) (.ret)) (.skip))) (.seq (.seq (.region false [op 5 .move [.const (.one (.int .i64 (0 : Int)))]]) (.block 0 (.loop [.keep [0, 1, 5], .norm] (laws_szIntSS.c1)))) (laws_szIntSS.c2)))) }
def laws_szIntSS.env (N : Nat) : Env := envOf (tbl [(251, laws_szIntS.fs N)] noFS)
def laws_szIntSS.F (N : Nat) (x : (List (List Int)) × Int) : Option Int := XFunc.run laws_szIntSS.x (laws_szIntSS.env N) N x
def laws_szIntSS.fs (N : Nat) : FS := { arg := .pair (.list (.list (.int .i64))) (.int .i64), ret := .int .i64, fresh := true, F := laws_szIntSS.F N }
def laws_szIntSS.k2 (N : Nat) : Ex → S → Option Int := seqK (fun s => XCode.runK (laws_szIntSS.env N) N (laws_szIntSS.c2) s (XFunc.endK laws_szIntSS.x)) (XFunc.endK laws_szIntSS.x)
def laws_szIntSS.k1 (N : Nat) : Ex → S → Option Int := blockK 0 (laws_szIntSS.k2 N)
def laws_szIntSS.L1 (N : Nat) (n1 : Nat) (a : List (List Int)) (left : Int) (i : Int) : Option Int := loopK [.keep [0, 1, 5], .norm] (fun s k => XCode.runK (laws_szIntSS.env N) N laws_szIntSS.c1 s k) n1
  { t := [.one (.sl false (.list (.int .i64)) a), .one (.int .i64 left), .junk, .junk, .junk, .one (.int .i64 i), .junk, .junk, .junk, .junk, .junk, .junk, .junk, .junk, .junk, .junk, .junk, .junk, .junk, .junk, .junk, .junk, .junk, .junk, .junk, .junk, .junk], h := [] }
  (laws_szIntSS.k1 N)

theorem laws_szIntSS.L1_eq (N : Nat) (n1 : Nat) (a : List (List Int)) (left : Int) (i : Int) : laws_szIntSS.L1 N (n1 + 1) a left i =
    bif decide (i < (List.length a : Int)) then
      bif inRange i (List.length a) then
      bindO (laws_szIntS.F N (nth ([] : List Int) a i, left)) fun r1 =>
      bif decide (r1 < (0 : Int)) then
        some (-1 : Int)
      else
        laws_szIntSS.L1 N n1 a r1 (IntKind.wrap .i64 (i + (1 : Int)))
      else none
    else
      some left := by kernel_rfl
theorem laws_szIntSS.L1_zero (N : Nat) (a : List (List Int)) (left : Int) (i : Int) : laws_szIntSS.L1 N 0 a left i = none := rfl
theorem laws_szIntSS.F_eq (N : Nat) (a : List (List Int)) (left : Int) : laws_szIntSS.F N (a, left) =
    bif decide ((IntKind.wrap .i64 (left - (List.length a : Int))) < (0 : Int)) then
      some (-1 : Int)
    else
      laws_szIntSS.L1 N N a (IntKind.wrap .i64 (left - (List.length a : Int))) (0 : Int) := by kernel_rfl

def laws_szFlash.x : XFunc := { nslots := 18, nobj := 1, pars := [.val true 2, .val false 1], rowsIn := [none, none, none], rets := [.tmp 4 false 1], outs := [.imm], fresh := true, arg := .pair (.pair (.list (.list (.int .i64))) (.list (.int .i64))) (.int .i64), ret := .int .i64, body := .seq (.region false [ow 2 (.box 0) [.slot 0] [0] [0], op 4 .move [.const (.one (.int .i64 (0 : Int)))]]) (.seq (.region false [o1 5 (.fieldAddr 0) 2, ow 6 (.load false 1) [.slot 5] [0] [], mv 7 1, o2 8 (.call ⟨252, vs 2, no 2, [.val false 1], ims 1, true⟩) 6 7, mv 1 8]) (.seq (.seq (.region false [mv 9 1, op 10 (.bin .lss) [.slot 9, .const (.one (.int .i64 (0 : Int)))]]) (.cond (.slot 10) (.seq (.region false [op 4 .move [.const (.one (.int .i64 (-1 : Int)))]]) (.ret)) (.skip))) (.seq (.region false [o1 11 (.fieldAddr 1) 2, ow 12 (.load false 1) [.slot 11] [0] [], mv 13 1, o2 14 (.call ⟨251, vs 2, no 2, [.val false 1], ims 1, true⟩) 12 13, mv 1 14]) (.seq (.seq (.region false [mv 15 1, op 16 (.bin .lss) [.slot 15, .const (.one (.int .i64 (0 : Int)))]]) (.cond (.slot 16) (.seq (.region false [op 4 .move [.const (.one (.int .i64 (-1 : Int)))]]) (.ret)) (.skip))) (.seq (.region false [mv 17 1, mv 4 17]) (.ret)))))) }
def laws_szFlash.env (N : Nat) : Env := envOf (tbl [(251, laws_szIntS.fs N), (252, laws_szIntSS.fs N)] noFS)
def laws_szFlash.F (N : Nat) (x : ((List (List Int)) × List Int) × Int) : Option Int := XFunc.run laws_szFlash.x (laws_szFlash.env N) N x
def laws_szFlash.fs (N : Nat) : FS := { arg := .pair (.pair (.list (.list (.int .i64))) (.list (.int .i64))) (.int .i64), ret := .int .i64, fresh := true, F := laws_szFlash.F N }

theorem laws_szFlash.F_eq (N : Nat) (a : (List (List Int)) × List Int) (left : Int) : laws_szFlash.F N (a, left) =
    bindO (laws_szIntSS.F N (a.1, left)) fun r1 =>
    bif decide (r1 < (0 : Int)) then
      some (-1 : Int)
    else
      bindO (laws_szIntS.F N (a.2, r1)) fun r2 =>
      bif decide (r2 < (0 : Int)) then
        some (-1 : Int)
      else
        some r2 := by kernel_rfl

def laws_toIntS.c1 : XCode := .seq (.seq (.region false [mv 8 4, mv 9 0, o1 10 .len 9, o2 11 (.bin .lss) 8 10]) (.cond (.slot 11) (.skip) (.exit 0))) (.seq (.block 1 (.region false [mv 14 3, mv 15 4, mv 16 0, mv 17 4, o2 18 (.indexAddr (.int .i64)) 16 17, o1 19 (.load false 1) 18, ow 20 (.indexAddr (.int .i64)) [.slot 14, .slot 15] [0] [], on (.store 1) [.slot 20, .slot 19] [0] [0]])) (.region false [mv 12 4, op 13 (.bin .add) [.slot 12, .const (.one (.int .i64 (1 : Int)))], mv 4 13]))
def laws_toIntS.c2 : XCode := .seq (.region false [mv 21 3, mv 2 21]) (.ret)
def laws_toIntS.x : XFunc := { nslots := 22, nobj := 1, pars := [.val false 1], rowsIn := [none], rets := [.tmp 2 false 1], outs := [.own 2], fresh := true, arg := .list (.int .i64), ret := .list (.int .i64), body := .seq (.region false [op 2 .move [.const (.one (.nil))]]) (.seq (.region false [mv 5 0, o1 6 .len 5, ow 7 (.makeSlice 0 2 (.int .i64)) [.slot 6, .slot 6] [0] [0], mv 3 7]) (.seq (.seq (.region false [op 4 .move [.const (.one (.int .i64 (0 : Int)))]]) (.block 0 (.loop [.keep [0, 3, 4], .norm] (laws_toIntS.c1)))) (laws_toIntS.c2))) }
def laws_toIntS.env (_ : Nat) : Env := envOf (tbl [] noFS)
def laws_toIntS.F (N : Nat) (x : List Int) : Option (List Int) := XFunc.run laws_toIntS.x (laws_toIntS.env N) N x
def laws_toIntS.fs (N : Nat) : FS := { arg := .list (.int .i64), ret := .list (.int .i64), fresh := true, F := laws_toIntS.F N }
def laws_toIntS.k2 (N : Nat) : Ex → S → Option (List Int) := seqK (fun s => XCode.runK (laws_toIntS.env N) N (laws_toIntS.c2) s (XFunc.endK laws_toIntS.x)) (XFunc.endK laws_toIntS.x)
def laws_toIntS.k1 (N : Nat) : Ex → S → Option (List Int) := blockK 0 (laws_toIntS.k2 N)
def laws_toIntS.L1 (N : Nat) (n1 : Nat) (a : List Int) (i : Int) (o0 : List Int) : Option (List Int) := loopK [.keep [0, 3, 4], .norm] (fun s k => XCode.runK (laws_toIntS.env N) N laws_toIntS.c1 s k) n1
  { t := [.one (.sl false (.int .i64) a), .junk, .junk, .one (.ref 0 0 .all), .one (.int .i64 i), .junk, .junk, .junk, .junk, .junk, .junk, .junk, .junk, .junk, .junk, .junk, .junk, .junk, .junk, .junk, .junk, .junk], h := [.row 0 false true 2 (.int .i64) o0] }
  (laws_toIntS.k1 N)

theorem laws_toIntS.L1_eq (N : Nat) (n1 : Nat) (a : List Int) (i : Int) (o0 : List Int) : laws_toIntS.L1 N (n1 + 1) a i o0 =
    bif decide (i < (List.length a : Int)) then
      bif inRange i (List.length a) then
      bif inRange i (List.length o0) then
      laws_toIntS.L1 N n1 a (IntKind.wrap .i64 (i + (1 : Int))) (List.set o0 (Int.toNat i) (nth (0 : Int) a i))
      else none
      else none
    else
      some o0 := by kernel_rfl
theorem laws_toIntS.L1_zero (N : Nat) (a : List Int) (i : Int) (o0 : List Int) : laws_toIntS.L1 N 0 a i o0 = none := rfl
theorem laws_toIntS.F_eq (N : Nat) (a : List Int) : laws_toIntS.F N a =
    bif decide (0 ≤ (List.length a : Int)) && decide ((List.length a : Int) ≤ (maxN : Int)) then
    laws_toIntS.L1 N N a (0 : Int) (List.replicate (Int.toNat (List.length a : Int)) (0 : Int))
    else none := by kernel_rfl

def laws_toIntSS.c1 : XCode := .seq (.seq (.region false [mv 8 4, mv 9 0, o1 10 .len 9, o2 11 (.bin .lss) 8 10]) (.cond (.slot 11) (.skip) (.exit 0))) (.seq (.block 1 (.region false [mv 14 3, mv 15 4, mv 16 0, mv 17 4, o2 18 (.indexAddr (.list (.int .i64))) 16 17, o1 19 (.load false 1) 18, o1 20 (.call ⟨254, vs 1, no 1, [.val false 1], ims 1, true⟩) 19, ow 21 (.indexAddr (.list (.int .i64))) [.slot 14, .slot 15] [0] [], on (.store 1) [.slot 21, .slot 20] [0] [0]])) (.region false [mv 12 4, op 13 (.bin .add) [.slot 12, .const (.one (.int .i64 (1 : Int)))], mv 4 13]))
def laws_toIntSS.c2 : XCode := .seq (.region false [mv 22 3, mv 2 22]) (.ret)
def laws_toIntSS.x : XFunc := { nslots := 23, nobj := 1, pars := [.val false 1], rowsIn := [none], rets := [.tmp 2 false 1], outs := [.own 6], fresh := true, arg := .list (.list (.int .i64)), ret := .list (.list (.int .i64)), body := .seq (.region false [op 2 .move [.const (.one (.nil))]]) (.seq (.region false [mv 5 0, o1 6 .len 5, ow 7 (.makeSlice 0 6 (.list (.int .i64))) [.slot 6, .slot 6] [0] [0], mv 3 7]) (.seq (.seq (.region false [op 4 .move [.const (.one (.int .i64 (0 : Int)))]]) (.block 0 (.loop [.keep [0, 3, 4], .norm] (laws_toIntSS.c1)))) (laws_toIntSS.c2))) }
def laws_toIntSS.env (N : Nat) : Env := envOf (tbl [(254, laws_toIntS.fs N)] noFS)
def laws_toIntSS.F (N : Nat) (x : List (List Int)) : Option (List (List Int)) := XFunc.run laws_toIntSS.x (laws_toIntSS.env N) N x
def laws_toIntSS.fs (N : Nat) : FS := { arg := .list (.list (.int .i64)), ret := .list (.list (.int .i64)), fresh := true, F := laws_toIntSS.F N }
def laws_toIntSS.k2 (N : Nat) : Ex → S → Option (List (List Int)) := seqK (fun s => XCode.runK (laws_toIntSS.env N) N (laws_toIntSS.c2) s (XFunc.endK laws_toIntSS.x)) (XFunc.endK laws_toIntSS.x)
def laws_toIntSS.k1 (N : Nat) : Ex → S → Option (List (List Int)) := blockK 0 (laws_toIntSS.k2 N)
def laws_toIntSS.L1 (N : Nat) (n1 : Nat) (a : List (List Int)) (i : Int) (o0 : List (List Int)) : Option (List (List Int)) := loopK [.keep [0, 3, 4], .norm] (fun s k => XCode.runK (laws_toIntSS.env N) N laws_toIntSS.c1 s k) n1
  { t := [.one (.sl false (.list (.int .i64)) a), .junk, .junk, .one (.ref 0 0 .all), .one (.int .i64 i), .junk, .junk, .junk, .junk, .junk, .junk, .junk, .junk, .junk, .junk, .junk, .junk, .junk, .junk, .junk, .junk, .junk, .junk], h := [.row 0 false true 6 (.list (.int .i64)) o0] }
  (laws_toIntSS.k1 N)

theorem laws_toIntSS.L1_eq (N : Nat) (n1 : Nat) (a : List (List Int)) (i : Int) (o0 : List (List Int)) : laws_toIntSS.L1 N (n1 + 1) a i o0 =
    bif decide (i < (List.length a : Int)) then
      bif inRange i (List.length a) then
      bindO (laws_toIntS.F N (nth ([] : List Int) a i)) fun r1 =>
      bif inRange i (List.length o0) then
      laws_toIntSS.L1 N n1 a (IntKind.wrap .i64 (i + (1 : Int))) (List.set o0 (Int.toNat i) r1)
      else none
      else none
    else
      some o0 := by kernel_rfl
theorem laws_toIntSS.L1_zero (N : Nat) (a : List (List Int)) (i : Int) (o0 : List (List Int)) : laws_toIntSS.L1 N 0 a i o0 = none := rfl
theorem laws_toIntSS.F_eq (N : Nat) (a : List (List Int)) : laws_toIntSS.F N a =
    bif decide (0 ≤ (List.length a : Int)) && decide ((List.length a : Int) ≤ (maxN : Int)) then
    laws_toIntSS.L1 N N a (0 : Int) (List.replicate (Int.toNat (List.length a : Int)) ([] : List Int))
    else none := by kernel_rfl

def laws_toFlash.x : XFunc := { nslots := 13, nobj := 3, pars := [.val true 2], rowsIn := [none, none], rets := [.var 2 true 2], outs := [.imm, .imm], fresh := true, arg := .pair (.list (.list (.int .i64))) (.list (.int .i64)), ret := .pair (.list (.list (.int .i64))) (.list (.int .i64)), body := .seq (.region false [ow 1 (.box 0) [.slot 0] [0] [0], ow 2 (.alloc 1 [.nil, .nil]) [] [1] [1]]) (.seq (.region false [ow 3 (.alloc 2 [.nil, .nil]) [] [2] [2]]) (.seq (.region false [o1 4 (.fieldAddr 0) 1, ow 5 (.load false 1) [.slot 4] [0] [], o1 6 (.call ⟨255, vs 1, no 1, [.val false 1], ims 1, true⟩) 5, o1 7 (.fieldAddr 0) 3, on (.store 1) [.slot 7, .slot 6] [2] [2]]) (.seq (.region false [o1 8 (.fieldAddr 1) 1, ow 9 (.load false 1) [.slot 8] [0] [], o1 10 (.call ⟨254, vs 1, no 1, [.val false 1], ims 1, true⟩) 9, o1 11 (.fieldAddr 1) 3, on (.store 1) [.slot 11, .slot 10] [2] [2]]) (.seq (.region false [ow 12 (.load true 2) [.slot 3] [2] [], on (.store 2) [.slot 2, .slot 12] [1] [1]]) (.ret))))) }
def laws_toFlash.env (N : Nat) : Env := envOf (tbl [(254, laws_toIntS.fs N), (255, laws_toIntSS.fs N)] noFS)
def laws_toFlash.F (N : Nat) (x : (List (List Int)) × List Int) : Option ((List (List Int)) × List Int) := XFunc.run laws_toFlash.x (laws_toFlash.env N) N x
def laws_toFlash.fs (N : Nat) : FS := { arg := .pair (.list (.list (.int .i64))) (.list (.int .i64)), ret := .pair (.list (.list (.int .i64))) (.list (.int .i64)), fresh := true, F := laws_toFlash.F N }

theorem laws_toFlash.F_eq (N : Nat) (a : (List (List Int)) × List Int) : laws_toFlash.F N a =
    bindO (laws_toIntSS.F N a.1) fun r1 =>
    bindO (laws_toIntS.F N a.2) fun r2 =>
    some (r1, r2) := by kernel_rfl

def spec_IsFlash.c1 : XCode := .seq (.seq (.region false [mv 35 4, o1 36 (.fieldAddr 0) 1, ow 37 (.load false 1) [.slot 36] [0] [], mv 38 3, o2 39 (.indexAddr (.list (.int .i64))) 37 38, o1 40 (.load false 1) 39, o1 41 .len 40, o2 42 (.bin .lss) 35 41]) (.cond (.slot 42) (.skip) (.exit 2))) (.seq (.block 3 (.seq (.region false [o1 45 (.fieldAddr 0) 1, ow 46 (.load false 1) [.slot 45] [0] [], mv 47 3, o2 48 (.indexAddr (.list (.int .i64))) 46 47, o1 49 (.load false 1) 48, mv 50 4, o2 51 (.indexAddr (.int .i64)) 49 50, o1 52 (.load false 1) 51, op 53 (.call ⟨1, vs 3, no 3, [.val false 1], ims 1, true⟩) [.slot 52, .const (.one (.int .i64 (0 : Int))), .const (.one (.int .i64 (65535 : Int)))], o1 54 .not 53]) (.cond (.slot 54) (.seq (.region false [op 2 .move [.const (.one (.bool false))]]) (.ret)) (.skip)))) (.region false [mv 43 4, op 44 (.bin .add) [.slot 43, .const (.one (.int .i64 (1 : Int)))], mv 4 44]))
def spec_IsFlash.c2 : XCode := .region false [mv 17 3, op 18 (.bin .add) [.slot 17, .const (.one (.int .i64 (1 : Int)))], mv 3 18]
def spec_IsFlash.c3 : XCode := .seq (.seq (.region false [mv 15 3, op 16 (.bin .lss) [.slot 15, .const (.one (.int .i64 (2 : Int)))]]) (.cond (.slot 16) (.skip) (.exit 0))) (.seq (.block 1 (.seq (.seq (.region false [o1 19 (.fieldAddr 0) 1, ow 20 (.load false 1) [.slot 19] [0] [], mv 21 3, o2 22 (.indexAddr (.list (.int .i64))) 20 21, o1 23 (.load false 1) 22, o1 24 .len 23, op 25 (.bin .neq) [.slot 24, .const (.one (.int .i64 (19 : Int)))], ⟨some 26, .move, [.slot 25], [], [], none, true⟩, ⟨some 27, .fieldAddr 1, [.slot 1], [], [], some (26, false), false⟩, ⟨some 28, .load false 1, [.slot 27], [0], [], some (26, false), false⟩, ⟨some 29, .move, [.slot 3], [], [], some (26, false), false⟩, ⟨some 30, .indexAddr (.int .i64), [.slot 28, .slot 29], [], [], some (26, false), false⟩, ⟨some 31, .load false 1, [.slot 30], [], [], some (26, false), false⟩, ⟨some 32, .call ⟨1, vs 3, no 3, [.val false 1], ims 1, true⟩, [.slot 31, .const (.one (.int .i64 (0 : Int))), .const (.one (.int .i64 (1000 : Int)))], [], [], some (26, false), false⟩, ⟨some 33, .not, [.slot 32], [], [], some (26, false), false⟩, op 34 .pick [.slot 26, .const (.one (.bool true)), .slot 33]]) (.cond (.slot 34) (.seq (.region false [op 2 .move [.const (.one (.bool false))]]) (.ret)) (.skip))) (.seq (.region false [op 4 .move [.const (.one (.int .i64 (0 : Int)))]]) (.block 2 (.loop [.keep [1, 3, 4], .norm] (spec_IsFlash.c1)))))) (spec_IsFlash.c2))
def spec_IsFlash.c4 : XCode := .seq (.region false [op 2 .move [.const (.one (.bool true))]]) (.ret)
def spec_IsFlash.x : XFunc := { nslots := 55, nobj := 1, pars := [.val true 2], rowsIn := [none, none], rets := [.tmp 2 false 1], outs := [.imm], fresh := true, arg := .pair (.list (.list (.int .i64))) (.list (.int .i64)), ret := .bool, body := .seq (.region false [ow 1 (.box 0) [.slot 0] [0] [0], op 2 .move [.const (.one (.bool false))]]) (.seq (.seq (.region false [o1 5 (.fieldAddr 0) 1, ow 6 (.load false 1) [.slot 5] [0] [], o1 7 .len 6, op 8 (.bin .neq) [.slot 7, .const (.one (.int .i64 (2 : Int)))], ⟨some 9, .move, [.slot 8], [], [], none, true⟩, ⟨some 10, .fieldAddr 1, [.slot 1], [], [], some (9, false), false⟩, ⟨some 11, .load false 1, [.slot 10], [0], [], some (9, false), false⟩, ⟨some 12, .len, [.slot 11], [], [], some (9, false), false⟩, ⟨some 13, .bin .neq, [.slot 12, .const (.one (.int .i64 (2 : Int)))], [], [], some (9, false), false⟩, op 14 .pick [.slot 9, .const (.one (.bool true)), .slot 13]]) (.cond (.slot 14) (.seq (.region false [op 2 .move [.const (.one (.bool false))]]) (.ret)) (.skip))) (.seq (.seq (.region false [op 3 .move [.const (.one (.int .i64 (0 : Int)))]]) (.block 0 (.loop [.keep [1, 3], .norm] (spec_IsFlash.c3)))) (spec_IsFlash.c4))) }
def spec_IsFlash.env (N : Nat) : Env := envOf (tbl [(1, spec_l1In.fs N)] noFS)
def spec_IsFlash.F (N : Nat) (x : (List (List Int)) × List Int) : Option Bool := XFunc.run spec_IsFlash.x (spec_IsFlash.env N) N x
def spec_IsFlash.fs (N : Nat) : FS := { arg := .pair (.list (.list (.int .i64))) (.list (.int .i64)), ret := .bool, fresh := true, F := spec_IsFlash.F N }
def spec_IsFlash.k2 (N : Nat) : Ex → S → Option Bool := seqK (fun s => XCode.runK (spec_IsFlash.env N) N (spec_IsFlash.c4) s (XFunc.endK spec_IsFlash.x)) (XFunc.endK spec_IsFlash.x)
def spec_IsFlash.k1 (N : Nat) : Ex → S → Option Bool := blockK 0 (spec_IsFlash.k2 N)
def spec_IsFlash.k6 (N : Nat) (n1 : Nat) : Ex → S → Option Bool := seqK (fun s => bindO (S.ghosts s [.keep [1, 3], .norm]) fun s1 => loopK [.keep [1, 3], .norm] (fun s k => XCode.runK (spec_IsFlash.env N) N spec_IsFlash.c3 s k) n1 s1 (spec_IsFlash.k1 N)) (spec_IsFlash.k1 N)
def spec_IsFlash.k5 (N : Nat) (n1 : Nat) : Ex → S → Option Bool := seqK (fun s => XCode.runK (spec_IsFlash.env N) N (spec_IsFlash.c2) s (spec_IsFlash.k6 N n1)) (spec_IsFlash.k6 N n1)
def spec_IsFlash.k4 (N : Nat) (n1 : Nat) : Ex → S → Option Bool := blockK 1 (spec_IsFlash.k5 N n1)
def spec_IsFlash.k3 (N : Nat) (n1 : Nat) : Ex → S → Option Bool := blockK 2 (spec_IsFlash.k4 N n1)
def spec_IsFlash.L1 (N : Nat) (n1 : Nat) (i : Int) (o00 : List (List Int)) (o01 : List Int) : Option Bool := loopK [.keep [1, 3], .norm] (fun s k => XCode.runK (spec_IsFlash.env N) N spec_IsFlash.c3 s k) n1
  { t := [.junk, .one (.ptr 0 0 0), .junk, .one (.int .i64 i), .junk, .junk, .junk, .junk, .junk, .junk, .junk, .junk, .junk, .junk, .junk, .junk, .junk, .junk, .junk, .junk, .junk, .junk, .junk, .junk, .junk, .junk, .junk, .junk, .junk, .junk, .junk, .junk, .junk, .junk, .junk, .junk, .junk, .junk, .junk, .junk, .junk, .junk, .junk, .junk, .junk, .junk, .junk, .junk, .junk, .junk, .junk, .junk, .junk, .junk, .junk], h := [.box 0 false [.sl false (.list (.int .i64)) o00, .sl false (.int .i64) o01]] }
  (spec_IsFlash.k1 N)
def spec_IsFlash.L2 (N : Nat) (n1 : Nat) (n2 : Nat) (i : Int) (k_ : Int) (o00 : List (List Int)) (o01 : List Int) : Option Bool := loopK [.keep [1, 3, 4], .norm] (fun s k => XCode.runK (spec_IsFlash.env N) N spec_IsFlash.c1 s k) n2
  { t := [.junk, .one (.ptr 0 0 0), .junk, .one (.int .i64 i), .one (.int .i64 k_), .junk, .junk, .junk, .junk, .junk, .junk, .junk, .junk, .junk, .junk, .junk, .junk, .junk, .junk, .junk, .junk, .junk, .junk, .junk, .junk, .junk, .junk, .junk, .junk, .junk, .junk, .junk, .junk, .junk, .junk, .junk, .junk, .junk, .junk, .junk, .junk, .junk, .junk, .junk, .junk, .junk, .junk, .junk, .junk, .junk, .junk, .junk, .junk, .junk, .junk], h := [.box 0 false [.sl false (.list (.int .i64)) o00, .sl false (.int .i64) o01]] }
  (spec_IsFlash.k3 N n1)

theorem spec_IsFlash.L1_eq (N : Nat) (n1 : Nat) (i : Int) (o00 : List (List Int)) (o01 : List Int) : spec_IsFlash.L1 N (n1 + 1) i o00 o01 =
    bif decide (i < (2 : Int)) then
      bif inRange i (List.length o00) then
      bif (List.length (nth ([] : List Int) o00 i) : Int) != (19 : Int) then
        some false
      else
        bif inRange i (List.length o01) then
        bindO (spec_l1In.F N (nth (0 : Int) o01 i, ((0 : Int), (1000 : Int)))) fun r1 =>
        bif !r1 then
          some false
        else
          spec_IsFlash.L2 N n1 N i (0 : Int) o00 o01
        else none
      else none
    else
      some true := by kernel_rfl
theorem spec_IsFlash.L1_zero (N : Nat) (i : Int) (o00 : List (List Int)) (o01 : List Int) : spec_IsFlash.L1 N 0 i o00 o01 = none := rfl
theorem spec_IsFlash.L2_eq (N : Nat) (n1 : Nat) (n2 : Nat) (i : Int) (k_ : Int) (o00 : List (List Int)) (o01 : List Int) : spec_IsFlash.L2 N n1 (n2 + 1) i k_ o00 o01 =
    bif inRange i (List.length o00) then
    bif decide (k_ < (List.length (nth ([] : List Int) o00 i) : Int)) then
      bif inRange i (List.length o00) then
      bif inRange k_ (List.length (nth ([] : List Int) o00 i)) then
      bindO (spec_l1In.F N (nth (0 : Int) (nth ([] : List Int) o00 i) k_, ((0 : Int), (65535 : Int)))) fun r2 =>
      bif !r2 then
        some false
      else
        spec_IsFlash.L2 N n1 n2 i (IntKind.wrap .i64 (k_ + (1 : Int))) o00 o01
      else none
      else none
    else
      spec_IsFlash.L1 N n1 (IntKind.wrap .i64 (i + (1 : Int))) o00 o01
    else none := by kernel_rfl
theorem spec_IsFlash.L2_zero (N : Nat) (n1 : Nat) (i : Int) (k_ : Int) (o00 : List (List Int)) (o01 : List Int) : spec_IsFlash.L2 N n1 0 i k_ o00 o01 = none := rfl
theorem spec_IsFlash.F_eq (N : Nat) (f : (List (List Int)) × List Int) : spec_IsFlash.F N f =
    bif (List.length f.1 : Int) != (2 : Int) then
      some false
    else
      bif (List.length f.2 : Int) != (2 : Int) then
        some false
      else
        spec_IsFlash.L1 N N (0 : Int) f.1 f.2 := by kernel_rfl

def impl_IsFlash.c1 : XCode := .seq (.region false [o2 49 (.bin .lss) 48 47]) (.seq (.cond (.slot 49) (.skip) (.exit 2)) (.seq (.block 3 (.seq (.region false [o2 50 (.indexAddr (.int .i64)) 46 48, o1 51 (.load false 1) 50, mv 5 51]) (.seq (.region false [mv 52 5, op 53 (.bin .lss) [.slot 52, .const (.one (.int .i64 (0 : Int)))], ⟨some 54, .move, [.slot 53], [], [], none, true⟩, ⟨some 55, .move, [.slot 5], [], [], some (54, false), false⟩, ⟨some 56, .bin .gtr, [.slot 55, .const (.one (.int .i64 (65535 : Int)))], [], [], some (54, false), false⟩, op 57 .pick [.slot 54, .const (.one (.bool true)), .slot 56]]) (.cond (.slot 57) (.seq (.region false [op 2 .move [.const (.one (.bool false))]]) (.ret)) (.skip))))) (.region false [op 58 (.bin .add) [.slot 48, .const (.one (.int .i64 (1 : Int)))], mv 48 58])))
def impl_IsFlash.c2 : XCode := .region false [op 59 (.bin .add) [.slot 16, .const (.one (.int .i64 (1 : Int)))], mv 16 59]
def impl_IsFlash.c3 : XCode := .seq (.region false [op 17 (.bin .lss) [.slot 16, .const (.one (.int .i64 (2 : Int)))]]) (.seq (.cond (.slot 17) (.skip) (.exit 0)) (.seq (.block 1 (.seq (.region false [mv 18 16, mv 3 18]) (.seq (.seq (.region false [o1 19 (.fieldAddr 0) 1, ow 20 (.load false 1) [.slot 19] [0] [], mv 21 3, o2 22 (.indexAddr (.list (.int .i64))) 20 21, o1 23 (.load false 1) 22, o1 24 .len 23, op 25 (.bin .neq) [.slot 24, .const (.one (.int .i64 (19 : Int)))], ⟨some 26, .move, [.slot 25], [], [], none, true⟩, ⟨some 27, .fieldAddr 1, [.slot 1], [], [], some (26, false), false⟩, ⟨some 28, .load false 1, [.slot 27], [0], [], some (26, false), false⟩, ⟨some 29, .move, [.slot 3], [], [], some (26, false), false⟩, ⟨some 30, .indexAddr (.int .i64), [.slot 28, .slot 29], [], [], some (26, false), false⟩, ⟨some 31, .load false 1, [.slot 30], [], [], some (26, false), false⟩, ⟨some 32, .bin .lss, [.slot 31, .const (.one (.int .i64 (0 : Int)))], [], [], some (26, false), false⟩, op 33 .pick [.slot 26, .const (.one (.bool true)), .slot 32], ⟨some 34, .move, [.slot 33], [], [], none, true⟩, ⟨some 35, .fieldAddr 1, [.slot 1], [], [], some (34, false), false⟩, ⟨some 36, .load false 1, [.slot 35], [0], [], some (34, false), false⟩, ⟨some 37, .move, [.slot 3], [], [], some (34, false), false⟩, ⟨some 38, .indexAddr (.int .i64), [.slot 36, .slot 37], [], [], some (34, false), false⟩, ⟨some 39, .load false 1, [.slot 38], [], [], some (34, false), false⟩, ⟨some 40, .bin .gtr, [.slot 39, .const (.one (.int .i64 (1000 : Int)))], [], [], some (34, false), false⟩, op 41 .pick [.slot 34, .const (.one (.bool true)), .slot 40]]) (.cond (.slot 41) (.seq (.region false [op 2 .move [.const (.one (.bool false))]]) (.ret)) (.skip))) (.seq (.region false [o1 42 (.fieldAddr 0) 1, ow 43 (.load false 1) [.slot 42] [0] [], mv 44 3, o2 45 (.indexAddr (.list (.int .i64))) 43 44, o1 46 (.load false 1) 45, o1 47 .len 46, op 48 .move [.const (.one (.int .i64 (0 : Int)))]]) (.block 2 (.loop [.keep [1, 16, 46, 47, 48], .norm] (impl_IsFlash.c1))))))) (impl_IsFlash.c2)))
def impl_IsFlash.c4 : XCode := .seq (.region false [op 2 .move [.const (.one (.bool true))]]) (.ret)
def impl_IsFlash.x : XFunc := { nslots := 60, nobj := 1, pars := [.val true 2], rowsIn := [none, none], rets := [.tmp 2 false 1], outs := [.imm], fresh := true, arg := .pair (.list (.list (.int .i64))) (.list (.int .i64)), ret := .bool, body := .seq (.region false [ow 1 (.box 0) [.slot 0] [0] [0], op 2 .move [.const (.one (.bool false))]]) (.seq (.seq (.region false [o1 6 (.fieldAddr 0) 1, ow 7 (.load false 1) [.slot 6] [0] [], o1 8 .len 7, op 9 (.bin .neq) [.slot 8, .const (.one (.int .i64 (2 : Int)))], ⟨some 10, .move, [.slot 9], [], [], none, true⟩, ⟨some 11, .fieldAddr 1, [.slot 1], [], [], some (10, false), false⟩, ⟨some 12, .load false 1, [.slot 11], [0], [], some (10, false), false⟩, ⟨some 13, .len, [.slot 12], [], [], some (10, false), false⟩, ⟨some 14, .bin .neq, [.slot 13, .const (.one (.int .i64 (2 : Int)))], [], [], some (10, false), false⟩, op 15 .pick [.slot 10, .const (.one (.bool true)), .slot 14]]) (.cond (.slot 15) (.seq (.region false [op 2 .move [.const (.one (.bool false))]]) (.ret)) (.skip))) (.seq (.seq (.region false [op 16 .move [.const (.one (.int .i64 (0 : Int)))]]) (.block 0 (.loop [.keep [1, 16], .norm] (impl_IsFlash.c3)))) (impl_IsFlash.c4))) }
def impl_IsFlash.env (_ : Nat) : Env := envOf (tbl [] noFS)
def impl_IsFlash.F (N : Nat) (x : (List (List Int)) × List Int) : Option Bool := XFunc.run impl_IsFlash.x (impl_IsFlash.env N) N x
def impl_IsFlash.fs (N : Nat) : FS := { arg := .pair (.list (.list (.int .i64))) (.list (.int .i64)), ret := .bool, fresh := true, F := impl_IsFlash.F N }
def impl_IsFlash.k2 (N : Nat) : Ex → S → Option Bool := seqK (fun s => XCode.runK (impl_IsFlash.env N) N (impl_IsFlash.c4) s (XFunc.endK impl_IsFlash.x)) (XFunc.endK impl_IsFlash.x)
def impl_IsFlash.k1 (N : Nat) : Ex → S → Option Bool := blockK 0 (impl_IsFlash.k2 N)
def impl_IsFlash.k6 (N : Nat) (n1 : Nat) : Ex → S → Option Bool := seqK (fun s => bindO (S.ghosts s [.keep [1, 16], .norm]) fun s1 => loopK [.keep [1, 16], .norm] (fun s k => XCode.runK (impl_IsFlash.env N) N impl_IsFlash.c3 s k) n1 s1 (impl_IsFlash.k1 N)) (impl_IsFlash.k1 N)
def impl_IsFlash.k5 (N : Nat) (n1 : Nat) : Ex → S → Option Bool := seqK (fun s => XCode.runK (impl_IsFlash.env N) N (impl_IsFlash.c2) s (impl_IsFlash.k6 N n1)) (impl_IsFlash.k6 N n1)
def impl_IsFlash.k4 (N : Nat) (n1 : Nat) : Ex → S → Option Bool := blockK 1 (impl_IsFlash.k5 N n1)
def impl_IsFlash.k3 (N : Nat) (n1 : Nat) : Ex → S → Option Bool := blockK 2 (impl_IsFlash.k4 N n1)
def impl_IsFlash.L1 (N : Nat) (n1 : Nat) (t16 : Int) (o00 : List (List Int)) (o01 : List Int) : Option Bool := loopK [.keep [1, 16], .norm] (fun s k => XCode.runK (impl_IsFlash.env N) N impl_IsFlash.c3 s k) n1
  { t := [.junk, .one (.ptr 0 0 0), .junk, .junk, .junk, .junk, .junk, .junk, .junk, .junk, .junk, .junk, .junk, .junk, .junk, .junk, .one (.int .i64 t16), .junk, .junk, .junk, .junk, .junk, .junk, .junk, .junk, .junk, .junk, .junk, .junk, .junk, .junk, .junk, .junk, .junk, .junk, .junk, .junk, .junk, .junk, .junk, .junk, .junk, .junk, .junk, .junk, .junk, .junk, .junk, .junk, .junk, .junk, .junk, .junk, .junk, .junk, .junk, .junk, .junk, .junk, .junk], h := [.box 0 false [.sl false (.list (.int .i64)) o00, .sl false (.int .i64) o01]] }
  (impl_IsFlash.k1 N)
def impl_IsFlash.L2 (N : Nat) (n1 : Nat) (n2 : Nat) (t16 : Int) (t46 : List Int) (t47 : Int) (t48 : Int) (o00 : List (List Int)) (o01 : List Int) : Option Bool := loopK [.keep [1, 16, 46, 47, 48], .norm] (fun s k => XCode.runK (impl_IsFlash.env N) N impl_IsFlash.c1 s k) n2
  { t := [.junk, .one (.ptr 0 0 0), .junk, .junk, .junk, .junk, .junk, .junk, .junk, .junk, .junk, .junk, .junk, .junk, .junk, .junk, .one (.int .i64 t16), .junk, .junk, .junk, .junk, .junk, .junk, .junk, .junk, .junk, .junk, .junk, .junk, .junk, .junk, .junk, .junk, .junk, .junk, .junk, .junk, .junk, .junk, .junk, .junk, .junk, .junk, .junk, .junk, .junk, .one (.sl false (.int .i64) t46), .one (.int .i64 t47), .one (.int .i64 t48), .junk, .junk, .junk, .junk, .junk, .junk, .junk, .junk, .junk, .junk, .junk], h := [.box 0 false [.sl false (.list (.int .i64)) o00, .sl false (.int .i64) o01]] }
  (impl_IsFlash.k3 N n1)

theorem impl_IsFlash.L1_eq (N : Nat) (n1 : Nat) (t16 : Int) (o00 : List (List Int)) (o01 : List Int) : impl_IsFlash.L1 N (n1 + 1) t16 o00 o01 =
    bif decide (t16 < (2 : Int)) then
      bif inRange t16 (List.length o00) then
      bif (List.length (nth ([] : List Int) o00 t16) : Int) != (19 : Int) then
        some false
      else
        bif inRange t16 (List.length o01) then
        bif decide ((nth (0 : Int) o01 t16) < (0 : Int)) then
          some false
        else
          bif inRange t16 (List.length o01) then
          bif decide ((nth (0 : Int) o01 t16) > (1000 : Int)) then
            some false
          else
            bif inRange t16 (List.length o00) then
            impl_IsFlash.L2 N n1 N t16 (nth ([] : List Int) o00 t16) (List.length (nth ([] : List Int) o00 t16) : Int) (0 : Int) o00 o01
            else none
          else none
        else none
      else none
    else
      some true := by kernel_rfl
theorem impl_IsFlash.L1_zero (N : Nat) (t16 : Int) (o00 : List (List Int)) (o01 : List Int) : impl_IsFlash.L1 N 0 t16 o00 o01 = none := rfl
theorem impl_IsFlash.L2_eq (N : Nat) (n1 : Nat) (n2 : Nat) (t16 : Int) (t46 : List Int) (t47 : Int) (t48 : Int) (o00 : List (List Int)) (o01 : List Int) : impl_IsFlash.L2 N n1 (n2 + 1) t16 t46 t47 t48 o00 o01 =
    bif decide (t48 < t47) then
      bif inRange t48 (List.length t46) then
      bif decide ((nth (0 : Int) t46 t48) < (0 : Int)) then
        some false
      else
        bif decide ((nth (0 : Int) t46 t48) > (65535 : Int)) then
          some false
        else
          impl_IsFlash.L2 N n1 n2 t16 t46 t47 (IntKind.wrap .i64 (t48 + (1 : Int))) o00 o01
      else none
    else
      impl_IsFlash.L1 N n1 (IntKind.wrap .i64 (t16 + (1 : Int))) o00 o01 := by kernel_rfl
theorem impl_IsFlash.L2_zero (N : Nat) (n1 : Nat) (t16 : Int) (t46 : List Int) (t47 : Int) (t48 : Int) (o00 : List (List Int)) (o01 : List Int) : impl_IsFlash.L2 N n1 0 t16 t46 t47 t48 o00 o01 = none := rfl
theorem impl_IsFlash.F_eq (N : Nat) (f : (List (List Int)) × List Int) : impl_IsFlash.F N f =
    bif (List.length f.1 : Int) != (2 : Int) then
      some false
    else
      bif (List.length f.2 : Int) != (2 : Int) then
        some false
      else
        impl_IsFlash.L1 N N (0 : Int) f.1 f.2 := by kernel_rfl

def laws_eqIntSS.c1 : XCode := .seq (.seq (.region false [mv 11 5, mv 12 0, o1 13 .len 12, o2 14 (.bin .lss) 11 13]) (.cond (.slot 14) (.skip) (.exit 0))) (.seq (.block 1 (.seq (.region true [mv 17 0, mv 18 5, o2 19 (.indexAddr (.list (.int .i64))) 17 18, o1 20 (.load false 1) 19, mv 21 1, mv 22 5, o2 23 (.indexAddr (.list (.int .i64))) 21 22, o1 24 (.load false 1) 23, o2 25 (.call ⟨239, vs 2, no 2, [.val false 1], ims 1, true⟩) 20 24, o1 26 .not 25]) (.cond (.slot 26) (.seq (.region false [op 4 .move [.const (.one (.bool false))]]) (.ret)) (.skip)))) (.region false [mv 15 5, op 16 (.bin .add) [.slot 15, .const (.one (.int .i64 (1 : Int)))], mv 5 16]))
def laws_eqIntSS.c2 : XCode := .seq (.region false [op 4 .move [.const (.one (.bool true))]]) (.ret)
def laws_eqIntSS.x : XFunc := { nslots := 27, nobj := 0, pars := [.val false 1, .val false 1], rowsIn := [none, none], rets := [.tmp 4 false 1], outs := [.imm], fresh := true, arg := .pair (.list (.list (.int .i64))) (.list (.list (.int .i64))), ret := .bool, body := .seq (.region false [op 4 .move [.const (.one (.bool false))]]) (.seq (.seq (.region false [mv 6 0, o1 7 .len 6, mv 8 1, o1 9 .len 8, o2 10 (.bin .neq) 7 9]) (.cond (.slot 10) (.seq (.region false [op 4 .move [.const (.one (.bool false))]]) (.ret)) (.skip))) (.seq (.seq (.region false [op 5 .move [.const (.one (.int .i64 (0 : Int)))]]) (.block 0 (.loop [.keep [0, 1, 5], .norm] (laws_eqIntSS.c1)))) (laws_eqIntSS.c2))) }
def laws_eqIntSS.env (N : Nat) : Env := envOf (tbl [(239, laws_eqIntS.fs N)] noFS)
def laws_eqIntSS.F (N : Nat) (x : (List (List Int)) × List (List Int)) : Option Bool := XFunc.run laws_eqIntSS.x (laws_eqIntSS.env N) N x
def laws_eqIntSS.fs (N : Nat) : FS := { arg := .pair (.list (.list (.int .i64))) (.list (.list (.int .i64))), ret := .bool, fresh := true, F := laws_eqIntSS.F N }
def laws_eqIntSS.k2 (N : Nat) : Ex → S → Option Bool := seqK (fun s => XCode.runK (laws_eqIntSS.env N) N (laws_eqIntSS.c2) s (XFunc.endK laws_eqIntSS.x)) (XFunc.endK laws_eqIntSS.x)
def laws_eqIntSS.k1 (N : Nat) : Ex → S → Option Bool := blockK 0 (laws_eqIntSS.k2 N)
def laws_eqIntSS.L1 (N : Nat) (n1 : Nat) (a : List (List Int)) (b : List (List Int)) (i : Int) : Option Bool := loopK [.keep [0, 1, 5], .norm] (fun s k => XCode.runK (laws_eqIntSS.env N) N laws_eqIntSS.c1 s k) n1
  { t := [.one (.sl false (.list (.int .i64)) a), .one (.sl false (.list (.int .i64)) b), .junk, .junk, .junk, .one (.int .i64 i), .junk, .junk, .junk, .junk, .junk, .junk, .junk, .junk, .junk, .junk, .junk, .junk, .junk, .junk, .junk, .junk, .junk, .junk, .junk, .junk, .junk], h := [] }
  (laws_eqIntSS.k1 N)

theorem laws_eqIntSS.L1_eq (N : Nat) (n1 : Nat) (a : List (List Int)) (b : List (List Int)) (i : Int) : laws_eqIntSS.L1 N (n1 + 1) a b i =
    bif decide (i < (List.length a : Int)) then
      bif inRange i (List.length a) then
      bif inRange i (List.length b) then
      bindO (laws_eqIntS.F N (nth ([] : List Int) a i, nth ([] : List Int) b i)) fun r1 =>
      bif !r1 then
        some false
      else
        laws_eqIntSS.L1 N n1 a b (IntKind.wrap .i64 (i + (1 : Int)))
      else none
      else none
    else
      some true := by kernel_rfl
theorem laws_eqIntSS.L1_zero (N : Nat) (a : List (List Int)) (b : List (List Int)) (i : Int) : laws_eqIntSS.L1 N 0 a b i = none := rfl
theorem laws_eqIntSS.F_eq (N : Nat) (a : List (List Int)) (b : List (List Int)) : laws_eqIntSS.F N (a, b) =
    bif (List.length a : Int) != (List.length b : Int) then
      some false
    else
      laws_eqIntSS.L1 N N a b (0 : Int) := by kernel_rfl

def laws_eqFlash.x : XFunc := { nslots := 17, nobj := 2, pars := [.val true 2, .val true 2], rowsIn := [none, none, none, none], rets := [.tmp 4 false 1], outs := [.imm], fresh := true, arg := .pair (.pair (.list (.list (.int .i64))) (.list (.int .i64))) (.pair (.list (.list (.int .i64))) (.list (.int .i64))), ret := .bool, body := .seq (.region false [ow 2 (.box 0) [.slot 0] [0] [0], ow 3 (.box 1) [.slot 1] [1] [1], op 4 .move [.const (.one (.bool false))]]) (.seq (.seq (.region false [o1 5 (.fieldAddr 0) 2, ow 6 (.load false 1) [.slot 5] [0] [], o1 7 (.fieldAddr 0) 3, ow 8 (.load false 1) [.slot 7] [1] [], o2 9 (.call ⟨240, vs 2, no 2, [.val false 1], ims 1, true⟩) 6 8, o1 10 .not 9]) (.cond (.slot 10) (.seq (.region false [op 4 .move [.const (.one (.bool false))]]) (.ret)) (.skip))) (.seq (.seq (.region false [o1 11 (.fieldAddr 1) 2, ow 12 (.load false 1) [.slot 11] [0] [], o1 13 (.fieldAddr 1) 3, ow 14 (.load false 1) [.slot 13] [1] [], o2 15 (.call ⟨239, vs 2, no 2, [.val false 1], ims 1, true⟩) 12 14, o1 16 .not 15]) (.cond (.slot 16) (.seq (.region false [op 4 .move [.const (.one (.bool false))]]) (.ret)) (.skip))) (.seq (.region false [op 4 .move [.const (.one (.bool true))]]) (.ret)))) }
def laws_eqFlash.env (N : Nat) : Env := envOf (tbl [(239, laws_eqIntS.fs N), (240, laws_eqIntSS.fs N)] noFS)
def laws_eqFlash.F (N : Nat) (x : ((List (List Int)) × List Int) × (List (List Int)) × List Int) : Option Bool := XFunc.run laws_eqFlash.x (laws_eqFlash.env N) N x
def laws_eqFlash.fs (N : Nat) : FS := { arg := .pair (.pair (.list (.list (.int .i64))) (.list (.int .i64))) (.pair (.list (.list (.int .i64))) (.list (.int .i64))), ret := .bool, fresh := true, F := laws_eqFlash.F N }

theorem laws_eqFlash.F_eq (N : Nat) (a : (List (List Int)) × List Int) (b : (List (List Int)) × List Int) : laws_eqFlash.F N (a, b) =
    bindO (laws_eqIntSS.F N (a.1, b.1)) fun r1 =>
    bif !r1 then
      some false
    else
      bindO (laws_eqIntS.F N (a.2, b.2)) fun r2 =>
      bif !r2 then
        some false
      else
        some true := by kernel_rfl

def laws_FnExactIsFlash.x : XFunc := { nslots := 27, nobj := 2, pars := [.val true 2], rowsIn := [none, none], rets := [.tmp 2 false 1], outs := [.imm], fresh := true, arg := .pair (.list (.list (.int .i64))) (.list (.int .i64)), ret := .bool, body := .seq (.region false [ow 1 (.box 0) [.slot 0] [0] [0], op 2 .move [.const (.one (.bool false))]]) (.seq (.region false [op 3 .move [.const (.one (.int .i64 (1048576 : Int)))]]) (.seq (.region false [ow 7 (.load true 2) [.slot 1] [0] [], mv 8 3, o2 9 (.call ⟨253, [.val true 2, .val false 1], no 3, [.val false 1], ims 1, true⟩) 7 8, mv 3 9]) (.seq (.seq (.region false [mv 10 3, op 11 (.bin .lss) [.slot 10, .const (.one (.int .i64 (0 : Int)))]]) (.cond (.slot 11) (.seq (.region false [op 2 .move [.const (.one (.bool true))]]) (.ret)) (.skip))) (.seq (.region false [ow 12 (.load true 2) [.slot 1] [0] [], o1 13 (.call ⟨256, [.val true 2], no 2, [.val true 2], ims 2, true⟩) 12, o1 14 (.call ⟨96, [.val true 2], no 2, [.val false 1], ims 1, true⟩) 13, mv 4 14]) (.seq (.region false [ow 15 (.load true 2) [.slot 1] [0] [], o1 16 (.call ⟨256, [.val true 2], no 2, [.val true 2], ims 2, true⟩) 15, ow 5 (.alloc 1 [.nil, .nil]) [] [1] [1], on (.store 2) [.slot 5, .slot 16] [1] [1]]) (.seq (.region false [ow 17 (.load true 2) [.slot 5] [1] [], o1 18 (.call ⟨108, [.val true 2], no 2, [.val false 1], ims 1, true⟩) 17, mv 6 18]) (.seq (.seq (.region false [mv 19 6, mv 20 4, o2 21 (.eqBool true) 19 20]) (.cond (.slot 21) (.seq (.region false [op 2 .move [.const (.one (.bool false))]]) (.ret)) (.skip))) (.seq (.seq (.region true [ow 22 (.load true 2) [.slot 5] [1] [], ow 23 (.load true 2) [.slot 1] [0] [], o1 24 (.call ⟨256, [.val true 2], no 2, [.val true 2], ims 2, true⟩) 23, o2 25 (.call ⟨241, [.val true 2, .val true 2], no 4, [.val false 1], ims 1, true⟩) 22 24, o1 26 .not 25]) (.cond (.slot 26) (.seq (.region false [op 2 .move [.const (.one (.bool false))]]) (.ret)) (.skip))) (.seq (.region false [op 2 .move [.const (.one (.bool true))]]) (.ret)))))))))) }
def laws_FnExactIsFlash.env (N : Nat) : Env := envOf (tbl [(108, impl_IsFlash.fs N), (241, laws_eqFlash.fs N), (253, laws_szFlash.fs N), (256, laws_toFlash.fs N), (96, spec_IsFlash.fs N)] noFS)
def laws_FnExactIsFlash.F (N : Nat) (x : (List (List Int)) × List Int) : Option Bool := XFunc.run laws_FnExactIsFlash.x (laws_FnExactIsFlash.env N) N x
def laws_FnExactIsFlash.fs (N : Nat) : FS := { arg := .pair (.list (.list (.int .i64))) (.list (.int .i64)), ret := .bool, fresh := true, F := laws_FnExactIsFlash.F N }

theorem laws_FnExactIsFlash.F_eq (N : Nat) (aF : (List (List Int)) × List Int) : laws_FnExactIsFlash.F N aF =
    bindO (laws_szFlash.F N (aF, (1048576 : Int))) fun r1 =>
    bif decide (r1 < (0 : Int)) then
      some true
    else
      bindO (laws_toFlash.F N aF) fun r2 =>
      bindO (spec_IsFlash.F N r2) fun r3 =>
      bindO (laws_toFlash.F N aF) fun r4 =>
      bindO (impl_IsFlash.F N r4) fun r5 =>
      bif r5 != r3 then
        some false
      else
        bindO (laws_toFlash.F N aF) fun r6 =>
        bindO (laws_eqFlash.F N (r4, r6)) fun r7 =>
        bif !r7 then
          some false
        else
          some true := by kernel_rfl

def laws_szReport.x : XFunc := { nslots := 12, nobj := 1, pars := [.val true 2, .val false 1], rowsIn := [none, none, none], rets := [.tmp 4 false 1], outs := [.imm], fresh := true, arg := .pair (.pair (.int .i64) (.list (.int .i64))) (.int .i64), ret := .int .i64, body := .seq (.region false [ow 2 (.box 0) [.slot 0] [0] [0], op 4 .move [.const (.one (.int .i64 (0 : Int)))]]) (.seq (.region false [o1 5 (.fieldAddr 1) 2, ow 6 (.load false 1) [.slot 5] [0] [], mv 7 1, o2 8 (.call ⟨251, vs 2, no 2, [.val false 1], ims 1, true⟩) 6 7, mv 1 8]) (.seq (.seq (.region false [mv 9 1, op 10 (.bin .lss) [.slot 9, .const (.one (.int .i64 (0 : Int)))]]) (.cond (.slot 10) (.seq (.region false [op 4 .move [.const (.one (.int .i64 (-1 : Int)))]]) (.ret)) (.skip))) (.seq (.region false [mv 11 1, mv 4 11]) (.ret)))) }
def laws_szReport.env (N : Nat) : Env := envOf (tbl [(251, laws_szIntS.fs N)] noFS)
def laws_szReport.F (N : Nat) (x : (Int × List Int) × Int) : Option Int := XFunc.run laws_szReport.x (laws_szReport.env N) N x
def laws_szReport.fs (N : Nat) : FS := { arg := .pair (.pair (.int .i64) (.list (.int .i64))) (.int .i64), ret := .int .i64, fresh := true, F := laws_szReport.F N }

theorem laws_szReport.F_eq (N : Nat) (a : Int × List Int) (left : Int) : laws_szReport.F N (a, left) =
    bindO (laws_szIntS.F N (a.2, left)) fun r1 =>
    bif decide (r1 < (0 : Int)) then
      some (-1 : Int)
    else
      some r1 := by kernel_rfl

def laws_toReport.x : XFunc := { nslots := 12, nobj := 4, pars := [.val true 2], rowsIn := [none, none], rets := [.var 2 true 2], outs := [.imm, .own 2], fresh := true, arg := .pair (.int .i64) (.list (.int .i64)), ret := .pair (.int .i64) (.list (.int .i64)), body := .seq (.region false [ow 1 (.box 0) [.slot 0] [0] [0], ow 2 (.alloc 1 [.int .i64 (0 : Int), .nil]) [] [1] [1]]) (.seq (.region false [ow 3 (.alloc 2 [.int .i64 (0 : Int), .nil]) [] [2] [2]]) (.seq (.region false [o1 4 (.fieldAddr 0) 1, ow 5 (.load false 1) [.slot 4] [0] [], o1 6 (.fieldAddr 0) 3, on (.store 1) [.slot 6, .slot 5] [2] [2]]) (.seq (.region false [o1 7 (.fieldAddr 1) 1, ow 8 (.load false 1) [.slot 7] [0] [], ow 9 (.call ⟨254, vs 1, no 1, [.val false 1], [.own 3 2], true⟩) [.slot 8] [3] [3], o1 10 (.fieldAddr 1) 3, on (.store 1) [.slot 10, .slot 9] [2] [2]]) (.seq (.region false [ow 11 (.load true 2) [.slot 3] [2] [], on (.store 2) [.slot 2, .slot 11] [1] [1]]) (.ret))))) }
def laws_toReport.env (N : Nat) : Env := envOf (tbl [(254, laws_toIntS.fs N)] noFS)
def laws_toReport.F (N : Nat) (x : Int × List Int) : Option (Int × List Int) := XFunc.run laws_toReport.x (laws_toReport.env N) N x
def laws_toReport.fs (N : Nat) : FS := { arg := .pair (.int .i64) (.list (.int .i64)), ret := .pair (.int .i64) (.list (.int .i64)), fresh := true, F := laws_toReport.F N }

theorem laws_toReport.F_eq (N : Nat) (a : Int × List Int) : laws_toReport.F N a =
    bindO (laws_toIntS.F N a.2) fun r1 =>
    some (a.1, r1) := by kernel_rfl

def spec_IsReport.c1 : XCode := .seq (.seq (.region false [mv 4 3, o1 5 (.fieldAddr 1) 1, ow 6 (.load false 1) [.slot 5] [0] [], o1 7 .len 6, o2 8 (.bin .lss) 4 7]) (.cond (.slot 8) (.skip) (.exit 0))) (.seq (.block 1 (.seq (.region true [o1 11 (.fieldAddr 1) 1, ow 12 (.load false 1) [.slot 11] [0] [], mv 13 3, o2 14 (.indexAddr (.int .i64)) 12 13, o1 15 (.load false 1) 14, op 16 (.call ⟨1, vs 3, no 3, [.val false 1], ims 1, true⟩) [.slot 15, .const (.one (.int .i64 (1 : Int))), .const (.one (.int .i64 (56 : Int)))], o1 17 .not 16, ⟨some 18, .move, [.slot 17], [], [], none, true⟩, ⟨some 19, .move, [.slot 3], [], [], some (18, false), false⟩, ⟨some 20, .bin .gtr, [.slot 19, .const (.one (.int .i64 (0 : Int)))], [], [], some (18, false), false⟩, ⟨some 21, .move, [.slot 20], [], [], some (18, false), true⟩, ⟨some 22, .fieldAddr 1, [.slot 1], [], [], some (21, true), false⟩, ⟨some 23, .load false 1, [.slot 22], [0], [], some (21, true), false⟩, ⟨some 24, .move, [.slot 3], [], [], some (21, true), false⟩, ⟨some 25, .bin .sub, [.slot 24, .const (.one (.int .i64 (1 : Int)))], [], [], some (21, true), false⟩, ⟨some 26, .indexAddr (.int .i64), [.slot 23, .slot 25], [], [], some (21, true), false⟩, ⟨some 27, .load false 1, [.slot 26], [], [], some (21, true), false⟩, ⟨some 28, .fieldAddr 1, [.slot 1], [], [], some (21, true), false⟩, ⟨some 29, .load false 1, [.slot 28], [0], [], some (21, true), false⟩, ⟨some 30, .move, [.slot 3], [], [], some (21, true), false⟩, ⟨some 31, .indexAddr (.int .i64), [.slot 29, .slot 30], [], [], some (21, true), false⟩, ⟨some 32, .load false 1, [.slot 31], [], [], some (21, true), false⟩, ⟨some 33, .bin .geq, [.slot 27, .slot 32], [], [], some (21, true), false⟩, ⟨some 34, .pick, [.slot 21, .slot 33, .const (.one (.bool false))], [], [], some (18, false), false⟩, op 35 .pick [.slot 18, .const (.one (.bool true)), .slot 34]]) (.cond (.slot 35) (.seq (.region false [op 2 .move [.const (.one (.bool false))]]) (.ret)) (.skip)))) (.region false [mv 9 3, op 10 (.bin .add) [.slot 9, .const (.one (.int .i64 (1 : Int)))], mv 3 10]))
def spec_IsReport.c2 : XCode := .seq (.region false [o1 36 (.fieldAddr 0) 1, ow 37 (.load false 1) [.slot 36] [0] [], op 38 (.call ⟨1, vs 3, no 3, [.val false 1], ims 1, true⟩) [.slot 37, .const (.one (.int .i64 (0 : Int))), .const (.one (.int .i64 (15 : Int)))], mv 2 38]) (.ret)
def spec_IsReport.x : XFunc := { nslots := 39, nobj := 1, pars := [.val true 2], rowsIn := [none, none], rets := [.tmp 2 false 1], outs := [.imm], fresh := true, arg := .pair (.int .i64) (.list (.int .i64)), ret := .bool, body := .seq (.region false [ow 1 (.box 0) [.slot 0] [0] [0], op 2 .move [.const (.one (.bool false))]]) (.seq (.seq (.region false [op 3 .move [.const (.one (.int .i64 (0 : Int)))]]) (.block 0 (.loop [.keep [1, 3], .norm] (spec_IsReport.c1)))) (spec_IsReport.c2)) }
def spec_IsReport.env (N : Nat) : Env := envOf (tbl [(1, spec_l1In.fs N)] noFS)
def spec_IsReport.F (N : Nat) (x : Int × List Int) : Option Bool := XFunc.run spec_IsReport.x (spec_IsReport.env N) N x
def spec_IsReport.fs (N : Nat) : FS := { arg := .pair (.int .i64) (.list (.int .i64)), ret := .bool, fresh := true, F := spec_IsReport.F N }
def spec_IsReport.k2 (N : Nat) : Ex → S → Option Bool := seqK (fun s => XCode.runK (spec_IsReport.env N) N (spec_IsReport.c2) s (XFunc.endK spec_IsReport.x)) (XFunc.endK spec_IsReport.x)
def spec_IsReport.k1 (N : Nat) : Ex → S → Option Bool := blockK 0 (spec_IsReport.k2 N)
def spec_IsReport.L1 (N : Nat) (n1 : Nat) (i : Int) (o00 : Int) (o01 : List Int) : Option Bool := loopK [.keep [1, 3], .norm] (fun s k => XCode.runK (spec_IsReport.env N) N spec_IsReport.c1 s k) n1
  { t := [.junk, .one (.ptr 0 0 0), .junk, .one (.int .i64 i), .junk, .junk, .junk, .junk, .junk, .junk, .junk, .junk, .junk, .junk, .junk, .junk, .junk, .junk, .junk, .junk, .junk, .junk, .junk, .junk, .junk, .junk, .junk, .junk, .junk, .junk, .junk, .junk, .junk, .junk, .junk, .junk, .junk, .junk, .junk], h := [.box 0 false [.int .i64 o00, .sl false (.int .i64) o01]] }
  (spec_IsReport.k1 N)

theorem spec_IsReport.L1_eq (N : Nat) (n1 : Nat) (i : Int) (o00 : Int) (o01 : List Int) : spec_IsReport.L1 N (n1 + 1) i o00 o01 =
    bif decide (i < (List.length o01 : Int)) then
      bif inRange i (List.length o01) then
      bindO (spec_l1In.F N (nth (0 : Int) o01 i, ((1 : Int), (56 : Int)))) fun r1 =>
      bif !r1 then
        some false
      else
        bif decide (i > (0 : Int)) then
          bif inRange (IntKind.wrap .i64 (i - (1 : Int))) (List.length o01) then
          bif inRange i (List.length o01) then
          bif decide ((nth (0 : Int) o01 (IntKind.wrap .i64 (i - (1 : Int)))) ≥ (nth (0 : Int) o01 i)) then
            some false
          else
            spec_IsReport.L1 N n1 (IntKind.wrap .i64 (i + (1 : Int))) o00 o01
          else none
          else none
        else
          spec_IsReport.L1 N n1 (IntKind.wrap .i64 (i + (1 : Int))) o00 o01
      else none
    else
      bindO (spec_l1In.F N (o00, ((0 : Int), (15 : Int)))) fun r2 =>
      some r2 := by kernel_rfl
theorem spec_IsReport.L1_zero (N : Nat) (i : Int) (o00 : Int) (o01 : List Int) : spec_IsReport.L1 N 0 i o00 o01 = none := rfl
theorem spec_IsReport.F_eq (N : Nat) (r_ : Int × List Int) : spec_IsReport.F N r_ =
    spec_IsReport.L1 N N (0 : Int) r_.1 r_.2 := by kernel_rfl

def spec_l12Has.c1 : XCode := .seq (.seq (.region false [mv 6 5, mv 7 0, o1 8 .len 7, o2 9 (.bin .lss) 6 8]) (.cond (.slot 9) (.skip) (.exit 0))) (.seq (.block 1 (.seq (.region false [mv 12 0, mv 13 5, o2 14 (.indexAddr (.int .i64)) 12 13, o1 15 (.load false 1) 14, mv 16 1, o2 17 (.bin .eql) 15 16]) (.cond (.slot 17) (.seq (.region false [op 4 .move [.const (.one (.bool true))]]) (.ret)) (.skip)))) (.region false [mv 10 5, op 11 (.bin .add) [.slot 10, .const (.one (.int .i64 (1 : Int)))], mv 5 11]))
def spec_l12Has.c2 : XCode := .seq (.region false [op 4 .move [.const (.one (.bool false))]]) (.ret)
def spec_l12Has.x : XFunc := { nslots := 18, nobj := 0, pars := [.val false 1, .val false 1], rowsIn := [none, none], rets := [.tmp 4 false 1], outs := [.imm], fresh := true, arg := .pair (.list (.int .i64)) (.int .i64), ret := .bool, body := .seq (.region false [op 4 .move [.const (.one (.bool false))]]) (.seq (.seq (.region false [op 5 .move [.const (.one (.int .i64 (0 : Int)))]]) (.block 0 (.loop [.keep [0, 1, 5], .norm] (spec_l12Has.c1)))) (spec_l12Has.c2)) }
def spec_l12Has.env (_ : Nat) : Env := envOf (tbl [] noFS)
def spec_l12Has.F (N : Nat) (x : (List Int) × Int) : Option Bool := XFunc.run spec_l12Has.x (spec_l12Has.env N) N x
def spec_l12Has.fs (N : Nat) : FS := { arg := .pair (.list (.int .i64)) (.int .i64), ret := .bool, fresh := true, F := spec_l12Has.F N }
def spec_l12Has.k2 (N : Nat) : Ex → S → Option Bool := seqK (fun s => XCode.runK (spec_l12Has.env N) N (spec_l12Has.c2) s (XFunc.endK spec_l12Has.x)) (XFunc.endK spec_l12Has.x)
def spec_l12Has.k1 (N : Nat) : Ex → S → Option Bool := blockK 0 (spec_l12Has.k2 N)
def spec_l12Has.L1 (N : Nat) (n1 : Nat) (l_ : List Int) (n_ : Int) (i : Int) : Option Bool := loopK [.keep [0, 1, 5], .norm] (fun s k => XCode.runK (spec_l12Has.env N) N spec_l12Has.c1 s k) n1
  { t := [.one (.sl false (.int .i64) l_), .one (.int .i64 n_), .junk, .junk, .junk, .one (.int .i64 i), .junk, .junk, .junk, .junk, .junk, .junk, .junk, .junk, .junk, .junk, .junk, .junk], h := [] }
  (spec_l12Has.k1 N)

theorem spec_l12Has.L1_eq (N : Nat) (n1 : Nat) (l_ : List Int) (n_ : Int) (i : Int) : spec_l12Has.L1 N (n1 + 1) l_ n_ i =
    bif decide (i < (List.length l_ : Int)) then
      bif inRange i (List.length l_) then
      bif (nth (0 : Int) l_ i) == n_ then
        some true
      else
        spec_l12Has.L1 N n1 l_ n_ (IntKind.wrap .i64 (i + (1 : Int)))
      else none
    else
      some false := by kernel_rfl
theorem spec_l12Has.L1_zero (N : Nat) (l_ : List Int) (n_ : Int) (i : Int) : spec_l12Has.L1 N 0 l_ n_ i = none := rfl
theorem spec_l12Has.F_eq (N : Nat) (l_ : List Int) (n_ : Int) : spec_l12Has.F N (l_, n_) =
    spec_l12Has.L1 N N l_ n_ (0 : Int) := by kernel_rfl

def spec_NewKeys.c1 : XCode := .seq (.seq (.region false [mv 8 6, o1 9 (.fieldAddr 1) 3, ow 10 (.load false 1) [.slot 9] [1] [], o1 11 .len 10, o2 12 (.bin .lss) 8 11, ⟨some 13, .move, [.slot 12], [], [], none, true⟩, ⟨some 14, .load true 2, [.slot 2], [0], [], some (13, true), false⟩, ⟨some 15, .call ⟨260, [.val true 2], no 2, [.val false 1], ims 1, true⟩, [.slot 14], [], [], some (13, true), false⟩, op 16 .pick [.slot 13, .slot 15, .const (.one (.bool false))], ⟨some 17, .move, [.slot 16], [], [], none, true⟩, ⟨some 18, .load true 2, [.slot 3], [1], [], some (17, true), false⟩, ⟨some 19, .call ⟨260, [.val true 2], no 2, [.val false 1], ims 1, true⟩, [.slot 18], [], [], some (17, true), false⟩, op 20 .pick [.slot 17, .slot 19, .const (.one (.bool false))]]) (.cond (.slot 20) (.skip) (.exit 0))) (.seq (.block 1 (.seq (.region true [o1 23 (.fieldAddr 1) 2, ow 24 (.load false 1) [.slot 23] [0] [], o1 25 (.fieldAddr 1) 3, ow 26 (.load false 1) [.slot 25] [1] [], mv 27 6, o2 28 (.indexAddr (.int .i64)) 26 27, o1 29 (.load false 1) 28, o2 30 (.call ⟨261, vs 2, no 2, [.val false 1], ims 1, true⟩) 24 29, o1 31 .not 30]) (.cond (.slot 31) (.region false [mv 32 5, o1 33 (.fieldAddr 1) 3, ow 34 (.load false 1) [.slot 33] [1] [], mv 35 6, o2 36 (.indexAddr (.int .i64)) 34 35, o1 37 (.load false 1) 36, ow 38 (.buildSlice false 3 2 (.int .i64) 1 [(0, 1)] [.int .i64 (0 : Int)]) [.slot 37] [3] [3], ow 39 (.append false 2 2 (.int .i64)) [.slot 32, .slot 38] [2, 3] [2], mv 5 39]) (.skip)))) (.region false [mv 21 6, op 22 (.bin .add) [.slot 21, .const (.one (.int .i64 (1 : Int)))], mv 6 22]))
def spec_NewKeys.c2 : XCode := .seq (.region false [mv 40 5, mv 4 40]) (.ret)
def spec_NewKeys.x : XFunc := { nslots := 41, nobj := 4, pars := [.val true 2, .val true 2], rowsIn := [none, none, none, none], rets := [.tmp 4 false 1], outs := [.own 2], fresh := true, arg := .pair (.pair (.int .i64) (.list (.int .i64))) (.pair (.int .i64) (.list (.int .i64))), ret := .list (.int .i64), body := .seq (.region false [ow 2 (.box 0) [.slot 0] [0] [0], ow 3 (.box 1) [.slot 1] [1] [1], op 4 .move [.const (.one (.nil))]]) (.seq (.region false [ow 7 (.buildSlice false 2 2 (.int .i64) 0 [] [.int .i64 (0 : Int)]) [] [2] [2], mv 5 7]) (.seq (.seq (.region false [op 6 .move [.const (.one (.int .i64 (0 : Int)))]]) (.block 0 (.loop [.keep [2, 3, 5, 6], .drop 3, .norm] (spec_NewKeys.c1)))) (spec_NewKeys.c2))) }
def spec_NewKeys.env (N : Nat) : Env := envOf (tbl [(260, spec_IsReport.fs N), (261, spec_l12Has.fs N)] noFS)
def spec_NewKeys.F (N : Nat) (x : (Int × List Int) × Int × List Int) : Option (List Int) := XFunc.run spec_NewKeys.x (spec_NewKeys.env N) N x
def spec_NewKeys.fs (N : Nat) : FS := { arg := .pair (.pair (.int .i64) (.list (.int .i64))) (.pair (.int .i64) (.list (.int .i64))), ret := .list (.int .i64), fresh := true, F := spec_NewKeys.F N }
def spec_NewKeys.k2 (N : Nat) : Ex → S → Option (List Int) := seqK (fun s => XCode.runK (spec_NewKeys.env N) N (spec_NewKeys.c2) s (XFunc.endK spec_NewKeys.x)) (XFunc.endK spec_NewKeys.x)
def spec_NewKeys.k1 (N : Nat) : Ex → S → Option (List Int) := blockK 0 (spec_NewKeys.k2 N)
def spec_NewKeys.L1 (N : Nat) (n1 : Nat) (i : Int) (o00 : Int) (o01 : List Int) (o10 : Int) (o11 : List Int) (o2 : List Int) : Option (List Int) := loopK [.keep [2, 3, 5, 6], .drop 3, .norm] (fun s k => XCode.runK (spec_NewKeys.env N) N spec_NewKeys.c1 s k) n1
  { t := [.junk, .junk, .one (.ptr 0 0 0), .one (.ptr 1 0 0), .junk, .one (.ref 2 0 .all), .one (.int .i64 i), .junk, .junk, .junk, .junk, .junk, .junk, .junk, .junk, .junk, .junk, .junk, .junk, .junk, .junk, .junk, .junk, .junk, .junk, .junk, .junk, .junk, .junk, .junk, .junk, .junk, .junk, .junk, .junk, .junk, .junk, .junk, .junk, .junk, .junk], h := [.box 0 false [.int .i64 o00, .sl false (.int .i64) o01], .box 0 false [.int .i64 o10, .sl false (.int .i64) o11], .row 0 false true 2 (.int .i64) o2, .absent 0] }
  (spec_NewKeys.k1 N)

theorem spec_NewKeys.L1_eq (N : Nat) (n1 : Nat) (i : Int) (o00 : Int) (o01 : List Int) (o10 : Int) (o11 : List Int) (o2 : List Int) : spec_NewKeys.L1 N (n1 + 1) i o00 o01 o10 o11 o2 =
    bif decide (i < (List.length o11 : Int)) then
      bindO (spec_IsReport.F N (o00, o01)) fun r1 =>
      bif r1 then
        bindO (spec_IsReport.F N (o10, o11)) fun r2 =>
        bif r2 then
          bif inRange i (List.length o11) then
          bindO (spec_l12Has.F N (o01, nth (0 : Int) o11 i)) fun r3 =>
          bif !r3 then
            bif inRange i (List.length o11) then
            bif decide (List.length o2 + List.length ([nth (0 : Int) o11 i] : List Int) ≤ maxN) then
            spec_NewKeys.L1 N n1 (IntKind.wrap .i64 (i + (1 : Int))) o00 o01 o10 o11 (o2 ++ ([nth (0 : Int) o11 i] : List Int))
            else none
            else none
          else
            spec_NewKeys.L1 N n1 (IntKind.wrap .i64 (i + (1 : Int))) o00 o01 o10 o11 o2
          else none
        else
          some o2
      else
        some o2
    else
      some o2 := by kernel_rfl
theorem spec_NewKeys.L1_zero (N : Nat) (i : Int) (o00 : Int) (o01 : List Int) (o10 : Int) (o11 : List Int) (o2 : List Int) : spec_NewKeys.L1 N 0 i o00 o01 o10 o11 o2 = none := rfl
theorem spec_NewKeys.F_eq (N : Nat) (last : Int × List Int) (r_ : Int × List Int) : spec_NewKeys.F N (last, r_) =
    spec_NewKeys.L1 N N (0 : Int) last.1 last.2 r_.1 r_.2 ([] : List Int) := by kernel_rfl

def impl_isCode.x : XFunc := { nslots := 9, nobj := 0, pars := [.val false 1], rowsIn := [none], rets := [.tmp 2 false 1], outs := [.imm], fresh := true, arg := .int .i64, ret := .bool, body := .seq (.region false [op 2 .move [.const (.one (.bool false))]]) (.seq (.region false [mv 3 0, op 4 (.bin .geq) [.slot 3, .const (.one (.int .i64 (1 : Int)))], ⟨some 5, .move, [.slot 4], [], [], none, true⟩, ⟨some 6, .move, [.slot 0], [], [], some (5, true), false⟩, ⟨some 7, .bin .leq, [.slot 6, .const (.one (.int .i64 (56 : Int)))], [], [], some (5, true), false⟩, op 8 .pick [.slot 5, .slot 7, .const (.one (.bool false))], mv 2 8]) (.ret)) }
def impl_isCode.env (_ : Nat) : Env := envOf (tbl [] noFS)
def impl_isCode.F (N : Nat) (x : Int) : Option Bool := XFunc.run impl_isCode.x (impl_isCode.env N) N x
def impl_isCode.fs (N : Nat) : FS := { arg := .int .i64, ret := .bool, fresh := true, F := impl_isCode.F N }

theorem impl_isCode.F_eq (N : Nat) (n_ : Int) : impl_isCode.F N n_ =
    bif decide (n_ ≥ (1 : Int)) then
      some (decide (n_ ≤ (56 : Int)))
    else
      some false := by kernel_rfl

def impl_IsReport.c1 : XCode := .seq (.region false [o2 17 (.bin .lss) 16 15]) (.seq (.cond (.slot 17) (.skip) (.exit 0)) (.seq (.block 1 (.seq (.region false [mv 18 16, o2 19 (.indexAddr (.int .i64)) 14 16, o1 20 (.load false 1) 19, mv 3 18, mv 4 20]) (.seq (.region false [mv 21 4, o1 22 (.call ⟨153, vs 1, no 1, [.val false 1], ims 1, true⟩) 21, o1 23 .not 22, ⟨some 24, .move, [.slot 23], [], [], none, true⟩, ⟨some 25, .move, [.slot 3], [], [], some (24, false), false⟩, ⟨some 26, .bin .gtr, [.slot 25, .const (.one (.int .i64 (0 : Int)))], [], [], some (24, false), false⟩, ⟨some 27, .move, [.slot 26], [], [], some (24, false), true⟩, ⟨some 28, .fieldAddr 1, [.slot 1], [], [], some (27, true), false⟩, ⟨some 29, .load false 1, [.slot 28], [0], [], some (27, true), false⟩, ⟨some 30, .move, [.slot 3], [], [], some (27, true), false⟩, ⟨some 31, .bin .sub, [.slot 30, .const (.one (.int .i64 (1 : Int)))], [], [], some (27, true), false⟩, ⟨some 32, .indexAddr (.int .i64), [.slot 29, .slot 31], [], [], some (27, true), false⟩, ⟨some 33, .load false 1, [.slot 32], [], [], some (27, true), false⟩, ⟨some 34, .move, [.slot 4], [], [], some (27, true), false⟩, ⟨some 35, .bin .geq, [.slot 33, .slot 34], [], [], some (27, true), false⟩, ⟨some 36, .pick, [.slot 27, .slot 35, .const (.one (.bool false))], [], [], some (24, false), false⟩, op 37 .pick [.slot 24, .const (.one (.bool true)), .slot 36]]) (.cond (.slot 37) (.seq (.region false [op 2 .move [.const (.one (.bool false))]]) (.ret)) (.skip))))) (.region false [op 38 (.bin .add) [.slot 16, .const (.one (.int .i64 (1 : Int)))], mv 16 38])))
def impl_IsReport.c2 : XCode := .seq (.region false [op 2 .move [.const (.one (.bool true))]]) (.ret)
def impl_IsReport.x : XFunc := { nslots := 39, nobj := 1, pars := [.val true 2], rowsIn := [none, none], rets := [.tmp 2 false 1], outs := [.imm], fresh := true, arg := .pair (.int .i64) (.list (.int .i64)), ret := .bool, body := .seq (.region false [ow 1 (.box 0) [.slot 0] [0] [0], op 2 .move [.const (.one (.bool false))]]) (.seq (.seq (.region false [o1 5 (.fieldAddr 0) 1, ow 6 (.load false 1) [.slot 5] [0] [], op 7 (.bin .lss) [.slot 6, .const (.one (.int .i64 (0 : Int)))], ⟨some 8, .move, [.slot 7], [], [], none, true⟩, ⟨some 9, .fieldAddr 0, [.slot 1], [], [], some (8, false), false⟩, ⟨some 10, .load false 1, [.slot 9], [0], [], some (8, false), false⟩, ⟨some 11, .bin .gtr, [.slot 10, .const (.one (.int .i64 (15 : Int)))], [], [], some (8, false), false⟩, op 12 .pick [.slot 8, .const (.one (.bool true)), .slot 11]]) (.cond (.slot 12) (.seq (.region false [op 2 .move [.const (.one (.bool false))]]) (.ret)) (.skip))) (.seq (.seq (.region false [o1 13 (.fieldAddr 1) 1, ow 14 (.load false 1) [.slot 13] [0] [], o1 15 .len 14, op 16 .move [.const (.one (.int .i64 (0 : Int)))]]) (.block 0 (.loop [.keep [1, 14, 15, 16], .norm] (impl_IsReport.c1)))) (impl_IsReport.c2))) }
def impl_IsReport.env (N : Nat) : Env := envOf (tbl [(153, impl_isCode.fs N)] noFS)
def impl_IsReport.F (N : Nat) (x : Int × List Int) : Option Bool := XFunc.run impl_IsReport.x (impl_IsReport.env N) N x
def impl_IsReport.fs (N : Nat) : FS := { arg := .pair (.int .i64) (.list (.int .i64)), ret := .bool, fresh := true, F := impl_IsReport.F N }
def impl_IsReport.k2 (N : Nat) : Ex → S → Option Bool := seqK (fun s => XCode.runK (impl_IsReport.env N) N (impl_IsReport.c2) s (XFunc.endK impl_IsReport.x)) (XFunc.endK impl_IsReport.x)
def impl_IsReport.k1 (N : Nat) : Ex → S → Option Bool := blockK 0 (impl_IsReport.k2 N)
def impl_IsReport.L1 (N : Nat) (n1 : Nat) (t14 : List Int) (t15 : Int) (t16 : Int) (o00 : Int) (o01 : List Int) : Option Bool := loopK [.keep [1, 14, 15, 16], .norm] (fun s k => XCode.runK (impl_IsReport.env N) N impl_IsReport.c1 s k) n1
  { t := [.junk, .one (.ptr 0 0 0), .junk, .junk, .junk, .junk, .junk, .junk, .junk, .junk, .junk, .junk, .junk, .junk, .one (.sl false (.int .i64) t14), .one (.int .i64 t15), .one (.int .i64 t16), .junk, .junk, .junk, .junk, .junk, .junk, .junk, .junk, .junk, .junk, .junk, .junk, .junk, .junk, .junk, .junk, .junk, .junk, .junk, .junk, .junk, .junk], h := [.box 0 false [.int .i64 o00, .sl false (.int .i64) o01]] }
  (impl_IsReport.k1 N)

theorem impl_IsReport.L1_eq (N : Nat) (n1 : Nat) (t14 : List Int) (t15 : Int) (t16 : Int) (o00 : Int) (o01 : List Int) : impl_IsReport.L1 N (n1 + 1) t14 t15 t16 o00 o01 =
    bif decide (t16 < t15) then
      bif inRange t16 (List.length t14) then
      bindO (impl_isCode.F N (nth (0 : Int) t14 t16)) fun r1 =>
      bif !r1 then
        some false
      else
        bif decide (t16 > (0 : Int)) then
          bif inRange (IntKind.wrap .i64 (t16 - (1 : Int))) (List.length o01) then
          bif decide ((nth (0 : Int) o01 (IntKind.wrap .i64 (t16 - (1 : Int)))) ≥ (nth (0 : Int) t14 t16)) then
            some false
          else
            impl_IsReport.L1 N n1 t14 t15 (IntKind.wrap .i64 (t16 + (1 : Int))) o00 o01
          else none
        else
          impl_IsReport.L1 N n1 t14 t15 (IntKind.wrap .i64 (t16 + (1 : Int))) o00 o01
      else none
    else
      some true := by kernel_rfl
theorem impl_IsReport.L1_zero (N : Nat) (t14 : List Int) (t15 : Int) (t16 : Int) (o00 : Int) (o01 : List Int) : impl_IsReport.L1 N 0 t14 t15 t16 o00 o01 = none := rfl
theorem impl_IsReport.F_eq (N : Nat) (r_ : Int × List Int) : impl_IsReport.F N r_ =
    bif decide (r_.1 < (0 : Int)) then
      some false
    else
      bif decide (r_.1 > (15 : Int)) then
        some false
      else
        impl_IsReport.L1 N N r_.2 (List.length r_.2 : Int) (0 : Int) r_.1 r_.2 := by kernel_rfl

def impl_hasInt.c1 : XCode := .seq (.region false [o2 10 (.bin .lss) 9 8]) (.seq (.cond (.slot 10) (.skip) (.exit 0)) (.seq (.block 1 (.seq (.region false [o2 11 (.indexAddr (.int .i64)) 7 9, o1 12 (.load false 1) 11, mv 6 12]) (.seq (.region false [mv 13 6, mv 14 1, o2 15 (.bin .eql) 13 14]) (.cond (.slot 15) (.seq (.region false [op 4 .move [.const (.one (.bool true))]]) (.ret)) (.skip))))) (.region false [op 16 (.bin .add) [.slot 9, .const (.one (.int .i64 (1 : Int)))], mv 9 16])))
def impl_hasInt.c2 : XCode := .seq (.region false [op 4 .move [.const (.one (.bool false))]]) (.ret)
def impl_hasInt.x : XFunc := { nslots := 17, nobj := 0, pars := [.val false 1, .val false 1], rowsIn := [none, none], rets := [.tmp 4 false 1], outs := [.imm], fresh := true, arg := .pair (.list (.int .i64)) (.int .i64), ret := .bool, body := .seq (.region false [op 4 .move [.const (.one (.bool false))]]) (.seq (.seq (.region false [mv 7 0, o1 8 .len 7, op 9 .move [.const (.one (.int .i64 (0 : Int)))]]) (.block 0 (.loop [.keep [1, 7, 8, 9], .norm] (impl_hasInt.c1)))) (impl_hasInt.c2)) }
def impl_hasInt.env (_ : Nat) : Env := envOf (tbl [] noFS)
def impl_hasInt.F (N : Nat) (x : (List Int) × Int) : Option Bool := XFunc.run impl_hasInt.x (impl_hasInt.env N) N x
def impl_hasInt.fs (N : Nat) : FS := { arg := .pair (.list (.int .i64)) (.int .i64), ret := .bool, fresh := true, F := impl_hasInt.F N }
def impl_hasInt.k2 (N : Nat) : Ex → S → Option Bool := seqK (fun s => XCode.runK (impl_hasInt.env N) N (impl_hasInt.c2) s (XFunc.endK impl_hasInt.x)) (XFunc.endK impl_hasInt.x)
def impl_hasInt.k1 (N : Nat) : Ex → S → Option Bool := blockK 0 (impl_hasInt.k2 N)
def impl_hasInt.L1 (N : Nat) (n1 : Nat) (n_ : Int) (t7 : List Int) (t8 : Int) (t9 : Int) : Option Bool := loopK [.keep [1, 7, 8, 9], .norm] (fun s k => XCode.runK (impl_hasInt.env N) N impl_hasInt.c1 s k) n1
  { t := [.junk, .one (.int .i64 n_), .junk, .junk, .junk, .junk, .junk, .one (.sl false (.int .i64) t7), .one (.int .i64 t8), .one (.int .i64 t9), .junk, .junk, .junk, .junk, .junk, .junk, .junk], h := [] }
  (impl_hasInt.k1 N)

theorem impl_hasInt.L1_eq (N : Nat) (n1 : Nat) (n_ : Int) (t7 : List Int) (t8 : Int) (t9 : Int) : impl_hasInt.L1 N (n1 + 1) n_ t7 t8 t9 =
    bif decide (t9 < t8) then
      bif inRange t9 (List.length t7) then
      bif (nth (0 : Int) t7 t9) == n_ then
        some true
      else
        impl_hasInt.L1 N n1 n_ t7 t8 (IntKind.wrap .i64 (t9 + (1 : Int)))
      else none
    else
      some false := by kernel_rfl
theorem impl_hasInt.L1_zero (N : Nat) (n_ : Int) (t7 : List Int) (t8 : Int) (t9 : Int) : impl_hasInt.L1 N 0 n_ t7 t8 t9 = none := rfl
theorem impl_hasInt.F_eq (N : Nat) (l_ : List Int) (n_ : Int) : impl_hasInt.F N (l_, n_) =
    impl_hasInt.L1 N N n_ l_ (List.length l_ : Int) (0 : Int) := by kernel_rfl

def impl_NewKeys.c1 : XCode := .seq (.region false [o2 20 (.bin .lss) 19 18]) (.seq (.cond (.slot 20) (.skip) (.exit 0)) (.seq (.block 1 (.seq (.region false [o2 21 (.indexAddr (.int .i64)) 17 19, o1 22 (.load false 1) 21, mv 7 22]) (.seq (.region false [o1 23 (.fieldAddr 1) 2, ow 24 (.load false 1) [.slot 23] [0] [], mv 25 7, o2 26 (.call ⟨202, vs 2, no 2, [.val false 1], ims 1, true⟩) 24 25, o1 27 .not 26]) (.cond (.slot 27) (.region false [mv 28 5, mv 29 7, ow 30 (.buildSlice false 2 2 (.int .i64) 1 [(0, 1)] [.int .i64 (0 : Int)]) [.slot 29] [2] [2], ow 31 (.append false 3 2 (.int .i64)) [.slot 28, .slot 30] [2, 3] [3], mv 5 31]) (.skip))))) (.region false [op 32 (.bin .add) [.slot 19, .const (.one (.int .i64 (1 : Int)))], mv 19 32])))
def impl_NewKeys.c2 : XCode := .seq (.region false [mv 33 5, mv 4 33]) (.ret)
def impl_NewKeys.x : XFunc := { nslots := 34, nobj := 4, pars := [.val true 2, .val true 2], rowsIn := [none, none, none, none], rets := [.tmp 4 false 1], outs := [.own 2], fresh := true, arg := .pair (.pair (.int .i64) (.list (.int .i64))) (.pair (.int .i64) (.list (.int .i64))), ret := .list (.int .i64), body := .seq (.region false [ow 2 (.box 0) [.slot 0] [0] [0], ow 3 (.box 1) [.slot 1] [1] [1], op 4 .move [.const (.one (.nil))]]) (.seq (.seq (.region false [ow 8 (.load true 2) [.slot 2] [0] [], o1 9 (.call ⟨263, [.val true 2], no 2, [.val false 1], ims 1, true⟩) 8, o1 10 .not 9, ⟨some 11, .move, [.slot 10], [], [], none, true⟩, ⟨some 12, .load true 2, [.slot 3], [1], [], some (11, false), false⟩, ⟨some 13, .call ⟨263, [.val true 2], no 2, [.val false 1], ims 1, true⟩, [.slot 12], [], [], some (11, false), false⟩, ⟨some 14, .not, [.slot 13], [], [], some (11, false), false⟩, op 15 .pick [.slot 11, .const (.one (.bool true)), .slot 14]]) (.cond (.slot 15) (.seq (.region false [op 4 .move [.const (.one (.nil))]]) (.ret)) (.skip))) (.seq (.region false [op 5 .move [.const (.one (.nil))]]) (.seq (.seq (.region false [o1 16 (.fieldAddr 1) 3, ow 17 (.load false 1) [.slot 16] [1] [], o1 18 .len 17, op 19 .move [.const (.one (.int .i64 (0 : Int)))]]) (.block 0 (.loop [.mkrow (.slot 5) 3 2 (.int .i64), .keep [2, 5, 17, 18, 19], .drop 1, .drop 2, .norm] (impl_NewKeys.c1)))) (impl_NewKeys.c2)))) }
def impl_NewKeys.env (N : Nat) : Env := envOf (tbl [(263, impl_IsReport.fs N), (202, impl_hasInt.fs N)] noFS)
def impl_NewKeys.F (N : Nat) (x : (Int × List Int) × Int × List Int) : Option (List Int) := XFunc.run impl_NewKeys.x (impl_NewKeys.env N) N x
def impl_NewKeys.fs (N : Nat) : FS := { arg := .pair (.pair (.int .i64) (.list (.int .i64))) (.pair (.int .i64) (.list (.int .i64))), ret := .list (.int .i64), fresh := true, F := impl_NewKeys.F N }
def impl_NewKeys.k2 (N : Nat) : Ex → S → Option (List Int) := seqK (fun s => XCode.runK (impl_NewKeys.env N) N (impl_NewKeys.c2) s (XFunc.endK impl_NewKeys.x)) (XFunc.endK impl_NewKeys.x)
def impl_NewKeys.k1 (N : Nat) : Ex → S → Option (List Int) := blockK 0 (impl_NewKeys.k2 N)
def impl_NewKeys.L1 (N : Nat) (n1 : Nat) (t17 : List Int) (t18 : Int) (t19 : Int) (o00 : Int) (o01 : List Int) (o3 : List Int) : Option (List Int) := loopK [.mkrow (.slot 5) 3 2 (.int .i64), .keep [2, 5, 17, 18, 19], .drop 1, .drop 2, .norm] (fun s k => XCode.runK (impl_NewKeys.env N) N impl_NewKeys.c1 s k) n1
  { t := [.junk, .junk, .one (.ptr 0 0 0), .junk, .junk, .one (.ref 3 0 .all), .junk, .junk, .junk, .junk, .junk, .junk, .junk, .junk, .junk, .junk, .junk, .one (.sl false (.int .i64) t17), .one (.int .i64 t18), .one (.int .i64 t19), .junk, .junk, .junk, .junk, .junk, .junk, .junk, .junk, .junk, .junk, .junk, .junk, .junk, .junk], h := [.box 0 false [.int .i64 o00, .sl false (.int .i64) o01], .absent 0, .absent 0, .row 0 false true 2 (.int .i64) o3] }
  (impl_NewKeys.k1 N)

theorem impl_NewKeys.L1_eq (N : Nat) (n1 : Nat) (t17 : List Int) (t18 : Int) (t19 : Int) (o00 : Int) (o01 : List Int) (o3 : List Int) : impl_NewKeys.L1 N (n1 + 1) t17 t18 t19 o00 o01 o3 =
    bif decide (t19 < t18) then
      bif inRange t19 (List.length t17) then
      bindO (impl_hasInt.F N (o01, nth (0 : Int) t17 t19)) fun r3 =>
      bif !r3 then
        bif decide (List.length o3 + List.length ([nth (0 : Int) t17 t19] : List Int) ≤ maxN) then
        impl_NewKeys.L1 N n1 t17 t18 (IntKind.wrap .i64 (t19 + (1 : Int))) o00 o01 (o3 ++ ([nth (0 : Int) t17 t19] : List Int))
        else none
      else
        impl_NewKeys.L1 N n1 t17 t18 (IntKind.wrap .i64 (t19 + (1 : Int))) o00 o01 o3
      else none
    else
      some o3 := by kernel_rfl
theorem impl_NewKeys.L1_zero (N : Nat) (t17 : List Int) (t18 : Int) (t19 : Int) (o00 : Int) (o01 : List Int) (o3 : List Int) : impl_NewKeys.L1 N 0 t17 t18 t19 o00 o01 o3 = none := rfl
theorem impl_NewKeys.F_eq (N : Nat) (last : Int × List Int) (r_ : Int × List Int) : impl_NewKeys.F N (last, r_) =
    bindO (impl_IsReport.F N last) fun r1 =>
    bif !r1 then
      some ([] : List Int)
    else
      bindO (impl_IsReport.F N r_) fun r2 =>
      bif !r2 then
        some ([] : List Int)
      else
        impl_NewKeys.L1 N N r_.2 (List.length r_.2 : Int) (0 : Int) last.1 last.2 ([] : List Int) := by kernel_rfl

def laws_eqReport.x : XFunc := { nslots := 16, nobj := 2, pars := [.val true 2, .val true 2], rowsIn := [none, none, none, none], rets := [.tmp 4 false 1], outs := [.imm], fresh := true, arg := .pair (.pair (.int .i64) (.list (.int .i64))) (.pair (.int .i64) (.list (.int .i64))), ret := .bool, body := .seq (.region false [ow 2 (.box 0) [.slot 0] [0] [0], ow 3 (.box 1) [.slot 1] [1] [1], op 4 .move [.const (.one (.bool false))]]) (.seq (.seq (.region false [o1 5 (.fieldAddr 0) 2, ow 6 (.load false 1) [.slot 5] [0] [], o1 7 (.fieldAddr 0) 3, ow 8 (.load false 1) [.slot 7] [1] [], o2 9 (.bin .neq) 6 8]) (.cond (.slot 9) (.seq (.region false [op 4 .move [.const (.one (.bool false))]]) (.ret)) (.skip))) (.seq (.seq (.region false [o1 10 (.fieldAddr 1) 2, ow 11 (.load false 1) [.slot 10] [0] [], o1 12 (.fieldAddr 1) 3, ow 13 (.load false 1) [.slot 12] [1] [], o2 14 (.call ⟨239, vs 2, no 2, [.val false 1], ims 1, true⟩) 11 13, o1 15 .not 14]) (.cond (.slot 15) (.seq (.region false [op 4 .move [.const (.one (.bool false))]]) (.ret)) (.skip))) (.seq (.region false [op 4 .move [.const (.one (.bool true))]]) (.ret)))) }
def laws_eqReport.env (N : Nat) : Env := envOf (tbl [(239, laws_eqIntS.fs N)] noFS)
def laws_eqReport.F (N : Nat) (x : (Int × List Int) × Int × List Int) : Option Bool := XFunc.run laws_eqReport.x (laws_eqReport.env N) N x
def laws_eqReport.fs (N : Nat) : FS := { arg := .pair (.pair (.int .i64) (.list (.int .i64))) (.pair (.int .i64) (.list (.int .i64))), ret := .bool, fresh := true, F := laws_eqReport.F N }

theorem laws_eqReport.F_eq (N : Nat) (a : Int × List Int) (b : Int × List Int) : laws_eqReport.F N (a, b) =
    bif a.1 != b.1 then
      some false
    else
      bindO (laws_eqIntS.F N (a.2, b.2)) fun r1 =>
      bif !r1 then
        some false
      else
        some true := by kernel_rfl

def laws_markReport.x : XFunc := { nslots := 10, nobj := 2, pars := [.val true 2, .val false 1], rowsIn := [none, some (1, 2), none], rets := [.tmp 4 false 1], outs := [.imm, .back 1], fresh := false, arg := .pair (.pair (.int .i64) (.list (.int .i64))) (.int .i64), ret := .pair (.int .i64) (.list (.int .i64)), body := .seq (.region false [ow 2 (.box 0) [.slot 0] [0] [0], op 4 .move [.const (.one (.int .i64 (0 : Int)))]]) (.seq (.region false [o1 5 (.fieldAddr 1) 2, ow 6 (.load false 1) [.slot 5] [0] [], mv 7 1, ow 8 (.call ⟨242, vs 2, [some (1, 2), none], [.val false 1], [.imm, .back 1], false⟩) [.slot 6, .slot 7] [1] [1], mv 1 8]) (.seq (.region false [mv 9 1, mv 4 9]) (.ret))) }
def laws_markReport.env (N : Nat) : Env := envOf (tbl [(242, laws_markIntS.fs N)] noFS)
def laws_markReport.F (N : Nat) (x : (Int × List Int) × Int) : Option (Int × List Int) := XFunc.run laws_markReport.x (laws_markReport.env N) N x
def laws_markReport.fs (N : Nat) : FS := { arg := .pair (.pair (.int .i64) (.list (.int .i64))) (.int .i64), ret := .pair (.int .i64) (.list (.int .i64)), fresh := false, F := laws_markReport.F N }

theorem laws_markReport.F_eq (N : Nat) (a : Int × List Int) (k_ : Int) : laws_markReport.F N (a, k_) =
    bindO (laws_markIntS.F N (a.2, k_)) fun r1 =>
    some r1 := by kernel_rfl

def laws_FnExactNewKeys.x : XFunc := { nslots := 92, nobj := 7, pars := [.val true 2, .val true 2], rowsIn := [none, none, none, none], rets := [.tmp 4 false 1], outs := [.imm], fresh := true, arg := .pair (.pair (.int .i64) (.list (.int .i64))) (.pair (.int .i64) (.list (.int .i64))), ret := .bool, body := .seq (.region false [ow 2 (.box 0) [.slot 0] [0] [0], ow 3 (.box 1) [.slot 1] [1] [1], op 4 .move [.const (.one (.bool false))]]) (.seq (.region false [op 5 .move [.const (.one (.int .i64 (1048576 : Int)))]]) (.seq (.region false [ow 14 (.load true 2) [.slot 2] [0] [], mv 15 5, o2 16 (.call ⟨258, [.val true 2, .val false 1], no 3, [.val false 1], ims 1, true⟩) 14 15, mv 5 16]) (.seq (.seq (.region false [mv 17 5, op 18 (.bin .lss) [.slot 17, .const (.one (.int .i64 (0 : Int)))]]) (.cond (.slot 18) (.seq (.region false [op 4 .move [.const (.one (.bool true))]]) (.ret)) (.skip))) (.seq (.region false [ow 19 (.load true 2) [.slot 3] [1] [], mv 20 5, o2 21 (.call ⟨258, [.val true 2, .val false 1], no 3, [.val false 1], ims 1, true⟩) 19 20, mv 5 21]) (.seq (.seq (.region false [mv 22 5, op 23 (.bin .lss) [.slot 22, .const (.one (.int .i64 (0 : Int)))]]) (.cond (.slot 23) (.seq (.region false [op 4 .move [.const (.one (.bool true))]]) (.ret)) (.skip))) (.seq (.region true [ow 24 (.load true 2) [.slot 2] [0] [], o1 25 (.call ⟨259, [.val true 2], no 2, [.val true 2], ims 2, true⟩) 24, ow 26 (.load true 2) [.slot 3] [1] [], o1 27 (.call ⟨259, [.val true 2], no 2, [.val true 2], ims 2, true⟩) 26, o2 28 (.call ⟨262, [.val true 2, .val true 2], no 4, [.val false 1], ims 1, true⟩) 25 27, mv 6 28]) (.seq (.region false [ow 29 (.load true 2) [.slot 2] [0] [], ow 30 (.call ⟨259, [.val true 2], no 2, [.val true 2], [.imm, .own 4 2], true⟩) [.slot 29] [4] [4], ow 7 (.alloc 2 [.int .i64 (0 : Int), .nil]) [] [2] [2], on (.store 2) [.slot 7, .slot 30] [2] [2]]) (.seq (.region false [ow 31 (.load true 2) [.slot 3] [1] [], ow 32 (.call ⟨259, [.val true 2], no 2, [.val true 2], [.imm, .own 5 2], true⟩) [.slot 31] [5] [5], ow 8 (.alloc 3 [.int .i64 (0 : Int), .nil]) [] [3] [3], on (.store 2) [.slot 8, .slot 32] [3] [3]]) (.seq (.region false [ow 33 (.load true 2) [.slot 7] [2] [], ow 34 (.load true 2) [.slot 8] [3] [], ow 35 (.call ⟨264, [.val true 2, .val true 2], no 4, [.val false 1], [.own 6 2], true⟩) [.slot 33, .slot 34] [4, 5, 6] [6], mv 9 35]) (.seq (.seq (.region false [mv 36 9, mv 37 6, ow 38 (.call ⟨239, vs 2, no 2, [.val false 1], ims 1, true⟩) [.slot 36, .slot 37] [6] [], o1 39 .not 38]) (.cond (.slot 39) (.seq (.region false [op 4 .move [.const (.one (.bool false))]]) (.ret)) (.skip))) (.seq (.seq (.region true [ow 40 (.load true 2) [.slot 7] [2] [], ow 41 (.load true 2) [.slot 2] [0] [], o1 42 (.call ⟨259, [.val true 2], no 2, [.val true 2], ims 2, true⟩) 41, ow 43 (.call ⟨265, [.val true 2, .val true 2], no 4, [.val false 1], ims 1, true⟩) [.slot 40, .slot 42] [4] [], o1 44 .not 43]) (.cond (.slot 44) (.seq (.region false [op 4 .move [.const (.one (.bool false))]]) (.ret)) (.skip))) (.seq (.seq (.region true [ow 45 (.load true 2) [.slot 8] [3] [], ow 46 (.load true 2) [.slot 3] [1] [], o1 47 (.call ⟨259, [.val true 2], no 2, [.val true 2], ims 2, true⟩) 46, ow 48 (.call ⟨265, [.val true 2, .val true 2], no 4, [.val false 1], ims 1, true⟩) [.slot 45, .slot 47] [5] [], o1 49 .not 48]) (.cond (.slot 49) (.seq (.region false [op 4 .move [.const (.one (.bool false))]]) (.ret)) (.skip))) (.seq (.region false [op 10 .move [.const (.one (.int .i64 (1 : Int)))]]) (.seq (.region false [ow 50 (.load true 2) [.slot 7] [2] [], mv 51 10, ow 52 (.call ⟨266, [.val true 2, .val false 1], [none, some (4, 2), none], [.val false 1], [.imm, .back 4], false⟩) [.slot 50, .slot 51] [4] [4], mv 10 52]) (.seq (.region false [ow 53 (.load true 2) [.slot 8] [3] [], mv 54 10, ow 55 (.call ⟨266, [.val true 2, .val false 1], [none, some (5, 2), none], [.val false 1], [.imm, .back 5], false⟩) [.slot 53, .slot 54] [5] [5], mv 10 55]) (.seq (.seq (.region false [mv 56 10, op 57 (.bin .lss) [.slot 56, .const (.one (.int .i64 (0 : Int)))], ⟨some 58, .move, [.slot 57], [], [], none, true⟩, ⟨some 59, .move, [.slot 9], [], [], some (58, false), false⟩, ⟨some 60, .move, [.slot 6], [], [], some (58, false), false⟩, ⟨some 61, .call ⟨239, vs 2, no 2, [.val false 1], ims 1, true⟩, [.slot 59, .slot 60], [6], [], some (58, false), false⟩, ⟨some 62, .not, [.slot 61], [], [], some (58, false), false⟩, op 63 .pick [.slot 58, .const (.one (.bool true)), .slot 62]]) (.cond (.slot 63) (.seq (.region false [op 4 .move [.const (.one (.bool false))]]) (.ret)) (.skip))) (.seq (.region false [op 11 .move [.const (.one (.int .i64 (1 : Int)))]]) (.seq (.region false [mv 64 9, mv 65 11, ow 66 (.call ⟨242, vs 2, [some (6, 2), none], [.val false 1], [.imm, .back 6], false⟩) [.slot 64, .slot 65] [6] [6], mv 11 66]) (.seq (.region false [op 12 .move [.const (.one (.int .i64 (1 : Int)))]]) (.seq (.region false [mv 67 9, mv 68 12, ow 69 (.call ⟨245, vs 2, no 2, [.val false 1], ims 1, true⟩) [.slot 67, .slot 68] [6] [], mv 12 69]) (.seq (.seq (.region false [mv 70 12, op 71 (.bin .lss) [.slot 70, .const (.one (.int .i64 (0 : Int)))]]) (.cond (.slot 71) (.seq (.region false [op 4 .move [.const (.one (.bool false))]]) (.ret)) (.skip))) (.seq (.seq (.region false [mv 72 12, mv 73 11, o2 74 (.bin .neq) 72 73]) (.cond (.slot 74) (.seq (.region false [op 4 .move [.const (.one (.bool false))]]) (.ret)) (.skip))) (.seq (.region true [ow 75 (.load true 2) [.slot 2] [0] [], o1 76 (.call ⟨259, [.val true 2], no 2, [.val true 2], ims 2, true⟩) 75, ow 77 (.load true 2) [.slot 3] [1] [], o1 78 (.call ⟨259, [.val true 2], no 2, [.val true 2], ims 2, true⟩) 77, o2 79 (.call ⟨264, [.val true 2, .val true 2], no 4, [.val false 1], ims 1, true⟩) 76 78, mv 13 79]) (.seq (.seq (.region false [mv 80 13, mv 81 6, o2 82 (.call ⟨239, vs 2, no 2, [.val false 1], ims 1, true⟩) 80 81, o1 83 .not 82]) (.cond (.slot 83) (.seq (.region false [op 4 .move [.const (.one (.bool false))]]) (.ret)) (.skip))) (.seq (.region false [op 12 .move [.const (.one (.int .i64 (1 : Int)))]]) (.seq (.region false [mv 84 9, mv 85 12, ow 86 (.call ⟨245, vs 2, no 2, [.val false 1], ims 1, true⟩) [.slot 84, .slot 85] [6] [], mv 12 86]) (.seq (.seq (.region false [mv 87 12, op 88 (.bin .lss) [.slot 87, .const (.one (.int .i64 (0 : Int)))]]) (.cond (.slot 88) (.seq (.region false [op 4 .move [.const (.one (.bool false))]]) (.ret)) (.skip))) (.seq (.seq (.region false [mv 89 12, mv 90 11, o2 91 (.bin .neq) 89 90]) (.cond (.slot 91) (.seq (.region false [op 4 .move [.const (.one (.bool false))]]) (.ret)) (.skip))) (.seq (.region false [op 4 .move [.const (.one (.bool true))]]) (.ret)))))))))))))))))))))))))))))) }
def laws_FnExactNewKeys.env (N : Nat) : Env := envOf (tbl [(264, impl_NewKeys.fs N), (239, laws_eqIntS.fs N), (265, laws_eqReport.fs N), (245, laws_heldIntS.fs N), (242, laws_markIntS.fs N), (266, laws_markReport.fs N), (258, laws_szReport.fs N), (259, laws_toReport.fs N), (262, spec_NewKeys.fs N)] noFS)
def laws_FnExactNewKeys.F (N : Nat) (x : (Int × List Int) × Int × List Int) : Option Bool := XFunc.run laws_FnExactNewKeys.x (laws_FnExactNewKeys.env N) N x
def laws_FnExactNewKeys.fs (N : Nat) : FS := { arg := .pair (.pair (.int .i64) (.list (.int .i64))) (.pair (.int .i64) (.list (.int .i64))), ret := .bool, fresh := true, F := laws_FnExactNewKeys.F N }

theorem laws_FnExactNewKeys.F_eq (N : Nat) (aLast : Int × List Int) (aR : Int × List Int) : laws_FnExactNewKeys.F N (aLast, aR) =
    bindO (laws_szReport.F N (aLast, (1048576 : Int))) fun r1 =>
    bif decide (r1 < (0 : Int)) then
      some true
    else
      bindO (laws_szReport.F N (aR, r1)) fun r2 =>
      bif decide (r2 < (0 : Int)) then
        some true
      else
        bindO (laws_toReport.F N aLast) fun r3 =>
        bindO (laws_toReport.F N aR) fun r4 =>
        bindO (spec_NewKeys.F N (r3, r4)) fun r5 =>
        bindO (laws_toReport.F N aLast) fun r6 =>
        bindO (laws_toReport.F N aR) fun r7 =>
        bindO (impl_NewKeys.F N (r6, r7)) fun r8 =>
        bindO (laws_eqIntS.F N (r8, r5)) fun r9 =>
        bif !r9 then
          some false
        else
          bindO (laws_toReport.F N aLast) fun r10 =>
          bindO (laws_eqReport.F N (r6, r10)) fun r11 =>
          bif !r11 then
            some false
          else
            bindO (laws_toReport.F N aR) fun r12 =>
            bindO (laws_eqReport.F N (r7, r12)) fun r13 =>
            bif !r13 then
              some false
            else
              bindO (laws_markReport.F N (r6, (1 : Int))) fun r14 =>
              bindO (laws_markReport.F N (r7, r14.1)) fun r15 =>
              bif decide (r15.1 < (0 : Int)) then
                some false
              else
                bindO (laws_eqIntS.F N (r8, r5)) fun r16 =>
                bif !r16 then
                  some false
                else
                  bindO (laws_markIntS.F N (r8, (1 : Int))) fun r17 =>
                  bindO (laws_heldIntS.F N (r17.2, (1 : Int))) fun r18 =>
                  bif decide (r18 < (0 : Int)) then
                    some false
                  else
                    bif r18 != r17.1 then
                      some false
                    else
                      bindO (laws_toReport.F N aLast) fun r19 =>
                      bindO (laws_toReport.F N aR) fun r20 =>
                      bindO (impl_NewKeys.F N (r19, r20)) fun r21 =>
                      bindO (laws_eqIntS.F N (r21, r5)) fun r22 =>
                      bif !r22 then
                        some false
                      else
                        bindO (laws_heldIntS.F N (r17.2, (1 : Int))) fun r23 =>
                        bif decide (r23 < (0 : Int)) then
                          some false
                        else
                          bif r23 != r17.1 then
                            some false
                          else
                            some true := by kernel_rfl

def spec_MayDrop.c1 : XCode := .seq (.seq (.region false [mv 46 8, mv 47 7, o1 48 .len 47, o2 49 (.bin .lss) 46 48]) (.cond (.slot 49) (.skip) (.exit 0))) (.seq (.block 1 (.seq (.region true [o1 52 (.fieldAddr 1) 5, ow 53 (.load false 1) [.slot 52] [2] [], mv 54 7, mv 55 8, o2 56 (.indexAddr (.int .i64)) 54 55, o1 57 (.load false 1) 56, o2 58 (.call ⟨261, vs 2, no 2, [.val false 1], ims 1, true⟩) 53 57]) (.cond (.slot 58) (.seq (.region false [op 6 .move [.const (.one (.bool false))]]) (.ret)) (.skip)))) (.region false [mv 50 8, op 51 (.bin .add) [.slot 50, .const (.one (.int .i64 (1 : Int)))], mv 8 51]))
def spec_MayDrop.c2 : XCode := .seq (.region false [op 6 .move [.const (.one (.bool true))]]) (.ret)
def spec_MayDrop.x : XFunc := { nslots := 59, nobj := 3, pars := [.val true 2, .val true 2, .val true 2], rowsIn := [none, none, none, none, none, none], rets := [.tmp 6 false 1], outs := [.imm], fresh := true, arg := .pair (.pair (.int .i64) (.list (.int .i64))) (.pair (.pair (.int .i64) (.list (.int .i64))) (.pair (.int .i64) (.list (.int .i64)))), ret := .bool, body := .seq (.region false [ow 3 (.box 0) [.slot 0] [0] [0], ow 4 (.box 1) [.slot 1] [1] [1], ow 5 (.box 2) [.slot 2] [2] [2], op 6 .move [.const (.one (.bool false))]]) (.seq (.seq (.region false [ow 9 (.load true 2) [.slot 3] [0] [], o1 10 (.call ⟨260, [.val true 2], no 2, [.val false 1], ims 1, true⟩) 9, o1 11 .not 10, ⟨some 12, .move, [.slot 11], [], [], none, true⟩, ⟨some 13, .load true 2, [.slot 4], [1], [], some (12, false), false⟩, ⟨some 14, .call ⟨260, [.val true 2], no 2, [.val false 1], ims 1, true⟩, [.slot 13], [], [], some (12, false), false⟩, ⟨some 15, .not, [.slot 14], [], [], some (12, false), false⟩, op 16 .pick [.slot 12, .const (.one (.bool true)), .slot 15], ⟨some 17, .move, [.slot 16], [], [], none, true⟩, ⟨some 18, .load true 2, [.slot 5], [2], [], some (17, false), false⟩, ⟨some 19, .call ⟨260, [.val true 2], no 2, [.val false 1], ims 1, true⟩, [.slot 18], [], [], some (17, false), false⟩, ⟨some 20, .not, [.slot 19], [], [], some (17, false), false⟩, op 21 .pick [.slot 17, .const (.one (.bool true)), .slot 20], ⟨some 22, .move, [.slot 21], [], [], none, true⟩, ⟨some 23, .load true 2, [.slot 3], [0], [], some (22, false), false⟩, ⟨some 24, .load true 2, [.slot 4], [1], [], some (22, false), false⟩, ⟨some 25, .call ⟨262, [.val true 2, .val true 2], no 4, [.val false 1], ims 1, true⟩, [.slot 23, .slot 24], [], [], some (22, false), false⟩, ⟨some 26, .len, [.slot 25], [], [], some (22, false), false⟩, ⟨some 27, .bin .gtr, [.slot 26, .const (.one (.int .i64 (0 : Int)))], [], [], some (22, false), false⟩, op 28 .pick [.slot 22, .const (.one (.bool true)), .slot 27], ⟨some 29, .move, [.slot 28], [], [], none, true⟩, ⟨some 30, .fieldAddr 0, [.slot 3], [], [], some (29, false), false⟩, ⟨some 31, .load false 1, [.slot 30], [0], [], some (29, false), false⟩, ⟨some 32, .fieldAddr 0, [.slot 4], [], [], some (29, false), false⟩, ⟨some 33, .load false 1, [.slot 32], [1], [], some (29, false), false⟩, ⟨some 34, .bin .xor, [.slot 31, .slot 33], [], [], some (29, false), false⟩, ⟨some 35, .fieldAddr 0, [.slot 4], [], [], some (29, false), false⟩, ⟨some 36, .load false 1, [.slot 35], [1], [], some (29, false), false⟩, ⟨some 37, .fieldAddr 0, [.slot 5], [], [], some (29, false), false⟩, ⟨some 38, .load false 1, [.slot 37], [2], [], some (29, false), false⟩, ⟨some 39, .bin .xor, [.slot 36, .slot 38], [], [], some (29, false), false⟩, ⟨some 40, .bin .and, [.slot 34, .slot 39], [], [], some (29, false), false⟩, ⟨some 41, .bin .neq, [.slot 40, .const (.one (.int .i64 (0 : Int)))], [], [], some (29, false), false⟩, op 42 .pick [.slot 29, .const (.one (.bool true)), .slot 41]]) (.cond (.slot 42) (.seq (.region false [op 6 .move [.const (.one (.bool false))]]) (.ret)) (.skip))) (.seq (.region false [ow 43 (.load true 2) [.slot 4] [1] [], ow 44 (.load true 2) [.slot 3] [0] [], o2 45 (.call ⟨262, [.val true 2, .val true 2], no 4, [.val false 1], ims 1, true⟩) 43 44, mv 7 45]) (.seq (.seq (.region false [op 8 .move [.const (.one (.int .i64 (0 : Int)))]]) (.block 0 (.loop [.keep [5, 7, 8], .drop 0, .drop 1, .norm] (spec_MayDrop.c1)))) (spec_MayDrop.c2)))) }
def spec_MayDrop.env (N : Nat) : Env := envOf (tbl [(260, spec_IsReport.fs N), (262, spec_NewKeys.fs N), (261, spec_l12Has.fs N)] noFS)
def spec_MayDrop.F (N : Nat) (x : (Int × List Int) × (Int × List Int) × Int × List Int) : Option Bool := XFunc.run spec_MayDrop.x (spec_MayDrop.env N) N x
def spec_MayDrop.fs (N : Nat) : FS := { arg := .pair (.pair (.int .i64) (.list (.int .i64))) (.pair (.pair (.int .i64) (.list (.int .i64))) (.pair (.int .i64) (.list (.int .i64)))), ret := .bool, fresh := true, F := spec_MayDrop.F N }
def spec_MayDrop.k2 (N : Nat) : Ex → S → Option Bool := seqK (fun s => XCode.runK (spec_MayDrop.env N) N (spec_MayDrop.c2) s (XFunc.endK spec_MayDrop.x)) (XFunc.endK spec_MayDrop.x)
def spec_MayDrop.k1 (N : Nat) : Ex → S → Option Bool := blockK 0 (spec_MayDrop.k2 N)
def spec_MayDrop.L1 (N : Nat) (n1 : Nat) (gone : List Int) (i : Int) (o20 : Int) (o21 : List Int) : Option Bool := loopK [.keep [5, 7, 8], .drop 0, .drop 1, .norm] (fun s k => XCode.runK (spec_MayDrop.env N) N spec_MayDrop.c1 s k) n1
  { t := [.junk, .junk, .junk, .junk, .junk, .one (.ptr 2 0 0), .junk, .one (.sl true (.int .i64) gone), .one (.int .i64 i), .junk, .junk, .junk, .junk, .junk, .junk, .junk, .junk, .junk, .junk, .junk, .junk, .junk, .junk, .junk, .junk, .junk, .junk, .junk, .junk, .junk, .junk, .junk, .junk, .junk, .junk, .junk, .junk, .junk, .junk, .junk, .junk, .junk, .junk, .junk, .junk, .junk, .junk, .junk, .junk, .junk, .junk, .junk, .junk, .junk, .junk, .junk, .junk, .junk, .junk], h := [.absent 0, .absent 0, .box 0 false [.int .i64 o20, .sl false (.int .i64) o21]] }
  (spec_MayDrop.k1 N)

theorem spec_MayDrop.L1_eq (N : Nat) (n1 : Nat) (gone : List Int) (i : Int) (o20 : Int) (o21 : List Int) : spec_MayDrop.L1 N (n1 + 1) gone i o20 o21 =
    bif decide (i < (List.length gone : Int)) then
      bif inRange i (List.length gone) then
      bindO (spec_l12Has.F N (o21, nth (0 : Int) gone i)) fun r6 =>
      bif r6 then
        some false
      else
        spec_MayDrop.L1 N n1 gone (IntKind.wrap .i64 (i + (1 : Int))) o20 o21
      else none
    else
      some true := by kernel_rfl
theorem spec_MayDrop.L1_zero (N : Nat) (gone : List Int) (i : Int) (o20 : Int) (o21 : List Int) : spec_MayDrop.L1 N 0 gone i o20 o21 = none := rfl
theorem spec_MayDrop.F_eq (N : Nat) (a : Int × List Int) (b : Int × List Int) (c : Int × List Int) : spec_MayDrop.F N (a, b, c) =
    bindO (spec_IsReport.F N a) fun r1 =>
    bif !r1 then
      some false
    else
      bindO (spec_IsReport.F N b) fun r2 =>
      bif !r2 then
        some false
      else
        bindO (spec_IsReport.F N c) fun r3 =>
        bif !r3 then
          some false
        else
          bindO (spec_NewKeys.F N (a, b)) fun r4 =>
          bif decide ((List.length r4 : Int) > (0 : Int)) then
            some false
          else
            bif (bitAnd .i64 (bitXor .i64 a.1 b.1) (bitXor .i64 b.1 c.1)) != (0 : Int) then
              some false
            else
              bindO (spec_NewKeys.F N (b, a)) fun r5 =>
              spec_MayDrop.L1 N N r5 (0 : Int) c.1 c.2 := by kernel_rfl

def impl_MayDrop.c1 : XCode := .seq (.region false [o2 48 (.bin .lss) 47 46]) (.seq (.cond (.slot 48) (.skip) (.exit 0)) (.seq (.block 1 (.seq (.region false [o2 49 (.indexAddr (.int .i64)) 45 47, o1 50 (.load false 1) 49, mv 8 50]) (.seq (.region false [o1 51 (.fieldAddr 1) 5, ow 52 (.load false 1) [.slot 51] [2] [], mv 53 8, o2 54 (.call ⟨202, vs 2, no 2, [.val false 1], ims 1, true⟩) 52 53]) (.cond (.slot 54) (.seq (.region false [op 6 .move [.const (.one (.bool false))]]) (.ret)) (.skip))))) (.region false [op 55 (.bin .add) [.slot 47, .const (.one (.int .i64 (1 : Int)))], mv 47 55])))
def impl_MayDrop.c2 : XCode := .seq (.region false [op 6 .move [.const (.one (.bool true))]]) (.ret)
def impl_MayDrop.x : XFunc := { nslots := 56, nobj := 3, pars := [.val true 2, .val true 2, .val true 2], rowsIn := [none, none, none, none, none, none], rets := [.tmp 6 false 1], outs := [.imm], fresh := true, arg := .pair (.pair (.int .i64) (.list (.int .i64))) (.pair (.pair (.int .i64) (.list (.int .i64))) (.pair (.int .i64) (.list (.int .i64)))), ret := .bool, body := .seq (.region false [ow 3 (.box 0) [.slot 0] [0] [0], ow 4 (.box 1) [.slot 1] [1] [1], ow 5 (.box 2) [.slot 2] [2] [2], op 6 .move [.const (.one (.bool false))]]) (.seq (.seq (.region false [ow 9 (.load true 2) [.slot 3] [0] [], o1 10 (.call ⟨263, [.val true 2], no 2, [.val false 1], ims 1, true⟩) 9, o1 11 .not 10, ⟨some 12, .move, [.slot 11], [], [], none, true⟩, ⟨some 13, .load true 2, [.slot 4], [1], [], some (12, false), false⟩, ⟨some 14, .call ⟨263, [.val true 2], no 2, [.val false 1], ims 1, true⟩, [.slot 13], [], [], some (12, false), false⟩, ⟨some 15, .not, [.slot 14], [], [], some (12, false), false⟩, op 16 .pick [.slot 12, .const (.one (.bool true)), .slot 15], ⟨some 17, .move, [.slot 16], [], [], none, true⟩, ⟨some 18, .load true 2, [.slot 5], [2], [], some (17, false), false⟩, ⟨some 19, .call ⟨263, [.val true 2], no 2, [.val false 1], ims 1, true⟩, [.slot 18], [], [], some (17, false), false⟩, ⟨some 20, .not, [.slot 19], [], [], some (17, false), false⟩, op 21 .pick [.slot 17, .const (.one (.bool true)), .slot 20], ⟨some 22, .move, [.slot 21], [], [], none, true⟩, ⟨some 23, .fieldAddr 0, [.slot 3], [], [], some (22, false), false⟩, ⟨some 24, .load false 1, [.slot 23], [0], [], some (22, false), false⟩, ⟨some 25, .fieldAddr 0, [.slot 4], [], [], some (22, false), false⟩, ⟨some 26, .load false 1, [.slot 25], [1], [], some (22, false), false⟩, ⟨some 27, .bin .xor, [.slot 24, .slot 26], [], [], some (22, false), false⟩, ⟨some 28, .fieldAddr 0, [.slot 4], [], [], some (22, false), false⟩, ⟨some 29, .load false 1, [.slot 28], [1], [], some (22, false), false⟩, ⟨some 30, .fieldAddr 0, [.slot 5], [], [], some (22, false), false⟩, ⟨some 31, .load false 1, [.slot 30], [2], [], some (22, false), false⟩, ⟨some 32, .bin .xor, [.slot 29, .slot 31], [], [], some (22, false), false⟩, ⟨some 33, .bin .and, [.slot 27, .slot 32], [], [], some (22, false), false⟩, ⟨some 34, .bin .neq, [.slot 33, .const (.one (.int .i64 (0 : Int)))], [], [], some (22, false), false⟩, op 35 .pick [.slot 22, .const (.one (.bool true)), .slot 34], ⟨some 36, .move, [.slot 35], [], [], none, true⟩, ⟨some 37, .load true 2, [.slot 3], [0], [], some (36, false), false⟩, ⟨some 38, .load true 2, [.slot 4], [1], [], some (36, false), false⟩, ⟨some 39, .call ⟨264, [.val true 2, .val true 2], no 4, [.val false 1], ims 1, true⟩, [.slot 37, .slot 38], [], [], some (36, false), false⟩, ⟨some 40, .len, [.slot 39], [], [], some (36, false), false⟩, ⟨some 41, .bin .gtr, [.slot 40, .const (.one (.int .i64 (0 : Int)))], [], [], some (36, false), false⟩, op 42 .pick [.slot 36, .const (.one (.bool true)), .slot 41]]) (.cond (.slot 42) (.seq (.region false [op 6 .move [.const (.one (.bool false))]]) (.ret)) (.skip))) (.seq (.seq (.region false [ow 43 (.load true 2) [.slot 4] [1] [], ow 44 (.load true 2) [.slot 3] [0] [], o2 45 (.call ⟨264, [.val true 2, .val true 2], no 4, [.val false 1], ims 1, true⟩) 43 44, o1 46 .len 45, op 47 .move [.const (.one (.int .i64 (0 : Int)))]]) (.block 0 (.loop [.keep [5, 45, 46, 47], .drop 0, .drop 1, .norm] (impl_MayDrop.c1)))) (impl_MayDrop.c2))) }
def impl_MayDrop.env (N : Nat) : Env := envOf (tbl [(263, impl_IsReport.fs N), (264, impl_NewKeys.fs N), (202, impl_hasInt.fs N)] noFS)
def impl_MayDrop.F (N : Nat) (x : (Int × List Int) × (Int × List Int) × Int × List Int) : Option Bool := XFunc.run impl_MayDrop.x (impl_MayDrop.env N) N x
def impl_MayDrop.fs (N : Nat) : FS := { arg := .pair (.pair (.int .i64) (.list (.int .i64))) (.pair (.pair (.int .i64) (.list (.int .i64))) (.pair (.int .i64) (.list (.int .i64)))), ret := .bool, fresh := true, F := impl_MayDrop.F N }
def impl_MayDrop.k2 (N : Nat) : Ex → S → Option Bool := seqK (fun s => XCode.runK (impl_MayDrop.env N) N (impl_MayDrop.c2) s (XFunc.endK impl_MayDrop.x)) (XFunc.endK impl_MayDrop.x)
def impl_MayDrop.k1 (N : Nat) : Ex → S → Option Bool := blockK 0 (impl_MayDrop.k2 N)
def impl_MayDrop.L1 (N : Nat) (n1 : Nat) (t45 : List Int) (t46 : Int) (t47 : Int) (o20 : Int) (o21 : List Int) : Option Bool := loopK [.keep [5, 45, 46, 47], .drop 0, .drop 1, .norm] (fun s k => XCode.runK (impl_MayDrop.env N) N impl_MayDrop.c1 s k) n1
  { t := [.junk, .junk, .junk, .junk, .junk, .one (.ptr 2 0 0), .junk, .junk, .junk, .junk, .junk, .junk, .junk, .junk, .junk, .junk, .junk, .junk, .junk, .junk, .junk, .junk, .junk, .junk, .junk, .junk, .junk, .junk, .junk, .junk, .junk, .junk, .junk, .junk, .junk, .junk, .junk, .junk, .junk, .junk, .junk, .junk, .junk, .junk, .junk, .one (.sl true (.int .i64) t45), .one (.int .i64 t46), .one (.int .i64 t47), .junk, .junk, .junk, .junk, .junk, .junk, .junk, .junk], h := [.absent 0, .absent 0, .box 0 false [.int .i64 o20, .sl false (.int .i64) o21]] }
  (impl_MayDrop.k1 N)

theorem impl_MayDrop.L1_eq (N : Nat) (n1 : Nat) (t45 : List Int) (t46 : Int) (t47 : Int) (o20 : Int) (o21 : List Int) : impl_MayDrop.L1 N (n1 + 1) t45 t46 t47 o20 o21 =
    bif decide (t47 < t46) then
      bif inRange t47 (List.length t45) then
      bindO (impl_hasInt.F N (o21, nth (0 : Int) t45 t47)) fun r6 =>
      bif r6 then
        some false
      else
        impl_MayDrop.L1 N n1 t45 t46 (IntKind.wrap .i64 (t47 + (1 : Int))) o20 o21
      else none
    else
      some true := by kernel_rfl
theorem impl_MayDrop.L1_zero (N : Nat) (t45 : List Int) (t46 : Int) (t47 : Int) (o20 : Int) (o21 : List Int) : impl_MayDrop.L1 N 0 t45 t46 t47 o20 o21 = none := rfl
theorem impl_MayDrop.F_eq (N : Nat) (a : Int × List Int) (b : Int × List Int) (c : Int × List Int) : impl_MayDrop.F N (a, b, c) =
    bindO (impl_IsReport.F N a) fun r1 =>
    bif !r1 then
      some false
    else
      bindO (impl_IsReport.F N b) fun r2 =>
      bif !r2 then
        some false
      else
        bindO (impl_IsReport.F N c) fun r3 =>
        bif !r3 then
          some false
        else
          bif (bitAnd .i64 (bitXor .i64 a.1 b.1) (bitXor .i64 b.1 c.1)) != (0 : Int) then
            some false
          else
            bindO (impl_NewKeys.F N (a, b)) fun r4 =>
            bif decide ((List.length r4 : Int) > (0 : Int)) then
              some false
            else
              bindO (impl_NewKeys.F N (b, a)) fun r5 =>
              impl_MayDrop.L1 N N r5 (List.length r5 : Int) (0 : Int) c.1 c.2 := by kernel_rfl

def laws_FnExactMayDrop.x : XFunc := { nslots := 63, nobj := 6, pars := [.val true 2, .val true 2, .val true 2], rowsIn := [none, none, none, none, none, none], rets := [.tmp 6 false 1], outs := [.imm], fresh := true, arg := .pair (.pair (.int .i64) (.list (.int .i64))) (.pair (.pair (.int .i64) (.list (.int .i64))) (.pair (.int .i64) (.list (.int .i64)))), ret := .bool, body := .seq (.region false [ow 3 (.box 0) [.slot 0] [0] [0], ow 4 (.box 1) [.slot 1] [1] [1], ow 5 (.box 2) [.slot 2] [2] [2], op 6 .move [.const (.one (.bool false))]]) (.seq (.region false [op 7 .move [.const (.one (.int .i64 (1048576 : Int)))]]) (.seq (.region false [ow 13 (.load true 2) [.slot 3] [0] [], mv 14 7, o2 15 (.call ⟨258, [.val true 2, .val false 1], no 3, [.val false 1], ims 1, true⟩) 13 14, mv 7 15]) (.seq (.seq (.region false [mv 16 7, op 17 (.bin .lss) [.slot 16, .const (.one (.int .i64 (0 : Int)))]]) (.cond (.slot 17) (.seq (.region false [op 6 .move [.const (.one (.bool true))]]) (.ret)) (.skip))) (.seq (.region false [ow 18 (.load true 2) [.slot 4] [1] [], mv 19 7, o2 20 (.call ⟨258, [.val true 2, .val false 1], no 3, [.val false 1], ims 1, true⟩) 18 19, mv 7 20]) (.seq (.seq (.region false [mv 21 7, op 22 (.bin .lss) [.slot 21, .const (.one (.int .i64 (0 : Int)))]]) (.cond (.slot 22) (.seq (.region false [op 6 .move [.const (.one (.bool true))]]) (.ret)) (.skip))) (.seq (.region false [ow 23 (.load true 2) [.slot 5] [2] [], mv 24 7, o2 25 (.call ⟨258, [.val true 2, .val false 1], no 3, [.val false 1], ims 1, true⟩) 23 24, mv 7 25]) (.seq (.seq (.region false [mv 26 7, op 27 (.bin .lss) [.slot 26, .const (.one (.int .i64 (0 : Int)))]]) (.cond (.slot 27) (.seq (.region false [op 6 .move [.const (.one (.bool true))]]) (.ret)) (.skip))) (.seq (.region true [ow 28 (.load true 2) [.slot 3] [0] [], o1 29 (.call ⟨259, [.val true 2], no 2, [.val true 2], ims 2, true⟩) 28, ow 30 (.load true 2) [.slot 4] [1] [], o1 31 (.call ⟨259, [.val true 2], no 2, [.val true 2], ims 2, true⟩) 30, ow 32 (.load true 2) [.slot 5] [2] [], o1 33 (.call ⟨259, [.val true 2], no 2, [.val true 2], ims 2, true⟩) 32, op 34 (.call ⟨268, [.val true 2, .val true 2, .val true 2], no 6, [.val false 1], ims 1, true⟩) [.slot 29, .slot 31, .slot 33], mv 8 34]) (.seq (.region false [ow 35 (.load true 2) [.slot 3] [0] [], o1 36 (.call ⟨259, [.val true 2], no 2, [.val true 2], ims 2, true⟩) 35, ow 9 (.alloc 3 [.int .i64 (0 : Int), .nil]) [] [3] [3], on (.store 2) [.slot 9, .slot 36] [3] [3]]) (.seq (.region false [ow 37 (.load true 2) [.slot 4] [1] [], o1 38 (.call ⟨259, [.val true 2], no 2, [.val true 2], ims 2, true⟩) 37, ow 10 (.alloc 4 [.int .i64 (0 : Int), .nil]) [] [4] [4], on (.store 2) [.slot 10, .slot 38] [4] [4]]) (.seq (.region false [ow 39 (.load true 2) [.slot 5] [2] [], o1 40 (.call ⟨259, [.val true 2], no 2, [.val true 2], ims 2, true⟩) 39, ow 11 (.alloc 5 [.int .i64 (0 : Int), .nil]) [] [5] [5], on (.store 2) [.slot 11, .slot 40] [5] [5]]) (.seq (.region false [ow 41 (.load true 2) [.slot 9] [3] [], ow 42 (.load true 2) [.slot 10] [4] [], ow 43 (.load true 2) [.slot 11] [5] [], op 44 (.call ⟨269, [.val true 2, .val true 2, .val true 2], no 6, [.val false 1], ims 1, true⟩) [.slot 41, .slot 42, .slot 43], mv 12 44]) (.seq (.seq (.region false [mv 45 12, mv 46 8, o2 47 (.eqBool true) 45 46]) (.cond (.slot 47) (.seq (.region false [op 6 .move [.const (.one (.bool false))]]) (.ret)) (.skip))) (.seq (.seq (.region true [ow 48 (.load true 2) [.slot 9] [3] [], ow 49 (.load true 2) [.slot 3] [0] [], o1 50 (.call ⟨259, [.val true 2], no 2, [.val true 2], ims 2, true⟩) 49, o2 51 (.call ⟨265, [.val true 2, .val true 2], no 4, [.val false 1], ims 1, true⟩) 48 50, o1 52 .not 51]) (.cond (.slot 52) (.seq (.region false [op 6 .move [.const (.one (.bool false))]]) (.ret)) (.skip))) (.seq (.seq (.region true [ow 53 (.load true 2) [.slot 10] [4] [], ow 54 (.load true 2) [.slot 4] [1] [], o1 55 (.call ⟨259, [.val true 2], no 2, [.val true 2], ims 2, true⟩) 54, o2 56 (.call ⟨265, [.val true 2, .val true 2], no 4, [.val false 1], ims 1, true⟩) 53 55, o1 57 .not 56]) (.cond (.slot 57) (.seq (.region false [op 6 .move [.const (.one (.bool false))]]) (.ret)) (.skip))) (.seq (.seq (.region true [ow 58 (.load true 2) [.slot 11] [5] [], ow 59 (.load true 2) [.slot 5] [2] [], o1 60 (.call ⟨259, [.val true 2], no 2, [.val true 2], ims 2, true⟩) 59, o2 61 (.call ⟨265, [.val true 2, .val true 2], no 4, [.val false 1], ims 1, true⟩) 58 60, o1 62 .not 61]) (.cond (.slot 62) (.seq (.region false [op 6 .move [.const (.one (.bool false))]]) (.ret)) (.skip))) (.seq (.region false [op 6 .move [.const (.one (.bool true))]]) (.ret)))))))))))))))))) }
def laws_FnExactMayDrop.env (N : Nat) : Env := envOf (tbl [(269, impl_MayDrop.fs N), (265, laws_eqReport.fs N), (258, laws_szReport.fs N), (259, laws_toReport.fs N), (268, spec_MayDrop.fs N)] noFS)
def laws_FnExactMayDrop.F (N : Nat) (x : (Int × List Int) × (Int × List Int) × Int × List Int) : Option Bool := XFunc.run laws_FnExactMayDrop.x (laws_FnExactMayDrop.env N) N x
def laws_FnExactMayDrop.fs (N : Nat) : FS := { arg := .pair (.pair (.int .i64) (.list (.int .i64))) (.pair (.pair (.int .i64) (.list (.int .i64))) (.pair (.int .i64) (.list (.int .i64)))), ret := .bool, fresh := true, F := laws_FnExactMayDrop.F N }

theorem laws_FnExactMayDrop.F_eq (N : Nat) (aA : Int × List Int) (aB : Int × List Int) (aC : Int × List Int) : laws_FnExactMayDrop.F N (aA, aB, aC) =
    bindO (laws_szReport.F N (aA, (1048576 : Int))) fun r1 =>
    bif decide (r1 < (0 : Int)) then
      some true
    else
      bindO (laws_szReport.F N (aB, r1)) fun r2 =>
      bif decide (r2 < (0 : Int)) then
        some true
      else
        bindO (laws_szReport.F N (aC, r2)) fun r3 =>
        bif decide (r3 < (0 : Int)) then
          some true
        else
          bindO (laws_toReport.F N aA) fun r4 =>
          bindO (laws_toReport.F N aB) fun r5 =>
          bindO (laws_toReport.F N aC) fun r6 =>
          bindO (spec_MayDrop.F N (r4, (r5, r6))) fun r7 =>
          bindO (laws_toReport.F N aA) fun r8 =>
          bindO (laws_toReport.F N aB) fun r9 =>
          bindO (laws_toReport.F N aC) fun r10 =>
          bindO (impl_MayDrop.F N (r8, (r9, r10))) fun r11 =>
          bif r11 != r7 then
            some false
          else
            bindO (laws_toReport.F N aA) fun r12 =>
            bindO (laws_eqReport.F N (r8, r12)) fun r13 =>
            bif !r13 then
              some false
            else
              bindO (laws_toReport.F N aB) fun r14 =>
              bindO (laws_eqReport.F N (r9, r14)) fun r15 =>
              bif !r15 then
                some false
              else
                bindO (laws_toReport.F N aC) fun r16 =>
                bindO (laws_eqReport.F N (r10, r16)) fun r17 =>
                bif !r17 then
                  some false
                else
                  some true := by kernel_rfl

def spec_ActivePage.c1 : XCode := .seq (.seq (.region false [mv 6 4, op 7 (.bin .lss) [.slot 6, .const (.one (.int .i64 (2 : Int)))], ⟨some 8, .move, [.slot 7], [], [], none, true⟩, ⟨some 9, .load true 2, [.slot 1], [0], [], some (8, true), false⟩, ⟨some 10, .call ⟨96, [.val true 2], no 2, [.val false 1], ims 1, true⟩, [.slot 9], [], [], some (8, true), false⟩, op 11 .pick [.slot 8, .slot 10, .const (.one (.bool false))]]) (.cond (.slot 11) (.skip) (.exit 0))) (.seq (.block 1 (.seq (.region false [o1 14 (.fieldAddr 0) 1, ow 15 (.load false 1) [.slot 14] [0] [], mv 16 4, o2 17 (.indexAddr (.list (.int .i64))) 15 16, o1 18 (.load false 1) 17, op 19 (.indexAddr (.int .i64)) [.slot 18, .const (.one (.int .i64 (0 : Int)))], o1 20 (.load false 1) 19, mv 5 20]) (.seq (.region false [mv 21 5, op 22 (.call ⟨1, vs 3, no 3, [.val false 1], ims 1, true⟩) [.slot 21, .const (.one (.int .i64 (1 : Int))), .const (.one (.int .i64 (60000 : Int)))], ⟨some 23, .move, [.slot 22], [], [], none, true⟩, ⟨some 24, .move, [.slot 3], [], [], some (23, true), false⟩, ⟨some 25, .bin .lss, [.slot 24, .const (.one (.int .i64 (0 : Int)))], [], [], some (23, true), false⟩, ⟨some 26, .move, [.slot 25], [], [], some (23, true), true⟩, ⟨some 27, .move, [.slot 5], [], [], some (26, false), false⟩, ⟨some 28, .fieldAddr 0, [.slot 1], [], [], some (26, false), false⟩, ⟨some 29, .load false 1, [.slot 28], [0], [], some (26, false), false⟩, ⟨some 30, .move, [.slot 3], [], [], some (26, false), false⟩, ⟨some 31, .indexAddr (.list (.int .i64)), [.slot 29, .slot 30], [], [], some (26, false), false⟩, ⟨some 32, .load false 1, [.slot 31], [], [], some (26, false), false⟩, ⟨some 33, .indexAddr (.int .i64), [.slot 32, .const (.one (.int .i64 (0 : Int)))], [], [], some (26, false), false⟩, ⟨some 34, .load false 1, [.slot 33], [], [], some (26, false), false⟩, ⟨some 35, .bin .gtr, [.slot 27, .slot 34], [], [], some (26, false), false⟩, ⟨some 36, .pick, [.slot 26, .const (.one (.bool true)), .slot 35], [], [], some (23, true), false⟩, op 37 .pick [.slot 23, .slot 36, .const (.one (.bool false))]]) (.cond (.slot 37) (.region false [mv 38 4, mv 3 38]) (.skip))))) (.region false [mv 12 4, op 13 (.bin .add) [.slot 12, .const (.one (.int .i64 (1 : Int)))], mv 4 13]))
def spec_ActivePage.c2 : XCode := .seq (.region false [mv 39 3, mv 2 39]) (.ret)
def spec_ActivePage.x : XFunc := { nslots := 40, nobj := 1, pars := [.val true 2], rowsIn := [none, none], rets := [.tmp 2 false 1], outs := [.imm], fresh := true, arg := .pair (.list (.list (.int .i64))) (.list (.int .i64)), ret := .int .i64, body := .seq (.region false [ow 1 (.box 0) [.slot 0] [0] [0], op 2 .move [.const (.one (.int .i64 (0 : Int)))]]) (.seq (.region false [op 3 .move [.const (.one (.int .i64 (-1 : Int)))]]) (.seq (.seq (.region false [op 4 .move [.const (.one (.int .i64 (0 : Int)))]]) (.block 0 (.loop [.keep [1, 3, 4], .norm] (spec_ActivePage.c1)))) (spec_ActivePage.c2))) }
def spec_ActivePage.env (N : Nat) : Env := envOf (tbl [(96, spec_IsFlash.fs N), (1, spec_l1In.fs N)] noFS)
def spec_ActivePage.F (N : Nat) (x : (List (List Int)) × List Int) : Option Int := XFunc.run spec_ActivePage.x (spec_ActivePage.env N) N x
def spec_ActivePage.fs (N : Nat) : FS := { arg := .pair (.list (.list (.int .i64))) (.list (.int .i64)), ret := .int .i64, fresh := true, F := spec_ActivePage.F N }
def spec_ActivePage.k2 (N : Nat) : Ex → S → Option Int := seqK (fun s => XCode.runK (spec_ActivePage.env N) N (spec_ActivePage.c2) s (XFunc.endK spec_ActivePage.x)) (XFunc.endK spec_ActivePage.x)
def spec_ActivePage.k1 (N : Nat) : Ex → S → Option Int := blockK 0 (spec_ActivePage.k2 N)
def spec_ActivePage.L1 (N : Nat) (n1 : Nat) (best : Int) (i : Int) (o00 : List (List Int)) (o01 : List Int) : Option Int := loopK [.keep [1, 3, 4], .norm] (fun s k => XCode.runK (spec_ActivePage.env N) N spec_ActivePage.c1 s k) n1
  { t := [.junk, .one (.ptr 0 0 0), .junk, .one (.int .i64 best), .one (.int .i64 i), .junk, .junk, .junk, .junk, .junk, .junk, .junk, .junk, .junk, .junk, .junk, .junk, .junk, .junk, .junk, .junk, .junk, .junk, .junk, .junk, .junk, .junk, .junk, .junk, .junk, .junk, .junk, .junk, .junk, .junk, .junk, .junk, .junk, .junk, .junk], h := [.box 0 false [.sl false (.list (.int .i64)) o00, .sl false (.int .i64) o01]] }
  (spec_ActivePage.k1 N)

theorem spec_ActivePage.L1_eq (N : Nat) (n1 : Nat) (best : Int) (i : Int) (o00 : List (List Int)) (o01 : List Int) : spec_ActivePage.L1 N (n1 + 1) best i o00 o01 =
    bif decide (i < (2 : Int)) then
      bindO (spec_IsFlash.F N (o00, o01)) fun r1 =>
      bif r1 then
        bif inRange i (List.length o00) then
        bif inRange (0 : Int) (List.length (nth ([] : List Int) o00 i)) then
        bindO (spec_l1In.F N (nth (0 : Int) (nth ([] : List Int) o00 i) (0 : Int), ((1 : Int), (60000 : Int)))) fun r2 =>
        bif r2 then
          bif decide (best < (0 : Int)) then
            spec_ActivePage.L1 N n1 i (IntKind.wrap .i64 (i + (1 : Int))) o00 o01
          else
            bif inRange best (List.length o00) then
            bif inRange (0 : Int) (List.length (nth ([] : List Int) o00 best)) then
            bif decide ((nth (0 : Int) (nth ([] : List Int) o00 i) (0 : Int)) > (nth (0 : Int) (nth ([] : List Int) o00 best) (0 : Int))) then
              spec_ActivePage.L1 N n1 i (IntKind.wrap .i64 (i + (1 : Int))) o00 o01
            else
              spec_ActivePage.L1 N n1 best (IntKind.wrap .i64 (i + (1 : Int))) o00 o01
            else none
            else none
        else
          spec_ActivePage.L1 N n1 best (IntKind.wrap .i64 (i + (1 : Int))) o00 o01
        else none
        else none
      else
        some best
    else
      some best := by kernel_rfl
theorem spec_ActivePage.L1_zero (N : Nat) (best : Int) (i : Int) (o00 : List (List Int)) (o01 : List Int) : spec_ActivePage.L1 N 0 best i o00 o01 = none := rfl
theorem spec_ActivePage.F_eq (N : Nat) (f : (List (List Int)) × List Int) : spec_ActivePage.F N f =
    spec_ActivePage.L1 N N (-1 : Int) (0 : Int) f.1 f.2 := by kernel_rfl

def impl_ActivePage.c1 : XCode := .seq (.region false [o2 14 (.bin .lss) 13 12]) (.seq (.cond (.slot 14) (.skip) (.exit 0)) (.seq (.block 1 (.seq (.region false [mv 15 13, o2 16 (.indexAddr (.list (.int .i64))) 11 13, o1 17 (.load false 1) 16, mv 4 15, mv 5 17]) (.seq (.region true [mv 18 5, op 19 (.indexAddr (.int .i64)) [.slot 18, .const (.one (.int .i64 (0 : Int)))], o1 20 (.load false 1) 19, op 21 (.bin .geq) [.slot 20, .const (.one (.int .i64 (1 : Int)))], ⟨some 22, .move, [.slot 21], [], [], none, true⟩, ⟨some 23, .move, [.slot 5], [], [], some (22, true), false⟩, ⟨some 24, .indexAddr (.int .i64), [.slot 23, .const (.one (.int .i64 (0 : Int)))], [], [], some (22, true), false⟩, ⟨some 25, .load false 1, [.slot 24], [], [], some (22, true), false⟩, ⟨some 26, .bin .leq, [.slot 25, .const (.one (.int .i64 (60000 : Int)))], [], [], some (22, true), false⟩, op 27 .pick [.slot 22, .slot 26, .const (.one (.bool false))], ⟨some 28, .move, [.slot 27], [], [], none, true⟩, ⟨some 29, .move, [.slot 3], [], [], some (28, true), false⟩, ⟨some 30, .bin .lss, [.slot 29, .const (.one (.int .i64 (0 : Int)))], [], [], some (28, true), false⟩, ⟨some 31, .move, [.slot 30], [], [], some (28, true), true⟩, ⟨some 32, .move, [.slot 5], [], [], some (31, false), false⟩, ⟨some 33, .indexAddr (.int .i64), [.slot 32, .const (.one (.int .i64 (0 : Int)))], [], [], some (31, false), false⟩, ⟨some 34, .load false 1, [.slot 33], [], [], some (31, false), false⟩, ⟨some 35, .fieldAddr 0, [.slot 1], [], [], some (31, false), false⟩, ⟨some 36, .load false 1, [.slot 35], [0], [], some (31, false), false⟩, ⟨some 37, .move, [.slot 3], [], [], some (31, false), false⟩, ⟨some 38, .indexAddr (.list (.int .i64)), [.slot 36, .slot 37], [], [], some (31, false), false⟩, ⟨some 39, .load false 1, [.slot 38], [], [], some (31, false), false⟩, ⟨some 40, .indexAddr (.int .i64), [.slot 39, .const (.one (.int .i64 (0 : Int)))], [], [], some (31, false), false⟩, ⟨some 41, .load false 1, [.slot 40], [], [], some (31, false), false⟩, ⟨some 42, .bin .gtr, [.slot 34, .slot 41], [], [], some (31, false), false⟩, ⟨some 43, .pick, [.slot 31, .const (.one (.bool true)), .slot 42], [], [], some (28, true), false⟩, op 44 .pick [.slot 28, .slot 43, .const (.one (.bool false))]]) (.cond (.slot 44) (.region false [mv 45 4, mv 3 45]) (.skip))))) (.region false [op 46 (.bin .add) [.slot 13, .const (.one (.int .i64 (1 : Int)))], mv 13 46])))
def impl_ActivePage.c2 : XCode := .seq (.region false [mv 47 3, mv 2 47]) (.ret)
def impl_ActivePage.x : XFunc := { nslots := 48, nobj := 1, pars := [.val true 2], rowsIn := [none, none], rets := [.tmp 2 false 1], outs := [.imm], fresh := true, arg := .pair (.list (.list (.int .i64))) (.list (.int .i64)), ret := .int .i64, body := .seq (.region false [ow 1 (.box 0) [.slot 0] [0] [0], op 2 .move [.const (.one (.int .i64 (0 : Int)))]]) (.seq (.region false [op 3 .move [.const (.one (.int .i64 (-1 : Int)))]]) (.seq (.seq (.region false [ow 6 (.load true 2) [.slot 1] [0] [], o1 7 (.call ⟨108, [.val true 2], no 2, [.val false 1], ims 1, true⟩) 6, o1 8 .not 7]) (.cond (.slot 8) (.seq (.region false [mv 9 3, mv 2 9]) (.ret)) (.skip))) (.seq (.seq (.region false [o1 10 (.fieldAddr 0) 1, ow 11 (.load false 1) [.slot 10] [0] [], o1 12 .len 11, op 13 .move [.const (.one (.int .i64 (0 : Int)))]]) (.block 0 (.loop [.keep [1, 3, 11, 12, 13], .norm] (impl_ActivePage.c1)))) (impl_ActivePage.c2)))) }
def impl_ActivePage.env (N : Nat) : Env := envOf (tbl [(108, impl_IsFlash.fs N)] noFS)
def impl_ActivePage.F (N : Nat) (x : (List (List Int)) × List Int) : Option Int := XFunc.run impl_ActivePage.x (impl_ActivePage.env N) N x
def impl_ActivePage.fs (N : Nat) : FS := { arg := .pair (.list (.list (.int .i64))) (.list (.int .i64)), ret := .int .i64, fresh := true, F := impl_ActivePage.F N }
def impl_ActivePage.k2 (N : Nat) : Ex → S → Option Int := seqK (fun s => XCode.runK (impl_ActivePage.env N) N (impl_ActivePage.c2) s (XFunc.endK impl_ActivePage.x)) (XFunc.endK impl_ActivePage.x)
def impl_ActivePage.k1 (N : Nat) : Ex → S → Option Int := blockK 0 (impl_ActivePage.k2 N)
def impl_ActivePage.L1 (N : Nat) (n1 : Nat) (best : Int) (t11 : List (List Int)) (t12 : Int) (t13 : Int) (o00 : List (List Int)) (o01 : List Int) : Option Int := loopK [.keep [1, 3, 11, 12, 13], .norm] (fun s k => XCode.runK (impl_ActivePage.env N) N impl_ActivePage.c1 s k) n1
  { t := [.junk, .one (.ptr 0 0 0), .junk, .one (.int .i64 best), .junk, .junk, .junk, .junk, .junk, .junk, .junk, .one (.sl false (.list (.int .i64)) t11), .one (.int .i64 t12), .one (.int .i64 t13), .junk, .junk, .junk, .junk, .junk, .junk, .junk, .junk, .junk, .junk, .junk, .junk, .junk, .junk, .junk, .junk, .junk, .junk, .junk, .junk, .junk, .junk, .junk, .junk, .junk, .junk, .junk, .junk, .junk, .junk, .junk, .junk, .junk, .junk], h := [.box 0 false [.sl false (.list (.int .i64)) o00, .sl false (.int .i64) o01]] }
  (impl_ActivePage.k1 N)

theorem impl_ActivePage.L1_eq (N : Nat) (n1 : Nat) (best : Int) (t11 : List (List Int)) (t12 : Int) (t13 : Int) (o00 : List (List Int)) (o01 : List Int) : impl_ActivePage.L1 N (n1 + 1) best t11 t12 t13 o00 o01 =
    bif decide (t13 < t12) then
      bif inRange t13 (List.length t11) then
      bif inRange (0 : Int) (List.length (nth ([] : List Int) t11 t13)) then
      bif decide ((nth (0 : Int) (nth ([] : List Int) t11 t13) (0 : Int)) ≥ (1 : Int)) then
        bif inRange (0 : Int) (List.length (nth ([] : List Int) t11 t13)) then
        bif decide ((nth (0 : Int) (nth ([] : List Int) t11 t13) (0 : Int)) ≤ (60000 : Int)) then
          bif decide (best < (0 : Int)) then
            impl_ActivePage.L1 N n1 t13 t11 t12 (IntKind.wrap .i64 (t13 + (1 : Int))) o00 o01
          else
            bif inRange (0 : Int) (List.length (nth ([] : List Int) t11 t13)) then
            bif inRange best (List.length o00) then
            bif inRange (0 : Int) (List.length (nth ([] : List Int) o00 best)) then
            bif decide ((nth (0 : Int) (nth ([] : List Int) t11 t13) (0 : Int)) > (nth (0 : Int) (nth ([] : List Int) o00 best) (0 : Int))) then
              impl_ActivePage.L1 N n1 t13 t11 t12 (IntKind.wrap .i64 (t13 + (1 : Int))) o00 o01
            else
              impl_ActivePage.L1 N n1 best t11 t12 (IntKind.wrap .i64 (t13 + (1 : Int))) o00 o01
            else none
            else none
            else none
        else
          impl_ActivePage.L1 N n1 best t11 t12 (IntKind.wrap .i64 (t13 + (1 : Int))) o00 o01
        else none
      else
        impl_ActivePage.L1 N n1 best t11 t12 (IntKind.wrap .i64 (t13 + (1 : Int))) o00 o01
      else none
      else none
    else
      some best := by kernel_rfl
theorem impl_ActivePage.L1_zero (N : Nat) (best : Int) (t11 : List (List Int)) (t12 : Int) (t13 : Int) (o00 : List (List Int)) (o01 : List Int) : impl_ActivePage.L1 N 0 best t11 t12 t13 o00 o01 = none := rfl
theorem impl_ActivePage.F_eq (N : Nat) (f : (List (List Int)) × List Int) : impl_ActivePage.F N f =
    bindO (impl_IsFlash.F N f) fun r1 =>
    bif !r1 then
      some (-1 : Int)
    else
      impl_ActivePage.L1 N N (-1 : Int) f.1 (List.length f.1 : Int) (0 : Int) f.1 f.2 := by kernel_rfl

def laws_FnExactActivePage.x : XFunc := { nslots := 27, nobj := 2, pars := [.val true 2], rowsIn := [none, none], rets := [.tmp 2 false 1], outs := [.imm], fresh := true, arg := .pair (.list (.list (.int .i64))) (.list (.int .i64)), ret := .bool, body := .seq (.region false [ow 1 (.box 0) [.slot 0] [0] [0], op 2 .move [.const (.one (.bool false))]]) (.seq (.region false [op 3 .move [.const (.one (.int .i64 (1048576 : Int)))]]) (.seq (.region false [ow 7 (.load true 2) [.slot 1] [0] [], mv 8 3, o2 9 (.call ⟨253, [.val true 2, .val false 1], no 3, [.val false 1], ims 1, true⟩) 7 8, mv 3 9]) (.seq (.seq (.region false [mv 10 3, op 11 (.bin .lss) [.slot 10, .const (.one (.int .i64 (0 : Int)))]]) (.cond (.slot 11) (.seq (.region false [op 2 .move [.const (.one (.bool true))]]) (.ret)) (.skip))) (.seq (.region false [ow 12 (.load true 2) [.slot 1] [0] [], o1 13 (.call ⟨256, [.val true 2], no 2, [.val true 2], ims 2, true⟩) 12, o1 14 (.call ⟨97, [.val true 2], no 2, [.val false 1], ims 1, true⟩) 13, mv 4 14]) (.seq (.region false [ow 15 (.load true 2) [.slot 1] [0] [], o1 16 (.call ⟨256, [.val true 2], no 2, [.val true 2], ims 2, true⟩) 15, ow 5 (.alloc 1 [.nil, .nil]) [] [1] [1], on (.store 2) [.slot 5, .slot 16] [1] [1]]) (.seq (.region false [ow 17 (.load true 2) [.slot 5] [1] [], o1 18 (.call ⟨109, [.val true 2], no 2, [.val false 1], ims 1, true⟩) 17, mv 6 18]) (.seq (.seq (.region false [mv 19 6, mv 20 4, o2 21 (.bin .neq) 19 20]) (.cond (.slot 21) (.seq (.region false [op 2 .move [.const (.one (.bool false))]]) (.ret)) (.skip))) (.seq (.seq (.region true [ow 22 (.load true 2) [.slot 5] [1] [], ow 23 (.load true 2) [.slot 1] [0] [], o1 24 (.call ⟨256, [.val true 2], no 2, [.val true 2], ims 2, true⟩) 23, o2 25 (.call ⟨241, [.val true 2, .val true 2], no 4, [.val false 1], ims 1, true⟩) 22 24, o1 26 .not 25]) (.cond (.slot 26) (.seq (.region false [op 2 .move [.const (.one (.bool false))]]) (.ret)) (.skip))) (.seq (.region false [op 2 .move [.const (.one (.bool true))]]) (.ret)))))))))) }
def laws_FnExactActivePage.env (N : Nat) : Env := envOf (tbl [(109, impl_ActivePage.fs N), (241, laws_eqFlash.fs N), (253, laws_szFlash.fs N), (256, laws_toFlash.fs N), (97, spec_ActivePage.fs N)] noFS)
def laws_FnExactActivePage.F (N : Nat) (x : (List (List Int)) × List Int) : Option Bool := XFunc.run laws_FnExactActivePage.x (laws_FnExactActivePage.env N) N x
def laws_FnExactActivePage.fs (N : Nat) : FS := { arg := .pair (.list (.list (.int .i64))) (.list (.int .i64)), ret := .bool, fresh := true, F := laws_FnExactActivePage.F N }

theorem laws_FnExactActivePage.F_eq (N : Nat) (aF : (List (List Int)) × List Int) : laws_FnExactActivePage.F N aF =
    bindO (laws_szFlash.F N (aF, (1048576 : Int))) fun r1 =>
    bif decide (r1 < (0 : Int)) then
      some true
    else
      bindO (laws_toFlash.F N aF) fun r2 =>
      bindO (spec_ActivePage.F N r2) fun r3 =>
      bindO (laws_toFlash.F N aF) fun r4 =>
      bindO (impl_ActivePage.F N r4) fun r5 =>
      bif r5 != r3 then
        some false
      else
        bindO (laws_toFlash.F N aF) fun r6 =>
        bindO (laws_eqFlash.F N (r4, r6)) fun r7 =>
        bif !r7 then
          some false
        else
          some true := by kernel_rfl

def spec_FreeRecord.c1 : XCode := .seq (.seq (.region false [mv 20 7, op 21 (.bin .leq) [.slot 20, .const (.one (.int .i64 (3 : Int)))]]) (.cond (.slot 21) (.skip) (.exit 2))) (.seq (.block 3 (.seq (.region false [o1 24 (.fieldAddr 0) 2, ow 25 (.load false 1) [.slot 24] [0] [], mv 26 1, o2 27 (.indexAddr (.list (.int .i64))) 25 26, o1 28 (.load false 1) 27, mv 29 6, op 30 (.bin .mul) [.const (.one (.int .i64 (3 : Int))), .slot 29], mv 31 7, o2 32 (.bin .add) 30 31, o2 33 (.indexAddr (.int .i64)) 28 32, o1 34 (.load false 1) 33, op 35 (.bin .neq) [.slot 34, .const (.one (.int .i64 (65535 : Int)))]]) (.cond (.slot 35) (.seq (.region false [mv 36 5, mv 4 36]) (.ret)) (.skip)))) (.region false [mv 22 7, op 23 (.bin .add) [.slot 22, .const (.one (.int .i64 (1 : Int)))], mv 7 23]))
def spec_FreeRecord.c2 : XCode := .region false [mv 37 6, mv 5 37]
def spec_FreeRecord.c3 : XCode := .region false [mv 18 6, op 19 (.bin .sub) [.slot 18, .const (.one (.int .i64 (1 : Int)))], mv 6 19]
def spec_FreeRecord.c4 : XCode := .seq (.seq (.region false [mv 16 6, op 17 (.bin .geq) [.slot 16, .const (.one (.int .i64 (0 : Int)))]]) (.cond (.slot 17) (.skip) (.exit 0))) (.seq (.block 1 (.seq (.seq (.region false [op 7 .move [.const (.one (.int .i64 (1 : Int)))]]) (.block 2 (.loop [.keep [1, 2, 5, 6, 7], .norm] (spec_FreeRecord.c1)))) (spec_FreeRecord.c2))) (spec_FreeRecord.c3))
def spec_FreeRecord.c5 : XCode := .seq (.region false [mv 38 5, mv 4 38]) (.ret)
def spec_FreeRecord.x : XFunc := { nslots := 39, nobj := 1, pars := [.val true 2, .val false 1], rowsIn := [none, none, none], rets := [.tmp 4 false 1], outs := [.imm], fresh := true, arg := .pair (.pair (.list (.list (.int .i64))) (.list (.int .i64))) (.int .i64), ret := .int .i64, body := .seq (.region false [ow 2 (.box 0) [.slot 0] [0] [0], op 4 .move [.const (.one (.int .i64 (0 : Int)))]]) (.seq (.seq (.region false [ow 8 (.load true 2) [.slot 2] [0] [], o1 9 (.call ⟨96, [.val true 2], no 2, [.val false 1], ims 1, true⟩) 8, o1 10 .not 9, ⟨some 11, .move, [.slot 10], [], [], none, true⟩, ⟨some 12, .move, [.slot 1], [], [], some (11, false), false⟩, ⟨some 13, .call ⟨1, vs 3, no 3, [.val false 1], ims 1, true⟩, [.slot 12, .const (.one (.int .i64 (0 : Int))), .const (.one (.int .i64 (1 : Int)))], [], [], some (11, false), false⟩, ⟨some 14, .not, [.slot 13], [], [], some (11, false), false⟩, op 15 .pick [.slot 11, .const (.one (.bool true)), .slot 14]]) (.cond (.slot 15) (.seq (.region false [op 4 .move [.const (.one (.int .i64 (-1 : Int)))]]) (.ret)) (.skip))) (.seq (.region false [op 5 .move [.const (.one (.int .i64 (6 : Int)))]]) (.seq (.seq (.region false [op 6 .move [.const (.one (.int .i64 (5 : Int)))]]) (.block 0 (.loop [.keep [1, 2, 5, 6], .norm] (spec_FreeRecord.c4)))) (spec_FreeRecord.c5)))) }
def spec_FreeRecord.env (N : Nat) : Env := envOf (tbl [(96, spec_IsFlash.fs N), (1, spec_l1In.fs N)] noFS)
def spec_FreeRecord.F (N : Nat) (x : ((List (List Int)) × List Int) × Int) : Option Int := XFunc.run spec_FreeRecord.x (spec_FreeRecord.env N) N x
def spec_FreeRecord.fs (N : Nat) : FS := { arg := .pair (.pair (.list (.list (.int .i64))) (.list (.int .i64))) (.int .i64), ret := .int .i64, fresh := true, F := spec_FreeRecord.F N }
def spec_FreeRecord.k2 (N : Nat) : Ex → S → Option Int := seqK (fun s => XCode.runK (spec_FreeRecord.env N) N (spec_FreeRecord.c5) s (XFunc.endK spec_FreeRecord.x)) (XFunc.endK spec_FreeRecord.x)
def spec_FreeRecord.k1 (N : Nat) : Ex → S → Option Int := blockK 0 (spec_FreeRecord.k2 N)
def spec_FreeRecord.k7 (N : Nat) (n1 : Nat) : Ex → S → Option Int := seqK (fun s => bindO (S.ghosts s [.keep [1, 2, 5, 6], .norm]) fun s1 => loopK [.keep [1, 2, 5, 6], .norm] (fun s k => XCode.runK (spec_FreeRecord.env N) N spec_FreeRecord.c4 s k) n1 s1 (spec_FreeRecord.k1 N)) (spec_FreeRecord.k1 N)
def spec_FreeRecord.k6 (N : Nat) (n1 : Nat) : Ex → S → Option Int := seqK (fun s => XCode.runK (spec_FreeRecord.env N) N (spec_FreeRecord.c3) s (spec_FreeRecord.k7 N n1)) (spec_FreeRecord.k7 N n1)
def spec_FreeRecord.k5 (N : Nat) (n1 : Nat) : Ex → S → Option Int := blockK 1 (spec_FreeRecord.k6 N n1)
def spec_FreeRecord.k4 (N : Nat) (n1 : Nat) : Ex → S → Option Int := seqK (fun s => XCode.runK (spec_FreeRecord.env N) N (spec_FreeRecord.c2) s (spec_FreeRecord.k5 N n1)) (spec_FreeRecord.k5 N n1)
def spec_FreeRecord.k3 (N : Nat) (n1 : Nat) : Ex → S → Option Int := blockK 2 (spec_FreeRecord.k4 N n1)
def spec_FreeRecord.L1 (N : Nat) (n1 : Nat) (page : Int) (free : Int) (i : Int) (o00 : List (List Int)) (o01 : List Int) : Option Int := loopK [.keep [1, 2, 5, 6], .norm] (fun s k => XCode.runK (spec_FreeRecord.env N) N spec_FreeRecord.c4 s k) n1
  { t := [.junk, .one (.int .i64 page), .one (.ptr 0 0 0), .junk, .junk, .one (.int .i64 free), .one (.int .i64 i), .junk, .junk, .junk, .junk, .junk, .junk, .junk, .junk, .junk, .junk, .junk, .junk, .junk, .junk, .junk, .junk, .junk, .junk, .junk, .junk, .junk, .junk, .junk, .junk, .junk, .junk, .junk, .junk, .junk, .junk, .junk, .junk], h := [.box 0 false [.sl false (.list (.int .i64)) o00, .sl false (.int .i64) o01]] }
  (spec_FreeRecord.k1 N)
def spec_FreeRecord.L2 (N : Nat) (n1 : Nat) (n2 : Nat) (page : Int) (free : Int) (i : Int) (k_ : Int) (o00 : List (List Int)) (o01 : List Int) : Option Int := loopK [.keep [1, 2, 5, 6, 7], .norm] (fun s k => XCode.runK (spec_FreeRecord.env N) N spec_FreeRecord.c1 s k) n2
  { t := [.junk, .one (.int .i64 page), .one (.ptr 0 0 0), .junk, .junk, .one (.int .i64 free), .one (.int .i64 i), .one (.int .i64 k_), .junk, .junk, .junk, .junk, .junk, .junk, .junk, .junk, .junk, .junk, .junk, .junk, .junk, .junk, .junk, .junk, .junk, .junk, .junk, .junk, .junk, .junk, .junk, .junk, .junk, .junk, .junk, .junk, .junk, .junk, .junk], h := [.box 0 false [.sl false (.list (.int .i64)) o00, .sl false (.int .i64) o01]] }
  (spec_FreeRecord.k3 N n1)

theorem spec_FreeRecord.L1_eq (N : Nat) (n1 : Nat) (page : Int) (free : Int) (i : Int) (o00 : List (List Int)) (o01 : List Int) : spec_FreeRecord.L1 N (n1 + 1) page free i o00 o01 =
    bif decide (i ≥ (0 : Int)) then
      spec_FreeRecord.L2 N n1 N page free i (1 : Int) o00 o01
    else
      some free := by kernel_rfl
theorem spec_FreeRecord.L1_zero (N : Nat) (page : Int) (free : Int) (i : Int) (o00 : List (List Int)) (o01 : List Int) : spec_FreeRecord.L1 N 0 page free i o00 o01 = none := rfl
theorem spec_FreeRecord.L2_eq (N : Nat) (n1 : Nat) (n2 : Nat) (page : Int) (free : Int) (i : Int) (k_ : Int) (o00 : List (List Int)) (o01 : List Int) : spec_FreeRecord.L2 N n1 (n2 + 1) page free i k_ o00 o01 =
    bif decide (k_ ≤ (3 : Int)) then
      bif inRange page (List.length o00) then
      bif inRange (IntKind.wrap .i64 ((IntKind.wrap .i64 ((3 : Int) * i)) + k_)) (List.length (nth ([] : List Int) o00 page)) then
      bif (nth (0 : Int) (nth ([] : List Int) o00 page) (IntKind.wrap .i64 ((IntKind.wrap .i64 ((3 : Int) * i)) + k_))) != (65535 : Int) then
        some free
      else
        spec_FreeRecord.L2 N n1 n2 page free i (IntKind.wrap .i64 (k_ + (1 : Int))) o00 o01
      else none
      else none
    else
      spec_FreeRecord.L1 N n1 page i (IntKind.wrap .i64 (i - (1 : Int))) o00 o01 := by kernel_rfl
theorem spec_FreeRecord.L2_zero (N : Nat) (n1 : Nat) (page : Int) (free : Int) (i : Int) (k_ : Int) (o00 : List (List Int)) (o01 : List Int) : spec_FreeRecord.L2 N n1 0 page free i k_ o00 o01 = none := rfl
theorem spec_FreeRecord.F_eq (N : Nat) (f : (List (List Int)) × List Int) (page : Int) : spec_FreeRecord.F N (f, page) =
    bindO (spec_IsFlash.F N f) fun r1 =>
    bif !r1 then
      some (-1 : Int)
    else
      bindO (spec_l1In.F N (page, ((0 : Int), (1 : Int)))) fun r2 =>
      bif !r2 then
        some (-1 : Int)
      else
        spec_FreeRecord.L1 N N page (6 : Int) (5 : Int) f.1 f.2 := by kernel_rfl

def impl_FreeRecord.c1 : XCode := .seq (.seq (.region false [mv 18 5, op 19 (.bin .gtr) [.slot 18, .const (.one (.int .i64 (0 : Int)))]]) (.cond (.slot 19) (.skip) (.exit 0))) (.block 1 (.seq (.region false [o1 20 (.fieldAddr 0) 2, ow 21 (.load false 1) [.slot 20] [0] [], mv 22 1, o2 23 (.indexAddr (.list (.int .i64))) 21 22, o1 24 (.load false 1) 23, mv 25 5, op 26 (.bin .mul) [.const (.one (.int .i64 (3 : Int))), .slot 25], op 27 (.bin .sub) [.slot 26, .const (.one (.int .i64 (2 : Int)))], mv 28 5, op 29 (.bin .mul) [.const (.one (.int .i64 (3 : Int))), .slot 28], op 30 (.bin .add) [.slot 29, .const (.one (.int .i64 (1 : Int)))], op 31 (.slice (.int .i64) true true) [.slot 24, .slot 27, .slot 30], mv 6 31]) (.seq (.seq (.region false [mv 32 6, op 33 (.indexAddr (.int .i64)) [.slot 32, .const (.one (.int .i64 (0 : Int)))], o1 34 (.load false 1) 33, op 35 (.bin .neq) [.slot 34, .const (.one (.int .i64 (65535 : Int)))], ⟨some 36, .move, [.slot 35], [], [], none, true⟩, ⟨some 37, .move, [.slot 6], [], [], some (36, false), false⟩, ⟨some 38, .indexAddr (.int .i64), [.slot 37, .const (.one (.int .i64 (1 : Int)))], [], [], some (36, false), false⟩, ⟨some 39, .load false 1, [.slot 38], [], [], some (36, false), false⟩, ⟨some 40, .bin .neq, [.slot 39, .const (.one (.int .i64 (65535 : Int)))], [], [], some (36, false), false⟩, op 41 .pick [.slot 36, .const (.one (.bool true)), .slot 40], ⟨some 42, .move, [.slot 41], [], [], none, true⟩, ⟨some 43, .move, [.slot 6], [], [], some (42, false), false⟩, ⟨some 44, .indexAddr (.int .i64), [.slot 43, .const (.one (.int .i64 (2 : Int)))], [], [], some (42, false), false⟩, ⟨some 45, .load false 1, [.slot 44], [], [], some (42, false), false⟩, ⟨some 46, .bin .neq, [.slot 45, .const (.one (.int .i64 (65535 : Int)))], [], [], some (42, false), false⟩, op 47 .pick [.slot 42, .const (.one (.bool true)), .slot 46]]) (.cond (.slot 47) (.exit 0) (.skip))) (.region false [mv 48 5, op 49 (.bin .sub) [.slot 48, .const (.one (.int .i64 (1 : Int)))], mv 5 49]))))
def impl_FreeRecord.c2 : XCode := .seq (.region false [mv 50 5, mv 4 50]) (.ret)
def impl_FreeRecord.x : XFunc := { nslots := 51, nobj := 1, pars := [.val true 2, .val false 1], rowsIn := [none, none, none], rets := [.tmp 4 false 1], outs := [.imm], fresh := true, arg := .pair (.pair (.list (.list (.int .i64))) (.list (.int .i64))) (.int .i64), ret := .int .i64, body := .seq (.region false [ow 2 (.box 0) [.slot 0] [0] [0], op 4 .move [.const (.one (.int .i64 (0 : Int)))]]) (.seq (.seq (.region false [ow 7 (.load true 2) [.slot 2] [0] [], o1 8 (.call ⟨108, [.val true 2], no 2, [.val false 1], ims 1, true⟩) 7, o1 9 .not 8, ⟨some 10, .move, [.slot 9], [], [], none, true⟩, ⟨some 11, .move, [.slot 1], [], [], some (10, false), false⟩, ⟨some 12, .bin .lss, [.slot 11, .const (.one (.int .i64 (0 : Int)))], [], [], some (10, false), false⟩, op 13 .pick [.slot 10, .const (.one (.bool true)), .slot 12], ⟨some 14, .move, [.slot 13], [], [], none, true⟩, ⟨some 15, .move, [.slot 1], [], [], some (14, false), false⟩, ⟨some 16, .bin .gtr, [.slot 15, .const (.one (.int .i64 (1 : Int)))], [], [], some (14, false), false⟩, op 17 .pick [.slot 14, .const (.one (.bool true)), .slot 16]]) (.cond (.slot 17) (.seq (.region false [op 4 .move [.const (.one (.int .i64 (-1 : Int)))]]) (.ret)) (.skip))) (.seq (.region false [op 5 .move [.const (.one (.int .i64 (6 : Int)))]]) (.seq (.block 0 (.loop [.keep [1, 2, 5], .norm] (impl_FreeRecord.c1))) (impl_FreeRecord.c2)))) }
def impl_FreeRecord.env (N : Nat) : Env := envOf (tbl [(108, impl_IsFlash.fs N)] noFS)
def impl_FreeRecord.F (N : Nat) (x : ((List (List Int)) × List Int) × Int) : Option Int := XFunc.run impl_FreeRecord.x (impl_FreeRecord.env N) N x
def impl_FreeRecord.fs (N : Nat) : FS := { arg := .pair (.pair (.list (.list (.int .i64))) (.list (.int .i64))) (.int .i64), ret := .int .i64, fresh := true, F := impl_FreeRecord.F N }
def impl_FreeRecord.k2 (N : Nat) : Ex → S → Option Int := seqK (fun s => XCode.runK (impl_FreeRecord.env N) N (impl_FreeRecord.c2) s (XFunc.endK impl_FreeRecord.x)) (XFunc.endK impl_FreeRecord.x)
def impl_FreeRecord.k1 (N : Nat) : Ex → S → Option Int := blockK 0 (impl_FreeRecord.k2 N)
def impl_FreeRecord.L1 (N : Nat) (n1 : Nat) (page : Int) (n_ : Int) (o00 : List (List Int)) (o01 : List Int) : Option Int := loopK [.keep [1, 2, 5], .norm] (fun s k => XCode.runK (impl_FreeRecord.env N) N impl_FreeRecord.c1 s k) n1
  { t := [.junk, .one (.int .i64 page), .one (.ptr 0 0 0), .junk, .junk, .one (.int .i64 n_), .junk, .junk, .junk, .junk, .junk, .junk, .junk, .junk, .junk, .junk, .junk, .junk, .junk, .junk, .junk, .junk, .junk, .junk, .junk, .junk, .junk, .junk, .junk, .junk, .junk, .junk, .junk, .junk, .junk, .junk, .junk, .junk, .junk, .junk, .junk, .junk, .junk, .junk, .junk, .junk, .junk, .junk, .junk, .junk, .junk], h := [.box 0 false [.sl false (.list (.int .i64)) o00, .sl false (.int .i64) o01]] }
  (impl_FreeRecord.k1 N)

theorem impl_FreeRecord.L1_eq (N : Nat) (n1 : Nat) (page : Int) (n_ : Int) (o00 : List (List Int)) (o01 : List Int) : impl_FreeRecord.L1 N (n1 + 1) page n_ o00 o01 =
    bif decide (n_ > (0 : Int)) then
      bif inRange page (List.length o00) then
      bif bounds (IntKind.wrap .i64 ((IntKind.wrap .i64 ((3 : Int) * n_)) - (2 : Int))) (IntKind.wrap .i64 ((IntKind.wrap .i64 ((3 : Int) * n_)) + (1 : Int))) (List.length (nth ([] : List Int) o00 page)) then
      bif inRange (0 : Int) (List.length (List.drop (Int.toNat (IntKind.wrap .i64 ((IntKind.wrap .i64 ((3 : Int) * n_)) - (2 : Int)))) (List.take (Int.toNat (IntKind.wrap .i64 ((IntKind.wrap .i64 ((3 : Int) * n_)) + (1 : Int)))) (nth ([] : List Int) o00 page)))) then
      bif (nth (0 : Int) (List.drop (Int.toNat (IntKind.wrap .i64 ((IntKind.wrap .i64 ((3 : Int) * n_)) - (2 : Int)))) (List.take (Int.toNat (IntKind.wrap .i64 ((IntKind.wrap .i64 ((3 : Int) * n_)) + (1 : Int)))) (nth ([] : List Int) o00 page))) (0 : Int)) != (65535 : Int) then
        some n_
      else
        bif inRange (1 : Int) (List.length (List.drop (Int.toNat (IntKind.wrap .i64 ((IntKind.wrap .i64 ((3 : Int) * n_)) - (2 : Int)))) (List.take (Int.toNat (IntKind.wrap .i64 ((IntKind.wrap .i64 ((3 : Int) * n_)) + (1 : Int)))) (nth ([] : List Int) o00 page)))) then
        bif (nth (0 : Int) (List.drop (Int.toNat (IntKind.wrap .i64 ((IntKind.wrap .i64 ((3 : Int) * n_)) - (2 : Int)))) (List.take (Int.toNat (IntKind.wrap .i64 ((IntKind.wrap .i64 ((3 : Int) * n_)) + (1 : Int)))) (nth ([] : List Int) o00 page))) (1 : Int)) != (65535 : Int) then
          some n_
        else
          bif inRange (2 : Int) (List.length (List.drop (Int.toNat (IntKind.wrap .i64 ((IntKind.wrap .i64 ((3 : Int) * n_)) - (2 : Int)))) (List.take (Int.toNat (IntKind.wrap .i64 ((IntKind.wrap .i64 ((3 : Int) * n_)) + (1 : Int)))) (nth ([] : List Int) o00 page)))) then
          bif (nth (0 : Int) (List.drop (Int.toNat (IntKind.wrap .i64 ((IntKind.wrap .i64 ((3 : Int) * n_)) - (2 : Int)))) (List.take (Int.toNat (IntKind.wrap .i64 ((IntKind.wrap .i64 ((3 : Int) * n_)) + (1 : Int)))) (nth ([] : List Int) o00 page))) (2 : Int)) != (65535 : Int) then
            some n_
          else
            impl_FreeRecord.L1 N n1 page (IntKind.wrap .i64 (n_ - (1 : Int))) o00 o01
          else none
        else none
      else none
      else none
      else none
    else
      some n_ := by kernel_rfl
theorem impl_FreeRecord.L1_zero (N : Nat) (page : Int) (n_ : Int) (o00 : List (List Int)) (o01 : List Int) : impl_FreeRecord.L1 N 0 page n_ o00 o01 = none := rfl
theorem impl_FreeRecord.F_eq (N : Nat) (f : (List (List Int)) × List Int) (page : Int) : impl_FreeRecord.F N (f, page) =
    bindO (impl_IsFlash.F N f) fun r1 =>
    bif !r1 then
      some (-1 : Int)
    else
      bif decide (page < (0 : Int)) then
        some (-1 : Int)
      else
        bif decide (page > (1 : Int)) then
          some (-1 : Int)
        else
          impl_FreeRecord.L1 N N page (6 : Int) f.1 f.2 := by kernel_rfl

def laws_FnExactFreeRecord.x : XFunc := { nslots := 31, nobj := 2, pars := [.val true 2, .val false 1], rowsIn := [none, none, none], rets := [.tmp 4 false 1], outs := [.imm], fresh := true, arg := .pair (.pair (.list (.list (.int .i64))) (.list (.int .i64))) (.int .i64), ret := .bool, body := .seq (.region false [ow 2 (.box 0) [.slot 0] [0] [0], op 4 .move [.const (.one (.bool false))]]) (.seq (.region false [op 5 .move [.const (.one (.int .i64 (1048576 : Int)))]]) (.seq (.region false [ow 9 (.load true 2) [.slot 2] [0] [], mv 10 5, o2 11 (.call ⟨253, [.val true 2, .val false 1], no 3, [.val false 1], ims 1, true⟩) 9 10, mv 5 11]) (.seq (.seq (.region false [mv 12 5, op 13 (.bin .lss) [.slot 12, .const (.one (.int .i64 (0 : Int)))]]) (.cond (.slot 13) (.seq (.region false [op 4 .move [.const (.one (.bool true))]]) (.ret)) (.skip))) (.seq (.region false [ow 14 (.load true 2) [.slot 2] [0] [], o1 15 (.call ⟨256, [.val true 2], no 2, [.val true 2], ims 2, true⟩) 14, mv 16 1, o2 17 (.call ⟨98, [.val true 2, .val false 1], no 3, [.val false 1], ims 1, true⟩) 15 16, mv 6 17]) (.seq (.region false [ow 18 (.load true 2) [.slot 2] [0] [], o1 19 (.call ⟨256, [.val true 2], no 2, [.val true 2], ims 2, true⟩) 18, ow 7 (.alloc 1 [.nil, .nil]) [] [1] [1], on (.store 2) [.slot 7, .slot 19] [1] [1]]) (.seq (.region false [ow 20 (.load true 2) [.slot 7] [1] [], mv 21 1, o2 22 (.call ⟨110, [.val true 2, .val false 1], no 3, [.val false 1], ims 1, true⟩) 20 21, mv 8 22]) (.seq (.seq (.region false [mv 23 8, mv 24 6, o2 25 (.bin .neq) 23 24]) (.cond (.slot 25) (.seq (.region false [op 4 .move [.const (.one (.bool false))]]) (.ret)) (.skip))) (.seq (.seq (.region true [ow 26 (.load true 2) [.slot 7] [1] [], ow 27 (.load true 2) [.slot 2] [0] [], o1 28 (.call ⟨256, [.val true 2], no 2, [.val true 2], ims 2, true⟩) 27, o2 29 (.call ⟨241, [.val true 2, .val true 2], no 4, [.val false 1], ims 1, true⟩) 26 28, o1 30 .not 29]) (.cond (.slot 30) (.seq (.region false [op 4 .move [.const (.one (.bool false))]]) (.ret)) (.skip))) (.seq (.region false [op 4 .move [.const (.one (.bool true))]]) (.ret)))))))))) }
def laws_FnExactFreeRecord.env (N : Nat) : Env := envOf (tbl [(110, impl_FreeRecord.fs N), (241, laws_eqFlash.fs N), (253, laws_szFlash.fs N), (256, laws_toFlash.fs N), (98, spec_FreeRecord.fs N)] noFS)
def laws_FnExactFreeRecord.F (N : Nat) (x : ((List (List Int)) × List Int) × Int) : Option Bool := XFunc.run laws_FnExactFreeRecord.x (laws_FnExactFreeRecord.env N) N x
def laws_FnExactFreeRecord.fs (N : Nat) : FS := { arg := .pair (.pair (.list (.list (.int .i64))) (.list (.int .i64))) (.int .i64), ret := .bool, fresh := true, F := laws_FnExactFreeRecord.F N }

theorem laws_FnExactFreeRecord.F_eq (N : Nat) (aF : (List (List Int)) × List Int) (aPage : Int) : laws_FnExactFreeRecord.F N (aF, aPage) =
    bindO (laws_szFlash.F N (aF, (1048576 : Int))) fun r1 =>
    bif decide (r1 < (0 : Int)) then
      some true
    else
      bindO (laws_toFlash.F N aF) fun r2 =>
      bindO (spec_FreeRecord.F N (r2, aPage)) fun r3 =>
      bindO (laws_toFlash.F N aF) fun r4 =>
      bindO (impl_FreeRecord.F N (r4, aPage)) fun r5 =>
      bif r5 != r3 then
        some false
      else
        bindO (laws_toFlash.F N aF) fun r6 =>
        bindO (laws_eqFlash.F N (r4, r6)) fun r7 =>
        bif !r7 then
          some false
        else
          some true := by kernel_rfl

def laws_szReportS.c1 : XCode := .seq (.seq (.region false [mv 12 5, mv 13 0, o1 14 .len 13, o2 15 (.bin .lss) 12 14]) (.cond (.slot 15) (.skip) (.exit 0))) (.seq (.block 1 (.seq (.region false [mv 18 0, mv 19 5, o2 20 (.indexAddr (.pair (.int .i64) (.list (.int .i64)))) 18 19, o1 21 (.load true 2) 20, mv 22 1, o2 23 (.call ⟨258, [.val true 2, .val false 1], no 3, [.val false 1], ims 1, true⟩) 21 22, mv 1 23]) (.seq (.region false [mv 24 1, op 25 (.bin .lss) [.slot 24, .const (.one (.int .i64 (0 : Int)))]]) (.cond (.slot 25) (.seq (.region false [op 4 .move [.const (.one (.int .i64 (-1 : Int)))]]) (.ret)) (.skip))))) (.region false [mv 16 5, op 17 (.bin .add) [.slot 16, .const (.one (.int .i64 (1 : Int)))], mv 5 17]))
def laws_szReportS.c2 : XCode := .seq (.region false [mv 26 1, mv 4 26]) (.ret)
def laws_szReportS.x : XFunc := { nslots := 27, nobj := 0, pars := [.val false 1, .val false 1], rowsIn := [none, none], rets := [.tmp 4 false 1], outs := [.imm], fresh := true, arg := .pair (.list (.pair (.int .i64) (.list (.int .i64)))) (.int .i64), ret := .int .i64, body := .seq (.region false [op 4 .move [.const (.one (.int .i64 (0 : Int)))]]) (.seq (.region false [mv 6 1, mv 7 0, o1 8 .len 7, o2 9 (.bin .sub) 6 8, mv 1 9]) (.seq (.seq (.region false [mv 10 1, op 11 (.bin .lss) [.slot 10, .const (.one (.int .i64 (0 : Int)))]]) (.cond (.slot 11) (.seq (.region false [op 4 .move [.const (.one (.int .i64 (-1 : Int)))]]) (.ret)) (.skip))) (.seq (.seq (.region false [op 5 .move [.const (.one (.int .i64 (0 : Int)))]]) (.block 0 (.loop [.keep [0, 1, 5], .norm] (laws_szReportS.c1)))) (laws_szReportS.c2)))) }
def laws_szReportS.env (N : Nat) : Env := envOf (tbl [(258, laws_szReport.fs N)] noFS)
def laws_szReportS.F (N : Nat) (x : (List (Int × List Int)) × Int) : Option Int := XFunc.run laws_szReportS.x (laws_szReportS.env N) N x
def laws_szReportS.fs (N : Nat) : FS := { arg := .pair (.list (.pair (.int .i64) (.list (.int .i64)))) (.int .i64), ret := .int .i64, fresh := true, F := laws_szReportS.F N }
def laws_szReportS.k2 (N : Nat) : Ex → S → Option Int := seqK (fun s => XCode.runK (laws_szReportS.env N) N (laws_szReportS.c2) s (XFunc.endK laws_szReportS.x)) (XFunc.endK laws_szReportS.x)
def laws_szReportS.k1 (N : Nat) : Ex → S → Option Int := blockK 0 (laws_szReportS.k2 N)
def laws_szReportS.L1 (N : Nat) (n1 : Nat) (a : List (Int × List Int)) (left : Int) (i : Int) : Option Int := loopK [.keep [0, 1, 5], .norm] (fun s k => XCode.runK (laws_szReportS.env N) N laws_szReportS.c1 s k) n1
  { t := [.one (.sl false (.pair (.int .i64) (.list (.int .i64))) a), .one (.int .i64 left), .junk, .junk, .junk, .one (.int .i64 i), .junk, .junk, .junk, .junk, .junk, .junk, .junk, .junk, .junk, .junk, .junk, .junk, .junk, .junk, .junk, .junk, .junk, .junk, .junk, .junk, .junk], h := [] }
  (laws_szReportS.k1 N)

theorem laws_szReportS.L1_eq (N : Nat) (n1 : Nat) (a : List (Int × List Int)) (left : Int) (i : Int) : laws_szReportS.L1 N (n1 + 1) a left i =
    bif decide (i < (List.length a : Int)) then
      bif inRange i (List.length a) then
      bindO (laws_szReport.F N ((nth ((0 : Int), ([] : List Int)) a i), left)) fun r1 =>
      bif decide (r1 < (0 : Int)) then
        some (-1 : Int)
      else
        laws_szReportS.L1 N n1 a r1 (IntKind.wrap .i64 (i + (1 : Int)))
      else none
    else
      some left := by kernel_rfl
theorem laws_szReportS.L1_zero (N : Nat) (a : List (Int × List Int)) (left : Int) (i : Int) : laws_szReportS.L1 N 0 a left i = none := rfl
theorem laws_szReportS.F_eq (N : Nat) (a : List (Int × List Int)) (left : Int) : laws_szReportS.F N (a, left) =
    bif decide ((IntKind.wrap .i64 (left - (List.length a : Int))) < (0 : Int)) then
      some (-1 : Int)
    else
      laws_szReportS.L1 N N a (IntKind.wrap .i64 (left - (List.length a : Int))) (0 : Int) := by kernel_rfl

def laws_szPipe.x : XFunc := { nslots := 18, nobj := 1, pars := [.val true 3, .val false 1], rowsIn := [none, none, none, none], rets := [.tmp 4 false 1], outs := [.imm], fresh := true, arg := .pair (.pair (.pair (.int .i64) (.list (.int .i64))) (.list (.pair (.int .i64) (.list (.int .i64))))) (.int .i64), ret := .int .i64, body := .seq (.region false [ow 2 (.box 0) [.slot 0] [0] [0], op 4 .move [.const (.one (.int .i64 (0 : Int)))]]) (.seq (.region false [o1 5 (.fieldAddr 0) 2, ow 6 (.load true 2) [.slot 5] [0] [], mv 7 1, o2 8 (.call ⟨258, [.val true 2, .val false 1], no 3, [.val false 1], ims 1, true⟩) 6 7, mv 1 8]) (.seq (.seq (.region false [mv 9 1, op 10 (.bin .lss) [.slot 9, .const (.one (.int .i64 (0 : Int)))]]) (.cond (.slot 10) (.seq (.region false [op 4 .move [.const (.one (.int .i64 (-1 : Int)))]]) (.ret)) (.skip))) (.seq (.region false [o1 11 (.fieldAddr 2) 2, ow 12 (.load false 1) [.slot 11] [0] [], mv 13 1, o2 14 (.call ⟨273, vs 2, no 2, [.val false 1], ims 1, true⟩) 12 13, mv 1 14]) (.seq (.seq (.region false [mv 15 1, op 16 (.bin .lss) [.slot 15, .const (.one (.int .i64 (0 : Int)))]]) (.cond (.slot 16) (.seq (.region false [op 4 .move [.const (.one (.int .i64 (-1 : Int)))]]) (.ret)) (.skip))) (.seq (.region false [mv 17 1, mv 4 17]) (.ret)))))) }
def laws_szPipe.env (N : Nat) : Env := envOf (tbl [(258, laws_szReport.fs N), (273, laws_szReportS.fs N)] noFS)
def laws_szPipe.F (N : Nat) (x : ((Int × List Int) × List (Int × List Int)) × Int) : Option Int := XFunc.run laws_szPipe.x (laws_szPipe.env N) N x
def laws_szPipe.fs (N : Nat) : FS := { arg := .pair (.pair (.pair (.int .i64) (.list (.int .i64))) (.list (.pair (.int .i64) (.list (.int .i64))))) (.int .i64), ret := .int .i64, fresh := true, F := laws_szPipe.F N }

theorem laws_szPipe.F_eq (N : Nat) (a : (Int × List Int) × List (Int × List Int)) (left : Int) : laws_szPipe.F N (a, left) =
    bindO (laws_szReport.F N (a.1, left)) fun r1 =>
    bif decide (r1 < (0 : Int)) then
      some (-1 : Int)
    else
      bindO (laws_szReportS.F N (a.2, r1)) fun r2 =>
      bif decide (r2 < (0 : Int)) then
        some (-1 : Int)
      else
        some r2 := by kernel_rfl

def laws_toReportS.c1 : XCode := .seq (.seq (.region false [mv 8 4, mv 9 0, o1 10 .len 9, o2 11 (.bin .lss) 8 10]) (.cond (.slot 11) (.skip) (.exit 0))) (.seq (.block 1 (.region false [mv 14 3, mv 15 4, mv 16 0, mv 17 4, o2 18 (.indexAddr (.pair (.int .i64) (.list (.int .i64)))) 16 17, o1 19 (.load true 2) 18, o1 20 (.call ⟨259, [.val true 2], no 2, [.val true 2], ims 2, true⟩) 19, ow 21 (.indexAddr (.pair (.int .i64) (.list (.int .i64)))) [.slot 14, .slot 15] [0] [], on (.store 2) [.slot 21, .slot 20] [0] [0]])) (.region false [mv 12 4, op 13 (.bin .add) [.slot 12, .const (.one (.int .i64 (1 : Int)))], mv 4 13]))
def laws_toReportS.c2 : XCode := .seq (.region false [mv 22 3, mv 2 22]) (.ret)
def laws_toReportS.x : XFunc := { nslots := 23, nobj := 1, pars := [.val false 1], rowsIn := [none], rets := [.tmp 2 false 1], outs := [.own 12], fresh := true, arg := .list (.pair (.int .i64) (.list (.int .i64))), ret := .list (.pair (.int .i64) (.list (.int .i64))), body := .seq (.region false [op 2 .move [.const (.one (.nil))]]) (.seq (.region false [mv 5 0, o1 6 .len 5, ow 7 (.makeSlice 0 12 (.pair (.int .i64) (.list (.int .i64)))) [.slot 6, .slot 6] [0] [0], mv 3 7]) (.seq (.seq (.region false [op 4 .move [.const (.one (.int .i64 (0 : Int)))]]) (.block 0 (.loop [.keep [0, 3, 4], .norm] (laws_toReportS.c1)))) (laws_toReportS.c2))) }
def laws_toReportS.env (N : Nat) : Env := envOf (tbl [(259, laws_toReport.fs N)] noFS)
def laws_toReportS.F (N : Nat) (x : List (Int × List Int)) : Option (List (Int × List Int)) := XFunc.run laws_toReportS.x (laws_toReportS.env N) N x
def laws_toReportS.fs (N : Nat) : FS := { arg := .list (.pair (.int .i64) (.list (.int .i64))), ret := .list (.pair (.int .i64) (.list (.int .i64))), fresh := true, F := laws_toReportS.F N }
def laws_toReportS.k2 (N : Nat) : Ex → S → Option (List (Int × List Int)) := seqK (fun s => XCode.runK (laws_toReportS.env N) N (laws_toReportS.c2) s (XFunc.endK laws_toReportS.x)) (XFunc.endK laws_toReportS.x)
def laws_toReportS.k1 (N : Nat) : Ex → S → Option (List (Int × List Int)) := blockK 0 (laws_toReportS.k2 N)
def laws_toReportS.L1 (N : Nat) (n1 : Nat) (a : List (Int × List Int)) (i : Int) (o0 : List (Int × List Int)) : Option (List (Int × List Int)) := loopK [.keep [0, 3, 4], .norm] (fun s k => XCode.runK (laws_toReportS.env N) N laws_toReportS.c1 s k) n1
  { t := [.one (.sl false (.pair (.int .i64) (.list (.int .i64))) a), .junk, .junk, .one (.ref 0 0 .all), .one (.int .i64 i), .junk, .junk, .junk, .junk, .junk, .junk, .junk, .junk, .junk, .junk, .junk, .junk, .junk, .junk, .junk, .junk, .junk, .junk], h := [.row 0 false true 12 (.pair (.int .i64) (.list (.int .i64))) o0] }
  (laws_toReportS.k1 N)

theorem laws_toReportS.L1_eq (N : Nat) (n1 : Nat) (a : List (Int × List Int)) (i : Int) (o0 : List (Int × List Int)) : laws_toReportS.L1 N (n1 + 1) a i o0 =
    bif decide (i < (List.length a : Int)) then
      bif inRange i (List.length a) then
      bindO (laws_toReport.F N (nth ((0 : Int), ([] : List Int)) a i)) fun r1 =>
      bif inRange i (List.length o0) then
      laws_toReportS.L1 N n1 a (IntKind.wrap .i64 (i + (1 : Int))) (List.set o0 (Int.toNat i) r1)
      else none
      else none
    else
      some o0 := by kernel_rfl
theorem laws_toReportS.L1_zero (N : Nat) (a : List (Int × List Int)) (i : Int) (o0 : List (Int × List Int)) : laws_toReportS.L1 N 0 a i o0 = none := rfl
theorem laws_toReportS.F_eq (N : Nat) (a : List (Int × List Int)) : laws_toReportS.F N a =
    bif decide (0 ≤ (List.length a : Int)) && decide ((List.length a : Int) ≤ (maxN : Int)) then
    laws_toReportS.L1 N N a (0 : Int) (List.replicate (Int.toNat (List.length a : Int)) ((0 : Int), ([] : List Int)))
    else none := by kernel_rfl

def laws_toPipe.x : XFunc := { nslots := 13, nobj := 3, pars := [.val true 3], rowsIn := [none, none, none], rets := [.var 2 true 3], outs := [.imm, .imm, .imm], fresh := true, arg := .pair (.pair (.int .i64) (.list (.int .i64))) (.list (.pair (.int .i64) (.list (.int .i64)))), ret := .pair (.pair (.int .i64) (.list (.int .i64))) (.list (.pair (.int .i64) (.list (.int .i64)))), body := .seq (.region false [ow 1 (.box 0) [.slot 0] [0] [0], ow 2 (.alloc 1 [.int .i64 (0 : Int), .nil, .nil]) [] [1] [1]]) (.seq (.region false [ow 3 (.alloc 2 [.int .i64 (0 : Int), .nil, .nil]) [] [2] [2]]) (.seq (.region false [o1 4 (.fieldAddr 0) 1, ow 5 (.load true 2) [.slot 4] [0] [], o1 6 (.call ⟨259, [.val true 2], no 2, [.val true 2], ims 2, true⟩) 5, o1 7 (.fieldAddr 0) 3, on (.store 2) [.slot 7, .slot 6] [2] [2]]) (.seq (.region false [o1 8 (.fieldAddr 2) 1, ow 9 (.load false 1) [.slot 8] [0] [], o1 10 (.call ⟨275, vs 1, no 1, [.val false 1], ims 1, true⟩) 9, o1 11 (.fieldAddr 2) 3, on (.store 1) [.slot 11, .slot 10] [2] [2]]) (.seq (.region false [ow 12 (.load true 3) [.slot 3] [2] [], on (.store 3) [.slot 2, .slot 12] [1] [1]]) (.ret))))) }
def laws_toPipe.env (N : Nat) : Env := envOf (tbl [(259, laws_toReport.fs N), (275, laws_toReportS.fs N)] noFS)
def laws_toPipe.F (N : Nat) (x : (Int × List Int) × List (Int × List Int)) : Option ((Int × List Int) × List (Int × List Int)) := XFunc.run laws_toPipe.x (laws_toPipe.env N) N x
def laws_toPipe.fs (N : Nat) : FS := { arg := .pair (.pair (.int .i64) (.list (.int .i64))) (.list (.pair (.int .i64) (.list (.int .i64)))), ret := .pair (.pair (.int .i64) (.list (.int .i64))) (.list (.pair (.int .i64) (.list (.int .i64)))), fresh := true, F := laws_toPipe.F N }

theorem laws_toPipe.F_eq (N : Nat) (a : (Int × List Int) × List (Int × List Int)) : laws_toPipe.F N a =
    bindO (laws_toReport.F N a.1) fun r1 =>
    bindO (laws_toReportS.F N a.2) fun r2 =>
    some (r1, r2) := by kernel_rfl

def spec_SameReport.c1 : XCode := .seq (.seq (.region false [mv 20 5, o1 21 (.fieldAddr 1) 2, ow 22 (.load false 1) [.slot 21] [0] [], o1 23 .len 22, o2 24 (.bin .lss) 20 23]) (.cond (.slot 24) (.skip) (.exit 0))) (.seq (.block 1 (.seq (.region true [o1 27 (.fieldAddr 1) 2, ow 28 (.load false 1) [.slot 27] [0] [], mv 29 5, o2 30 (.indexAddr (.int .i64)) 28 29, o1 31 (.load false 1) 30, o1 32 (.fieldAddr 1) 3, ow 33 (.load false 1) [.slot 32] [1] [], mv 34 5, o2 35 (.indexAddr (.int .i64)) 33 34, o1 36 (.load false 1) 35, o2 37 (.bin .neq) 31 36]) (.cond (.slot 37) (.seq (.region false [op 4 .move [.const (.one (.bool false))]]) (.ret)) (.skip)))) (.region false [mv 25 5, op 26 (.bin .add) [.slot 25, .const (.one (.int .i64 (1 : Int)))], mv 5 26]))
def spec_SameReport.c2 : XCode := .seq (.region false [op 4 .move [.const (.one (.bool true))]]) (.ret)
def spec_SameReport.x : XFunc := { nslots := 38, nobj := 2, pars := [.val true 2, .val true 2], rowsIn := [none, none, none, none], rets := [.tmp 4 false 1], outs := [.imm], fresh := true, arg := .pair (.pair (.int .i64) (.list (.int .i64))) (.pair (.int .i64) (.list (.int .i64))), ret := .bool, body := .seq (.region false [ow 2 (.box 0) [.slot 0] [0] [0], ow 3 (.box 1) [.slot 1] [1] [1], op 4 .move [.const (.one (.bool false))]]) (.seq (.seq (.region false [o1 6 (.fieldAddr 0) 2, ow 7 (.load false 1) [.slot 6] [0] [], o1 8 (.fieldAddr 0) 3, ow 9 (.load false 1) [.slot 8] [1] [], o2 10 (.bin .neq) 7 9, ⟨some 11, .move, [.slot 10], [], [], none, true⟩, ⟨some 12, .fieldAddr 1, [.slot 2], [], [], some (11, false), false⟩, ⟨some 13, .load false 1, [.slot 12], [0], [], some (11, false), false⟩, ⟨some 14, .len, [.slot 13], [], [], some (11, false), false⟩, ⟨some 15, .fieldAddr 1, [.slot 3], [], [], some (11, false), false⟩, ⟨some 16, .load false 1, [.slot 15], [1], [], some (11, false), false⟩, ⟨some 17, .len, [.slot 16], [], [], some (11, false), false⟩, ⟨some 18, .bin .neq, [.slot 14, .slot 17], [], [], some (11, false), false⟩, op 19 .pick [.slot 11, .const (.one (.bool true)), .slot 18]]) (.cond (.slot 19) (.seq (.region false [op 4 .move [.const (.one (.bool false))]]) (.ret)) (.skip))) (.seq (.seq (.region false [op 5 .move [.const (.one (.int .i64 (0 : Int)))]]) (.block 0 (.loop [.keep [2, 3, 5], .norm] (spec_SameReport.c1)))) (spec_SameReport.c2))) }
def spec_SameReport.env (_ : Nat) : Env := envOf (tbl [] noFS)
def spec_SameReport.F (N : Nat) (x : (Int × List Int) × Int × List Int) : Option Bool := XFunc.run spec_SameReport.x (spec_SameReport.env N) N x
def spec_SameReport.fs (N : Nat) : FS := { arg := .pair (.pair (.int .i64) (.list (.int .i64))) (.pair (.int .i64) (.list (.int .i64))), ret := .bool, fresh := true, F := spec_SameReport.F N }
def spec_SameReport.k2 (N : Nat) : Ex → S → Option Bool := seqK (fun s => XCode.runK (spec_SameReport.env N) N (spec_SameReport.c2) s (XFunc.endK spec_SameReport.x)) (XFunc.endK spec_SameReport.x)
def spec_SameReport.k1 (N : Nat) : Ex → S → Option Bool := blockK 0 (spec_SameReport.k2 N)
def spec_SameReport.L1 (N : Nat) (n1 : Nat) (i : Int) (o00 : Int) (o01 : List Int) (o10 : Int) (o11 : List Int) : Option Bool := loopK [.keep [2, 3, 5], .norm] (fun s k => XCode.runK (spec_SameReport.env N) N spec_SameReport.c1 s k) n1
  { t := [.junk, .junk, .one (.ptr 0 0 0), .one (.ptr 1 0 0), .junk, .one (.int .i64 i), .junk, .junk, .junk, .junk, .junk, .junk, .junk, .junk, .junk, .junk, .junk, .junk, .junk, .junk, .junk, .junk, .junk, .junk, .junk, .junk, .junk, .junk, .junk, .junk, .junk, .junk, .junk, .junk, .junk, .junk, .junk, .junk], h := [.box 0 false [.int .i64 o00, .sl false (.int .i64) o01], .box 0 false [.int .i64 o10, .sl false (.int .i64) o11]] }
  (spec_SameReport.k1 N)

theorem spec_SameReport.L1_eq (N : Nat) (n1 : Nat) (i : Int) (o00 : Int) (o01 : List Int) (o10 : Int) (o11 : List Int) : spec_SameReport.L1 N (n1 + 1) i o00 o01 o10 o11 =
    bif decide (i < (List.length o01 : Int)) then
      bif inRange i (List.length o01) then
      bif inRange i (List.length o11) then
      bif (nth (0 : Int) o01 i) != (nth (0 : Int) o11 i) then
        some false
      else
        spec_SameReport.L1 N n1 (IntKind.wrap .i64 (i + (1 : Int))) o00 o01 o10 o11
      else none
      else none
    else
      some true := by kernel_rfl
theorem spec_SameReport.L1_zero (N : Nat) (i : Int) (o00 : Int) (o01 : List Int) (o10 : Int) (o11 : List Int) : spec_SameReport.L1 N 0 i o00 o01 o10 o11 = none := rfl
theorem spec_SameReport.F_eq (N : Nat) (a : Int × List Int) (b : Int × List Int) : spec_SameReport.F N (a, b) =
    bif a.1 != b.1 then
      some false
    else
      bif (List.length a.2 : Int) != (List.length b.2 : Int) then
        some false
      else
        spec_SameReport.L1 N N (0 : Int) a.1 a.2 b.1 b.2 := by kernel_rfl

def spec_IsPipe.c1 : XCode := .seq (.seq (.region false [mv 7 4, o1 8 (.fieldAddr 2) 1, ow 9 (.load false 1) [.slot 8] [0] [], o1 10 .len 9, o2 11 (.bin .lss) 7 10]) (.cond (.slot 11) (.skip) (.exit 0))) (.seq (.block 1 (.seq (.seq (.region true [o1 14 (.fieldAddr 2) 1, ow 15 (.load false 1) [.slot 14] [0] [], mv 16 4, o2 17 (.indexAddr (.pair (.int .i64) (.list (.int .i64)))) 15 16, o1 18 (.load true 2) 17, o1 19 (.call ⟨260, [.val true 2], no 2, [.val false 1], ims 1, true⟩) 18, o1 20 .not 19, ⟨some 21, .move, [.slot 20], [], [], none, true⟩, ⟨some 22, .load true 2, [.slot 3], [1], [], some (21, false), false⟩, ⟨some 23, .fieldAddr 2, [.slot 1], [], [], some (21, false), false⟩, ⟨some 24, .load false 1, [.slot 23], [0], [], some (21, false), false⟩, ⟨some 25, .move, [.slot 4], [], [], some (21, false), false⟩, ⟨some 26, .indexAddr (.pair (.int .i64) (.list (.int .i64))), [.slot 24, .slot 25], [], [], some (21, false), false⟩, ⟨some 27, .load true 2, [.slot 26], [], [], some (21, false), false⟩, ⟨some 28, .call ⟨277, [.val true 2, .val true 2], no 4, [.val false 1], ims 1, true⟩, [.slot 22, .slot 27], [], [], some (21, false), false⟩, op 29 .pick [.slot 21, .const (.one (.bool true)), .slot 28]]) (.cond (.slot 29) (.seq (.region false [op 2 .move [.const (.one (.bool false))]]) (.ret)) (.skip))) (.region false [o1 30 (.fieldAddr 2) 1, ow 31 (.load false 1) [.slot 30] [0] [], mv 32 4, o2 33 (.indexAddr (.pair (.int .i64) (.list (.int .i64)))) 31 32, o1 34 (.load true 2) 33, on (.store 2) [.slot 3, .slot 34] [1] [1]]))) (.region false [mv 12 4, op 13 (.bin .add) [.slot 12, .const (.one (.int .i64 (1 : Int)))], mv 4 13]))
def spec_IsPipe.c2 : XCode := .seq (.region false [o1 35 (.fieldAddr 0) 1, ow 36 (.load true 2) [.slot 35] [0] [], o1 37 (.call ⟨260, [.val true 2], no 2, [.val false 1], ims 1, true⟩) 36, ⟨some 38, .move, [.slot 37], [], [], none, true⟩, ⟨some 39, .fieldAddr 2, [.slot 1], [], [], some (38, true), false⟩, ⟨some 40, .load false 1, [.slot 39], [0], [], some (38, true), false⟩, ⟨some 41, .len, [.slot 40], [], [], some (38, true), false⟩, ⟨some 42, .bin .leq, [.slot 41, .const (.one (.int .i64 (8 : Int)))], [], [], some (38, true), false⟩, op 43 .pick [.slot 38, .slot 42, .const (.one (.bool false))], mv 2 43]) (.ret)
def spec_IsPipe.x : XFunc := { nslots := 44, nobj := 2, pars := [.val true 3], rowsIn := [none, none, none], rets := [.tmp 2 false 1], outs := [.imm], fresh := true, arg := .pair (.pair (.int .i64) (.list (.int .i64))) (.list (.pair (.int .i64) (.list (.int .i64)))), ret := .bool, body := .seq (.region false [ow 1 (.box 0) [.slot 0] [0] [0], op 2 .move [.const (.one (.bool false))]]) (.seq (.region false [o1 5 (.fieldAddr 0) 1, ow 6 (.load true 2) [.slot 5] [0] [], ow 3 (.alloc 1 [.int .i64 (0 : Int), .nil]) [] [1] [1], on (.store 2) [.slot 3, .slot 6] [1] [1]]) (.seq (.seq (.region false [op 4 .move [.const (.one (.int .i64 (0 : Int)))]]) (.block 0 (.loop [.keep [1, 3, 4], .norm] (spec_IsPipe.c1)))) (spec_IsPipe.c2))) }
def spec_IsPipe.env (N : Nat) : Env := envOf (tbl [(260, spec_IsReport.fs N), (277, spec_SameReport.fs N)] noFS)
def spec_IsPipe.F (N : Nat) (x : (Int × List Int) × List (Int × List Int)) : Option Bool := XFunc.run spec_IsPipe.x (spec_IsPipe.env N) N x
def spec_IsPipe.fs (N : Nat) : FS := { arg := .pair (.pair (.int .i64) (.list (.int .i64))) (.list (.pair (.int .i64) (.list (.int .i64)))), ret := .bool, fresh := true, F := spec_IsPipe.F N }
def spec_IsPipe.k2 (N : Nat) : Ex → S → Option Bool := seqK (fun s => XCode.runK (spec_IsPipe.env N) N (spec_IsPipe.c2) s (XFunc.endK spec_IsPipe.x)) (XFunc.endK spec_IsPipe.x)
def spec_IsPipe.k1 (N : Nat) : Ex → S → Option Bool := blockK 0 (spec_IsPipe.k2 N)
def spec_IsPipe.L1 (N : Nat) (n1 : Nat) (i : Int) (o00 : Int) (o01 : List Int) (o02 : List (Int × List Int)) (o10 : Int) (o11 : List Int) : Option Bool := loopK [.keep [1, 3, 4], .norm] (fun s k => XCode.runK (spec_IsPipe.env N) N spec_IsPipe.c1 s k) n1
  { t := [.junk, .one (.ptr 0 0 0), .junk, .one (.ptr 1 0 0), .one (.int .i64 i), .junk, .junk, .junk, .junk, .junk, .junk, .junk, .junk, .junk, .junk, .junk, .junk, .junk, .junk, .junk, .junk, .junk, .junk, .junk, .junk, .junk, .junk, .junk, .junk, .junk, .junk, .junk, .junk, .junk, .junk, .junk, .junk, .junk, .junk, .junk, .junk, .junk, .junk, .junk], h := [.box 0 false [.int .i64 o00, .sl false (.int .i64) o01, .sl false (.pair (.int .i64) (.list (.int .i64))) o02], .box 0 false [.int .i64 o10, .sl false (.int .i64) o11]] }
  (spec_IsPipe.k1 N)

theorem spec_IsPipe.L1_eq (N : Nat) (n1 : Nat) (i : Int) (o00 : Int) (o01 : List Int) (o02 : List (Int × List Int)) (o10 : Int) (o11 : List Int) : spec_IsPipe.L1 N (n1 + 1) i o00 o01 o02 o10 o11 =
    bif decide (i < (List.length o02 : Int)) then
      bif inRange i (List.length o02) then
      bindO (spec_IsReport.F N (nth ((0 : Int), ([] : List Int)) o02 i)) fun r1 =>
      bif !r1 then
        some false
      else
        bif inRange i (List.length o02) then
        bindO (spec_SameReport.F N ((o10, o11), (nth ((0 : Int), ([] : List Int)) o02 i))) fun r2 =>
        bif r2 then
          some false
        else
          bif inRange i (List.length o02) then
          spec_IsPipe.L1 N n1 (IntKind.wrap .i64 (i + (1 : Int))) o00 o01 o02 ((nth ((0 : Int), ([] : List Int)) o02 i).1) ((nth ((0 : Int), ([] : List Int)) o02 i).2)
          else none
        else none
      else none
    else
      bindO (spec_IsReport.F N (o00, o01)) fun r3 =>
      bif r3 then
        some (decide ((List.length o02 : Int) ≤ (8 : Int)))
      else
        some false := by kernel_rfl
theorem spec_IsPipe.L1_zero (N : Nat) (i : Int) (o00 : Int) (o01 : List Int) (o02 : List (Int × List Int)) (o10 : Int) (o11 : List Int) : spec_IsPipe.L1 N 0 i o00 o01 o02 o10 o11 = none := rfl
theorem spec_IsPipe.F_eq (N : Nat) (p : (Int × List Int) × List (Int × List Int)) : spec_IsPipe.F N p =
    spec_IsPipe.L1 N N (0 : Int) p.1.1 p.1.2 p.2 p.1.1 p.1.2 := by kernel_rfl

def impl_sameInts.c1 : XCode := .seq (.region false [o2 14 (.bin .lss) 13 12]) (.seq (.cond (.slot 14) (.skip) (.exit 0)) (.seq (.block 1 (.seq (.region false [mv 15 13, mv 5 15]) (.seq (.region true [mv 16 0, mv 17 5, o2 18 (.indexAddr (.int .i64)) 16 17, o1 19 (.load false 1) 18, mv 20 1, mv 21 5, o2 22 (.indexAddr (.int .i64)) 20 21, o1 23 (.load false 1) 22, o2 24 (.bin .neq) 19 23]) (.cond (.slot 24) (.seq (.region false [op 4 .move [.const (.one (.bool false))]]) (.ret)) (.skip))))) (.region false [op 25 (.bin .add) [.slot 13, .const (.one (.int .i64 (1 : Int)))], mv 13 25])))
def impl_sameInts.c2 : XCode := .seq (.region false [op 4 .move [.const (.one (.bool true))]]) (.ret)
def impl_sameInts.x : XFunc := { nslots := 26, nobj := 0, pars := [.val false 1, .val false 1], rowsIn := [none, none], rets := [.tmp 4 false 1], outs := [.imm], fresh := true, arg := .pair (.list (.int .i64)) (.list (.int .i64)), ret := .bool, body := .seq (.region false [op 4 .move [.const (.one (.bool false))]]) (.seq (.seq (.region false [mv 6 0, o1 7 .len 6, mv 8 1, o1 9 .len 8, o2 10 (.bin .neq) 7 9]) (.cond (.slot 10) (.seq (.region false [op 4 .move [.const (.one (.bool false))]]) (.ret)) (.skip))) (.seq (.seq (.region false [mv 11 0, o1 12 .len 11, op 13 .move [.const (.one (.int .i64 (0 : Int)))]]) (.block 0 (.loop [.keep [0, 1, 12, 13], .norm] (impl_sameInts.c1)))) (impl_sameInts.c2))) }
def impl_sameInts.env (_ : Nat) : Env := envOf (tbl [] noFS)
def impl_sameInts.F (N : Nat) (x : (List Int) × List Int) : Option Bool := XFunc.run impl_sameInts.x (impl_sameInts.env N) N x
def impl_sameInts.fs (N : Nat) : FS := { arg := .pair (.list (.int .i64)) (.list (.int .i64)), ret := .bool, fresh := true, F := impl_sameInts.F N }
def impl_sameInts.k2 (N : Nat) : Ex → S → Option Bool := seqK (fun s => XCode.runK (impl_sameInts.env N) N (impl_sameInts.c2) s (XFunc.endK impl_sameInts.x)) (XFunc.endK impl_sameInts.x)
def impl_sameInts.k1 (N : Nat) : Ex → S → Option Bool := blockK 0 (impl_sameInts.k2 N)
def impl_sameInts.L1 (N : Nat) (n1 : Nat) (a : List Int) (b : List Int) (t12 : Int) (t13 : Int) : Option Bool := loopK [.keep [0, 1, 12, 13], .norm] (fun s k => XCode.runK (impl_sameInts.env N) N impl_sameInts.c1 s k) n1
  { t := [.one (.sl false (.int .i64) a), .one (.sl false (.int .i64) b), .junk, .junk, .junk, .junk, .junk, .junk, .junk, .junk, .junk, .junk, .one (.int .i64 t12), .one (.int .i64 t13), .junk, .junk, .junk, .junk, .junk, .junk, .junk, .junk, .junk, .junk, .junk, .junk], h := [] }
  (impl_sameInts.k1 N)

theorem impl_sameInts.L1_eq (N : Nat) (n1 : Nat) (a : List Int) (b : List Int) (t12 : Int) (t13 : Int) : impl_sameInts.L1 N (n1 + 1) a b t12 t13 =
    bif decide (t13 < t12) then
      bif inRange t13 (List.length a) then
      bif inRange t13 (List.length b) then
      bif (nth (0 : Int) a t13) != (nth (0 : Int) b t13) then
        some false
      else
        impl_sameInts.L1 N n1 a b t12 (IntKind.wrap .i64 (t13 + (1 : Int)))
      else none
      else none
    else
      some true := by kernel_rfl
theorem impl_sameInts.L1_zero (N : Nat) (a : List Int) (b : List Int) (t12 : Int) (t13 : Int) : impl_sameInts.L1 N 0 a b t12 t13 = none := rfl
theorem impl_sameInts.F_eq (N : Nat) (a : List Int) (b : List Int) : impl_sameInts.F N (a, b) =
    bif (List.length a : Int) != (List.length b : Int) then
      some false
    else
      impl_sameInts.L1 N N a b (List.length a : Int) (0 : Int) := by kernel_rfl

def impl_SameReport.x : XFunc := { nslots := 17, nobj := 2, pars := [.val true 2, .val true 2], rowsIn := [none, none, none, none], rets := [.tmp 4 false 1], outs := [.imm], fresh := true, arg := .pair (.pair (.int .i64) (.list (.int .i64))) (.pair (.int .i64) (.list (.int .i64))), ret := .bool, body := .seq (.region false [ow 2 (.box 0) [.slot 0] [0] [0], ow 3 (.box 1) [.slot 1] [1] [1], op 4 .move [.const (.one (.bool false))]]) (.seq (.region false [o1 5 (.fieldAddr 0) 2, ow 6 (.load false 1) [.slot 5] [0] [], o1 7 (.fieldAddr 0) 3, ow 8 (.load false 1) [.slot 7] [1] [], o2 9 (.bin .eql) 6 8, ⟨some 10, .move, [.slot 9], [], [], none, true⟩, ⟨some 11, .fieldAddr 1, [.slot 2], [], [], some (10, true), false⟩, ⟨some 12, .load false 1, [.slot 11], [0], [], some (10, true), false⟩, ⟨some 13, .fieldAddr 1, [.slot 3], [], [], some (10, true), false⟩, ⟨some 14, .load false 1, [.slot 13], [1], [], some (10, true), false⟩, ⟨some 15, .call ⟨205, vs 2, no 2, [.val false 1], ims 1, true⟩, [.slot 12, .slot 14], [], [], some (10, true), false⟩, op 16 .pick [.slot 10, .slot 15, .const (.one (.bool false))], mv 4 16]) (.ret)) }
def impl_SameReport.env (N : Nat) : Env := envOf (tbl [(205, impl_sameInts.fs N)] noFS)
def impl_SameReport.F (N : Nat) (x : (Int × List Int) × Int × List Int) : Option Bool := XFunc.run impl_SameReport.x (impl_SameReport.env N) N x
def impl_SameReport.fs (N : Nat) : FS := { arg := .pair (.pair (.int .i64) (.list (.int .i64))) (.pair (.int .i64) (.list (.int .i64))), ret := .bool, fresh := true, F := impl_SameReport.F N }

theorem impl_SameReport.F_eq (N : Nat) (a : Int × List Int) (b : Int × List Int) : impl_SameReport.F N (a, b) =
    bif a.1 == b.1 then
      bindO (impl_sameInts.F N (a.2, b.2)) fun r1 =>
      some r1
    else
      some false := by kernel_rfl

def impl_IsPipe.c1 : XCode := .seq (.region false [o2 22 (.bin .lss) 21 20]) (.seq (.cond (.slot 22) (.skip) (.exit 0)) (.seq (.block 1 (.seq (.region false [o2 23 (.indexAddr (.pair (.int .i64) (.list (.int .i64)))) 19 21, o1 24 (.load true 2) 23, ow 5 (.alloc 2 [.int .i64 (0 : Int), .nil]) [] [2] [2], on (.store 2) [.slot 5, .slot 24] [2] [2]]) (.seq (.seq (.region false [ow 25 (.load true 2) [.slot 5] [2] [], o1 26 (.call ⟨263, [.val true 2], no 2, [.val false 1], ims 1, true⟩) 25, o1 27 .not 26, ⟨some 28, .move, [.slot 27], [], [], none, true⟩, ⟨some 29, .load true 2, [.slot 3], [1], [], some (28, false), false⟩, ⟨some 30, .load true 2, [.slot 5], [2], [], some (28, false), false⟩, ⟨some 31, .call ⟨206, [.val true 2, .val true 2], no 4, [.val false 1], ims 1, true⟩, [.slot 29, .slot 30], [], [], some (28, false), false⟩, op 32 .pick [.slot 28, .const (.one (.bool true)), .slot 31]]) (.cond (.slot 32) (.seq (.region false [op 2 .move [.const (.one (.bool false))]]) (.ret)) (.skip))) (.region false [ow 33 (.load true 2) [.slot 5] [2] [], on (.store 2) [.slot 3, .slot 33] [1] [1]])))) (.region false [op 34 (.bin .add) [.slot 21, .const (.one (.int .i64 (1 : Int)))], mv 21 34])))
def impl_IsPipe.c2 : XCode := .seq (.region false [op 2 .move [.const (.one (.bool true))]]) (.ret)
def impl_IsPipe.x : XFunc := { nslots := 35, nobj := 3, pars := [.val true 3], rowsIn := [none, none, none], rets := [.tmp 2 false 1], outs := [.imm], fresh := true, arg := .pair (.pair (.int .i64) (.list (.int .i64))) (.list (.pair (.int .i64) (.list (.int .i64)))), ret := .bool, body := .seq (.region false [ow 1 (.box 0) [.slot 0] [0] [0], op 2 .move [.const (.one (.bool false))]]) (.seq (.seq (.region false [o1 6 (.fieldAddr 0) 1, ow 7 (.load true 2) [.slot 6] [0] [], o1 8 (.call ⟨263, [.val true 2], no 2, [.val false 1], ims 1, true⟩) 7, o1 9 .not 8, ⟨some 10, .move, [.slot 9], [], [], none, true⟩, ⟨some 11, .fieldAddr 2, [.slot 1], [], [], some (10, false), false⟩, ⟨some 12, .load false 1, [.slot 11], [0], [], some (10, false), false⟩, ⟨some 13, .len, [.slot 12], [], [], some (10, false), false⟩, ⟨some 14, .bin .gtr, [.slot 13, .const (.one (.int .i64 (8 : Int)))], [], [], some (10, false), false⟩, op 15 .pick [.slot 10, .const (.one (.bool true)), .slot 14]]) (.cond (.slot 15) (.seq (.region false [op 2 .move [.const (.one (.bool false))]]) (.ret)) (.skip))) (.seq (.region false [o1 16 (.fieldAddr 0) 1, ow 17 (.load true 2) [.slot 16] [0] [], ow 3 (.alloc 1 [.int .i64 (0 : Int), .nil]) [] [1] [1], on (.store 2) [.slot 3, .slot 17] [1] [1]]) (.seq (.seq (.region false [o1 18 (.fieldAddr 2) 1, ow 19 (.load false 1) [.slot 18] [0] [], o1 20 .len 19, op 21 .move [.const (.one (.int .i64 (0 : Int)))]]) (.block 0 (.loop [.keep [3, 19, 20, 21], .drop 0, .drop 2, .norm] (impl_IsPipe.c1)))) (impl_IsPipe.c2)))) }
def impl_IsPipe.env (N : Nat) : Env := envOf (tbl [(263, impl_IsReport.fs N), (206, impl_SameReport.fs N)] noFS)
def impl_IsPipe.F (N : Nat) (x : (Int × List Int) × List (Int × List Int)) : Option Bool := XFunc.run impl_IsPipe.x (impl_IsPipe.env N) N x
def impl_IsPipe.fs (N : Nat) : FS := { arg := .pair (.pair (.int .i64) (.list (.int .i64))) (.list (.pair (.int .i64) (.list (.int .i64)))), ret := .bool, fresh := true, F := impl_IsPipe.F N }
def impl_IsPipe.k2 (N : Nat) : Ex → S → Option Bool := seqK (fun s => XCode.runK (impl_IsPipe.env N) N (impl_IsPipe.c2) s (XFunc.endK impl_IsPipe.x)) (XFunc.endK impl_IsPipe.x)
def impl_IsPipe.k1 (N : Nat) : Ex → S → Option Bool := blockK 0 (impl_IsPipe.k2 N)
def impl_IsPipe.L1 (N : Nat) (n1 : Nat) (t19 : List (Int × List Int)) (t20 : Int) (t21 : Int) (o10 : Int) (o11 : List Int) : Option Bool := loopK [.keep [3, 19, 20, 21], .drop 0, .drop 2, .norm] (fun s k => XCode.runK (impl_IsPipe.env N) N impl_IsPipe.c1 s k) n1
  { t := [.junk, .junk, .junk, .one (.ptr 1 0 0), .junk, .junk, .junk, .junk, .junk, .junk, .junk, .junk, .junk, .junk, .junk, .junk, .junk, .junk, .junk, .one (.sl false (.pair (.int .i64) (.list (.int .i64))) t19), .one (.int .i64 t20), .one (.int .i64 t21), .junk, .junk, .junk, .junk, .junk, .junk, .junk, .junk, .junk, .junk, .junk, .junk, .junk], h := [.absent 0, .box 0 false [.int .i64 o10, .sl false (.int .i64) o11], .absent 0] }
  (impl_IsPipe.k1 N)

theorem impl_IsPipe.L1_eq (N : Nat) (n1 : Nat) (t19 : List (Int × List Int)) (t20 : Int) (t21 : Int) (o10 : Int) (o11 : List Int) : impl_IsPipe.L1 N (n1 + 1) t19 t20 t21 o10 o11 =
    bif decide (t21 < t20) then
      bif inRange t21 (List.length t19) then
      bindO (impl_IsReport.F N (nth ((0 : Int), ([] : List Int)) t19 t21)) fun r2 =>
      bif !r2 then
        some false
      else
        bindO (impl_SameReport.F N ((o10, o11), (nth ((0 : Int), ([] : List Int)) t19 t21))) fun r3 =>
        bif r3 then
          some false
        else
          impl_IsPipe.L1 N n1 t19 t20 (IntKind.wrap .i64 (t21 + (1 : Int))) ((nth ((0 : Int), ([] : List Int)) t19 t21).1) ((nth ((0 : Int), ([] : List Int)) t19 t21).2)
      else none
    else
      some true := by kernel_rfl
theorem impl_IsPipe.L1_zero (N : Nat) (t19 : List (Int × List Int)) (t20 : Int) (t21 : Int) (o10 : Int) (o11 : List Int) : impl_IsPipe.L1 N 0 t19 t20 t21 o10 o11 = none := rfl
theorem impl_IsPipe.F_eq (N : Nat) (p : (Int × List Int) × List (Int × List Int)) : impl_IsPipe.F N p =
    bindO (impl_IsReport.F N p.1) fun r1 =>
    bif !r1 then
      some false
    else
      bif decide ((List.length p.2 : Int) > (8 : Int)) then
        some false
      else
        impl_IsPipe.L1 N N p.2 (List.length p.2 : Int) (0 : Int) p.1.1 p.1.2 := by kernel_rfl

def laws_eqReportS.c1 : XCode := .seq (.seq (.region false [mv 11 5, mv 12 0, o1 13 .len 12, o2 14 (.bin .lss) 11 13]) (.cond (.slot 14) (.skip) (.exit 0))) (.seq (.block 1 (.seq (.region true [mv 17 0, mv 18 5, o2 19 (.indexAddr (.pair (.int .i64) (.list (.int .i64)))) 17 18, o1 20 (.load true 2) 19, mv 21 1, mv 22 5, o2 23 (.indexAddr (.pair (.int .i64) (.list (.int .i64)))) 21 22, o1 24 (.load true 2) 23, o2 25 (.call ⟨265, [.val true 2, .val true 2], no 4, [.val false 1], ims 1, true⟩) 20 24, o1 26 .not 25]) (.cond (.slot 26) (.seq (.region false [op 4 .move [.const (.one (.bool false))]]) (.ret)) (.skip)))) (.region false [mv 15 5, op 16 (.bin .add) [.slot 15, .const (.one (.int .i64 (1 : Int)))], mv 5 16]))
def laws_eqReportS.c2 : XCode := .seq (.region false [op 4 .move [.const (.one (.bool true))]]) (.ret)
def laws_eqReportS.x : XFunc := { nslots := 27, nobj := 0, pars := [.val false 1, .val false 1], rowsIn := [none, none], rets := [.tmp 4 false 1], outs := [.imm], fresh := true, arg := .pair (.list (.pair (.int .i64) (.list (.int .i64)))) (.list (.pair (.int .i64) (.list (.int .i64)))), ret := .bool, body := .seq (.region false [op 4 .move [.const (.one (.bool false))]]) (.seq (.seq (.region false [mv 6 0, o1 7 .len 6, mv 8 1, o1 9 .len 8, o2 10 (.bin .neq) 7 9]) (.cond (.slot 10) (.seq (.region false [op 4 .move [.const (.one (.bool false))]]) (.ret)) (.skip))) (.seq (.seq (.region false [op 5 .move [.const (.one (.int .i64 (0 : Int)))]]) (.block 0 (.loop [.keep [0, 1, 5], .norm] (laws_eqReportS.c1)))) (laws_eqReportS.c2))) }
def laws_eqReportS.env (N : Nat) : Env := envOf (tbl [(265, laws_eqReport.fs N)] noFS)
def laws_eqReportS.F (N : Nat) (x : (List (Int × List Int)) × List (Int × List Int)) : Option Bool := XFunc.run laws_eqReportS.x (laws_eqReportS.env N) N x
def laws_eqReportS.fs (N : Nat) : FS := { arg := .pair (.list (.pair (.int .i64) (.list (.int .i64)))) (.list (.pair (.int .i64) (.list (.int .i64)))), ret := .bool, fresh := true, F := laws_eqReportS.F N }
def laws_eqReportS.k2 (N : Nat) : Ex → S → Option Bool := seqK (fun s => XCode.runK (laws_eqReportS.env N) N (laws_eqReportS.c2) s (XFunc.endK laws_eqReportS.x)) (XFunc.endK laws_eqReportS.x)
def laws_eqReportS.k1 (N : Nat) : Ex → S → Option Bool := blockK 0 (laws_eqReportS.k2 N)
def laws_eqReportS.L1 (N : Nat) (n1 : Nat) (a : List (Int × List Int)) (b : List (Int × List Int)) (i : Int) : Option Bool := loopK [.keep [0, 1, 5], .norm] (fun s k => XCode.runK (laws_eqReportS.env N) N laws_eqReportS.c1 s k) n1
  { t := [.one (.sl false (.pair (.int .i64) (.list (.int .i64))) a), .one (.sl false (.pair (.int .i64) (.list (.int .i64))) b), .junk, .junk, .junk, .one (.int .i64 i), .junk, .junk, .junk, .junk, .junk, .junk, .junk, .junk, .junk, .junk, .junk, .junk, .junk, .junk, .junk, .junk, .junk, .junk, .junk, .junk, .junk], h := [] }
  (laws_eqReportS.k1 N)

theorem laws_eqReportS.L1_eq (N : Nat) (n1 : Nat) (a : List (Int × List Int)) (b : List (Int × List Int)) (i : Int) : laws_eqReportS.L1 N (n1 + 1) a b i =
    bif decide (i < (List.length a : Int)) then
      bif inRange i (List.length a) then
      bif inRange i (List.length b) then
      bindO (laws_eqReport.F N ((nth ((0 : Int), ([] : List Int)) a i), (nth ((0 : Int), ([] : List Int)) b i))) fun r1 =>
      bif !r1 then
        some false
      else
        laws_eqReportS.L1 N n1 a b (IntKind.wrap .i64 (i + (1 : Int)))
      else none
      else none
    else
      some true := by kernel_rfl
theorem laws_eqReportS.L1_zero (N : Nat) (a : List (Int × List Int)) (b : List (Int × List Int)) (i : Int) : laws_eqReportS.L1 N 0 a b i = none := rfl
theorem laws_eqReportS.F_eq (N : Nat) (a : List (Int × List Int)) (b : List (Int × List Int)) : laws_eqReportS.F N (a, b) =
    bif (List.length a : Int) != (List.length b : Int) then
      some false
    else
      laws_eqReportS.L1 N N a b (0 : Int) := by kernel_rfl

def laws_eqPipe.x : XFunc := { nslots := 17, nobj := 2, pars := [.val true 3, .val true 3], rowsIn := [none, none, none, none, none, none], rets := [.tmp 4 false 1], outs := [.imm], fresh := true, arg := .pair (.pair (.pair (.int .i64) (.list (.int .i64))) (.list (.pair (.int .i64) (.list (.int .i64))))) (.pair (.pair (.int .i64) (.list (.int .i64))) (.list (.pair (.int .i64) (.list (.int .i64))))), ret := .bool, body := .seq (.region false [ow 2 (.box 0) [.slot 0] [0] [0], ow 3 (.box 1) [.slot 1] [1] [1], op 4 .move [.const (.one (.bool false))]]) (.seq (.seq (.region false [o1 5 (.fieldAddr 0) 2, ow 6 (.load true 2) [.slot 5] [0] [], o1 7 (.fieldAddr 0) 3, ow 8 (.load true 2) [.slot 7] [1] [], o2 9 (.call ⟨265, [.val true 2, .val true 2], no 4, [.val false 1], ims 1, true⟩) 6 8, o1 10 .not 9]) (.cond (.slot 10) (.seq (.region false [op 4 .move [.const (.one (.bool false))]]) (.ret)) (.skip))) (.seq (.seq (.region false [o1 11 (.fieldAddr 2) 2, ow 12 (.load false 1) [.slot 11] [0] [], o1 13 (.fieldAddr 2) 3, ow 14 (.load false 1) [.slot 13] [1] [], o2 15 (.call ⟨280, vs 2, no 2, [.val false 1], ims 1, true⟩) 12 14, o1 16 .not 15]) (.cond (.slot 16) (.seq (.region false [op 4 .move [.const (.one (.bool false))]]) (.ret)) (.skip))) (.seq (.region false [op 4 .move [.const (.one (.bool true))]]) (.ret)))) }
def laws_eqPipe.env (N : Nat) : Env := envOf (tbl [(265, laws_eqReport.fs N), (280, laws_eqReportS.fs N)] noFS)
def laws_eqPipe.F (N : Nat) (x : ((Int × List Int) × List (Int × List Int)) × (Int × List Int) × List (Int × List Int)) : Option Bool := XFunc.run laws_eqPipe.x (laws_eqPipe.env N) N x
def laws_eqPipe.fs (N : Nat) : FS := { arg := .pair (.pair (.pair (.int .i64) (.list (.int .i64))) (.list (.pair (.int .i64) (.list (.int .i64))))) (.pair (.pair (.int .i64) (.list (.int .i64))) (.list (.pair (.int .i64) (.list (.int .i64))))), ret := .bool, fresh := true, F := laws_eqPipe.F N }

theorem laws_eqPipe.F_eq (N : Nat) (a : (Int × List Int) × List (Int × List Int)) (b : (Int × List Int) × List (Int × List Int)) : laws_eqPipe.F N (a, b) =
    bindO (laws_eqReport.F N (a.1, b.1)) fun r1 =>
    bif !r1 then
      some false
    else
      bindO (laws_eqReportS.F N (a.2, b.2)) fun r2 =>
      bif !r2 then
        some false
      else
        some true := by kernel_rfl

def laws_FnExactIsPipe.x : XFunc := { nslots := 27, nobj := 2, pars := [.val true 3], rowsIn := [none, none, none], rets := [.tmp 2 false 1], outs := [.imm], fresh := true, arg := .pair (.pair (.int .i64) (.list (.int .i64))) (.list (.pair (.int .i64) (.list (.int .i64)))), ret := .bool, body := .seq (.region false [ow 1 (.box 0) [.slot 0] [0] [0], op 2 .move [.const (.one (.bool false))]]) (.seq (.region false [op 3 .move [.const (.one (.int .i64 (1048576 : Int)))]]) (.seq (.region false [ow 7 (.load true 3) [.slot 1] [0] [], mv 8 3, o2 9 (.call ⟨274, [.val true 3, .val false 1], no 4, [.val false 1], ims 1, true⟩) 7 8, mv 3 9]) (.seq (.seq (.region false [mv 10 3, op 11 (.bin .lss) [.slot 10, .const (.one (.int .i64 (0 : Int)))]]) (.cond (.slot 11) (.seq (.region false [op 2 .move [.const (.one (.bool true))]]) (.ret)) (.skip))) (.seq (.region false [ow 12 (.load true 3) [.slot 1] [0] [], o1 13 (.call ⟨276, [.val true 3], no 3, [.val true 3], ims 3, true⟩) 12, o1 14 (.call ⟨278, [.val true 3], no 3, [.val false 1], ims 1, true⟩) 13, mv 4 14]) (.seq (.region false [ow 15 (.load true 3) [.slot 1] [0] [], o1 16 (.call ⟨276, [.val true 3], no 3, [.val true 3], ims 3, true⟩) 15, ow 5 (.alloc 1 [.int .i64 (0 : Int), .nil, .nil]) [] [1] [1], on (.store 3) [.slot 5, .slot 16] [1] [1]]) (.seq (.region false [ow 17 (.load true 3) [.slot 5] [1] [], o1 18 (.call ⟨279, [.val true 3], no 3, [.val false 1], ims 1, true⟩) 17, mv 6 18]) (.seq (.seq (.region false [mv 19 6, mv 20 4, o2 21 (.eqBool true) 19 20]) (.cond (.slot 21) (.seq (.region false [op 2 .move [.const (.one (.bool false))]]) (.ret)) (.skip))) (.seq (.seq (.region true [ow 22 (.load true 3) [.slot 5] [1] [], ow 23 (.load true 3) [.slot 1] [0] [], o1 24 (.call ⟨276, [.val true 3], no 3, [.val true 3], ims 3, true⟩) 23, o2 25 (.call ⟨281, [.val true 3, .val true 3], no 6, [.val false 1], ims 1, true⟩) 22 24, o1 26 .not 25]) (.cond (.slot 26) (.seq (.region false [op 2 .move [.const (.one (.bool false))]]) (.ret)) (.skip))) (.seq (.region false [op 2 .move [.const (.one (.bool true))]]) (.ret)))))))))) }
def laws_FnExactIsPipe.env (N : Nat) : Env := envOf (tbl [(279, impl_IsPipe.fs N), (281, laws_eqPipe.fs N), (274, laws_szPipe.fs N), (276, laws_toPipe.fs N), (278, spec_IsPipe.fs N)] noFS)
def laws_FnExactIsPipe.F (N : Nat) (x : (Int × List Int) × List (Int × List Int)) : Option Bool := XFunc.run laws_FnExactIsPipe.x (laws_FnExactIsPipe.env N) N x
def laws_FnExactIsPipe.fs (N : Nat) : FS := { arg := .pair (.pair (.int .i64) (.list (.int .i64))) (.list (.pair (.int .i64) (.list (.int .i64)))), ret := .bool, fresh := true, F := laws_FnExactIsPipe.F N }

theorem laws_FnExactIsPipe.F_eq (N : Nat) (aP : (Int × List Int) × List (Int × List Int)) : laws_FnExactIsPipe.F N aP =
    bindO (laws_szPipe.F N (aP, (1048576 : Int))) fun r1 =>
    bif decide (r1 < (0 : Int)) then
      some true
    else
      bindO (laws_toPipe.F N aP) fun r2 =>
      bindO (spec_IsPipe.F N r2) fun r3 =>
      bindO (laws_toPipe.F N aP) fun r4 =>
      bindO (impl_IsPipe.F N r4) fun r5 =>
      bif r5 != r3 then
        some false
      else
        bindO (laws_toPipe.F N aP) fun r6 =>
        bindO (laws_eqPipe.F N (r4, r6)) fun r7 =>
        bif !r7 then
          some false
        else
          some true := by kernel_rfl

def spec_ReadSetting.c1 : XCode := .seq (.seq (.region false [mv 22 9, op 23 (.bin .lss) [.slot 22, .const (.one (.int .i64 (6 : Int)))]]) (.cond (.slot 23) (.skip) (.exit 0))) (.seq (.block 1 (.seq (.region false [mv 26 9, op 27 (.bin .mul) [.const (.one (.int .i64 (3 : Int))), .slot 26], op 28 (.bin .add) [.const (.one (.int .i64 (1 : Int))), .slot 27], mv 10 28]) (.seq (.region false [o1 29 (.fieldAddr 0) 2, ow 30 (.load false 1) [.slot 29] [0] [], mv 31 6, o2 32 (.indexAddr (.list (.int .i64))) 30 31, o1 33 (.load false 1) 32, mv 34 10, op 35 (.bin .add) [.slot 34, .const (.one (.int .i64 (1 : Int)))], o2 36 (.indexAddr (.int .i64)) 33 35, o1 37 (.load false 1) 36, mv 11 37]) (.seq (.region false [mv 38 1, mv 39 11, o1 40 (.fieldAddr 0) 2, ow 41 (.load false 1) [.slot 40] [0] [], mv 42 6, o2 43 (.indexAddr (.list (.int .i64))) 41 42, o1 44 (.load false 1) 43, op 45 (.indexAddr (.int .i64)) [.slot 44, .const (.one (.int .i64 (0 : Int)))], o1 46 (.load false 1) 45, op 47 (.call ⟨2, vs 3, no 3, [.val false 1], ims 1, true⟩) [.slot 38, .slot 39, .slot 46], mv 12 47]) (.seq (.region false [o1 48 (.fieldAddr 0) 2, ow 49 (.load false 1) [.slot 48] [0] [], mv 50 6, o2 51 (.indexAddr (.list (.int .i64))) 49 50, o1 52 (.load false 1) 51, mv 53 10, o2 54 (.indexAddr (.int .i64)) 52 53, o1 55 (.load false 1) 54, mv 56 1, o2 57 (.bin .eql) 55 56, ⟨some 58, .move, [.slot 57], [], [], none, true⟩, ⟨some 59, .move, [.slot 12], [], [], some (58, true), false⟩, ⟨some 60, .bin .neq, [.slot 59, .const (.one (.int .i64 (65535 : Int)))], [], [], some (58, true), false⟩, op 61 .pick [.slot 58, .slot 60, .const (.one (.bool false))], ⟨some 62, .move, [.slot 61], [], [], none, true⟩, ⟨some 63, .fieldAddr 0, [.slot 2], [], [], some (62, true), false⟩, ⟨some 64, .load false 1, [.slot 63], [0], [], some (62, true), false⟩, ⟨some 65, .move, [.slot 6], [], [], some (62, true), false⟩, ⟨some 66, .indexAddr (.list (.int .i64)), [.slot 64, .slot 65], [], [], some (62, true), false⟩, ⟨some 67, .load false 1, [.slot 66], [], [], some (62, true), false⟩, ⟨some 68, .move, [.slot 10], [], [], some (62, true), false⟩, ⟨some 69, .bin .add, [.slot 68, .const (.one (.int .i64 (2 : Int)))], [], [], some (62, true), false⟩, ⟨some 70, .indexAddr (.int .i64), [.slot 67, .slot 69], [], [], some (62, true), false⟩, ⟨some 71, .load false 1, [.slot 70], [], [], some (62, true), false⟩, ⟨some 72, .move, [.slot 12], [], [], some (62, true), false⟩, ⟨some 73, .bin .eql, [.slot 71, .slot 72], [], [], some (62, true), false⟩, op 74 .pick [.slot 62, .slot 73, .const (.one (.bool false))]]) (.cond (.slot 74) (.seq (.region false [mv 75 11, mv 7 75]) (.region false [op 8 .move [.const (.one (.bool true))]])) (.skip))))))) (.region false [mv 24 9, op 25 (.bin .add) [.slot 24, .const (.one (.int .i64 (1 : Int)))], mv 9 25]))
def spec_ReadSetting.c2 : XCode := .seq (.region false [mv 76 7, mv 77 8, mv 4 76, mv 5 77]) (.ret)
def spec_ReadSetting.x : XFunc := { nslots := 78, nobj := 1, pars := [.val true 2, .val false 1], rowsIn := [none, none, none], rets := [.tmp 4 false 1, .tmp 5 false 1], outs := [.imm, .imm], fresh := true, arg := .pair (.pair (.list (.list (.int .i64))) (.list (.int .i64))) (.int .i64), ret := .pair (.int .i64) (.bool), body := .seq (.region false [ow 2 (.box 0) [.slot 0] [0] [0], op 4 .move [.const (.one (.int .i64 (0 : Int)))], op 5 .move [.const (.one (.bool false))]]) (.seq (.region false [ow 13 (.load true 2) [.slot 2] [0] [], o1 14 (.call ⟨97, [.val true 2], no 2, [.val false 1], ims 1, true⟩) 13, mv 6 14]) (.seq (.seq (.region false [mv 15 6, op 16 (.bin .lss) [.slot 15, .const (.one (.int .i64 (0 : Int)))], ⟨some 17, .move, [.slot 16], [], [], none, true⟩, ⟨some 18, .move, [.slot 1], [], [], some (17, false), false⟩, ⟨some 19, .call ⟨1, vs 3, no 3, [.val false 1], ims 1, true⟩, [.slot 18, .const (.one (.int .i64 (0 : Int))), .const (.one (.int .i64 (3 : Int)))], [], [], some (17, false), false⟩, ⟨some 20, .not, [.slot 19], [], [], some (17, false), false⟩, op 21 .pick [.slot 17, .const (.one (.bool true)), .slot 20]]) (.cond (.slot 21) (.seq (.region false [op 4 .move [.const (.one (.int .i64 (0 : Int)))], op 5 .move [.const (.one (.bool false))]]) (.ret)) (.skip))) (.seq (.region false [op 7 .move [.const (.one (.int .i64 (0 : Int)))]]) (.seq (.region false [op 8 .move [.const (.one (.bool false))]]) (.seq (.seq (.region false [op 9 .move [.const (.one (.int .i64 (0 : Int)))]]) (.block 0 (.loop [.keep [1, 2, 6, 7, 8, 9], .norm] (spec_ReadSetting.c1)))) (spec_ReadSetting.c2)))))) }
def spec_ReadSetting.env (N : Nat) : Env := envOf (tbl [(97, spec_ActivePage.fs N), (2, spec_CheckOf.fs N), (1, spec_l1In.fs N)] noFS)
def spec_ReadSetting.F (N : Nat) (x : ((List (List Int)) × List Int) × Int) : Option (Int × Bool) := XFunc.run spec_ReadSetting.x (spec_ReadSetting.env N) N x
def spec_ReadSetting.fs (N : Nat) : FS := { arg := .pair (.pair (.list (.list (.int .i64))) (.list (.int .i64))) (.int .i64), ret := .pair (.int .i64) (.bool), fresh := true, F := spec_ReadSetting.F N }
def spec_ReadSetting.k2 (N : Nat) : Ex → S → Option (Int × Bool) := seqK (fun s => XCode.runK (spec_ReadSetting.env N) N (spec_ReadSetting.c2) s (XFunc.endK spec_ReadSetting.x)) (XFunc.endK spec_ReadSetting.x)
def spec_ReadSetting.k1 (N : Nat) : Ex → S → Option (Int × Bool) := blockK 0 (spec_ReadSetting.k2 N)
def spec_ReadSetting.L1 (N : Nat) (n1 : Nat) (setting : Int) (p : Int) (value : Int) (found : Bool) (i : Int) (o00 : List (List Int)) (o01 : List Int) : Option (Int × Bool) := loopK [.keep [1, 2, 6, 7, 8, 9], .norm] (fun s k => XCode.runK (spec_ReadSetting.env N) N spec_ReadSetting.c1 s k) n1
  { t := [.junk, .one (.int .i64 setting), .one (.ptr 0 0 0), .junk, .junk, .junk, .one (.int .i64 p), .one (.int .i64 value), .one (.bool found), .one (.int .i64 i), .junk, .junk, .junk, .junk, .junk, .junk, .junk, .junk, .junk, .junk, .junk, .junk, .junk, .junk, .junk, .junk, .junk, .junk, .junk, .junk, .junk, .junk, .junk, .junk, .junk, .junk, .junk, .junk, .junk, .junk, .junk, .junk, .junk, .junk, .junk, .junk, .junk, .junk, .junk, .junk, .junk, .junk, .junk, .junk, .junk, .junk, .junk, .junk, .junk, .junk, .junk, .junk, .junk, .junk, .junk, .junk, .junk, .junk, .junk, .junk, .junk, .junk, .junk, .junk, .junk, .junk, .junk, .junk], h := [.box 0 false [.sl false (.list (.int .i64)) o00, .sl false (.int .i64) o01]] }
  (spec_ReadSetting.k1 N)

theorem spec_ReadSetting.L1_eq (N : Nat) (n1 : Nat) (setting : Int) (p : Int) (value : Int) (found : Bool) (i : Int) (o00 : List (List Int)) (o01 : List Int) : spec_ReadSetting.L1 N (n1 + 1) setting p value found i o00 o01 =
    bif decide (i < (6 : Int)) then
      bif inRange p (List.length o00) then
      bif inRange (IntKind.wrap .i64 ((IntKind.wrap .i64 ((1 : Int) + (IntKind.wrap .i64 ((3 : Int) * i)))) + (1 : Int))) (List.length (nth ([] : List Int) o00 p)) then
      bif inRange p (List.length o00) then
      bif inRange (0 : Int) (List.length (nth ([] : List Int) o00 p)) then
      bindO (spec_CheckOf.F N (setting, (nth (0 : Int) (nth ([] : List Int) o00 p) (IntKind.wrap .i64 ((IntKind.wrap .i64 ((1 : Int) + (IntKind.wrap .i64 ((3 : Int) * i)))) + (1 : Int))), nth (0 : Int) (nth ([] : List Int) o00 p) (0 : Int)))) fun r3 =>
      bif inRange p (List.length o00) then
      bif inRange (IntKind.wrap .i64 ((1 : Int) + (IntKind.wrap .i64 ((3 : Int) * i)))) (List.length (nth ([] : List Int) o00 p)) then
      bif (nth (0 : Int) (nth ([] : List Int) o00 p) (IntKind.wrap .i64 ((1 : Int) + (IntKind.wrap .i64 ((3 : Int) * i))))) == setting then
        bif r3 != (65535 : Int) then
          bif inRange p (List.length o00) then
          bif inRange (IntKind.wrap .i64 ((IntKind.wrap .i64 ((1 : Int) + (IntKind.wrap .i64 ((3 : Int) * i)))) + (2 : Int))) (List.length (nth ([] : List Int) o00 p)) then
          bif (nth (0 : Int) (nth ([] : List Int) o00 p) (IntKind.wrap .i64 ((IntKind.wrap .i64 ((1 : Int) + (IntKind.wrap .i64 ((3 : Int) * i)))) + (2 : Int)))) == r3 then
            spec_ReadSetting.L1 N n1 setting p (nth (0 : Int) (nth ([] : List Int) o00 p) (IntKind.wrap .i64 ((IntKind.wrap .i64 ((1 : Int) + (IntKind.wrap .i64 ((3 : Int) * i)))) + (1 : Int)))) true (IntKind.wrap .i64 (i + (1 : Int))) o00 o01
          else
            spec_ReadSetting.L1 N n1 setting p value found (IntKind.wrap .i64 (i + (1 : Int))) o00 o01
          else none
          else none
        else
          spec_ReadSetting.L1 N n1 setting p value found (IntKind.wrap .i64 (i + (1 : Int))) o00 o01
      else
        spec_ReadSetting.L1 N n1 setting p value found (IntKind.wrap .i64 (i + (1 : Int))) o00 o01
      else none
      else none
      else none
      else none
      else none
      else none
    else
      some (value, found) := by kernel_rfl
theorem spec_ReadSetting.L1_zero (N : Nat) (setting : Int) (p : Int) (value : Int) (found : Bool) (i : Int) (o00 : List (List Int)) (o01 : List Int) : spec_ReadSetting.L1 N 0 setting p value found i o00 o01 = none := rfl
theorem spec_ReadSetting.F_eq (N : Nat) (f : (List (List Int)) × List Int) (setting : Int) : spec_ReadSetting.F N (f, setting) =
    bindO (spec_ActivePage.F N f) fun r1 =>
    bif decide (r1 < (0 : Int)) then
      some ((0 : Int), false)
    else
      bindO (spec_l1In.F N (setting, ((0 : Int), (3 : Int)))) fun r2 =>
      bif !r2 then
        some ((0 : Int), false)
      else
        spec_ReadSetting.L1 N N setting r1 (0 : Int) false (0 : Int) f.1 f.2 := by kernel_rfl

def impl_ReadSetting.c1 : XCode := .seq (.seq (.region false [mv 19 8, op 20 (.bin .geq) [.slot 19, .const (.one (.int .i64 (0 : Int)))]]) (.cond (.slot 20) (.skip) (.exit 0))) (.seq (.block 1 (.seq (.region false [mv 23 7, mv 24 8, op 25 (.bin .mul) [.const (.one (.int .i64 (3 : Int))), .slot 24], op 26 (.bin .add) [.const (.one (.int .i64 (1 : Int))), .slot 25], mv 27 8, op 28 (.bin .mul) [.const (.one (.int .i64 (3 : Int))), .slot 27], op 29 (.bin .add) [.const (.one (.int .i64 (4 : Int))), .slot 28], op 30 (.slice (.int .i64) true true) [.slot 23, .slot 26, .slot 29], mv 9 30]) (.seq (.region true [mv 31 9, op 32 (.indexAddr (.int .i64)) [.slot 31, .const (.one (.int .i64 (0 : Int)))], o1 33 (.load false 1) 32, mv 34 9, op 35 (.indexAddr (.int .i64)) [.slot 34, .const (.one (.int .i64 (1 : Int)))], o1 36 (.load false 1) 35, o2 37 (.call ⟨3, vs 2, no 2, [.val false 1], ims 1, true⟩) 33 36, ⟨some 38, .move, [.slot 37], [], [], none, true⟩, ⟨some 39, .move, [.slot 9], [], [], some (38, true), false⟩, ⟨some 40, .indexAddr (.int .i64), [.slot 39, .const (.one (.int .i64 (0 : Int)))], [], [], some (38, true), false⟩, ⟨some 41, .load false 1, [.slot 40], [], [], some (38, true), false⟩, ⟨some 42, .move, [.slot 1], [], [], some (38, true), false⟩, ⟨some 43, .bin .eql, [.slot 41, .slot 42], [], [], some (38, true), false⟩, op 44 .pick [.slot 38, .slot 43, .const (.one (.bool false))], ⟨some 45, .move, [.slot 44], [], [], none, true⟩, ⟨some 46, .move, [.slot 9], [], [], some (45, true), false⟩, ⟨some 47, .indexAddr (.int .i64), [.slot 46, .const (.one (.int .i64 (2 : Int)))], [], [], some (45, true), false⟩, ⟨some 48, .load false 1, [.slot 47], [], [], some (45, true), false⟩, ⟨some 49, .move, [.slot 9], [], [], some (45, true), false⟩, ⟨some 50, .indexAddr (.int .i64), [.slot 49, .const (.one (.int .i64 (0 : Int)))], [], [], some (45, true), false⟩, ⟨some 51, .load false 1, [.slot 50], [], [], some (45, true), false⟩, ⟨some 52, .move, [.slot 9], [], [], some (45, true), false⟩, ⟨some 53, .indexAddr (.int .i64), [.slot 52, .const (.one (.int .i64 (1 : Int)))], [], [], some (45, true), false⟩, ⟨some 54, .load false 1, [.slot 53], [], [], some (45, true), false⟩, ⟨some 55, .move, [.slot 7], [], [], some (45, true), false⟩, ⟨some 56, .indexAddr (.int .i64), [.slot 55, .const (.one (.int .i64 (0 : Int)))], [], [], some (45, true), false⟩, ⟨some 57, .load false 1, [.slot 56], [], [], some (45, true), false⟩, ⟨some 58, .call ⟨4, vs 3, no 3, [.val false 1], ims 1, true⟩, [.slot 51, .slot 54, .slot 57], [], [], some (45, true), false⟩, ⟨some 59, .bin .eql, [.slot 48, .slot 58], [], [], some (45, true), false⟩, op 60 .pick [.slot 45, .slot 59, .const (.one (.bool false))]]) (.cond (.slot 60) (.seq (.region false [mv 61 9, op 62 (.indexAddr (.int .i64)) [.slot 61, .const (.one (.int .i64 (1 : Int)))], o1 63 (.load false 1) 62, mv 4 63, op 5 .move [.const (.one (.bool true))]]) (.ret)) (.skip))))) (.region false [mv 21 8, op 22 (.bin .sub) [.slot 21, .const (.one (.int .i64 (1 : Int)))], mv 8 22]))
def impl_ReadSetting.c2 : XCode := .seq (.region false [op 4 .move [.const (.one (.int .i64 (0 : Int)))], op 5 .move [.const (.one (.bool false))]]) (.ret)
def impl_ReadSetting.x : XFunc := { nslots := 64, nobj := 1, pars := [.val true 2, .val false 1], rowsIn := [none, none, none], rets := [.tmp 4 false 1, .tmp 5 false 1], outs := [.imm, .imm], fresh := true, arg := .pair (.pair (.list (.list (.int .i64))) (.list (.int .i64))) (.int .i64), ret := .pair (.int .i64) (.bool), body := .seq (.region false [ow 2 (.box 0) [.slot 0] [0] [0], op 4 .move [.const (.one (.int .i64 (0 : Int)))], op 5 .move [.const (.one (.bool false))]]) (.seq (.region false [ow 10 (.load true 2) [.slot 2] [0] [], o1 11 (.call ⟨109, [.val true 2], no 2, [.val false 1], ims 1, true⟩) 10, mv 6 11]) (.seq (.seq (.region false [mv 12 6, op 13 (.bin .lss) [.slot 12, .const (.one (.int .i64 (0 : Int)))]]) (.cond (.slot 13) (.seq (.region false [op 4 .move [.const (.one (.int .i64 (0 : Int)))], op 5 .move [.const (.one (.bool false))]]) (.ret)) (.skip))) (.seq (.region false [o1 14 (.fieldAddr 0) 2, ow 15 (.load false 1) [.slot 14] [0] [], mv 16 6, o2 17 (.indexAddr (.list (.int .i64))) 15 16, o1 18 (.load false 1) 17, mv 7 18]) (.seq (.seq (.region false [op 8 .move [.const (.one (.int .i64 (5 : Int)))]]) (.block 0 (.loop [.keep [1, 7, 8], .drop 0, .norm] (impl_ReadSetting.c1)))) (impl_ReadSetting.c2))))) }
def impl_ReadSetting.env (N : Nat) : Env := envOf (tbl [(109, impl_ActivePage.fs N), (4, impl_CheckOf.fs N), (3, impl_isSetting.fs N)] noFS)
def impl_ReadSetting.F (N : Nat) (x : ((List (List Int)) × List Int) × Int) : Option (Int × Bool) := XFunc.run impl_ReadSetting.x (impl_ReadSetting.env N) N x
def impl_ReadSetting.fs (N : Nat) : FS := { arg := .pair (.pair (.list (.list (.int .i64))) (.list (.int .i64))) (.int .i64), ret := .pair (.int .i64) (.bool), fresh := true, F := impl_ReadSetting.F N }
def impl_ReadSetting.k2 (N : Nat) : Ex → S → Option (Int × Bool) := seqK (fun s => XCode.runK (impl_ReadSetting.env N) N (impl_ReadSetting.c2) s (XFunc.endK impl_ReadSetting.x)) (XFunc.endK impl_ReadSetting.x)
def impl_ReadSetting.k1 (N : Nat) : Ex → S → Option (Int × Bool) := blockK 0 (impl_ReadSetting.k2 N)
def impl_ReadSetting.L1 (N : Nat) (n1 : Nat) (setting : Int) (words : List Int) (i : Int) : Option (Int × Bool) := loopK [.keep [1, 7, 8], .drop 0, .norm] (fun s k => XCode.runK (impl_ReadSetting.env N) N impl_ReadSetting.c1 s k) n1
  { t := [.junk, .one (.int .i64 setting), .junk, .junk, .junk, .junk, .junk, .one (.sl false (.int .i64) words), .one (.int .i64 i), .junk, .junk, .junk, .junk, .junk, .junk, .junk, .junk, .junk, .junk, .junk, .junk, .junk, .junk, .junk, .junk, .junk, .junk, .junk, .junk, .junk, .junk, .junk, .junk, .junk, .junk, .junk, .junk, .junk, .junk, .junk, .junk, .junk, .junk, .junk, .junk, .junk, .junk, .junk, .junk, .junk, .junk, .junk, .junk, .junk, .junk, .junk, .junk, .junk, .junk, .junk, .junk, .junk, .junk, .junk], h := [.absent 0] }
  (impl_ReadSetting.k1 N)

theorem impl_ReadSetting.L1_eq (N : Nat) (n1 : Nat) (setting : Int) (words : List Int) (i : Int) : impl_ReadSetting.L1 N (n1 + 1) setting words i =
    bif decide (i ≥ (0 : Int)) then
      bif bounds (IntKind.wrap .i64 ((1 : Int) + (IntKind.wrap .i64 ((3 : Int) * i)))) (IntKind.wrap .i64 ((4 : Int) + (IntKind.wrap .i64 ((3 : Int) * i)))) (List.length words) then
      bif inRange (0 : Int) (List.length (List.drop (Int.toNat (IntKind.wrap .i64 ((1 : Int) + (IntKind.wrap .i64 ((3 : Int) * i))))) (List.take (Int.toNat (IntKind.wrap .i64 ((4 : Int) + (IntKind.wrap .i64 ((3 : Int) * i))))) words))) then
      bif inRange (1 : Int) (List.length (List.drop (Int.toNat (IntKind.wrap .i64 ((1 : Int) + (IntKind.wrap .i64 ((3 : Int) * i))))) (List.take (Int.toNat (IntKind.wrap .i64 ((4 : Int) + (IntKind.wrap .i64 ((3 : Int) * i))))) words))) then
      bindO (impl_isSetting.F N (nth (0 : Int) (List.drop (Int.toNat (IntKind.wrap .i64 ((1 : Int) + (IntKind.wrap .i64 ((3 : Int) * i))))) (List.take (Int.toNat (IntKind.wrap .i64 ((4 : Int) + (IntKind.wrap .i64 ((3 : Int) * i))))) words)) (0 : Int), nth (0 : Int) (List.drop (Int.toNat (IntKind.wrap .i64 ((1 : Int) + (IntKind.wrap .i64 ((3 : Int) * i))))) (List.take (Int.toNat (IntKind.wrap .i64 ((4 : Int) + (IntKind.wrap .i64 ((3 : Int) * i))))) words)) (1 : Int))) fun r2 =>
      bif r2 then
        bif inRange (0 : Int) (List.length (List.drop (Int.toNat (IntKind.wrap .i64 ((1 : Int) + (IntKind.wrap .i64 ((3 : Int) * i))))) (List.take (Int.toNat (IntKind.wrap .i64 ((4 : Int) + (IntKind.wrap .i64 ((3 : Int) * i))))) words))) then
        bif (nth (0 : Int) (List.drop (Int.toNat (IntKind.wrap .i64 ((1 : Int) + (IntKind.wrap .i64 ((3 : Int) * i))))) (List.take (Int.toNat (IntKind.wrap .i64 ((4 : Int) + (IntKind.wrap .i64 ((3 : Int) * i))))) words)) (0 : Int)) == setting then
          bif inRange (2 : Int) (List.length (List.drop (Int.toNat (IntKind.wrap .i64 ((1 : Int) + (IntKind.wrap .i64 ((3 : Int) * i))))) (List.take (Int.toNat (IntKind.wrap .i64 ((4 : Int) + (IntKind.wrap .i64 ((3 : Int) * i))))) words))) then
          bif inRange (0 : Int) (List.length (List.drop (Int.toNat (IntKind.wrap .i64 ((1 : Int) + (IntKind.wrap .i64 ((3 : Int) * i))))) (List.take (Int.toNat (IntKind.wrap .i64 ((4 : Int) + (IntKind.wrap .i64 ((3 : Int) * i))))) words))) then
          bif inRange (1 : Int) (List.length (List.drop (Int.toNat (IntKind.wrap .i64 ((1 : Int) + (IntKind.wrap .i64 ((3 : Int) * i))))) (List.take (Int.toNat (IntKind.wrap .i64 ((4 : Int) + (IntKind.wrap .i64 ((3 : Int) * i))))) words))) then
          bif inRange (0 : Int) (List.length words) then
          bindO (impl_CheckOf.F N (nth (0 : Int) (List.drop (Int.toNat (IntKind.wrap .i64 ((1 : Int) + (IntKind.wrap .i64 ((3 : Int) * i))))) (List.take (Int.toNat (IntKind.wrap .i64 ((4 : Int) + (IntKind.wrap .i64 ((3 : Int) * i))))) words)) (0 : Int), (nth (0 : Int) (List.drop (Int.toNat (IntKind.wrap .i64 ((1 : Int) + (IntKind.wrap .i64 ((3 : Int) * i))))) (List.take (Int.toNat (IntKind.wrap .i64 ((4 : Int) + (IntKind.wrap .i64 ((3 : Int) * i))))) words)) (1 : Int), nth (0 : Int) words (0 : Int)))) fun r3 =>
          bif (nth (0 : Int) (List.drop (Int.toNat (IntKind.wrap .i64 ((1 : Int) + (IntKind.wrap .i64 ((3 : Int) * i))))) (List.take (Int.toNat (IntKind.wrap .i64 ((4 : Int) + (IntKind.wrap .i64 ((3 : Int) * i))))) words)) (2 : Int)) == r3 then
            bif inRange (1 : Int) (List.length (List.drop (Int.toNat (IntKind.wrap .i64 ((1 : Int) + (IntKind.wrap .i64 ((3 : Int) * i))))) (List.take (Int.toNat (IntKind.wrap .i64 ((4 : Int) + (IntKind.wrap .i64 ((3 : Int) * i))))) words))) then
            some (nth (0 : Int) (List.drop (Int.toNat (IntKind.wrap .i64 ((1 : Int) + (IntKind.wrap .i64 ((3 : Int) * i))))) (List.take (Int.toNat (IntKind.wrap .i64 ((4 : Int) + (IntKind.wrap .i64 ((3 : Int) * i))))) words)) (1 : Int), true)
            else none
          else
            impl_ReadSetting.L1 N n1 setting words (IntKind.wrap .i64 (i - (1 : Int)))
          else none
          else none
          else none
          else none
        else
          impl_ReadSetting.L1 N n1 setting words (IntKind.wrap .i64 (i - (1 : Int)))
        else none
      else
        impl_ReadSetting.L1 N n1 setting words (IntKind.wrap .i64 (i - (1 : Int)))
      else none
      else none
      else none
    else
      some ((0 : Int), false) := by kernel_rfl
theorem impl_ReadSetting.L1_zero (N : Nat) (setting : Int) (words : List Int) (i : Int) : impl_ReadSetting.L1 N 0 setting words i = none := rfl
theorem impl_ReadSetting.F_eq (N : Nat) (f : (List (List Int)) × List Int) (setting : Int) : impl_ReadSetting.F N (f, setting) =
    bindO (impl_ActivePage.F N f) fun r1 =>
    bif decide (r1 < (0 : Int)) then
      some ((0 : Int), false)
    else
      bif inRange r1 (List.length f.1) then
      impl_ReadSetting.L1 N N setting (nth ([] : List Int) f.1 r1) (5 : Int)
      else none := by kernel_rfl

def laws_FnExactReadSetting.x : XFunc := { nslots := 44, nobj := 2, pars := [.val true 2, .val false 1], rowsIn := [none, none, none], rets := [.tmp 4 false 1], outs := [.imm], fresh := true, arg := .pair (.pair (.list (.list (.int .i64))) (.list (.int .i64))) (.int .i64), ret := .bool, body := .seq (.region false [ow 2 (.box 0) [.slot 0] [0] [0], op 4 .move [.const (.one (.bool false))]]) (.seq (.region false [op 5 .move [.const (.one (.int .i64 (1048576 : Int)))]]) (.seq (.region false [ow 11 (.load true 2) [.slot 2] [0] [], mv 12 5, o2 13 (.call ⟨253, [.val true 2, .val false 1], no 3, [.val false 1], ims 1, true⟩) 11 12, mv 5 13]) (.seq (.seq (.region false [mv 14 5, op 15 (.bin .lss) [.slot 14, .const (.one (.int .i64 (0 : Int)))]]) (.cond (.slot 15) (.seq (.region false [op 4 .move [.const (.one (.bool true))]]) (.ret)) (.skip))) (.seq (.region false [ow 17 (.load true 2) [.slot 2] [0] [], o1 18 (.call ⟨256, [.val true 2], no 2, [.val true 2], ims 2, true⟩) 17, mv 19 1, o2 20 (.call ⟨100, [.val true 2, .val false 1], no 3, [.val false 1, .val false 1], ims 2, true⟩) 18 19, mv 16 20, o1 21 (.extract 0) 16, o1 22 (.extract 1) 16, mv 6 21, mv 7 22]) (.seq (.region false [ow 23 (.load true 2) [.slot 2] [0] [], o1 24 (.call ⟨256, [.val true 2], no 2, [.val true 2], ims 2, true⟩) 23, ow 8 (.alloc 1 [.nil, .nil]) [] [1] [1], on (.store 2) [.slot 8, .slot 24] [1] [1]]) (.seq (.region false [ow 26 (.load true 2) [.slot 8] [1] [], mv 27 1, o2 28 (.call ⟨112, [.val true 2, .val false 1], no 3, [.val false 1, .val false 1], ims 2, true⟩) 26 27, mv 25 28, o1 29 (.extract 0) 25, o1 30 (.extract 1) 25, mv 9 29, mv 10 30]) (.seq (.seq (.region false [mv 31 9, mv 32 6, o2 33 (.bin .neq) 31 32, ⟨some 34, .move, [.slot 33], [], [], none, true⟩, ⟨some 35, .move, [.slot 10], [], [], some (34, false), false⟩, ⟨some 36, .move, [.slot 7], [], [], some (34, false), false⟩, ⟨some 37, .eqBool true, [.slot 35, .slot 36], [], [], some (34, false), false⟩, op 38 .pick [.slot 34, .const (.one (.bool true)), .slot 37]]) (.cond (.slot 38) (.seq (.region false [op 4 .move [.const (.one (.bool false))]]) (.ret)) (.skip))) (.seq (.seq (.region true [ow 39 (.load true 2) [.slot 8] [1] [], ow 40 (.load true 2) [.slot 2] [0] [], o1 41 (.call ⟨256, [.val true 2], no 2, [.val true 2], ims 2, true⟩) 40, o2 42 (.call ⟨241, [.val true 2, .val true 2], no 4, [.val false 1], ims 1, true⟩) 39 41, o1 43 .not 42]) (.cond (.slot 43) (.seq (.region false [op 4 .move [.const (.one (.bool false))]]) (.ret)) (.skip))) (.seq (.region false [op 4 .move [.const (.one (.bool true))]]) (.ret)))))))))) }
def laws_FnExactReadSetting.env (N : Nat) : Env := envOf (tbl [(112, impl_ReadSetting.fs N), (241, laws_eqFlash.fs N), (253, laws_szFlash.fs N), (256, laws_toFlash.fs N), (100, spec_ReadSetting.fs N)] noFS)
def laws_FnExactReadSetting.F (N : Nat) (x : ((List (List Int)) × List Int) × Int) : Option Bool := XFunc.run laws_FnExactReadSetting.x (laws_FnExactReadSetting.env N) N x
def laws_FnExactReadSetting.fs (N : Nat) : FS := { arg := .pair (.pair (.list (.list (.int .i64))) (.list (.int .i64))) (.int .i64), ret := .bool, fresh := true, F := laws_FnExactReadSetting.F N }

theorem laws_FnExactReadSetting.F_eq (N : Nat) (aF : (List (List Int)) × List Int) (aSetting : Int) : laws_FnExactReadSetting.F N (aF, aSetting) =
    bindO (laws_szFlash.F N (aF, (1048576 : Int))) fun r1 =>
    bif decide (r1 < (0 : Int)) then
      some true
    else
      bindO (laws_toFlash.F N aF) fun r2 =>
      bindO (spec_ReadSetting.F N (r2, aSetting)) fun r3 =>
      bindO (laws_toFlash.F N aF) fun r4 =>
      bindO (impl_ReadSetting.F N (r4, aSetting)) fun r5 =>
      bif r5.1 != r3.1 then
        some false
      else
        bif r5.2 != r3.2 then
          some false
        else
          bindO (laws_toFlash.F N aF) fun r6 =>
          bindO (laws_eqFlash.F N (r4, r6)) fun r7 =>
          bif !r7 then
            some false
          else
            some true := by kernel_rfl

end Go.Kb
