/- The texts of functions, printed by a program, and the equations of their runs. -/
import Derived.Test.YtnoifcpgionjkabExactCombineEventF1
import Derived.Test.YtnoifcpgionjkabExactCombineEventF2
import Derived.Test.YtnoifcpgionjkabExactCombineEventF3
import Derived.Test.YtnoifcpgionjkabExactCombineEventF4
import Derived.KernelRfl
namespace Go.Kb
def laws_szEventS.x : XFunc := { nslots := 12, nobj := 0, pars := [.val false 1, .val false 1], rowsIn := [none, none], rets := [.tmp 4 false 1], outs := [.imm], fresh := true, arg := .pair (.list (.pair (.int .i64) (.pair (.int .i64) (.bool)))) (.int .i64), ret := .int .i64, body := .seq (.region false [op 4 .move [.const (.one (.int .i64 (0 : Int)))]]) (.seq (.region false [mv 5 1, mv 6 0, o1 7 .len 6, o2 8 (.bin .sub) 5 7, mv 1 8]) (.seq (.seq (.region false [mv 9 1, op 10 (.bin .lss) [.slot 9, .const (.one (.int .i64 (0 : Int)))]]) (.cond (.slot 10) (.seq (.region false [op 4 .move [.const (.one (.int .i64 (-1 : Int)))]]) (.ret)) (.skip))) (.seq (.region false [mv 11 1, mv 4 11]) (.ret)))) }
def laws_szEventS.env (_ : Nat) : Env := envOf (tbl [] noFS)
def laws_szEventS.F (N : Nat) (x : (List (Int × Int × Bool)) × Int) : Option Int := XFunc.run laws_szEventS.x (laws_szEventS.env N) N x
def laws_szEventS.fs (N : Nat) : FS := { arg := .pair (.list (.pair (.int .i64) (.pair (.int .i64) (.bool)))) (.int .i64), ret := .int .i64, fresh := true, F := laws_szEventS.F N }

theorem laws_szEventS.F_eq (N : Nat) (a : List (Int × Int × Bool)) (left : Int) : laws_szEventS.F N (a, left) =
    bif decide ((IntKind.wrap .i64 (left - (List.length a : Int))) < (0 : Int)) then
      some (-1 : Int)
    else
      some (IntKind.wrap .i64 (left - (List.length a : Int))) := by kernel_rfl

def laws_szActiveS.x : XFunc := { nslots := 12, nobj := 0, pars := [.val false 1, .val false 1], rowsIn := [none, none], rets := [.tmp 4 false 1], outs := [.imm], fresh := true, arg := .pair (.list (.pair (.int .i64) (.pair (.int .i64) (.bool)))) (.int .i64), ret := .int .i64, body := .seq (.region false [op 4 .move [.const (.one (.int .i64 (0 : Int)))]]) (.seq (.region false [mv 5 1, mv 6 0, o1 7 .len 6, o2 8 (.bin .sub) 5 7, mv 1 8]) (.seq (.seq (.region false [mv 9 1, op 10 (.bin .lss) [.slot 9, .const (.one (.int .i64 (0 : Int)))]]) (.cond (.slot 10) (.seq (.region false [op 4 .move [.const (.one (.int .i64 (-1 : Int)))]]) (.ret)) (.skip))) (.seq (.region false [mv 11 1, mv 4 11]) (.ret)))) }
def laws_szActiveS.env (_ : Nat) : Env := envOf (tbl [] noFS)
def laws_szActiveS.F (N : Nat) (x : (List (Int × Int × Bool)) × Int) : Option Int := XFunc.run laws_szActiveS.x (laws_szActiveS.env N) N x
def laws_szActiveS.fs (N : Nat) : FS := { arg := .pair (.list (.pair (.int .i64) (.pair (.int .i64) (.bool)))) (.int .i64), ret := .int .i64, fresh := true, F := laws_szActiveS.F N }

theorem laws_szActiveS.F_eq (N : Nat) (a : List (Int × Int × Bool)) (left : Int) : laws_szActiveS.F N (a, left) =
    bif decide ((IntKind.wrap .i64 (left - (List.length a : Int))) < (0 : Int)) then
      some (-1 : Int)
    else
      some (IntKind.wrap .i64 (left - (List.length a : Int))) := by kernel_rfl

def laws_szCombiner.x : XFunc := { nslots := 24, nobj := 1, pars := [.val true 7, .val false 1], rowsIn := [none, none, none, none, none, none, none, none], rets := [.tmp 4 false 1], outs := [.imm], fresh := true, arg := .pair (.pair (.list (.pair (.int .i64) (.int .i64))) (.pair (.int .i64) (.pair (.list (.pair (.int .i64) (.pair (.int .i64) (.bool)))) (.pair (.int .i64) (.pair (.int .i64) (.pair (.int .i64) (.list (.pair (.int .i64) (.pair (.int .i64) (.bool)))))))))) (.int .i64), ret := .int .i64, body := .seq (.region false [ow 2 (.box 0) [.slot 0] [0] [0], op 4 .move [.const (.one (.int .i64 (0 : Int)))]]) (.seq (.region false [o1 5 (.fieldAddr 0) 2, ow 6 (.load false 1) [.slot 5] [0] [], mv 7 1, o2 8 (.call ⟨122, vs 2, no 2, [.val false 1], ims 1, true⟩) 6 7, mv 1 8]) (.seq (.seq (.region false [mv 9 1, op 10 (.bin .lss) [.slot 9, .const (.one (.int .i64 (0 : Int)))]]) (.cond (.slot 10) (.seq (.region false [op 4 .move [.const (.one (.int .i64 (-1 : Int)))]]) (.ret)) (.skip))) (.seq (.region false [o1 11 (.fieldAddr 2) 2, ow 12 (.load false 1) [.slot 11] [0] [], mv 13 1, o2 14 (.call ⟨123, vs 2, no 2, [.val false 1], ims 1, true⟩) 12 13, mv 1 14]) (.seq (.seq (.region false [mv 15 1, op 16 (.bin .lss) [.slot 15, .const (.one (.int .i64 (0 : Int)))]]) (.cond (.slot 16) (.seq (.region false [op 4 .move [.const (.one (.int .i64 (-1 : Int)))]]) (.ret)) (.skip))) (.seq (.region false [o1 17 (.fieldAddr 6) 2, ow 18 (.load false 1) [.slot 17] [0] [], mv 19 1, o2 20 (.call ⟨124, vs 2, no 2, [.val false 1], ims 1, true⟩) 18 19, mv 1 20]) (.seq (.seq (.region false [mv 21 1, op 22 (.bin .lss) [.slot 21, .const (.one (.int .i64 (0 : Int)))]]) (.cond (.slot 22) (.seq (.region false [op 4 .move [.const (.one (.int .i64 (-1 : Int)))]]) (.ret)) (.skip))) (.seq (.region false [mv 23 1, mv 4 23]) (.ret)))))))) }
def laws_szCombiner.env (N : Nat) : Env := envOf (tbl [(124, laws_szActiveS.fs N), (122, laws_szComboS.fs N), (123, laws_szEventS.fs N)] noFS)
def laws_szCombiner.F (N : Nat) (x : ((List (Int × Int)) × Int × (List (Int × Int × Bool)) × Int × Int × Int × List (Int × Int × Bool)) × Int) : Option Int := XFunc.run laws_szCombiner.x (laws_szCombiner.env N) N x
def laws_szCombiner.fs (N : Nat) : FS := { arg := .pair (.pair (.list (.pair (.int .i64) (.int .i64))) (.pair (.int .i64) (.pair (.list (.pair (.int .i64) (.pair (.int .i64) (.bool)))) (.pair (.int .i64) (.pair (.int .i64) (.pair (.int .i64) (.list (.pair (.int .i64) (.pair (.int .i64) (.bool)))))))))) (.int .i64), ret := .int .i64, fresh := true, F := laws_szCombiner.F N }

theorem laws_szCombiner.F_eq (N : Nat) (a : (List (Int × Int)) × Int × (List (Int × Int × Bool)) × Int × Int × Int × List (Int × Int × Bool)) (left : Int) : laws_szCombiner.F N (a, left) =
    bindO (laws_szComboS.F N (a.1, left)) fun r1 =>
    bif decide (r1 < (0 : Int)) then
      some (-1 : Int)
    else
      bindO (laws_szEventS.F N (a.2.2.1, r1)) fun r2 =>
      bif decide (r2 < (0 : Int)) then
        some (-1 : Int)
      else
        bindO (laws_szActiveS.F N (a.2.2.2.2.2.2, r2)) fun r3 =>
        bif decide (r3 < (0 : Int)) then
          some (-1 : Int)
        else
          some r3 := by kernel_rfl

def laws_toEvent.x : XFunc := { nslots := 14, nobj := 3, pars := [.val true 3], rowsIn := [none, none, none], rets := [.var 2 true 3], outs := [.imm, .imm, .imm], fresh := true, arg := .pair (.int .i64) (.pair (.int .i64) (.bool)), ret := .pair (.int .i64) (.pair (.int .i64) (.bool)), body := .seq (.region false [ow 1 (.box 0) [.slot 0] [0] [0], ow 2 (.alloc 1 [.int .i64 (0 : Int), .int .i64 (0 : Int), .bool false]) [] [1] [1]]) (.seq (.region false [ow 3 (.alloc 2 [.int .i64 (0 : Int), .int .i64 (0 : Int), .bool false]) [] [2] [2]]) (.seq (.region false [o1 4 (.fieldAddr 0) 1, ow 5 (.load false 1) [.slot 4] [0] [], o1 6 (.fieldAddr 0) 3, on (.store 1) [.slot 6, .slot 5] [2] [2]]) (.seq (.region false [o1 7 (.fieldAddr 1) 1, ow 8 (.load false 1) [.slot 7] [0] [], o1 9 (.fieldAddr 1) 3, on (.store 1) [.slot 9, .slot 8] [2] [2]]) (.seq (.region false [o1 10 (.fieldAddr 2) 1, ow 11 (.load false 1) [.slot 10] [0] [], o1 12 (.fieldAddr 2) 3, on (.store 1) [.slot 12, .slot 11] [2] [2]]) (.seq (.region false [ow 13 (.load true 3) [.slot 3] [2] [], on (.store 3) [.slot 2, .slot 13] [1] [1]]) (.ret)))))) }
def laws_toEvent.env (_ : Nat) : Env := envOf (tbl [] noFS)
def laws_toEvent.F (N : Nat) (x : Int × Int × Bool) : Option (Int × Int × Bool) := XFunc.run laws_toEvent.x (laws_toEvent.env N) N x
def laws_toEvent.fs (N : Nat) : FS := { arg := .pair (.int .i64) (.pair (.int .i64) (.bool)), ret := .pair (.int .i64) (.pair (.int .i64) (.bool)), fresh := true, F := laws_toEvent.F N }

theorem laws_toEvent.F_eq (N : Nat) (a : Int × Int × Bool) : laws_toEvent.F N a =
    some a := by kernel_rfl

def laws_toEventS.c1 : XCode := .seq (.seq (.region false [mv 8 4, mv 9 0, o1 10 .len 9, o2 11 (.bin .lss) 8 10]) (.cond (.slot 11) (.skip) (.exit 0))) (.seq (.block 1 (.region false [mv 14 3, mv 15 4, mv 16 0, mv 17 4, o2 18 (.indexAddr (.pair (.int .i64) (.pair (.int .i64) (.bool)))) 16 17, o1 19 (.load true 3) 18, o1 20 (.call ⟨128, [.val true 3], no 3, [.val true 3], ims 3, true⟩) 19, ow 21 (.indexAddr (.pair (.int .i64) (.pair (.int .i64) (.bool)))) [.slot 14, .slot 15] [0] [], on (.store 3) [.slot 21, .slot 20] [0] [0]])) (.region false [mv 12 4, op 13 (.bin .add) [.slot 12, .const (.one (.int .i64 (1 : Int)))], mv 4 13]))
def laws_toEventS.c2 : XCode := .seq (.region false [mv 22 3, mv 2 22]) (.ret)
def laws_toEventS.x : XFunc := { nslots := 23, nobj := 1, pars := [.val false 1], rowsIn := [none], rets := [.tmp 2 false 1], outs := [.own 4], fresh := true, arg := .list (.pair (.int .i64) (.pair (.int .i64) (.bool))), ret := .list (.pair (.int .i64) (.pair (.int .i64) (.bool))), body := .seq (.region false [op 2 .move [.const (.one (.nil))]]) (.seq (.region false [mv 5 0, o1 6 .len 5, ow 7 (.makeSlice 0 4 (.pair (.int .i64) (.pair (.int .i64) (.bool)))) [.slot 6, .slot 6] [0] [0], mv 3 7]) (.seq (.seq (.region false [op 4 .move [.const (.one (.int .i64 (0 : Int)))]]) (.block 0 (.loop [.keep [0, 3, 4], .norm] (laws_toEventS.c1)))) (laws_toEventS.c2))) }
def laws_toEventS.env (N : Nat) : Env := envOf (tbl [(128, laws_toEvent.fs N)] noFS)
def laws_toEventS.F (N : Nat) (x : List (Int × Int × Bool)) : Option (List (Int × Int × Bool)) := XFunc.run laws_toEventS.x (laws_toEventS.env N) N x
def laws_toEventS.fs (N : Nat) : FS := { arg := .list (.pair (.int .i64) (.pair (.int .i64) (.bool))), ret := .list (.pair (.int .i64) (.pair (.int .i64) (.bool))), fresh := true, F := laws_toEventS.F N }
def laws_toEventS.k2 (N : Nat) : Ex → S → Option (List (Int × Int × Bool)) := seqK (fun s => XCode.runK (laws_toEventS.env N) N (laws_toEventS.c2) s (XFunc.endK laws_toEventS.x)) (XFunc.endK laws_toEventS.x)
def laws_toEventS.k1 (N : Nat) : Ex → S → Option (List (Int × Int × Bool)) := blockK 0 (laws_toEventS.k2 N)
def laws_toEventS.L1 (N : Nat) (n1 : Nat) (a : List (Int × Int × Bool)) (i : Int) (o0 : List (Int × Int × Bool)) : Option (List (Int × Int × Bool)) := loopK [.keep [0, 3, 4], .norm] (fun s k => XCode.runK (laws_toEventS.env N) N laws_toEventS.c1 s k) n1
  { t := [.one (.sl false (.pair (.int .i64) (.pair (.int .i64) (.bool))) a), .junk, .junk, .one (.ref 0 0 .all), .one (.int .i64 i), .junk, .junk, .junk, .junk, .junk, .junk, .junk, .junk, .junk, .junk, .junk, .junk, .junk, .junk, .junk, .junk, .junk, .junk], h := [.row 0 false true 4 (.pair (.int .i64) (.pair (.int .i64) (.bool))) o0] }
  (laws_toEventS.k1 N)

theorem laws_toEventS.L1_eq (N : Nat) (n1 : Nat) (a : List (Int × Int × Bool)) (i : Int) (o0 : List (Int × Int × Bool)) : laws_toEventS.L1 N (n1 + 1) a i o0 =
    bif decide (i < (List.length a : Int)) then
      bif inRange i (List.length a) then
      bindO (laws_toEvent.F N ((nth ((0 : Int), ((0 : Int), false)) a i).1, ((nth ((0 : Int), ((0 : Int), false)) a i).2))) fun r1 =>
      bif inRange i (List.length o0) then
      laws_toEventS.L1 N n1 a (IntKind.wrap .i64 (i + (1 : Int))) (List.set o0 (Int.toNat i) r1)
      else none
      else none
    else
      some o0 := by kernel_rfl
theorem laws_toEventS.F_eq (N : Nat) (a : List (Int × Int × Bool)) : laws_toEventS.F N a =
    bif decide (0 ≤ (List.length a : Int)) && decide ((List.length a : Int) ≤ (maxN : Int)) then
    laws_toEventS.L1 N N a (0 : Int) (List.replicate (Int.toNat (List.length a : Int)) ((0 : Int), ((0 : Int), false)))
    else none := by kernel_rfl

def laws_toActive.x : XFunc := { nslots := 14, nobj := 3, pars := [.val true 3], rowsIn := [none, none, none], rets := [.var 2 true 3], outs := [.imm, .imm, .imm], fresh := true, arg := .pair (.int .i64) (.pair (.int .i64) (.bool)), ret := .pair (.int .i64) (.pair (.int .i64) (.bool)), body := .seq (.region false [ow 1 (.box 0) [.slot 0] [0] [0], ow 2 (.alloc 1 [.int .i64 (0 : Int), .int .i64 (0 : Int), .bool false]) [] [1] [1]]) (.seq (.region false [ow 3 (.alloc 2 [.int .i64 (0 : Int), .int .i64 (0 : Int), .bool false]) [] [2] [2]]) (.seq (.region false [o1 4 (.fieldAddr 0) 1, ow 5 (.load false 1) [.slot 4] [0] [], o1 6 (.fieldAddr 0) 3, on (.store 1) [.slot 6, .slot 5] [2] [2]]) (.seq (.region false [o1 7 (.fieldAddr 1) 1, ow 8 (.load false 1) [.slot 7] [0] [], o1 9 (.fieldAddr 1) 3, on (.store 1) [.slot 9, .slot 8] [2] [2]]) (.seq (.region false [o1 10 (.fieldAddr 2) 1, ow 11 (.load false 1) [.slot 10] [0] [], o1 12 (.fieldAddr 2) 3, on (.store 1) [.slot 12, .slot 11] [2] [2]]) (.seq (.region false [ow 13 (.load true 3) [.slot 3] [2] [], on (.store 3) [.slot 2, .slot 13] [1] [1]]) (.ret)))))) }
def laws_toActive.env (_ : Nat) : Env := envOf (tbl [] noFS)
def laws_toActive.F (N : Nat) (x : Int × Int × Bool) : Option (Int × Int × Bool) := XFunc.run laws_toActive.x (laws_toActive.env N) N x
def laws_toActive.fs (N : Nat) : FS := { arg := .pair (.int .i64) (.pair (.int .i64) (.bool)), ret := .pair (.int .i64) (.pair (.int .i64) (.bool)), fresh := true, F := laws_toActive.F N }

theorem laws_toActive.F_eq (N : Nat) (a : Int × Int × Bool) : laws_toActive.F N a =
    some a := by kernel_rfl

def laws_toActiveS.c1 : XCode := .seq (.seq (.region false [mv 8 4, mv 9 0, o1 10 .len 9, o2 11 (.bin .lss) 8 10]) (.cond (.slot 11) (.skip) (.exit 0))) (.seq (.block 1 (.region false [mv 14 3, mv 15 4, mv 16 0, mv 17 4, o2 18 (.indexAddr (.pair (.int .i64) (.pair (.int .i64) (.bool)))) 16 17, o1 19 (.load true 3) 18, o1 20 (.call ⟨130, [.val true 3], no 3, [.val true 3], ims 3, true⟩) 19, ow 21 (.indexAddr (.pair (.int .i64) (.pair (.int .i64) (.bool)))) [.slot 14, .slot 15] [0] [], on (.store 3) [.slot 21, .slot 20] [0] [0]])) (.region false [mv 12 4, op 13 (.bin .add) [.slot 12, .const (.one (.int .i64 (1 : Int)))], mv 4 13]))
def laws_toActiveS.c2 : XCode := .seq (.region false [mv 22 3, mv 2 22]) (.ret)
def laws_toActiveS.x : XFunc := { nslots := 23, nobj := 1, pars := [.val false 1], rowsIn := [none], rets := [.tmp 2 false 1], outs := [.own 5], fresh := true, arg := .list (.pair (.int .i64) (.pair (.int .i64) (.bool))), ret := .list (.pair (.int .i64) (.pair (.int .i64) (.bool))), body := .seq (.region false [op 2 .move [.const (.one (.nil))]]) (.seq (.region false [mv 5 0, o1 6 .len 5, ow 7 (.makeSlice 0 5 (.pair (.int .i64) (.pair (.int .i64) (.bool)))) [.slot 6, .slot 6] [0] [0], mv 3 7]) (.seq (.seq (.region false [op 4 .move [.const (.one (.int .i64 (0 : Int)))]]) (.block 0 (.loop [.keep [0, 3, 4], .norm] (laws_toActiveS.c1)))) (laws_toActiveS.c2))) }
def laws_toActiveS.env (N : Nat) : Env := envOf (tbl [(130, laws_toActive.fs N)] noFS)
def laws_toActiveS.F (N : Nat) (x : List (Int × Int × Bool)) : Option (List (Int × Int × Bool)) := XFunc.run laws_toActiveS.x (laws_toActiveS.env N) N x
def laws_toActiveS.fs (N : Nat) : FS := { arg := .list (.pair (.int .i64) (.pair (.int .i64) (.bool))), ret := .list (.pair (.int .i64) (.pair (.int .i64) (.bool))), fresh := true, F := laws_toActiveS.F N }
def laws_toActiveS.k2 (N : Nat) : Ex → S → Option (List (Int × Int × Bool)) := seqK (fun s => XCode.runK (laws_toActiveS.env N) N (laws_toActiveS.c2) s (XFunc.endK laws_toActiveS.x)) (XFunc.endK laws_toActiveS.x)
def laws_toActiveS.k1 (N : Nat) : Ex → S → Option (List (Int × Int × Bool)) := blockK 0 (laws_toActiveS.k2 N)
def laws_toActiveS.L1 (N : Nat) (n1 : Nat) (a : List (Int × Int × Bool)) (i : Int) (o0 : List (Int × Int × Bool)) : Option (List (Int × Int × Bool)) := loopK [.keep [0, 3, 4], .norm] (fun s k => XCode.runK (laws_toActiveS.env N) N laws_toActiveS.c1 s k) n1
  { t := [.one (.sl false (.pair (.int .i64) (.pair (.int .i64) (.bool))) a), .junk, .junk, .one (.ref 0 0 .all), .one (.int .i64 i), .junk, .junk, .junk, .junk, .junk, .junk, .junk, .junk, .junk, .junk, .junk, .junk, .junk, .junk, .junk, .junk, .junk, .junk], h := [.row 0 false true 5 (.pair (.int .i64) (.pair (.int .i64) (.bool))) o0] }
  (laws_toActiveS.k1 N)

theorem laws_toActiveS.L1_eq (N : Nat) (n1 : Nat) (a : List (Int × Int × Bool)) (i : Int) (o0 : List (Int × Int × Bool)) : laws_toActiveS.L1 N (n1 + 1) a i o0 =
    bif decide (i < (List.length a : Int)) then
      bif inRange i (List.length a) then
      bindO (laws_toActive.F N ((nth ((0 : Int), ((0 : Int), false)) a i).1, ((nth ((0 : Int), ((0 : Int), false)) a i).2))) fun r1 =>
      bif inRange i (List.length o0) then
      laws_toActiveS.L1 N n1 a (IntKind.wrap .i64 (i + (1 : Int))) (List.set o0 (Int.toNat i) r1)
      else none
      else none
    else
      some o0 := by kernel_rfl
theorem laws_toActiveS.F_eq (N : Nat) (a : List (Int × Int × Bool)) : laws_toActiveS.F N a =
    bif decide (0 ≤ (List.length a : Int)) && decide ((List.length a : Int) ≤ (maxN : Int)) then
    laws_toActiveS.L1 N N a (0 : Int) (List.replicate (Int.toNat (List.length a : Int)) ((0 : Int), ((0 : Int), false)))
    else none := by kernel_rfl

end Go.Kb
