/- The texts of functions, printed by a program, and the equations of their runs. -/
import Derived.Test.YticidpdbkjgebaaDoorExactTextReportsF1
import Derived.KernelRfl
namespace Go.Kb
def laws_eqIntS.c1 : XCode := .seq (.seq (.region false [mv 11 5, mv 12 0, o1 13 .len 12, o2 14 (.bin .lss) 11 13]) (.cond (.slot 14) (.skip) (.exit 0))) (.seq (.block 1 (.seq (.region true [mv 17 0, mv 18 5, o2 19 (.indexAddr (.int .i64)) 17 18, o1 20 (.load false 1) 19, mv 21 1, mv 22 5, o2 23 (.indexAddr (.int .i64)) 21 22, o1 24 (.load false 1) 23, o2 25 (.bin .neq) 20 24]) (.cond (.slot 25) (.seq (.region false [op 4 .move [.const (.one (.bool false))]]) (.ret)) (.skip)))) (.region false [mv 15 5, op 16 (.bin .add) [.slot 15, .const (.one (.int .i64 (1 : Int)))], mv 5 16]))
def laws_eqIntS.c2 : XCode := .seq (.region false [op 4 .move [.const (.one (.bool true))]]) (.ret)
def laws_eqIntS.x : XFunc := { nslots := 26, nobj := 0, pars := [.val false 1, .val false 1], rowsIn := [none, none], rets := [.tmp 4 false 1], outs := [.imm], fresh := true, arg := .pair (.list (.int .i64)) (.list (.int .i64)), ret := .bool, body := .seq (.region false [op 4 .move [.const (.one (.bool false))]]) (.seq (.seq (.region false [mv 6 0, o1 7 .len 6, mv 8 1, o1 9 .len 8, o2 10 (.bin .neq) 7 9]) (.cond (.slot 10) (.seq (.region false [op 4 .move [.const (.one (.bool false))]]) (.ret)) (.skip))) (.seq (.seq (.region false [op 5 .move [.const (.one (.int .i64 (0 : Int)))]]) (.block 0 (.loop [.keep [0, 1, 5], .norm] (laws_eqIntS.c1)))) (laws_eqIntS.c2))) }
def laws_eqIntS.env (_ : Nat) : Env := envOf (tbl [] noFS)
def laws_eqIntS.F (N : Nat) (x : (List Int) × List Int) : Option Bool := XFunc.run laws_eqIntS.x (laws_eqIntS.env N) N x
def laws_eqIntS.fs (N : Nat) : FS := { arg := .pair (.list (.int .i64)) (.list (.int .i64)), ret := .bool, fresh := true, F := laws_eqIntS.F N }
def laws_eqIntS.k2 (N : Nat) : Ex → S → Option Bool := seqK (fun s => XCode.runK (laws_eqIntS.env N) N (laws_eqIntS.c2) s (XFunc.endK laws_eqIntS.x)) (XFunc.endK laws_eqIntS.x)
def laws_eqIntS.k1 (N : Nat) : Ex → S → Option Bool := blockK 0 (laws_eqIntS.k2 N)
def laws_eqIntS.L1 (N : Nat) (n1 : Nat) (a : List Int) (b : List Int) (i : Int) : Option Bool := loopK [.keep [0, 1, 5], .norm] (fun s k => XCode.runK (laws_eqIntS.env N) N laws_eqIntS.c1 s k) n1
  { t := [.one (.sl false (.int .i64) a), .one (.sl false (.int .i64) b), .junk, .junk, .junk, .one (.int .i64 i), .junk, .junk, .junk, .junk, .junk, .junk, .junk, .junk, .junk, .junk, .junk, .junk, .junk, .junk, .junk, .junk, .junk, .junk, .junk, .junk], h := [] }
  (laws_eqIntS.k1 N)

theorem laws_eqIntS.L1_eq (N : Nat) (n1 : Nat) (a : List Int) (b : List Int) (i : Int) : laws_eqIntS.L1 N (n1 + 1) a b i =
    bif decide (i < (List.length a : Int)) then
      bif inRange i (List.length a) then
      bif inRange i (List.length b) then
      bif (nth (0 : Int) a i) != (nth (0 : Int) b i) then
        some false
      else
        laws_eqIntS.L1 N n1 a b (IntKind.wrap .i64 (i + (1 : Int)))
      else none
      else none
    else
      some true := by kernel_rfl
theorem laws_eqIntS.F_eq (N : Nat) (a : List Int) (b : List Int) : laws_eqIntS.F N (a, b) =
    bif (List.length a : Int) != (List.length b : Int) then
      some false
    else
      laws_eqIntS.L1 N N a b (0 : Int) := by kernel_rfl

def laws_markIntS.c1 : XCode := .seq (.seq (.region false [mv 6 5, mv 7 0, ow 8 .len [.slot 7] [0] [], o2 9 (.bin .lss) 6 8]) (.cond (.slot 9) (.skip) (.exit 0))) (.seq (.block 1 (.seq (.region false [mv 12 0, mv 13 5, mv 14 1, ow 15 (.indexAddr (.int .i64)) [.slot 12, .slot 13] [0] [], on (.store 1) [.slot 15, .slot 14] [0] [0]]) (.region false [mv 16 1, op 17 (.bin .add) [.slot 16, .const (.one (.int .i64 (1 : Int)))], mv 1 17]))) (.region false [mv 10 5, op 11 (.bin .add) [.slot 10, .const (.one (.int .i64 (1 : Int)))], mv 5 11]))
def laws_markIntS.c2 : XCode := .seq (.region false [mv 18 1, mv 4 18]) (.ret)
def laws_markIntS.x : XFunc := { nslots := 19, nobj := 1, pars := [.val false 1, .val false 1], rowsIn := [some (0, 2), none], rets := [.tmp 4 false 1], outs := [.imm, .back 0], fresh := false, arg := .pair (.list (.int .i64)) (.int .i64), ret := .pair (.int .i64) (.list (.int .i64)), body := .seq (.region false [op 4 .move [.const (.one (.int .i64 (0 : Int)))]]) (.seq (.seq (.region false [op 5 .move [.const (.one (.int .i64 (0 : Int)))]]) (.block 0 (.loop [.keep [0, 1, 5], .norm] (laws_markIntS.c1)))) (laws_markIntS.c2)) }
def laws_markIntS.env (_ : Nat) : Env := envOf (tbl [] noFS)
def laws_markIntS.F (N : Nat) (x : (List Int) × Int) : Option (Int × List Int) := XFunc.run laws_markIntS.x (laws_markIntS.env N) N x
def laws_markIntS.fs (N : Nat) : FS := { arg := .pair (.list (.int .i64)) (.int .i64), ret := .pair (.int .i64) (.list (.int .i64)), fresh := false, F := laws_markIntS.F N }
def laws_markIntS.k2 (N : Nat) : Ex → S → Option (Int × List Int) := seqK (fun s => XCode.runK (laws_markIntS.env N) N (laws_markIntS.c2) s (XFunc.endK laws_markIntS.x)) (XFunc.endK laws_markIntS.x)
def laws_markIntS.k1 (N : Nat) : Ex → S → Option (Int × List Int) := blockK 0 (laws_markIntS.k2 N)
def laws_markIntS.L1 (N : Nat) (n1 : Nat) (k_ : Int) (i : Int) (o0 : List Int) : Option (Int × List Int) := loopK [.keep [0, 1, 5], .norm] (fun s k => XCode.runK (laws_markIntS.env N) N laws_markIntS.c1 s k) n1
  { t := [.one (.ref 0 0 .all), .one (.int .i64 k_), .junk, .junk, .junk, .one (.int .i64 i), .junk, .junk, .junk, .junk, .junk, .junk, .junk, .junk, .junk, .junk, .junk, .junk, .junk], h := [.row 0 true false 2 (.int .i64) o0] }
  (laws_markIntS.k1 N)

theorem laws_markIntS.L1_eq (N : Nat) (n1 : Nat) (k_ : Int) (i : Int) (o0 : List Int) : laws_markIntS.L1 N (n1 + 1) k_ i o0 =
    bif decide (i < (List.length o0 : Int)) then
      bif inRange i (List.length o0) then
      laws_markIntS.L1 N n1 (IntKind.wrap .i64 (k_ + (1 : Int))) (IntKind.wrap .i64 (i + (1 : Int))) (List.set o0 (Int.toNat i) k_)
      else none
    else
      some (k_, o0) := by kernel_rfl
theorem laws_markIntS.F_eq (N : Nat) (a : List Int) (k_ : Int) : laws_markIntS.F N (a, k_) =
    laws_markIntS.L1 N N k_ (0 : Int) a := by kernel_rfl

def laws_heldIntS.c1 : XCode := .seq (.seq (.region false [mv 6 5, mv 7 0, o1 8 .len 7, o2 9 (.bin .lss) 6 8]) (.cond (.slot 9) (.skip) (.exit 0))) (.seq (.block 1 (.seq (.seq (.region false [mv 12 0, mv 13 5, o2 14 (.indexAddr (.int .i64)) 12 13, o1 15 (.load false 1) 14, mv 16 1, o2 17 (.bin .neq) 15 16]) (.cond (.slot 17) (.seq (.region false [op 4 .move [.const (.one (.int .i64 (-1 : Int)))]]) (.ret)) (.skip))) (.region false [mv 18 1, op 19 (.bin .add) [.slot 18, .const (.one (.int .i64 (1 : Int)))], mv 1 19]))) (.region false [mv 10 5, op 11 (.bin .add) [.slot 10, .const (.one (.int .i64 (1 : Int)))], mv 5 11]))
def laws_heldIntS.c2 : XCode := .seq (.region false [mv 20 1, mv 4 20]) (.ret)
def laws_heldIntS.x : XFunc := { nslots := 21, nobj := 0, pars := [.val false 1, .val false 1], rowsIn := [none, none], rets := [.tmp 4 false 1], outs := [.imm], fresh := true, arg := .pair (.list (.int .i64)) (.int .i64), ret := .int .i64, body := .seq (.region false [op 4 .move [.const (.one (.int .i64 (0 : Int)))]]) (.seq (.seq (.region false [op 5 .move [.const (.one (.int .i64 (0 : Int)))]]) (.block 0 (.loop [.keep [0, 1, 5], .norm] (laws_heldIntS.c1)))) (laws_heldIntS.c2)) }
def laws_heldIntS.env (_ : Nat) : Env := envOf (tbl [] noFS)
def laws_heldIntS.F (N : Nat) (x : (List Int) × Int) : Option Int := XFunc.run laws_heldIntS.x (laws_heldIntS.env N) N x
def laws_heldIntS.fs (N : Nat) : FS := { arg := .pair (.list (.int .i64)) (.int .i64), ret := .int .i64, fresh := true, F := laws_heldIntS.F N }
def laws_heldIntS.k2 (N : Nat) : Ex → S → Option Int := seqK (fun s => XCode.runK (laws_heldIntS.env N) N (laws_heldIntS.c2) s (XFunc.endK laws_heldIntS.x)) (XFunc.endK laws_heldIntS.x)
def laws_heldIntS.k1 (N : Nat) : Ex → S → Option Int := blockK 0 (laws_heldIntS.k2 N)
def laws_heldIntS.L1 (N : Nat) (n1 : Nat) (a : List Int) (k_ : Int) (i : Int) : Option Int := loopK [.keep [0, 1, 5], .norm] (fun s k => XCode.runK (laws_heldIntS.env N) N laws_heldIntS.c1 s k) n1
  { t := [.one (.sl false (.int .i64) a), .one (.int .i64 k_), .junk, .junk, .junk, .one (.int .i64 i), .junk, .junk, .junk, .junk, .junk, .junk, .junk, .junk, .junk, .junk, .junk, .junk, .junk, .junk, .junk], h := [] }
  (laws_heldIntS.k1 N)

theorem laws_heldIntS.L1_eq (N : Nat) (n1 : Nat) (a : List Int) (k_ : Int) (i : Int) : laws_heldIntS.L1 N (n1 + 1) a k_ i =
    bif decide (i < (List.length a : Int)) then
      bif inRange i (List.length a) then
      bif (nth (0 : Int) a i) != k_ then
        some (-1 : Int)
      else
        laws_heldIntS.L1 N n1 a (IntKind.wrap .i64 (k_ + (1 : Int))) (IntKind.wrap .i64 (i + (1 : Int)))
      else none
    else
      some k_ := by kernel_rfl
theorem laws_heldIntS.F_eq (N : Nat) (a : List Int) (k_ : Int) : laws_heldIntS.F N (a, k_) =
    laws_heldIntS.L1 N N a k_ (0 : Int) := by kernel_rfl

end Go.Kb
