/- The texts of functions, printed by a program, and the equations of their runs. -/
import Derived.Test.YtggbkpkapkcoeaaDoorExactTypedTextF1
import Derived.KernelRfl
namespace Go.Kb
def laws_eqIntS.c1 : XCode := .seq (.seq (.region false [mv 11 5, mv 12 0, o1 13 .len 12, o2 14 (.bin .lss) 11 13]) (.cond (.slot 14) (.skip) (.exit 0))) (.seq (.block 1 (.seq (.region true [mv 17 0, mv 18 5, o2 19 (.indexAddr (.int .i64)) 17 18, o1 20 (.load false 1) 19, mv 21 1, mv 22 5, o2 23 (.indexAddr (.int .i64)) 21 22, o1 24 (.load false 1) 23, o2 25 (.bin .neq) 20 24]) (.cond (.slot 25) (.seq (.region false [op 4 .move [.const (.one (.bool false))]]) (.ret)) (.skip)))) (.region false [mv 15 5, op 16 (.bin .add) [.slot 15, .const (.one (.int .i64 (1 : Int)))], mv 5 16]))
def laws_eqIntS.c2 : XCode := .seq (.region false [op 4 .move [.const (.one (.bool true))]]) (.ret)
def laws_eqIntS.x : XFunc := { nslots := 26, nobj := 0, pars := [.val false 1, .val false 1], rowsIn := [none, none], rets := [.tmp 4 false 1], outs := [.imm], fresh := true, arg := .pair (.list (.int .i64)) (.list (.int .i64)), ret := .bool, body := .seq (.region false [op 4 .move [.const (.one (.bool false))]]) (.seq (.seq (.region false [mv 6 0, o1 7 .len 6, mv 8 1, o1 9 .len 8, o2 10 (.bin .neq) 7 9]) (.cond (.slot 10) (.seq (.region false [op 4 .move [.const (.one (.bool false))]]) (.ret)) (.skip))) (.seq (.seq (.region false [op 5 .move [.const (.one (.int .i64 (0 : Int)))]]) (.block 0 (.loop [.keep [0, 1, 5], .norm] (laws_eqIntS.c1)))) (laws_eqIntS.c2))) }
def laws_eqIntS.env (_ : Nat) : Env := envOf (tbl [] noFS)
def laws_eqIntS.F (N : Nat) (x : (List Int) × List Int) : Option Bool := XFunc.run laws_eqIntS.x (laws_eqIntS.env N) N x
def laws_eqIntS.fs (N : Nat) : FS := { arg := .pair (.list (.int .i64)) (.list (.int .i64)), ret := .bool, fresh := true, F := laws_eqIntS.F N }
def laws_eqIntS.k2 (N : Nat) : Ex → S → Option Bool := seqK (fun s => XCode.runK (laws_eqIntS.env N) N (laws_eqIntS.c2) s (XFunc.endK laws_eqIntS.x)) (XFunc.endK laws_eqIntS.x)
def laws_eqIntS.k1 (N : Nat) : Ex → S → Option Bool := blockK 0 (laws_eqIntS.k2 N)
def laws_eqIntS.L1 (N : Nat) (n1 : Nat) (a : List Int) (b : List Int) (i : Int) : Option Bool := loopK [.keep [0, 1, 5], .norm] (fun s k => XCode.runK (laws_eqIntS.env N) N laws_eqIntS.c1 s k) n1
  { t := [.one (.sl false (.int .i64) a), .one (.sl false (.int .i64) b), .junk, .junk, .junk, .one (.int .i64 i), .junk, .junk, .junk, .junk, .junk, .junk, .junk, .junk, .junk, .junk, .junk, .junk, .junk, .junk, .junk, .junk, .junk, .junk, .junk, .junk], h := [] }
  (laws_eqIntS.k1 N)

theorem laws_eqIntS.L1_eq (N : Nat) (n1 : Nat) (a : List Int) (b : List Int) (i : Int) : laws_eqIntS.L1 N (n1 + 1) a b i =
    bif decide (i < (List.length a : Int)) then
      bif inRange i (List.length a) then
      bif inRange i (List.length b) then
      bif (nth (0 : Int) a i) != (nth (0 : Int) b i) then
        some false
      else
        laws_eqIntS.L1 N n1 a b (IntKind.wrap .i64 (i + (1 : Int)))
      else none
      else none
    else
      some true := by kernel_rfl
theorem laws_eqIntS.F_eq (N : Nat) (a : List Int) (b : List Int) : laws_eqIntS.F N (a, b) =
    bif (List.length a : Int) != (List.length b : Int) then
      some false
    else
      laws_eqIntS.L1 N N a b (0 : Int) := by kernel_rfl

end Go.Kb
