/- The texts of functions, printed by a program, and the equations of their runs. -/
import Derived.Test.YticidpdbkjgebaaDoorExactTextReportsF1
import Derived.Test.YticidpdbkjgebaaDoorExactTextReportsF2
import Derived.KernelRfl
namespace Go.Kb
def impl_isCode.x : XFunc := { nslots := 9, nobj := 0, pars := [.val false 1], rowsIn := [none], rets := [.tmp 2 false 1], outs := [.imm], fresh := true, arg := .int .i64, ret := .bool, body := .seq (.region false [op 2 .move [.const (.one (.bool false))]]) (.seq (.region false [mv 3 0, op 4 (.bin .geq) [.slot 3, .const (.one (.int .i64 (1 : Int)))], ⟨some 5, .move, [.slot 4], [], [], none, true, .none⟩, ⟨some 6, .move, [.slot 0], [], [], some (5, true), false, .none⟩, ⟨some 7, .bin .leq, [.slot 6, .const (.one (.int .i64 (56 : Int)))], [], [], some (5, true), false, .none⟩, op 8 .pick [.slot 5, .slot 7, .const (.one (.bool false))], mv 2 8]) (.ret)) }
def impl_isCode.env (_ : Nat) : Env := envOf (tbl [] noFS)
def impl_isCode.F (N : Nat) (x : Int) : Option Bool := XFunc.run impl_isCode.x (impl_isCode.env N) N x
def impl_isCode.fs (N : Nat) : FS := { arg := .int .i64, ret := .bool, fresh := true, F := impl_isCode.F N }

theorem impl_isCode.F_eq (N : Nat) (n_ : Int) : impl_isCode.F N n_ =
    bif decide (n_ ≥ (1 : Int)) then
      some (decide (n_ ≤ (56 : Int)))
    else
      some false := by kernel_rfl

def laws_eqReport.x : XFunc := { nslots := 16, nobj := 2, pars := [.val true 2, .val true 2], rowsIn := [none, none, none, none], rets := [.tmp 4 false 1], outs := [.imm], fresh := true, arg := .pair (.pair (.int .i64) (.list (.int .i64))) (.pair (.int .i64) (.list (.int .i64))), ret := .bool, body := .seq (.region false [ow 2 (.box 0) [.slot 0] [0] [0], ow 3 (.box 1) [.slot 1] [1] [1], op 4 .move [.const (.one (.bool false))]]) (.seq (.seq (.region false [o1 5 (.fieldAddr 0) 2, ow 6 (.load false 1) [.slot 5] [0] [], o1 7 (.fieldAddr 0) 3, ow 8 (.load false 1) [.slot 7] [1] [], o2 9 (.bin .neq) 6 8]) (.cond (.slot 9) (.seq (.region false [op 4 .move [.const (.one (.bool false))]]) (.ret)) (.skip))) (.seq (.seq (.region false [o1 10 (.fieldAddr 1) 2, ow 11 (.load false 1) [.slot 10] [0] [], o1 12 (.fieldAddr 1) 3, ow 13 (.load false 1) [.slot 12] [1] [], o2 14 (.call ⟨239, vs 2, no 2, [.val false 1], ims 1, true⟩) 11 13, o1 15 .not 14]) (.cond (.slot 15) (.seq (.region false [op 4 .move [.const (.one (.bool false))]]) (.ret)) (.skip))) (.seq (.region false [op 4 .move [.const (.one (.bool true))]]) (.ret)))) }
def laws_eqReport.env (N : Nat) : Env := envOf (tbl [(239, laws_eqIntS.fs N)] noFS)
def laws_eqReport.F (N : Nat) (x : (Int × List Int) × Int × List Int) : Option Bool := XFunc.run laws_eqReport.x (laws_eqReport.env N) N x
def laws_eqReport.fs (N : Nat) : FS := { arg := .pair (.pair (.int .i64) (.list (.int .i64))) (.pair (.int .i64) (.list (.int .i64))), ret := .bool, fresh := true, F := laws_eqReport.F N }

theorem laws_eqReport.F_eq (N : Nat) (a : Int × List Int) (b : Int × List Int) : laws_eqReport.F N (a, b) =
    bif a.1 != b.1 then
      some false
    else
      bindO (laws_eqIntS.F N (a.2, b.2)) fun r1 =>
      bif !r1 then
        some false
      else
        some true := by kernel_rfl

def laws_eqReportS.c1 : XCode := .seq (.seq (.region false [mv 11 5, mv 12 0, o1 13 .len 12, o2 14 (.bin .lss) 11 13]) (.cond (.slot 14) (.skip) (.exit 0))) (.seq (.block 1 (.seq (.region true [mv 17 0, mv 18 5, o2 19 (.indexAddr (.pair (.int .i64) (.list (.int .i64)))) 17 18, o1 20 (.load true 2) 19, mv 21 1, mv 22 5, o2 23 (.indexAddr (.pair (.int .i64) (.list (.int .i64)))) 21 22, o1 24 (.load true 2) 23, o2 25 (.call ⟨265, [.val true 2, .val true 2], no 4, [.val false 1], ims 1, true⟩) 20 24, o1 26 .not 25]) (.cond (.slot 26) (.seq (.region false [op 4 .move [.const (.one (.bool false))]]) (.ret)) (.skip)))) (.region false [mv 15 5, op 16 (.bin .add) [.slot 15, .const (.one (.int .i64 (1 : Int)))], mv 5 16]))
def laws_eqReportS.c2 : XCode := .seq (.region false [op 4 .move [.const (.one (.bool true))]]) (.ret)
def laws_eqReportS.x : XFunc := { nslots := 27, nobj := 0, pars := [.val false 1, .val false 1], rowsIn := [none, none], rets := [.tmp 4 false 1], outs := [.imm], fresh := true, arg := .pair (.list (.pair (.int .i64) (.list (.int .i64)))) (.list (.pair (.int .i64) (.list (.int .i64)))), ret := .bool, body := .seq (.region false [op 4 .move [.const (.one (.bool false))]]) (.seq (.seq (.region false [mv 6 0, o1 7 .len 6, mv 8 1, o1 9 .len 8, o2 10 (.bin .neq) 7 9]) (.cond (.slot 10) (.seq (.region false [op 4 .move [.const (.one (.bool false))]]) (.ret)) (.skip))) (.seq (.seq (.region false [op 5 .move [.const (.one (.int .i64 (0 : Int)))]]) (.block 0 (.loop [.keep [0, 1, 5], .norm] (laws_eqReportS.c1)))) (laws_eqReportS.c2))) }
def laws_eqReportS.env (N : Nat) : Env := envOf (tbl [(265, laws_eqReport.fs N)] noFS)
def laws_eqReportS.F (N : Nat) (x : (List (Int × List Int)) × List (Int × List Int)) : Option Bool := XFunc.run laws_eqReportS.x (laws_eqReportS.env N) N x
def laws_eqReportS.fs (N : Nat) : FS := { arg := .pair (.list (.pair (.int .i64) (.list (.int .i64)))) (.list (.pair (.int .i64) (.list (.int .i64)))), ret := .bool, fresh := true, F := laws_eqReportS.F N }
def laws_eqReportS.k2 (N : Nat) : Ex → S → Option Bool := seqK (fun s => XCode.runK (laws_eqReportS.env N) N (laws_eqReportS.c2) s (XFunc.endK laws_eqReportS.x)) (XFunc.endK laws_eqReportS.x)
def laws_eqReportS.k1 (N : Nat) : Ex → S → Option Bool := blockK 0 (laws_eqReportS.k2 N)
def laws_eqReportS.L1 (N : Nat) (n1 : Nat) (a : List (Int × List Int)) (b : List (Int × List Int)) (i : Int) : Option Bool := loopK [.keep [0, 1, 5], .norm] (fun s k => XCode.runK (laws_eqReportS.env N) N laws_eqReportS.c1 s k) n1
  { t := [.one (.sl false (.pair (.int .i64) (.list (.int .i64))) a), .one (.sl false (.pair (.int .i64) (.list (.int .i64))) b), .junk, .junk, .junk, .one (.int .i64 i), .junk, .junk, .junk, .junk, .junk, .junk, .junk, .junk, .junk, .junk, .junk, .junk, .junk, .junk, .junk, .junk, .junk, .junk, .junk, .junk, .junk], h := [] }
  (laws_eqReportS.k1 N)

theorem laws_eqReportS.L1_eq (N : Nat) (n1 : Nat) (a : List (Int × List Int)) (b : List (Int × List Int)) (i : Int) : laws_eqReportS.L1 N (n1 + 1) a b i =
    bif decide (i < (List.length a : Int)) then
      bif inRange i (List.length a) then
      bif inRange i (List.length b) then
      bindO (laws_eqReport.F N ((nth ((0 : Int), ([] : List Int)) a i), (nth ((0 : Int), ([] : List Int)) b i))) fun r1 =>
      bif !r1 then
        some false
      else
        laws_eqReportS.L1 N n1 a b (IntKind.wrap .i64 (i + (1 : Int)))
      else none
      else none
    else
      some true := by kernel_rfl
theorem laws_eqReportS.F_eq (N : Nat) (a : List (Int × List Int)) (b : List (Int × List Int)) : laws_eqReportS.F N (a, b) =
    bif (List.length a : Int) != (List.length b : Int) then
      some false
    else
      laws_eqReportS.L1 N N a b (0 : Int) := by kernel_rfl

end Go.Kb
