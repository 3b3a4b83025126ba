/- The texts of functions, printed by a program, and the equations of their runs. -/
import Derived.Test.YticidpdbkjgebaaDoorExactTextReportsF1
import Derived.Test.YticidpdbkjgebaaDoorExactTextReportsF2
import Derived.Test.YticidpdbkjgebaaDoorExactTextReportsF3
import Derived.KernelRfl
namespace Go.Kb
def laws_markReportS.c1 : XCode := .seq (.seq (.region false [mv 6 5, mv 7 0, ow 8 .len [.slot 7] [0] [], o2 9 (.bin .lss) 6 8]) (.cond (.slot 9) (.skip) (.exit 0))) (.seq (.block 1 (.seq (.region false [mv 12 0, mv 13 5, mv 14 1, ow 15 (.indexAddr (.pair (.int .i64) (.hnd (.int .i64)))) [.slot 12, .slot 13] [0] [], o1 16 (.fieldAddr 0) 15, on (.store 1) [.slot 16, .slot 14] [0] [0]]) (.seq (.region false [mv 17 1, op 18 (.bin .add) [.slot 17, .const (.one (.int .i64 (1 : Int)))], mv 1 18]) (.region false [mv 19 0, mv 20 5, ow 21 (.indexAddr (.pair (.int .i64) (.hnd (.int .i64)))) [.slot 19, .slot 20] [0] [], o1 22 (.fieldAddr 1) 21, ⟨some 23, .load false 1, [.slot 22], [0, 1, 100], [], none, false, .take 1 2 0⟩, mv 24 1, ow 25 (.call ⟨242, vs 2, [some (1, 2), none], [.val false 1], [.imm, .back 1], false⟩) [.slot 23, .slot 24] [1] [1], mv 1 25])))) (.region false [mv 10 5, op 11 (.bin .add) [.slot 10, .const (.one (.int .i64 (1 : Int)))], mv 5 11]))
def laws_markReportS.c2 : XCode := .seq (.region false [mv 26 1, mv 4 26]) (.ret)
def laws_markReportS.x : XFunc := { nslots := 27, nobj := 2, pars := [.val false 1, .val false 1], rowsIn := [some (0, 12), none], rets := [.tmp 4 false 1], outs := [.imm, .back 0], fresh := false, arg := .pair (.list (.pair (.int .i64) (.hnd (.int .i64)))) (.int .i64), ret := .pair (.int .i64) (.list (.pair (.int .i64) (.hnd (.int .i64)))), body := .seq (.region false [op 4 .move [.const (.one (.int .i64 (0 : Int)))]]) (.seq (.seq (.region false [op 5 .move [.const (.one (.int .i64 (0 : Int)))]]) (.block 0 (.loop [.hput 1, .keep [0, 1, 5], .drop 1, .norm] (laws_markReportS.c1)))) (laws_markReportS.c2)), hp := true }
def laws_markReportS.env (N : Nat) : Env := envOf (tbl [(242, laws_markIntS.fs N)] noFS)
def laws_markReportS.H (N : Nat) (x : (List (Int × Hnd)) × Int) (D : List HRow) : Option ((Int × List (Int × Hnd)) × List HRow) := XFunc.runH laws_markReportS.x (laws_markReportS.env N) N x D
def laws_markReportS.fs (N : Nat) : FS := { arg := .pair (.list (.pair (.int .i64) (.hnd (.int .i64)))) (.int .i64), ret := .pair (.int .i64) (.list (.pair (.int .i64) (.hnd (.int .i64)))), fresh := false, F := fun _ => none, hp := true, H := laws_markReportS.H N }
def laws_markReportS.k2 (N : Nat) : Ex → S → Option ((Int × List (Int × Hnd)) × List HRow) := seqK (fun s => XCode.runK (laws_markReportS.env N) N (laws_markReportS.c2) s (XFunc.endKH laws_markReportS.x)) (XFunc.endKH laws_markReportS.x)
def laws_markReportS.k1 (N : Nat) : Ex → S → Option ((Int × List (Int × Hnd)) × List HRow) := blockK 0 (laws_markReportS.k2 N)
def laws_markReportS.L1 (N : Nat) (n1 : Nat) (k_ : Int) (i : Int) (o0 : List (Int × Hnd)) (D : List HRow) : Option ((Int × List (Int × Hnd)) × List HRow) := loopK [.hput 1, .keep [0, 1, 5], .drop 1, .norm] (fun s k => XCode.runK (laws_markReportS.env N) N laws_markReportS.c1 s k) n1
  { t := [.one (.ref 0 0 .all), .one (.int .i64 k_), .junk, .junk, .junk, .one (.int .i64 i), .junk, .junk, .junk, .junk, .junk, .junk, .junk, .junk, .junk, .junk, .junk, .junk, .junk, .junk, .junk, .junk, .junk, .junk, .junk, .junk, .junk], h := [.row 0 true false 12 (.pair (.int .i64) (.hnd (.int .i64))) o0, .absent 0], d := D }
  (laws_markReportS.k1 N)

theorem laws_markReportS.L1_eq (N : Nat) (n1 : Nat) (k_ : Int) (i : Int) (o0 : List (Int × Hnd)) (D : List HRow) : laws_markReportS.L1 N (n1 + 1) k_ i o0 D =
    bif decide (i < (List.length o0 : Int)) then
      bif inRange i (List.length o0) then
      bif inRange i (List.length (List.set o0 (Int.toNat i) (k_, (List.getD o0 (Int.toNat i) ((0 : Int), (none : Hnd))).2))) then
      bif hfull D 2 (.int .i64) ((List.getD (List.set o0 (Int.toNat i) (k_, (List.getD o0 (Int.toNat i) ((0 : Int), (none : Hnd))).2)) (Int.toNat i) ((0 : Int), (none : Hnd))).2) then
      bindO (laws_markIntS.F N (hcut D (.int .i64) ((List.getD (List.set o0 (Int.toNat i) (k_, (List.getD o0 (Int.toNat i) ((0 : Int), (none : Hnd))).2)) (Int.toNat i) ((0 : Int), (none : Hnd))).2), IntKind.wrap .i64 (k_ + (1 : Int)))) fun r1 =>
      laws_markReportS.L1 N n1 r1.1 (IntKind.wrap .i64 (i + (1 : Int))) (List.set o0 (Int.toNat i) (k_, (List.getD o0 (Int.toNat i) ((0 : Int), (none : Hnd))).2)) (hput (hgone D ((List.getD (List.set o0 (Int.toNat i) (k_, (List.getD o0 (Int.toNat i) ((0 : Int), (none : Hnd))).2)) (Int.toNat i) ((0 : Int), (none : Hnd))).2)) ((List.getD (List.set o0 (Int.toNat i) (k_, (List.getD o0 (Int.toNat i) ((0 : Int), (none : Hnd))).2)) (Int.toNat i) ((0 : Int), (none : Hnd))).2) 2 (.int .i64) r1.2)
      else none
      else none
      else none
    else
      some ((k_, o0), D) := by kernel_rfl
theorem laws_markReportS.H_eq (N : Nat) (a : List (Int × Hnd)) (k_ : Int) (D : List HRow) : laws_markReportS.H N (a, k_) D =
    laws_markReportS.L1 N N k_ (0 : Int) a D := by kernel_rfl

def laws_heldReportS.c1 : XCode := .seq (.seq (.region false [mv 6 5, mv 7 0, o1 8 .len 7, o2 9 (.bin .lss) 6 8]) (.cond (.slot 9) (.skip) (.exit 0))) (.seq (.block 1 (.seq (.seq (.region false [mv 12 0, mv 13 5, o2 14 (.indexAddr (.pair (.int .i64) (.list (.int .i64)))) 12 13, o1 15 (.fieldAddr 0) 14, o1 16 (.load false 1) 15, mv 17 1, o2 18 (.bin .neq) 16 17]) (.cond (.slot 18) (.seq (.region false [op 4 .move [.const (.one (.int .i64 (-1 : Int)))]]) (.ret)) (.skip))) (.seq (.region false [mv 19 1, op 20 (.bin .add) [.slot 19, .const (.one (.int .i64 (1 : Int)))], mv 1 20]) (.seq (.region false [mv 21 0, mv 22 5, o2 23 (.indexAddr (.pair (.int .i64) (.list (.int .i64)))) 21 22, o1 24 (.fieldAddr 1) 23, o1 25 (.load false 1) 24, mv 26 1, o2 27 (.call ⟨245, vs 2, no 2, [.val false 1], ims 1, true⟩) 25 26, mv 1 27]) (.seq (.region false [mv 28 1, op 29 (.bin .lss) [.slot 28, .const (.one (.int .i64 (0 : Int)))]]) (.cond (.slot 29) (.seq (.region false [op 4 .move [.const (.one (.int .i64 (-1 : Int)))]]) (.ret)) (.skip))))))) (.region false [mv 10 5, op 11 (.bin .add) [.slot 10, .const (.one (.int .i64 (1 : Int)))], mv 5 11]))
def laws_heldReportS.c2 : XCode := .seq (.region false [mv 30 1, mv 4 30]) (.ret)
def laws_heldReportS.x : XFunc := { nslots := 31, nobj := 0, pars := [.val false 1, .val false 1], rowsIn := [none, none], rets := [.tmp 4 false 1], outs := [.imm], fresh := true, arg := .pair (.list (.pair (.int .i64) (.list (.int .i64)))) (.int .i64), ret := .int .i64, body := .seq (.region false [op 4 .move [.const (.one (.int .i64 (0 : Int)))]]) (.seq (.seq (.region false [op 5 .move [.const (.one (.int .i64 (0 : Int)))]]) (.block 0 (.loop [.keep [0, 1, 5], .norm] (laws_heldReportS.c1)))) (laws_heldReportS.c2)) }
def laws_heldReportS.env (N : Nat) : Env := envOf (tbl [(245, laws_heldIntS.fs N)] noFS)
def laws_heldReportS.F (N : Nat) (x : (List (Int × List Int)) × Int) : Option Int := XFunc.run laws_heldReportS.x (laws_heldReportS.env N) N x
def laws_heldReportS.fs (N : Nat) : FS := { arg := .pair (.list (.pair (.int .i64) (.list (.int .i64)))) (.int .i64), ret := .int .i64, fresh := true, F := laws_heldReportS.F N }
def laws_heldReportS.k2 (N : Nat) : Ex → S → Option Int := seqK (fun s => XCode.runK (laws_heldReportS.env N) N (laws_heldReportS.c2) s (XFunc.endK laws_heldReportS.x)) (XFunc.endK laws_heldReportS.x)
def laws_heldReportS.k1 (N : Nat) : Ex → S → Option Int := blockK 0 (laws_heldReportS.k2 N)
def laws_heldReportS.L1 (N : Nat) (n1 : Nat) (a : List (Int × List Int)) (k_ : Int) (i : Int) : Option Int := loopK [.keep [0, 1, 5], .norm] (fun s k => XCode.runK (laws_heldReportS.env N) N laws_heldReportS.c1 s k) n1
  { t := [.one (.sl false (.pair (.int .i64) (.list (.int .i64))) a), .one (.int .i64 k_), .junk, .junk, .junk, .one (.int .i64 i), .junk, .junk, .junk, .junk, .junk, .junk, .junk, .junk, .junk, .junk, .junk, .junk, .junk, .junk, .junk, .junk, .junk, .junk, .junk, .junk, .junk, .junk, .junk, .junk, .junk], h := [] }
  (laws_heldReportS.k1 N)

theorem laws_heldReportS.L1_eq (N : Nat) (n1 : Nat) (a : List (Int × List Int)) (k_ : Int) (i : Int) : laws_heldReportS.L1 N (n1 + 1) a k_ i =
    bif decide (i < (List.length a : Int)) then
      bif inRange i (List.length a) then
      bif ((nth ((0 : Int), ([] : List Int)) a i).1) != k_ then
        some (-1 : Int)
      else
        bif inRange i (List.length a) then
        bindO (laws_heldIntS.F N ((nth ((0 : Int), ([] : List Int)) a i).2, IntKind.wrap .i64 (k_ + (1 : Int)))) fun r1 =>
        bif decide (r1 < (0 : Int)) then
          some (-1 : Int)
        else
          laws_heldReportS.L1 N n1 a r1 (IntKind.wrap .i64 (i + (1 : Int)))
        else none
      else none
    else
      some k_ := by kernel_rfl
theorem laws_heldReportS.F_eq (N : Nat) (a : List (Int × List Int)) (k_ : Int) : laws_heldReportS.F N (a, k_) =
    laws_heldReportS.L1 N N a k_ (0 : Int) := by kernel_rfl

end Go.Kb
