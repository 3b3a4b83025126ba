/- The texts of functions, printed by a program, and the equations of their runs. -/
import Derived.Test.YtokploahoidhoabExactPushAllF1
import Derived.Test.YtokploahoidhoabExactPushAllF2
import Derived.Test.YtokploahoidhoabExactPushAllF3
import Derived.KernelRfl
namespace Go.Kb
def laws_toReportSh.c1 : XCode := .seq (.seq (.region false [mv 8 4, mv 9 0, o1 10 .len 9, o2 11 (.bin .lss) 8 10]) (.cond (.slot 11) (.skip) (.exit 0))) (.seq (.block 1 (.region false [mv 14 3, mv 15 4, mv 16 0, mv 17 4, o2 18 (.indexAddr (.pair (.int .i64) (.list (.int .i64)))) 16 17, o1 19 (.load true 2) 18, ⟨some 20, .call ⟨259, [.val true 2], no 2, [.val true 2], [.imm, .own 1 2], true⟩, [.slot 19], [1, 100], [1], none, false, .pub 1⟩, ow 21 (.indexAddr (.pair (.int .i64) (.hnd (.int .i64)))) [.slot 14, .slot 15] [0] [], on (.store 2) [.slot 21, .slot 20] [0] [0]])) (.region false [mv 12 4, op 13 (.bin .add) [.slot 12, .const (.one (.int .i64 (1 : Int)))], mv 4 13]))
def laws_toReportSh.c2 : XCode := .seq (.region false [mv 22 3, mv 2 22]) (.ret)
def laws_toReportSh.x : XFunc := { nslots := 23, nobj := 2, pars := [.val false 1], rowsIn := [none], rets := [.tmp 2 false 1], outs := [.own 12], fresh := true, arg := .list (.pair (.int .i64) (.list (.int .i64))), ret := .list (.pair (.int .i64) (.hnd (.int .i64))), body := .seq (.region false [op 2 .move [.const (.one (.nil))]]) (.seq (.region false [mv 5 0, o1 6 .len 5, ow 7 (.makeSlice 0 12 (.pair (.int .i64) (.hnd (.int .i64)))) [.slot 6, .slot 6] [0] [0], mv 3 7]) (.seq (.seq (.region false [op 4 .move [.const (.one (.int .i64 (0 : Int)))]]) (.block 0 (.loop [.keep [0, 3, 4], .drop 1, .norm] (laws_toReportSh.c1)))) (laws_toReportSh.c2))), hp := true }
def laws_toReportSh.env (N : Nat) : Env := envOf (tbl [(259, laws_toReport.fs N)] noFS)
def laws_toReportSh.H (N : Nat) (x : List (Int × List Int)) (D : List HRow) : Option ((List (Int × Hnd)) × List HRow) := XFunc.runH laws_toReportSh.x (laws_toReportSh.env N) N x D
def laws_toReportSh.fs (N : Nat) : FS := { arg := .list (.pair (.int .i64) (.list (.int .i64))), ret := .list (.pair (.int .i64) (.hnd (.int .i64))), fresh := true, F := fun _ => none, hp := true, H := laws_toReportSh.H N }
def laws_toReportSh.k2 (N : Nat) : Ex → S → Option ((List (Int × Hnd)) × List HRow) := seqK (fun s => XCode.runK (laws_toReportSh.env N) N (laws_toReportSh.c2) s (XFunc.endKH laws_toReportSh.x)) (XFunc.endKH laws_toReportSh.x)
def laws_toReportSh.k1 (N : Nat) : Ex → S → Option ((List (Int × Hnd)) × List HRow) := blockK 0 (laws_toReportSh.k2 N)
def laws_toReportSh.L1 (N : Nat) (n1 : Nat) (a : List (Int × List Int)) (i : Int) (o0 : List (Int × Hnd)) (D : List HRow) : Option ((List (Int × Hnd)) × List HRow) := loopK [.keep [0, 3, 4], .drop 1, .norm] (fun s k => XCode.runK (laws_toReportSh.env N) N laws_toReportSh.c1 s k) n1
  { t := [.one (.sl false (.pair (.int .i64) (.list (.int .i64))) a), .junk, .junk, .one (.ref 0 0 .all), .one (.int .i64 i), .junk, .junk, .junk, .junk, .junk, .junk, .junk, .junk, .junk, .junk, .junk, .junk, .junk, .junk, .junk, .junk, .junk, .junk], h := [.row 0 false true 12 (.pair (.int .i64) (.hnd (.int .i64))) o0, .absent 0], d := D }
  (laws_toReportSh.k1 N)

theorem laws_toReportSh.L1_eq (N : Nat) (n1 : Nat) (a : List (Int × List Int)) (i : Int) (o0 : List (Int × Hnd)) (D : List HRow) : laws_toReportSh.L1 N (n1 + 1) a i o0 D =
    bif decide (i < (List.length a : Int)) then
      bif inRange i (List.length a) then
      bindO (laws_toReport.F N (nth ((0 : Int), ([] : List Int)) a i)) fun r1 =>
      bif inRange i (List.length o0) then
      laws_toReportSh.L1 N n1 a (IntKind.wrap .i64 (i + (1 : Int))) (List.set o0 (Int.toNat i) (r1.1, (some (List.length D, 0, List.length r1.2) : Hnd))) (D ++ [HRow.row 2 (.int .i64) r1.2])
      else none
      else none
    else
      some (o0, D) := by kernel_rfl
theorem laws_toReportSh.H_eq (N : Nat) (a : List (Int × List Int)) (D : List HRow) : laws_toReportSh.H N a D =
    bif decide (0 ≤ (List.length a : Int)) && decide ((List.length a : Int) ≤ (maxN : Int)) then
    laws_toReportSh.L1 N N a (0 : Int) (List.replicate (Int.toNat (List.length a : Int)) ((0 : Int), (none : Hnd))) D
    else none := by kernel_rfl

def laws_toPipeh.x : XFunc := { nslots := 13, nobj := 5, pars := [.val true 3], rowsIn := [none, none, none], rets := [.var 2 true 3], outs := [.imm, .imm, .own 12], fresh := true, arg := .pair (.pair (.int .i64) (.list (.int .i64))) (.list (.pair (.int .i64) (.list (.int .i64)))), ret := .pair (.pair (.int .i64) (.hnd (.int .i64))) (.list (.pair (.int .i64) (.hnd (.int .i64)))), body := .seq (.region false [ow 1 (.box 0) [.slot 0] [0] [0], ow 2 (.alloc 1 [.int .i64 (0 : Int), .nil, .nil]) [] [1] [1]]) (.seq (.region false [ow 3 (.alloc 2 [.int .i64 (0 : Int), .nil, .nil]) [] [2] [2]]) (.seq (.region false [o1 4 (.fieldAddr 0) 1, ow 5 (.load true 2) [.slot 4] [0] [], ⟨some 6, .call ⟨259, [.val true 2], no 2, [.val true 2], [.imm, .own 3 2], true⟩, [.slot 5], [3, 100], [3], none, false, .pub 3⟩, o1 7 (.fieldAddr 0) 3, on (.store 2) [.slot 7, .slot 6] [2] [2]]) (.seq (.region false [o1 8 (.fieldAddr 2) 1, ow 9 (.load false 1) [.slot 8] [0] [], ow 10 (.callH false ⟨275, vs 1, no 1, [.val false 1], [.own 4 12], true⟩) [.slot 9] [4, 100] [4, 100], o1 11 (.fieldAddr 2) 3, on (.store 1) [.slot 11, .slot 10] [2] [2]]) (.seq (.region false [ow 12 (.load true 3) [.slot 3] [2] [], on (.store 3) [.slot 2, .slot 12] [1] [1]]) (.ret))))), hp := true }
def laws_toPipeh.env (N : Nat) : Env := envOf (tbl [(259, laws_toReport.fs N), (275, laws_toReportSh.fs N)] noFS)
def laws_toPipeh.H (N : Nat) (x : (Int × List Int) × List (Int × List Int)) (D : List HRow) : Option (((Int × Hnd) × List (Int × Hnd)) × List HRow) := XFunc.runH laws_toPipeh.x (laws_toPipeh.env N) N x D
def laws_toPipeh.fs (N : Nat) : FS := { arg := .pair (.pair (.int .i64) (.list (.int .i64))) (.list (.pair (.int .i64) (.list (.int .i64)))), ret := .pair (.pair (.int .i64) (.hnd (.int .i64))) (.list (.pair (.int .i64) (.hnd (.int .i64)))), fresh := true, F := fun _ => none, hp := true, H := laws_toPipeh.H N }

theorem laws_toPipeh.H_eq (N : Nat) (a : (Int × List Int) × List (Int × List Int)) (D : List HRow) : laws_toPipeh.H N a D =
    bindO (laws_toReport.F N a.1) fun r1 =>
    bindO (laws_toReportSh.H N a.2 (hhide (D ++ [HRow.row 2 (.int .i64) r1.2]))) fun r2 =>
    some (((r1.1, (some (List.length D, 0, List.length r1.2) : Hnd)), r2.1), hmerge (D ++ [HRow.row 2 (.int .i64) r1.2]) r2.2) := by kernel_rfl

def spec_l7Copy.x : XFunc := { nslots := 10, nobj := 3, pars := [.val true 2], rowsIn := [none, none], rets := [.var 2 true 2], outs := [.imm, .own 2], fresh := true, arg := .pair (.int .i64) (.list (.int .i64)), ret := .pair (.int .i64) (.list (.int .i64)), body := .seq (.region false [ow 1 (.box 0) [.slot 0] [0] [0], ow 2 (.alloc 1 [.int .i64 (0 : Int), .nil]) [] [1] [1]]) (.seq (.region true [o1 3 (.fieldAddr 0) 1, ow 4 (.load false 1) [.slot 3] [0] [], ow 5 (.buildSlice false 2 2 (.int .i64) 0 [] [.int .i64 (0 : Int)]) [] [2] [2], o1 6 (.fieldAddr 1) 1, ow 7 (.load false 1) [.slot 6] [0] [], ow 8 (.append false 2 2 (.int .i64)) [.slot 5, .slot 7] [2] [2], o2 9 (.build [.int .i64 (0 : Int), .nil] [(0, 1), (1, 1)]) 4 8, on (.store 2) [.slot 2, .slot 9] [1] [1]]) (.ret)) }
def spec_l7Copy.env (_ : Nat) : Env := envOf (tbl [] noFS)
def spec_l7Copy.F (N : Nat) (x : Int × List Int) : Option (Int × List Int) := XFunc.run spec_l7Copy.x (spec_l7Copy.env N) N x
def spec_l7Copy.fs (N : Nat) : FS := { arg := .pair (.int .i64) (.list (.int .i64)), ret := .pair (.int .i64) (.list (.int .i64)), fresh := true, F := spec_l7Copy.F N }

theorem spec_l7Copy.F_eq (N : Nat) (r_ : Int × List Int) : spec_l7Copy.F N r_ =
    bif decide (List.length ([] : List Int) + List.length r_.2 ≤ maxN) then
    some (r_.1, ([] : List Int) ++ r_.2)
    else none := by kernel_rfl

def spec_l13Copy.c1 : XCode := .seq (.seq (.region false [mv 9 4, o1 10 (.fieldAddr 2) 1, ow 11 (.load false 1) [.slot 10] [0] [], o1 12 .len 11, o2 13 (.bin .lss) 9 12]) (.cond (.slot 13) (.skip) (.exit 0))) (.seq (.block 1 (.region true [o1 16 (.fieldAddr 2) 3, ow 17 (.load false 1) [.slot 16] [2] [], o1 18 (.fieldAddr 2) 1, ow 19 (.load false 1) [.slot 18] [0] [], mv 20 4, o2 21 (.indexAddr (.pair (.int .i64) (.list (.int .i64)))) 19 20, o1 22 (.load true 2) 21, o1 23 (.call ⟨314, [.val true 2], no 2, [.val true 2], ims 2, true⟩) 22, ow 24 (.buildSlice false 3 12 (.pair (.int .i64) (.list (.int .i64))) 1 [(0, 2)] [.int .i64 (0 : Int), .nil]) [.slot 23] [3] [3], ow 25 (.append false 4 12 (.pair (.int .i64) (.list (.int .i64)))) [.slot 17, .slot 24] [3, 4] [4], o1 26 (.fieldAddr 2) 3, on (.store 1) [.slot 26, .slot 25] [2] [2]])) (.region false [mv 14 4, op 15 (.bin .add) [.slot 14, .const (.one (.int .i64 (1 : Int)))], mv 4 15]))
def spec_l13Copy.c2 : XCode := .seq (.region false [ow 27 (.load true 3) [.slot 3] [2] [], on (.store 3) [.slot 2, .slot 27] [1] [1]]) (.ret)
def spec_l13Copy.x : XFunc := { nslots := 28, nobj := 5, pars := [.val true 3], rowsIn := [none, none, none], rets := [.var 2 true 3], outs := [.imm, .imm, .own 12], fresh := true, arg := .pair (.pair (.int .i64) (.list (.int .i64))) (.list (.pair (.int .i64) (.list (.int .i64)))), ret := .pair (.pair (.int .i64) (.list (.int .i64))) (.list (.pair (.int .i64) (.list (.int .i64)))), body := .seq (.region false [ow 1 (.box 0) [.slot 0] [0] [0], ow 2 (.alloc 1 [.int .i64 (0 : Int), .nil, .nil]) [] [1] [1]]) (.seq (.region false [o1 5 (.fieldAddr 0) 1, ow 6 (.load true 2) [.slot 5] [0] [], o1 7 (.call ⟨314, [.val true 2], no 2, [.val true 2], ims 2, true⟩) 6, o1 8 (.build [.int .i64 (0 : Int), .nil, .nil] [(0, 2)]) 7, ow 3 (.alloc 2 [.int .i64 (0 : Int), .nil, .nil]) [] [2] [2], on (.store 3) [.slot 3, .slot 8] [2] [2]]) (.seq (.seq (.region false [op 4 .move [.const (.one (.int .i64 (0 : Int)))]]) (.block 0 (.loop [.mkrow (.boxc 2 2) 4 12 (.pair (.int .i64) (.list (.int .i64))), .keep [1, 2, 3, 4], .drop 3, .norm] (spec_l13Copy.c1)))) (spec_l13Copy.c2))) }
def spec_l13Copy.env (N : Nat) : Env := envOf (tbl [(314, spec_l7Copy.fs N)] noFS)
def spec_l13Copy.F (N : Nat) (x : (Int × List Int) × List (Int × List Int)) : Option ((Int × List Int) × List (Int × List Int)) := XFunc.run spec_l13Copy.x (spec_l13Copy.env N) N x
def spec_l13Copy.fs (N : Nat) : FS := { arg := .pair (.pair (.int .i64) (.list (.int .i64))) (.list (.pair (.int .i64) (.list (.int .i64)))), ret := .pair (.pair (.int .i64) (.list (.int .i64))) (.list (.pair (.int .i64) (.list (.int .i64)))), fresh := true, F := spec_l13Copy.F N }
def spec_l13Copy.k2 (N : Nat) : Ex → S → Option ((Int × List Int) × List (Int × List Int)) := seqK (fun s => XCode.runK (spec_l13Copy.env N) N (spec_l13Copy.c2) s (XFunc.endK spec_l13Copy.x)) (XFunc.endK spec_l13Copy.x)
def spec_l13Copy.k1 (N : Nat) : Ex → S → Option ((Int × List Int) × List (Int × List Int)) := blockK 0 (spec_l13Copy.k2 N)
def spec_l13Copy.L1 (N : Nat) (n1 : Nat) (i : Int) (o00 : Int) (o01 : List Int) (o02 : List (Int × List Int)) (o20 : Int) (o21 : List Int) (o4 : List (Int × List Int)) : Option ((Int × List Int) × List (Int × List Int)) := loopK [.mkrow (.boxc 2 2) 4 12 (.pair (.int .i64) (.list (.int .i64))), .keep [1, 2, 3, 4], .drop 3, .norm] (fun s k => XCode.runK (spec_l13Copy.env N) N spec_l13Copy.c1 s k) n1
  { t := [.junk, .one (.ptr 0 0 0), .one (.ptr 1 0 0), .one (.ptr 2 0 0), .one (.int .i64 i), .junk, .junk, .junk, .junk, .junk, .junk, .junk, .junk, .junk, .junk, .junk, .junk, .junk, .junk, .junk, .junk, .junk, .junk, .junk, .junk, .junk, .junk, .junk], h := [.box 0 false [.int .i64 o00, .sl false (.int .i64) o01, .sl false (.pair (.int .i64) (.list (.int .i64))) o02], .box 0 false [.int .i64 (0 : Int), .nil, .nil], .box 0 false [.int .i64 o20, .sl true (.int .i64) o21, .ref 4 0 .all], .absent 0, .row 0 false true 12 (.pair (.int .i64) (.list (.int .i64))) o4] }
  (spec_l13Copy.k1 N)

theorem spec_l13Copy.L1_eq (N : Nat) (n1 : Nat) (i : Int) (o00 : Int) (o01 : List Int) (o02 : List (Int × List Int)) (o20 : Int) (o21 : List Int) (o4 : List (Int × List Int)) : spec_l13Copy.L1 N (n1 + 1) i o00 o01 o02 o20 o21 o4 =
    bif decide (i < (List.length o02 : Int)) then
      bif inRange i (List.length o02) then
      bindO (spec_l7Copy.F N (nth ((0 : Int), ([] : List Int)) o02 i)) fun r2 =>
      bif decide (List.length o4 + List.length ([r2] : List (Int × List Int)) ≤ maxN) then
      spec_l13Copy.L1 N n1 (IntKind.wrap .i64 (i + (1 : Int))) o00 o01 o02 o20 o21 (o4 ++ ([r2] : List (Int × List Int)))
      else none
      else none
    else
      some ((o20, o21), o4) := by kernel_rfl
theorem spec_l13Copy.F_eq (N : Nat) (p : (Int × List Int) × List (Int × List Int)) : spec_l13Copy.F N p =
    bindO (spec_l7Copy.F N p.1) fun r1 =>
    spec_l13Copy.L1 N N (0 : Int) p.1.1 p.1.2 p.2 r1.1 r1.2 ([] : List (Int × List Int)) := by kernel_rfl

def impl_copyInts.x : XFunc := { nslots := 5, nobj := 1, pars := [.val false 1], rowsIn := [none], rets := [.tmp 2 false 1], outs := [.own 2], fresh := true, arg := .list (.int .i64), ret := .list (.int .i64), body := .seq (.region false [op 2 .move [.const (.one (.nil))]]) (.seq (.region false [mv 3 0, ow 4 (.append false 0 2 (.int .i64)) [.const (.one (.nil)), .slot 3] [0] [0], mv 2 4]) (.ret)) }
def impl_copyInts.env (_ : Nat) : Env := envOf (tbl [] noFS)
def impl_copyInts.F (N : Nat) (x : List Int) : Option (List Int) := XFunc.run impl_copyInts.x (impl_copyInts.env N) N x
def impl_copyInts.fs (N : Nat) : FS := { arg := .list (.int .i64), ret := .list (.int .i64), fresh := true, F := impl_copyInts.F N }

theorem impl_copyInts.F_eq (N : Nat) (l_ : List Int) : impl_copyInts.F N l_ =
    bif decide (List.length l_ ≤ maxN) then
    some l_
    else none := by kernel_rfl

def impl_copyReport.x : XFunc := { nslots := 9, nobj := 3, pars := [.val true 2], rowsIn := [none, none], rets := [.var 2 true 2], outs := [.imm, .own 2], fresh := true, arg := .pair (.int .i64) (.list (.int .i64)), ret := .pair (.int .i64) (.list (.int .i64)), body := .seq (.region false [ow 1 (.box 0) [.slot 0] [0] [0], ow 2 (.alloc 1 [.int .i64 (0 : Int), .nil]) [] [1] [1]]) (.seq (.region true [o1 3 (.fieldAddr 0) 1, ow 4 (.load false 1) [.slot 3] [0] [], o1 5 (.fieldAddr 1) 1, ow 6 (.load false 1) [.slot 5] [0] [], ow 7 (.call ⟨114, vs 1, no 1, [.val false 1], [.own 2 2], true⟩) [.slot 6] [2] [2], o2 8 (.build [.int .i64 (0 : Int), .nil] [(0, 1), (1, 1)]) 4 7, on (.store 2) [.slot 2, .slot 8] [1] [1]]) (.ret)) }
def impl_copyReport.env (N : Nat) : Env := envOf (tbl [(114, impl_copyInts.fs N)] noFS)
def impl_copyReport.F (N : Nat) (x : Int × List Int) : Option (Int × List Int) := XFunc.run impl_copyReport.x (impl_copyReport.env N) N x
def impl_copyReport.fs (N : Nat) : FS := { arg := .pair (.int .i64) (.list (.int .i64)), ret := .pair (.int .i64) (.list (.int .i64)), fresh := true, F := impl_copyReport.F N }

theorem impl_copyReport.F_eq (N : Nat) (r_ : Int × List Int) : impl_copyReport.F N r_ =
    bindO (impl_copyInts.F N r_.2) fun r1 =>
    some (r_.1, r1) := by kernel_rfl

def impl_copyPipeh.c1 : XCode := .seq (.region false [o2 14 (.bin .lss) 13 12]) (.seq (.cond (.slot 14) (.skip) (.exit 0)) (.seq (.block 1 (.seq (.region false [o2 15 (.indexAddr (.pair (.int .i64) (.list (.int .i64)))) 11 13, o1 16 (.load true 2) 15, ow 5 (.alloc 3 [.int .i64 (0 : Int), .nil]) [] [3] [3], on (.store 2) [.slot 5, .slot 16] [3] [3]]) (.region true [o1 17 (.fieldAddr 2) 3, ow 18 (.load false 1) [.slot 17] [2] [], ow 19 (.load true 2) [.slot 5] [3] [], ⟨some 20, .call ⟨334, [.val true 2], no 2, [.val true 2], [.imm, .own 5 2], true⟩, [.slot 19], [5, 100], [5], none, false, .pub 5⟩, ow 21 (.buildSlice false 4 12 (.pair (.int .i64) (.hnd (.int .i64))) 1 [(0, 2)] [.int .i64 (0 : Int), .nil]) [.slot 20] [4] [4], ow 22 (.append false 6 12 (.pair (.int .i64) (.hnd (.int .i64)))) [.slot 18, .slot 21] [4, 6] [6], o1 23 (.fieldAddr 2) 3, on (.store 1) [.slot 23, .slot 22] [2] [2]]))) (.region false [op 24 (.bin .add) [.slot 13, .const (.one (.int .i64 (1 : Int)))], mv 13 24])))
def impl_copyPipeh.c2 : XCode := .seq (.region false [ow 25 (.load true 3) [.slot 3] [2] [], on (.store 3) [.slot 2, .slot 25] [1] [1]]) (.ret)
def impl_copyPipeh.x : XFunc := { nslots := 26, nobj := 8, pars := [.val true 3], rowsIn := [none, none, none], rets := [.var 2 true 3], outs := [.imm, .imm, .own 12], fresh := true, arg := .pair (.pair (.int .i64) (.list (.int .i64))) (.list (.pair (.int .i64) (.list (.int .i64)))), ret := .pair (.pair (.int .i64) (.hnd (.int .i64))) (.list (.pair (.int .i64) (.hnd (.int .i64)))), body := .seq (.region false [ow 1 (.box 0) [.slot 0] [0] [0], ow 2 (.alloc 1 [.int .i64 (0 : Int), .nil, .nil]) [] [1] [1]]) (.seq (.region false [o1 6 (.fieldAddr 0) 1, ow 7 (.load true 2) [.slot 6] [0] [], ⟨some 8, .call ⟨334, [.val true 2], no 2, [.val true 2], [.imm, .own 7 2], true⟩, [.slot 7], [7, 100], [7], none, false, .pub 7⟩, o1 9 (.build [.int .i64 (0 : Int), .nil, .nil] [(0, 2)]) 8, ow 3 (.alloc 2 [.int .i64 (0 : Int), .nil, .nil]) [] [2] [2], on (.store 3) [.slot 3, .slot 9] [2] [2]]) (.seq (.seq (.region false [o1 10 (.fieldAddr 2) 1, ow 11 (.load false 1) [.slot 10] [0] [], o1 12 .len 11, op 13 .move [.const (.one (.int .i64 (0 : Int)))]]) (.block 0 (.loop [.mkrow (.boxc 2 2) 6 12 (.pair (.int .i64) (.hnd (.int .i64))), .keep [2, 3, 11, 12, 13], .drop 0, .drop 3, .drop 4, .drop 5, .drop 7, .norm] (impl_copyPipeh.c1)))) (impl_copyPipeh.c2))), hp := true }
def impl_copyPipeh.env (N : Nat) : Env := envOf (tbl [(334, impl_copyReport.fs N)] noFS)
def impl_copyPipeh.H (N : Nat) (x : (Int × List Int) × List (Int × List Int)) (D : List HRow) : Option (((Int × Hnd) × List (Int × Hnd)) × List HRow) := XFunc.runH impl_copyPipeh.x (impl_copyPipeh.env N) N x D
def impl_copyPipeh.fs (N : Nat) : FS := { arg := .pair (.pair (.int .i64) (.list (.int .i64))) (.list (.pair (.int .i64) (.list (.int .i64)))), ret := .pair (.pair (.int .i64) (.hnd (.int .i64))) (.list (.pair (.int .i64) (.hnd (.int .i64)))), fresh := true, F := fun _ => none, hp := true, H := impl_copyPipeh.H N }
def impl_copyPipeh.k2 (N : Nat) : Ex → S → Option (((Int × Hnd) × List (Int × Hnd)) × List HRow) := seqK (fun s => XCode.runK (impl_copyPipeh.env N) N (impl_copyPipeh.c2) s (XFunc.endKH impl_copyPipeh.x)) (XFunc.endKH impl_copyPipeh.x)
def impl_copyPipeh.k1 (N : Nat) : Ex → S → Option (((Int × Hnd) × List (Int × Hnd)) × List HRow) := blockK 0 (impl_copyPipeh.k2 N)
def impl_copyPipeh.L1 (N : Nat) (n1 : Nat) (t11 : List (Int × List Int)) (t12 : Int) (t13 : Int) (o20 : Int) (o21 : Hnd) (o6 : List (Int × Hnd)) (D : List HRow) : Option (((Int × Hnd) × List (Int × Hnd)) × List HRow) := loopK [.mkrow (.boxc 2 2) 6 12 (.pair (.int .i64) (.hnd (.int .i64))), .keep [2, 3, 11, 12, 13], .drop 0, .drop 3, .drop 4, .drop 5, .drop 7, .norm] (fun s k => XCode.runK (impl_copyPipeh.env N) N impl_copyPipeh.c1 s k) n1
  { t := [.junk, .junk, .one (.ptr 1 0 0), .one (.ptr 2 0 0), .junk, .junk, .junk, .junk, .junk, .junk, .junk, .one (.sl false (.pair (.int .i64) (.list (.int .i64))) t11), .one (.int .i64 t12), .one (.int .i64 t13), .junk, .junk, .junk, .junk, .junk, .junk, .junk, .junk, .junk, .junk, .junk, .junk], h := [.absent 0, .box 0 false [.int .i64 (0 : Int), .nil, .nil], .box 0 false [.int .i64 o20, .hnd (.int .i64) o21, .ref 6 0 .all], .absent 0, .absent 0, .absent 0, .row 0 false true 12 (.pair (.int .i64) (.hnd (.int .i64))) o6, .absent 0], d := D }
  (impl_copyPipeh.k1 N)

theorem impl_copyPipeh.L1_eq (N : Nat) (n1 : Nat) (t11 : List (Int × List Int)) (t12 : Int) (t13 : Int) (o20 : Int) (o21 : Hnd) (o6 : List (Int × Hnd)) (D : List HRow) : impl_copyPipeh.L1 N (n1 + 1) t11 t12 t13 o20 o21 o6 D =
    bif decide (t13 < t12) then
      bif inRange t13 (List.length t11) then
      bindO (impl_copyReport.F N (nth ((0 : Int), ([] : List Int)) t11 t13)) fun r2 =>
      bif decide (List.length o6 + List.length ([(r2.1, (some (List.length D, 0, List.length r2.2) : Hnd))] : List (Int × Hnd)) ≤ maxN) then
      impl_copyPipeh.L1 N n1 t11 t12 (IntKind.wrap .i64 (t13 + (1 : Int))) o20 o21 (o6 ++ ([(r2.1, (some (List.length D, 0, List.length r2.2) : Hnd))] : List (Int × Hnd))) (D ++ [HRow.row 2 (.int .i64) r2.2])
      else none
      else none
    else
      some (((o20, o21), o6), D) := by kernel_rfl
theorem impl_copyPipeh.H_eq (N : Nat) (p : (Int × List Int) × List (Int × List Int)) (D : List HRow) : impl_copyPipeh.H N p D =
    bindO (impl_copyReport.F N p.1) fun r1 =>
    impl_copyPipeh.L1 N N p.2 (List.length p.2 : Int) (0 : Int) r1.1 (some (List.length D, 0, List.length r1.2) : Hnd) ([] : List (Int × Hnd)) (D ++ [HRow.row 2 (.int .i64) r1.2]) := by kernel_rfl

def laws_markReportS.c1 : XCode := .seq (.seq (.region false [mv 6 5, mv 7 0, ow 8 .len [.slot 7] [0] [], o2 9 (.bin .lss) 6 8]) (.cond (.slot 9) (.skip) (.exit 0))) (.seq (.block 1 (.seq (.region false [mv 12 0, mv 13 5, mv 14 1, ow 15 (.indexAddr (.pair (.int .i64) (.hnd (.int .i64)))) [.slot 12, .slot 13] [0] [], o1 16 (.fieldAddr 0) 15, on (.store 1) [.slot 16, .slot 14] [0] [0]]) (.seq (.region false [mv 17 1, op 18 (.bin .add) [.slot 17, .const (.one (.int .i64 (1 : Int)))], mv 1 18]) (.region false [mv 19 0, mv 20 5, ow 21 (.indexAddr (.pair (.int .i64) (.hnd (.int .i64)))) [.slot 19, .slot 20] [0] [], o1 22 (.fieldAddr 1) 21, ⟨some 23, .load false 1, [.slot 22], [0, 1, 100], [], none, false, .take 1 2 0⟩, mv 24 1, ow 25 (.call ⟨242, vs 2, [some (1, 2), none], [.val false 1], [.imm, .back 1], false⟩) [.slot 23, .slot 24] [1] [1], mv 1 25])))) (.region false [mv 10 5, op 11 (.bin .add) [.slot 10, .const (.one (.int .i64 (1 : Int)))], mv 5 11]))
def laws_markReportS.c2 : XCode := .seq (.region false [mv 26 1, mv 4 26]) (.ret)
def laws_markReportS.x : XFunc := { nslots := 27, nobj := 2, pars := [.val false 1, .val false 1], rowsIn := [some (0, 12), none], rets := [.tmp 4 false 1], outs := [.imm, .back 0], fresh := false, arg := .pair (.list (.pair (.int .i64) (.hnd (.int .i64)))) (.int .i64), ret := .pair (.int .i64) (.list (.pair (.int .i64) (.hnd (.int .i64)))), body := .seq (.region false [op 4 .move [.const (.one (.int .i64 (0 : Int)))]]) (.seq (.seq (.region false [op 5 .move [.const (.one (.int .i64 (0 : Int)))]]) (.block 0 (.loop [.hput 1, .keep [0, 1, 5], .drop 1, .norm] (laws_markReportS.c1)))) (laws_markReportS.c2)), hp := true }
def laws_markReportS.env (N : Nat) : Env := envOf (tbl [(242, laws_markIntS.fs N)] noFS)
def laws_markReportS.H (N : Nat) (x : (List (Int × Hnd)) × Int) (D : List HRow) : Option ((Int × List (Int × Hnd)) × List HRow) := XFunc.runH laws_markReportS.x (laws_markReportS.env N) N x D
def laws_markReportS.fs (N : Nat) : FS := { arg := .pair (.list (.pair (.int .i64) (.hnd (.int .i64)))) (.int .i64), ret := .pair (.int .i64) (.list (.pair (.int .i64) (.hnd (.int .i64)))), fresh := false, F := fun _ => none, hp := true, H := laws_markReportS.H N }
def laws_markReportS.k2 (N : Nat) : Ex → S → Option ((Int × List (Int × Hnd)) × List HRow) := seqK (fun s => XCode.runK (laws_markReportS.env N) N (laws_markReportS.c2) s (XFunc.endKH laws_markReportS.x)) (XFunc.endKH laws_markReportS.x)
def laws_markReportS.k1 (N : Nat) : Ex → S → Option ((Int × List (Int × Hnd)) × List HRow) := blockK 0 (laws_markReportS.k2 N)
def laws_markReportS.L1 (N : Nat) (n1 : Nat) (k_ : Int) (i : Int) (o0 : List (Int × Hnd)) (D : List HRow) : Option ((Int × List (Int × Hnd)) × List HRow) := loopK [.hput 1, .keep [0, 1, 5], .drop 1, .norm] (fun s k => XCode.runK (laws_markReportS.env N) N laws_markReportS.c1 s k) n1
  { t := [.one (.ref 0 0 .all), .one (.int .i64 k_), .junk, .junk, .junk, .one (.int .i64 i), .junk, .junk, .junk, .junk, .junk, .junk, .junk, .junk, .junk, .junk, .junk, .junk, .junk, .junk, .junk, .junk, .junk, .junk, .junk, .junk, .junk], h := [.row 0 true false 12 (.pair (.int .i64) (.hnd (.int .i64))) o0, .absent 0], d := D }
  (laws_markReportS.k1 N)

theorem laws_markReportS.L1_eq (N : Nat) (n1 : Nat) (k_ : Int) (i : Int) (o0 : List (Int × Hnd)) (D : List HRow) : laws_markReportS.L1 N (n1 + 1) k_ i o0 D =
    bif decide (i < (List.length o0 : Int)) then
      bif inRange i (List.length o0) then
      bif inRange i (List.length (List.set o0 (Int.toNat i) (k_, (List.getD o0 (Int.toNat i) ((0 : Int), (none : Hnd))).2))) then
      bif hfull D 2 (.int .i64) ((List.getD (List.set o0 (Int.toNat i) (k_, (List.getD o0 (Int.toNat i) ((0 : Int), (none : Hnd))).2)) (Int.toNat i) ((0 : Int), (none : Hnd))).2) then
      bindO (laws_markIntS.F N (hcut D (.int .i64) ((List.getD (List.set o0 (Int.toNat i) (k_, (List.getD o0 (Int.toNat i) ((0 : Int), (none : Hnd))).2)) (Int.toNat i) ((0 : Int), (none : Hnd))).2), IntKind.wrap .i64 (k_ + (1 : Int)))) fun r1 =>
      laws_markReportS.L1 N n1 r1.1 (IntKind.wrap .i64 (i + (1 : Int))) (List.set o0 (Int.toNat i) (k_, (List.getD o0 (Int.toNat i) ((0 : Int), (none : Hnd))).2)) (hput (hgone D ((List.getD (List.set o0 (Int.toNat i) (k_, (List.getD o0 (Int.toNat i) ((0 : Int), (none : Hnd))).2)) (Int.toNat i) ((0 : Int), (none : Hnd))).2)) ((List.getD (List.set o0 (Int.toNat i) (k_, (List.getD o0 (Int.toNat i) ((0 : Int), (none : Hnd))).2)) (Int.toNat i) ((0 : Int), (none : Hnd))).2) 2 (.int .i64) r1.2)
      else none
      else none
      else none
    else
      some ((k_, o0), D) := by kernel_rfl
theorem laws_markReportS.H_eq (N : Nat) (a : List (Int × Hnd)) (k_ : Int) (D : List HRow) : laws_markReportS.H N (a, k_) D =
    laws_markReportS.L1 N N k_ (0 : Int) a D := by kernel_rfl

def laws_markPipe.x : XFunc := { nslots := 14, nobj := 3, pars := [.val true 3, .val false 1], rowsIn := [none, none, some (2, 12), none], rets := [.tmp 4 false 1], outs := [.imm, .back 2], fresh := false, arg := .pair (.pair (.pair (.int .i64) (.hnd (.int .i64))) (.list (.pair (.int .i64) (.hnd (.int .i64))))) (.int .i64), ret := .pair (.int .i64) (.list (.pair (.int .i64) (.hnd (.int .i64)))), body := .seq (.region false [ow 2 (.box 0) [.slot 0] [0] [0], op 4 .move [.const (.one (.int .i64 (0 : Int)))]]) (.seq (.region false [o1 5 (.fieldAddr 0) 2, ⟨some 6, .load true 2, [.slot 5], [0, 1, 100], [], none, false, .take 1 2 1⟩, mv 7 1, ow 8 (.call ⟨266, [.val true 2, .val false 1], [none, some (1, 2), none], [.val false 1], [.imm, .back 1], false⟩) [.slot 6, .slot 7] [1] [1], mv 1 8]) (.seq (.region false [o1 9 (.fieldAddr 2) 2, ow 10 (.load false 1) [.slot 9] [0] [], mv 11 1, ow 12 (.callH true ⟨337, vs 2, [some (2, 12), none], [.val false 1], [.imm, .back 2], false⟩) [.slot 10, .slot 11] [2, 100] [2, 100], mv 1 12]) (.seq (.region false [mv 13 1, mv 4 13]) (.ret)))), hp := true }
def laws_markPipe.env (N : Nat) : Env := envOf (tbl [(266, laws_markReport.fs N), (337, laws_markReportS.fs N)] noFS)
def laws_markPipe.H (N : Nat) (x : ((Int × Hnd) × List (Int × Hnd)) × Int) (D : List HRow) : Option ((Int × List (Int × Hnd)) × List HRow) := XFunc.runH laws_markPipe.x (laws_markPipe.env N) N x D
def laws_markPipe.fs (N : Nat) : FS := { arg := .pair (.pair (.pair (.int .i64) (.hnd (.int .i64))) (.list (.pair (.int .i64) (.hnd (.int .i64))))) (.int .i64), ret := .pair (.int .i64) (.list (.pair (.int .i64) (.hnd (.int .i64)))), fresh := false, F := fun _ => none, hp := true, H := laws_markPipe.H N }

theorem laws_markPipe.H_eq (N : Nat) (a : (Int × Hnd) × List (Int × Hnd)) (k_ : Int) (D : List HRow) : laws_markPipe.H N (a, k_) D =
    bif hfull D 2 (.int .i64) a.1.2 then
    bindO (laws_markReport.F N ((a.1.1, hcut D (.int .i64) a.1.2), k_)) fun r1 =>
    bindO (laws_markReportS.H N (a.2, r1.1) (hgone D a.1.2)) fun r2 =>
    some (r2.1, hput r2.2 a.1.2 2 (.int .i64) r1.2)
    else none := by kernel_rfl

def laws_heldReport.x : XFunc := { nslots := 12, nobj := 1, pars := [.val true 2, .val false 1], rowsIn := [none, none, none], rets := [.tmp 4 false 1], outs := [.imm], fresh := true, arg := .pair (.pair (.int .i64) (.list (.int .i64))) (.int .i64), ret := .int .i64, body := .seq (.region false [ow 2 (.box 0) [.slot 0] [0] [0], op 4 .move [.const (.one (.int .i64 (0 : Int)))]]) (.seq (.region false [o1 5 (.fieldAddr 1) 2, ow 6 (.load false 1) [.slot 5] [0] [], mv 7 1, o2 8 (.call ⟨245, vs 2, no 2, [.val false 1], ims 1, true⟩) 6 7, mv 1 8]) (.seq (.seq (.region false [mv 9 1, op 10 (.bin .lss) [.slot 9, .const (.one (.int .i64 (0 : Int)))]]) (.cond (.slot 10) (.seq (.region false [op 4 .move [.const (.one (.int .i64 (-1 : Int)))]]) (.ret)) (.skip))) (.seq (.region false [mv 11 1, mv 4 11]) (.ret)))) }
def laws_heldReport.env (N : Nat) : Env := envOf (tbl [(245, laws_heldIntS.fs N)] noFS)
def laws_heldReport.F (N : Nat) (x : (Int × List Int) × Int) : Option Int := XFunc.run laws_heldReport.x (laws_heldReport.env N) N x
def laws_heldReport.fs (N : Nat) : FS := { arg := .pair (.pair (.int .i64) (.list (.int .i64))) (.int .i64), ret := .int .i64, fresh := true, F := laws_heldReport.F N }

theorem laws_heldReport.F_eq (N : Nat) (a : Int × List Int) (k_ : Int) : laws_heldReport.F N (a, k_) =
    bindO (laws_heldIntS.F N (a.2, k_)) fun r1 =>
    bif decide (r1 < (0 : Int)) then
      some (-1 : Int)
    else
      some r1 := by kernel_rfl

def laws_heldReportS.c1 : XCode := .seq (.seq (.region false [mv 6 5, mv 7 0, o1 8 .len 7, o2 9 (.bin .lss) 6 8]) (.cond (.slot 9) (.skip) (.exit 0))) (.seq (.block 1 (.seq (.seq (.region false [mv 12 0, mv 13 5, o2 14 (.indexAddr (.pair (.int .i64) (.list (.int .i64)))) 12 13, o1 15 (.fieldAddr 0) 14, o1 16 (.load false 1) 15, mv 17 1, o2 18 (.bin .neq) 16 17]) (.cond (.slot 18) (.seq (.region false [op 4 .move [.const (.one (.int .i64 (-1 : Int)))]]) (.ret)) (.skip))) (.seq (.region false [mv 19 1, op 20 (.bin .add) [.slot 19, .const (.one (.int .i64 (1 : Int)))], mv 1 20]) (.seq (.region false [mv 21 0, mv 22 5, o2 23 (.indexAddr (.pair (.int .i64) (.list (.int .i64)))) 21 22, o1 24 (.fieldAddr 1) 23, o1 25 (.load false 1) 24, mv 26 1, o2 27 (.call ⟨245, vs 2, no 2, [.val false 1], ims 1, true⟩) 25 26, mv 1 27]) (.seq (.region false [mv 28 1, op 29 (.bin .lss) [.slot 28, .const (.one (.int .i64 (0 : Int)))]]) (.cond (.slot 29) (.seq (.region false [op 4 .move [.const (.one (.int .i64 (-1 : Int)))]]) (.ret)) (.skip))))))) (.region false [mv 10 5, op 11 (.bin .add) [.slot 10, .const (.one (.int .i64 (1 : Int)))], mv 5 11]))
def laws_heldReportS.c2 : XCode := .seq (.region false [mv 30 1, mv 4 30]) (.ret)
def laws_heldReportS.x : XFunc := { nslots := 31, nobj := 0, pars := [.val false 1, .val false 1], rowsIn := [none, none], rets := [.tmp 4 false 1], outs := [.imm], fresh := true, arg := .pair (.list (.pair (.int .i64) (.list (.int .i64)))) (.int .i64), ret := .int .i64, body := .seq (.region false [op 4 .move [.const (.one (.int .i64 (0 : Int)))]]) (.seq (.seq (.region false [op 5 .move [.const (.one (.int .i64 (0 : Int)))]]) (.block 0 (.loop [.keep [0, 1, 5], .norm] (laws_heldReportS.c1)))) (laws_heldReportS.c2)) }
def laws_heldReportS.env (N : Nat) : Env := envOf (tbl [(245, laws_heldIntS.fs N)] noFS)
def laws_heldReportS.F (N : Nat) (x : (List (Int × List Int)) × Int) : Option Int := XFunc.run laws_heldReportS.x (laws_heldReportS.env N) N x
def laws_heldReportS.fs (N : Nat) : FS := { arg := .pair (.list (.pair (.int .i64) (.list (.int .i64)))) (.int .i64), ret := .int .i64, fresh := true, F := laws_heldReportS.F N }
def laws_heldReportS.k2 (N : Nat) : Ex → S → Option Int := seqK (fun s => XCode.runK (laws_heldReportS.env N) N (laws_heldReportS.c2) s (XFunc.endK laws_heldReportS.x)) (XFunc.endK laws_heldReportS.x)
def laws_heldReportS.k1 (N : Nat) : Ex → S → Option Int := blockK 0 (laws_heldReportS.k2 N)
def laws_heldReportS.L1 (N : Nat) (n1 : Nat) (a : List (Int × List Int)) (k_ : Int) (i : Int) : Option Int := loopK [.keep [0, 1, 5], .norm] (fun s k => XCode.runK (laws_heldReportS.env N) N laws_heldReportS.c1 s k) n1
  { t := [.one (.sl false (.pair (.int .i64) (.list (.int .i64))) a), .one (.int .i64 k_), .junk, .junk, .junk, .one (.int .i64 i), .junk, .junk, .junk, .junk, .junk, .junk, .junk, .junk, .junk, .junk, .junk, .junk, .junk, .junk, .junk, .junk, .junk, .junk, .junk, .junk, .junk, .junk, .junk, .junk, .junk], h := [] }
  (laws_heldReportS.k1 N)

theorem laws_heldReportS.L1_eq (N : Nat) (n1 : Nat) (a : List (Int × List Int)) (k_ : Int) (i : Int) : laws_heldReportS.L1 N (n1 + 1) a k_ i =
    bif decide (i < (List.length a : Int)) then
      bif inRange i (List.length a) then
      bif ((nth ((0 : Int), ([] : List Int)) a i).1) != k_ then
        some (-1 : Int)
      else
        bif inRange i (List.length a) then
        bindO (laws_heldIntS.F N ((nth ((0 : Int), ([] : List Int)) a i).2, IntKind.wrap .i64 (k_ + (1 : Int)))) fun r1 =>
        bif decide (r1 < (0 : Int)) then
          some (-1 : Int)
        else
          laws_heldReportS.L1 N n1 a r1 (IntKind.wrap .i64 (i + (1 : Int)))
        else none
      else none
    else
      some k_ := by kernel_rfl
theorem laws_heldReportS.F_eq (N : Nat) (a : List (Int × List Int)) (k_ : Int) : laws_heldReportS.F N (a, k_) =
    laws_heldReportS.L1 N N a k_ (0 : Int) := by kernel_rfl

def laws_heldPipe.x : XFunc := { nslots := 18, nobj := 1, pars := [.val true 3, .val false 1], rowsIn := [none, none, none, none], rets := [.tmp 4 false 1], outs := [.imm], fresh := true, arg := .pair (.pair (.pair (.int .i64) (.list (.int .i64))) (.list (.pair (.int .i64) (.list (.int .i64))))) (.int .i64), ret := .int .i64, body := .seq (.region false [ow 2 (.box 0) [.slot 0] [0] [0], op 4 .move [.const (.one (.int .i64 (0 : Int)))]]) (.seq (.region false [o1 5 (.fieldAddr 0) 2, ow 6 (.load true 2) [.slot 5] [0] [], mv 7 1, o2 8 (.call ⟨339, [.val true 2, .val false 1], no 3, [.val false 1], ims 1, true⟩) 6 7, mv 1 8]) (.seq (.seq (.region false [mv 9 1, op 10 (.bin .lss) [.slot 9, .const (.one (.int .i64 (0 : Int)))]]) (.cond (.slot 10) (.seq (.region false [op 4 .move [.const (.one (.int .i64 (-1 : Int)))]]) (.ret)) (.skip))) (.seq (.region false [o1 11 (.fieldAddr 2) 2, ow 12 (.load false 1) [.slot 11] [0] [], mv 13 1, o2 14 (.call ⟨340, vs 2, no 2, [.val false 1], ims 1, true⟩) 12 13, mv 1 14]) (.seq (.seq (.region false [mv 15 1, op 16 (.bin .lss) [.slot 15, .const (.one (.int .i64 (0 : Int)))]]) (.cond (.slot 16) (.seq (.region false [op 4 .move [.const (.one (.int .i64 (-1 : Int)))]]) (.ret)) (.skip))) (.seq (.region false [mv 17 1, mv 4 17]) (.ret)))))) }
def laws_heldPipe.env (N : Nat) : Env := envOf (tbl [(339, laws_heldReport.fs N), (340, laws_heldReportS.fs N)] noFS)
def laws_heldPipe.F (N : Nat) (x : ((Int × List Int) × List (Int × List Int)) × Int) : Option Int := XFunc.run laws_heldPipe.x (laws_heldPipe.env N) N x
def laws_heldPipe.fs (N : Nat) : FS := { arg := .pair (.pair (.pair (.int .i64) (.list (.int .i64))) (.list (.pair (.int .i64) (.list (.int .i64))))) (.int .i64), ret := .int .i64, fresh := true, F := laws_heldPipe.F N }

theorem laws_heldPipe.F_eq (N : Nat) (a : (Int × List Int) × List (Int × List Int)) (k_ : Int) : laws_heldPipe.F N (a, k_) =
    bindO (laws_heldReport.F N (a.1, k_)) fun r1 =>
    bif decide (r1 < (0 : Int)) then
      some (-1 : Int)
    else
      bindO (laws_heldReportS.F N (a.2, r1)) fun r2 =>
      bif decide (r2 < (0 : Int)) then
        some (-1 : Int)
      else
        some r2 := by kernel_rfl

def spec_l13Drop.c1 : XCode := .seq (.seq (.region false [mv 9 4, op 10 (.bin .add) [.slot 9, .const (.one (.int .i64 (1 : Int)))], mv 11 0, o1 12 .nilck 11, o1 13 (.fieldAddr 2) 12, ow 14 (.load false 1) [.slot 13] [0] [], o1 15 .len 14, o2 16 (.bin .lss) 10 15]) (.cond (.slot 16) (.skip) (.exit 0))) (.seq (.block 1 (.seq (.seq (.region true [ow 19 (.load true 2) [.slot 3] [1] [], mv 20 0, o1 21 .nilck 20, o1 22 (.fieldAddr 2) 21, ow 23 (.load false 1) [.slot 22] [0] [], mv 24 4, o2 25 (.indexAddr (.pair (.int .i64) (.list (.int .i64)))) 23 24, o1 26 (.load true 2) 25, mv 27 0, o1 28 .nilck 27, o1 29 (.fieldAddr 2) 28, ow 30 (.load false 1) [.slot 29] [0] [], mv 31 4, op 32 (.bin .add) [.slot 31, .const (.one (.int .i64 (1 : Int)))], o2 33 (.indexAddr (.pair (.int .i64) (.list (.int .i64)))) 30 32, o1 34 (.load true 2) 33, op 35 (.call ⟨268, [.val true 2, .val true 2, .val true 2], no 6, [.val false 1], ims 1, true⟩) [.slot 19, .slot 26, .slot 34]]) (.cond (.slot 35) (.seq (.region true [mv 36 0, ow 37 (.buildSlice false 2 12 (.pair (.int .i64) (.list (.int .i64))) 0 [] [.int .i64 (0 : Int), .nil]) [] [2] [2], mv 38 0, o1 39 .nilck 38, o1 40 (.fieldAddr 2) 39, ow 41 (.load false 1) [.slot 40] [0] [], mv 42 4, o2 43 (.slice (.pair (.int .i64) (.list (.int .i64))) false true) 41 42, ow 44 (.append false 2 12 (.pair (.int .i64) (.list (.int .i64)))) [.slot 37, .slot 43] [2] [2], mv 45 0, o1 46 .nilck 45, o1 47 (.fieldAddr 2) 46, ow 48 (.load false 1) [.slot 47] [0] [], mv 49 4, op 50 (.bin .add) [.slot 49, .const (.one (.int .i64 (1 : Int)))], o2 51 (.slice (.pair (.int .i64) (.list (.int .i64))) true false) 48 50, ow 52 (.append false 2 12 (.pair (.int .i64) (.list (.int .i64)))) [.slot 44, .slot 51] [2] [2], o1 53 .nilck 36, o1 54 (.fieldAddr 2) 53, on (.store 1) [.slot 54, .slot 52] [0] [0]]) (.seq (.region false [op 2 .move [.const (.one (.bool true))]]) (.ret))) (.skip))) (.region false [mv 55 0, o1 56 .nilck 55, o1 57 (.fieldAddr 2) 56, ow 58 (.load false 1) [.slot 57] [0] [], mv 59 4, o2 60 (.indexAddr (.pair (.int .i64) (.list (.int .i64)))) 58 59, o1 61 (.load true 2) 60, on (.store 2) [.slot 3, .slot 61] [1] [1]]))) (.region false [mv 17 4, op 18 (.bin .add) [.slot 17, .const (.one (.int .i64 (1 : Int)))], mv 4 18]))
def spec_l13Drop.c2 : XCode := .seq (.region false [op 2 .move [.const (.one (.bool false))]]) (.ret)
def spec_l13Drop.x : XFunc := { nslots := 62, nobj := 3, pars := [.box 0 3], rowsIn := [none, none, none], rets := [.tmp 2 false 1], outs := [.imm, .imm, .imm, .imm], fresh := false, arg := .pair (.pair (.int .i64) (.list (.int .i64))) (.list (.pair (.int .i64) (.list (.int .i64)))), ret := .pair (.bool) (.pair (.pair (.int .i64) (.list (.int .i64))) (.list (.pair (.int .i64) (.list (.int .i64))))), body := .seq (.region false [op 2 .move [.const (.one (.bool false))]]) (.seq (.region false [mv 5 0, o1 6 .nilck 5, o1 7 (.fieldAddr 0) 6, ow 8 (.load true 2) [.slot 7] [0] [], ow 3 (.alloc 1 [.int .i64 (0 : Int), .nil]) [] [1] [1], on (.store 2) [.slot 3, .slot 8] [1] [1]]) (.seq (.seq (.region false [op 4 .move [.const (.one (.int .i64 (0 : Int)))]]) (.block 0 (.loop [.keep [0, 3, 4], .drop 2, .norm] (spec_l13Drop.c1)))) (spec_l13Drop.c2))), keep := true }
def spec_l13Drop.env (N : Nat) : Env := envOf (tbl [(268, spec_MayDrop.fs N)] noFS)
def spec_l13Drop.F (N : Nat) (x : (Int × List Int) × List (Int × List Int)) : Option (Bool × (Int × List Int) × List (Int × List Int)) := XFunc.run spec_l13Drop.x (spec_l13Drop.env N) N x
def spec_l13Drop.fs (N : Nat) : FS := { arg := .pair (.pair (.int .i64) (.list (.int .i64))) (.list (.pair (.int .i64) (.list (.int .i64)))), ret := .pair (.bool) (.pair (.pair (.int .i64) (.list (.int .i64))) (.list (.pair (.int .i64) (.list (.int .i64))))), fresh := false, F := spec_l13Drop.F N, keep := true }
def spec_l13Drop.k2 (N : Nat) : Ex → S → Option (Bool × (Int × List Int) × List (Int × List Int)) := seqK (fun s => XCode.runK (spec_l13Drop.env N) N (spec_l13Drop.c2) s (XFunc.endK spec_l13Drop.x)) (XFunc.endK spec_l13Drop.x)
def spec_l13Drop.k1 (N : Nat) : Ex → S → Option (Bool × (Int × List Int) × List (Int × List Int)) := blockK 0 (spec_l13Drop.k2 N)
def spec_l13Drop.L1 (N : Nat) (n1 : Nat) (i : Int) (p0 : Int) (p1 : List Int) (p2 : List (Int × List Int)) (o10 : Int) (o11 : List Int) : Option (Bool × (Int × List Int) × List (Int × List Int)) := loopK [.keep [0, 3, 4], .drop 2, .norm] (fun s k => XCode.runK (spec_l13Drop.env N) N spec_l13Drop.c1 s k) n1
  { t := [.one (.ptr 0 0 0), .junk, .junk, .one (.ptr 1 0 0), .one (.int .i64 i), .junk, .junk, .junk, .junk, .junk, .junk, .junk, .junk, .junk, .junk, .junk, .junk, .junk, .junk, .junk, .junk, .junk, .junk, .junk, .junk, .junk, .junk, .junk, .junk, .junk, .junk, .junk, .junk, .junk, .junk, .junk, .junk, .junk, .junk, .junk, .junk, .junk, .junk, .junk, .junk, .junk, .junk, .junk, .junk, .junk, .junk, .junk, .junk, .junk, .junk, .junk, .junk, .junk, .junk, .junk, .junk, .junk], h := [.box 0 true [.int .i64 p0, .sl true (.int .i64) p1, .sl true (.pair (.int .i64) (.list (.int .i64))) p2], .box 0 false [.int .i64 o10, .sl true (.int .i64) o11], .absent 0] }
  (spec_l13Drop.k1 N)

theorem spec_l13Drop.L1_eq (N : Nat) (n1 : Nat) (i : Int) (p0 : Int) (p1 : List Int) (p2 : List (Int × List Int)) (o10 : Int) (o11 : List Int) : spec_l13Drop.L1 N (n1 + 1) i p0 p1 p2 o10 o11 =
    bif decide ((IntKind.wrap .i64 (i + (1 : Int))) < (List.length p2 : Int)) then
      bif inRange i (List.length p2) then
      bif inRange (IntKind.wrap .i64 (i + (1 : Int))) (List.length p2) then
      bindO (spec_MayDrop.F N ((o10, o11), ((nth ((0 : Int), ([] : List Int)) p2 i), (nth ((0 : Int), ([] : List Int)) p2 (IntKind.wrap .i64 (i + (1 : Int))))))) fun r1 =>
      bif r1 then
        bif decide (0 ≤ i) && decide (i ≤ (List.length p2 : Int)) then
        bif decide (List.length ([] : List (Int × List Int)) + List.length (List.take (Int.toNat i) p2) ≤ maxN) then
        bif decide (0 ≤ IntKind.wrap .i64 (i + (1 : Int))) && decide (IntKind.wrap .i64 (i + (1 : Int)) ≤ (List.length p2 : Int)) then
        bif decide (List.length (([] : List (Int × List Int)) ++ (List.take (Int.toNat i) p2)) + List.length (List.drop (Int.toNat (IntKind.wrap .i64 (i + (1 : Int)))) p2) ≤ maxN) then
        some (true, ((p0, p1), (([] : List (Int × List Int)) ++ (List.take (Int.toNat i) p2)) ++ (List.drop (Int.toNat (IntKind.wrap .i64 (i + (1 : Int)))) p2)))
        else none
        else none
        else none
        else none
      else
        bif inRange i (List.length p2) then
        spec_l13Drop.L1 N n1 (IntKind.wrap .i64 (i + (1 : Int))) p0 p1 p2 ((nth ((0 : Int), ([] : List Int)) p2 i).1) ((nth ((0 : Int), ([] : List Int)) p2 i).2)
        else none
      else none
      else none
    else
      some (false, ((p0, p1), p2)) := by kernel_rfl
theorem spec_l13Drop.F_eq (N : Nat) (p : (Int × List Int) × List (Int × List Int)) : spec_l13Drop.F N p =
    spec_l13Drop.L1 N N (0 : Int) p.1.1 p.1.2 p.2 p.1.1 p.1.2 := by kernel_rfl

def spec_PushReport.x : XFunc := { nslots := 54, nobj := 7, pars := [.val true 3, .val true 2], rowsIn := [none, none, none, none, none], rets := [.var 4 true 3, .tmp 5 false 1], outs := [.imm, .imm, .imm, .imm], fresh := true, arg := .pair (.pair (.pair (.int .i64) (.list (.int .i64))) (.list (.pair (.int .i64) (.list (.int .i64))))) (.pair (.int .i64) (.list (.int .i64))), ret := .pair (.pair (.pair (.int .i64) (.list (.int .i64))) (.list (.pair (.int .i64) (.list (.int .i64))))) (.bool), body := .seq (.region false [ow 2 (.box 0) [.slot 0] [0] [0], ow 3 (.box 1) [.slot 1] [1] [1], ow 4 (.alloc 2 [.int .i64 (0 : Int), .nil, .nil]) [] [2] [2], op 5 .move [.const (.one (.bool false))]]) (.seq (.seq (.region false [ow 8 (.load true 3) [.slot 2] [0] [], o1 9 (.call ⟨278, [.val true 3], no 3, [.val false 1], ims 1, true⟩) 8, o1 10 .not 9, ⟨some 11, .move, [.slot 10], [], [], none, true, .none⟩, ⟨some 12, .load true 2, [.slot 3], [1], [], some (11, false), false, .none⟩, ⟨some 13, .call ⟨260, [.val true 2], no 2, [.val false 1], ims 1, true⟩, [.slot 12], [], [], some (11, false), false, .none⟩, ⟨some 14, .not, [.slot 13], [], [], some (11, false), false, .none⟩, op 15 .pick [.slot 11, .const (.one (.bool true)), .slot 14]]) (.cond (.slot 15) (.seq (.region false [op 16 (.build [.int .i64 (0 : Int), .nil, .nil] []) [], on (.store 3) [.slot 4, .slot 16] [2] [2], op 5 .move [.const (.one (.bool false))]]) (.ret)) (.skip))) (.seq (.region false [ow 17 (.load true 3) [.slot 2] [0] [], ow 18 (.call ⟨332, [.val true 3], no 3, [.val true 3], [.imm, .imm, .own 6 12], true⟩) [.slot 17] [6] [6], ow 6 (.alloc 3 [.int .i64 (0 : Int), .nil, .nil]) [] [3] [3], on (.store 3) [.slot 6, .slot 18] [3] [3]]) (.seq (.region false [o1 19 (.fieldAddr 0) 2, ow 20 (.load true 2) [.slot 19] [0] [], ow 7 (.alloc 4 [.int .i64 (0 : Int), .nil]) [] [4] [4], on (.store 2) [.slot 7, .slot 20] [4] [4]]) (.seq (.seq (.region false [o1 21 (.fieldAddr 2) 2, ow 22 (.load false 1) [.slot 21] [0] [], o1 23 .len 22, op 24 (.bin .gtr) [.slot 23, .const (.one (.int .i64 (0 : Int)))]]) (.cond (.slot 24) (.region false [o1 25 (.fieldAddr 2) 2, ow 26 (.load false 1) [.slot 25] [0] [], o1 27 (.fieldAddr 2) 2, ow 28 (.load false 1) [.slot 27] [0] [], o1 29 .len 28, op 30 (.bin .sub) [.slot 29, .const (.one (.int .i64 (1 : Int)))], o2 31 (.indexAddr (.pair (.int .i64) (.list (.int .i64)))) 26 30, o1 32 (.load true 2) 31, on (.store 2) [.slot 7, .slot 32] [4] [4]]) (.skip))) (.seq (.seq (.region false [ow 33 (.load true 2) [.slot 7] [4] [], ow 34 (.load true 2) [.slot 3] [1] [], o2 35 (.call ⟨277, [.val true 2, .val true 2], no 4, [.val false 1], ims 1, true⟩) 33 34]) (.cond (.slot 35) (.seq (.region false [ow 36 (.load true 3) [.slot 6] [3] [], on (.store 3) [.slot 4, .slot 36] [2] [2], op 5 .move [.const (.one (.bool true))]]) (.ret)) (.skip))) (.seq (.region true [o1 37 (.fieldAddr 2) 6, ow 38 (.load false 1) [.slot 37] [3] [], ow 39 (.load true 2) [.slot 3] [1] [], o1 40 (.call ⟨314, [.val true 2], no 2, [.val true 2], ims 2, true⟩) 39, ow 41 (.buildSlice false 5 12 (.pair (.int .i64) (.list (.int .i64))) 1 [(0, 2)] [.int .i64 (0 : Int), .nil]) [.slot 40] [5] [5], ow 42 (.append false 6 12 (.pair (.int .i64) (.list (.int .i64)))) [.slot 38, .slot 41] [5, 6] [6], o1 43 (.fieldAddr 2) 6, on (.store 1) [.slot 43, .slot 42] [3] [3]]) (.seq (.seq (.adj [.freeze 6] (.region false [o1 44 (.fieldAddr 2) 6, ow 45 (.load false 1) [.slot 44] [3] [], o1 46 .len 45, op 47 (.bin .gtr) [.slot 46, .const (.one (.int .i64 (8 : Int)))], ⟨some 48, .move, [.slot 47], [], [], none, true, .none⟩, ⟨some 49, .call ⟨352, [.box 3 3], no 3, [.val false 1], ims 4, false⟩, [.slot 6], [3], [3], some (48, true), false, .none⟩, ⟨some 50, .not, [.slot 49], [], [], some (48, true), false, .none⟩, op 51 .pick [.slot 48, .slot 50, .const (.one (.bool false))]])) (.cond (.slot 51) (.seq (.region false [op 52 (.build [.int .i64 (0 : Int), .nil, .nil] []) [], on (.store 3) [.slot 4, .slot 52] [2] [2], op 5 .move [.const (.one (.bool false))]]) (.ret)) (.skip))) (.seq (.region false [ow 53 (.load true 3) [.slot 6] [3] [], on (.store 3) [.slot 4, .slot 53] [2] [2], op 5 .move [.const (.one (.bool true))]]) (.ret))))))))) }
def spec_PushReport.env (N : Nat) : Env := envOf (tbl [(278, spec_IsPipe.fs N), (260, spec_IsReport.fs N), (277, spec_SameReport.fs N), (332, spec_l13Copy.fs N), (352, spec_l13Drop.fs N), (314, spec_l7Copy.fs N)] noFS)
def spec_PushReport.F (N : Nat) (x : ((Int × List Int) × List (Int × List Int)) × Int × List Int) : Option (((Int × List Int) × List (Int × List Int)) × Bool) := XFunc.run spec_PushReport.x (spec_PushReport.env N) N x
def spec_PushReport.fs (N : Nat) : FS := { arg := .pair (.pair (.pair (.int .i64) (.list (.int .i64))) (.list (.pair (.int .i64) (.list (.int .i64))))) (.pair (.int .i64) (.list (.int .i64))), ret := .pair (.pair (.pair (.int .i64) (.list (.int .i64))) (.list (.pair (.int .i64) (.list (.int .i64))))) (.bool), fresh := true, F := spec_PushReport.F N }

theorem spec_PushReport.F_eq (N : Nat) (p : (Int × List Int) × List (Int × List Int)) (r_ : Int × List Int) : spec_PushReport.F N (p, r_) =
    bindO (spec_IsPipe.F N p) fun r1 =>
    bif !r1 then
      some ((((0 : Int), ([] : List Int)), ([] : List (Int × List Int))), false)
    else
      bindO (spec_IsReport.F N r_) fun r2 =>
      bif !r2 then
        some ((((0 : Int), ([] : List Int)), ([] : List (Int × List Int))), false)
      else
        bindO (spec_l13Copy.F N p) fun r3 =>
        bif decide ((List.length p.2 : Int) > (0 : Int)) then
          bif inRange (IntKind.wrap .i64 ((List.length p.2 : Int) - (1 : Int))) (List.length p.2) then
          bindO (spec_SameReport.F N ((nth ((0 : Int), ([] : List Int)) p.2 (IntKind.wrap .i64 ((List.length p.2 : Int) - (1 : Int)))), r_)) fun r4 =>
          bif r4 then
            some (r3, true)
          else
            bindO (spec_l7Copy.F N r_) fun r5 =>
            bif decide (List.length r3.2 + List.length ([r5] : List (Int × List Int)) ≤ maxN) then
            bif decide ((List.length (r3.2 ++ ([r5] : List (Int × List Int))) : Int) > (8 : Int)) then
              bindO (spec_l13Drop.F N (r3.1, r3.2 ++ ([r5] : List (Int × List Int)))) fun r6 =>
              bif !r6.1 then
                some ((((0 : Int), ([] : List Int)), ([] : List (Int × List Int))), false)
              else
                some (r6.2, true)
            else
              some ((r3.1, r3.2 ++ ([r5] : List (Int × List Int))), true)
            else none
          else none
        else
          bindO (spec_SameReport.F N (p.1, r_)) fun r7 =>
          bif r7 then
            some (r3, true)
          else
            bindO (spec_l7Copy.F N r_) fun r8 =>
            bif decide (List.length r3.2 + List.length ([r8] : List (Int × List Int)) ≤ maxN) then
            bif decide ((List.length (r3.2 ++ ([r8] : List (Int × List Int))) : Int) > (8 : Int)) then
              bindO (spec_l13Drop.F N (r3.1, r3.2 ++ ([r8] : List (Int × List Int)))) fun r9 =>
              bif !r9.1 then
                some ((((0 : Int), ([] : List Int)), ([] : List (Int × List Int))), false)
              else
                some (r9.2, true)
            else
              some ((r3.1, r3.2 ++ ([r8] : List (Int × List Int))), true)
            else none := by kernel_rfl

def impl_PushReporth.c1 : XCode := .seq (.seq (.region false [mv 48 8, op 49 (.bin .add) [.slot 48, .const (.one (.int .i64 (1 : Int)))], mv 50 7, ow 51 .len [.slot 50] [4] [], o2 52 (.bin .lss) 49 51]) (.cond (.slot 52) (.skip) (.exit 0))) (.seq (.block 1 (.seq (.region true [mv 55 7, mv 56 8, op 57 (.bin .sub) [.slot 56, .const (.one (.int .i64 (1 : Int)))], ow 58 (.indexAddr (.pair (.int .i64) (.hnd (.int .i64)))) [.slot 55, .slot 57] [4] [], ow 59 (.load true 2) [.slot 58] [4] [], mv 60 7, mv 61 8, ow 62 (.indexAddr (.pair (.int .i64) (.hnd (.int .i64)))) [.slot 60, .slot 61] [4] [], ow 63 (.load true 2) [.slot 62] [4] [], mv 64 7, mv 65 8, op 66 (.bin .add) [.slot 65, .const (.one (.int .i64 (1 : Int)))], ow 67 (.indexAddr (.pair (.int .i64) (.hnd (.int .i64)))) [.slot 64, .slot 66] [4] [], ow 68 (.load true 2) [.slot 67] [4] [], ow 69 (.call ⟨269, [.val true 2, .val true 2, .val true 2], no 6, [.val false 1], ims 1, true⟩) [.slot 59, .slot 63, .slot 68] [100] []]) (.cond (.slot 69) (.seq (.region true [mv 70 7, mv 71 8, ow 72 (.slice (.pair (.int .i64) (.hnd (.int .i64))) true true) [.slot 70, .const (.one (.int .i64 (1 : Int))), .slot 71] [4] [], ow 73 (.append false 8 12 (.pair (.int .i64) (.hnd (.int .i64)))) [.const (.one (.nil)), .slot 72] [4, 8] [8], mv 74 7, mv 75 8, op 76 (.bin .add) [.slot 75, .const (.one (.int .i64 (1 : Int)))], ow 77 (.slice (.pair (.int .i64) (.hnd (.int .i64))) true false) [.slot 74, .slot 76] [4] [], ow 78 (.append false 8 12 (.pair (.int .i64) (.hnd (.int .i64)))) [.slot 73, .slot 77] [4, 8] [8], o1 79 (.fieldAddr 2) 6, on (.store 1) [.slot 79, .slot 78] [3] [3]]) (.seq (.region false [ow 80 (.load true 3) [.slot 6] [3] [], on (.store 3) [.slot 4, .slot 80] [2] [2], op 5 .move [.const (.one (.bool true))]]) (.ret))) (.skip)))) (.region false [mv 53 8, op 54 (.bin .add) [.slot 53, .const (.one (.int .i64 (1 : Int)))], mv 8 54]))
def impl_PushReporth.c2 : XCode := .seq (.region false [op 81 (.build [.int .i64 (0 : Int), .nil, .nil] []) [], on (.store 3) [.slot 4, .slot 81] [2] [2], op 5 .move [.const (.one (.bool false))]]) (.ret)
def impl_PushReporth.x : XFunc := { nslots := 82, nobj := 9, pars := [.val true 3, .val true 2], rowsIn := [none, none, none, none, none], rets := [.var 4 true 3, .tmp 5 false 1], outs := [.imm, .imm, .own 12, .imm], fresh := true, arg := .pair (.pair (.pair (.int .i64) (.list (.int .i64))) (.list (.pair (.int .i64) (.list (.int .i64))))) (.pair (.int .i64) (.list (.int .i64))), ret := .pair (.pair (.pair (.int .i64) (.hnd (.int .i64))) (.list (.pair (.int .i64) (.hnd (.int .i64))))) (.bool), body := .seq (.region false [ow 2 (.box 0) [.slot 0] [0] [0], ow 3 (.box 1) [.slot 1] [1] [1], ow 4 (.alloc 2 [.int .i64 (0 : Int), .nil, .nil]) [] [2] [2], op 5 .move [.const (.one (.bool false))]]) (.seq (.seq (.region false [ow 9 (.load true 3) [.slot 2] [0] [], o1 10 (.call ⟨279, [.val true 3], no 3, [.val false 1], ims 1, true⟩) 9, o1 11 .not 10, ⟨some 12, .move, [.slot 11], [], [], none, true, .none⟩, ⟨some 13, .load true 2, [.slot 3], [1], [], some (12, false), false, .none⟩, ⟨some 14, .call ⟨263, [.val true 2], no 2, [.val false 1], ims 1, true⟩, [.slot 13], [], [], some (12, false), false, .none⟩, ⟨some 15, .not, [.slot 14], [], [], some (12, false), false, .none⟩, op 16 .pick [.slot 12, .const (.one (.bool true)), .slot 15]]) (.cond (.slot 16) (.seq (.region false [op 17 (.build [.int .i64 (0 : Int), .nil, .nil] []) [], on (.store 3) [.slot 4, .slot 17] [2] [2], op 5 .move [.const (.one (.bool false))]]) (.ret)) (.skip))) (.seq (.region false [ow 18 (.load true 3) [.slot 2] [0] [], ow 19 (.callH false ⟨335, [.val true 3], no 3, [.val true 3], [.imm, .imm, .own 5 12], true⟩) [.slot 18] [5, 100] [5, 100], ow 6 (.alloc 3 [.int .i64 (0 : Int), .nil, .nil]) [] [3] [3], on (.store 3) [.slot 6, .slot 19] [3] [3]]) (.seq (.region false [o1 20 (.fieldAddr 0) 6, ow 21 (.load true 2) [.slot 20] [3] [], ow 22 (.buildSlice false 4 12 (.pair (.int .i64) (.hnd (.int .i64))) 1 [(0, 2)] [.int .i64 (0 : Int), .nil]) [.slot 21] [4] [4], o1 23 (.fieldAddr 2) 6, ow 24 (.load false 1) [.slot 23] [3] [], ow 25 (.append false 4 12 (.pair (.int .i64) (.hnd (.int .i64)))) [.slot 22, .slot 24] [4, 5] [4], mv 7 25]) (.seq (.seq (.region true [mv 26 7, mv 27 7, ow 28 .len [.slot 27] [4] [], op 29 (.bin .sub) [.slot 28, .const (.one (.int .i64 (1 : Int)))], ow 30 (.indexAddr (.pair (.int .i64) (.hnd (.int .i64)))) [.slot 26, .slot 29] [4] [], ow 31 (.load true 2) [.slot 30] [4] [], ow 32 (.load true 2) [.slot 3] [1] [], ow 33 (.call ⟨206, [.val true 2, .val true 2], no 4, [.val false 1], ims 1, true⟩) [.slot 31, .slot 32] [100] []]) (.cond (.slot 33) (.seq (.region false [ow 34 (.load true 3) [.slot 6] [3] [], on (.store 3) [.slot 4, .slot 34] [2] [2], op 5 .move [.const (.one (.bool true))]]) (.ret)) (.skip))) (.seq (.region false [mv 35 7, ow 36 (.load true 2) [.slot 3] [1] [], ⟨some 37, .call ⟨334, [.val true 2], no 2, [.val true 2], [.imm, .own 7 2], true⟩, [.slot 36], [7, 100], [7], none, false, .pub 7⟩, ow 38 (.buildSlice false 6 12 (.pair (.int .i64) (.hnd (.int .i64))) 1 [(0, 2)] [.int .i64 (0 : Int), .nil]) [.slot 37] [6] [6], ow 39 (.append false 4 12 (.pair (.int .i64) (.hnd (.int .i64)))) [.slot 35, .slot 38] [4, 6] [4], mv 7 39]) (.seq (.seq (.region false [mv 40 7, ow 41 .len [.slot 40] [4] [], op 42 (.bin .sub) [.slot 41, .const (.one (.int .i64 (1 : Int)))], op 43 (.bin .leq) [.slot 42, .const (.one (.int .i64 (8 : Int)))]]) (.cond (.slot 43) (.seq (.region false [mv 44 7, ow 45 (.slice (.pair (.int .i64) (.hnd (.int .i64))) true false) [.slot 44, .const (.one (.int .i64 (1 : Int)))] [4] [], o1 46 (.fieldAddr 2) 6, on (.store 1) [.slot 46, .slot 45] [3] [3]]) (.seq (.region false [ow 47 (.load true 3) [.slot 6] [3] [], on (.store 3) [.slot 4, .slot 47] [2] [2], op 5 .move [.const (.one (.bool true))]]) (.ret))) (.skip))) (.seq (.seq (.region false [op 8 .move [.const (.one (.int .i64 (1 : Int)))]]) (.block 0 (.loop [.keep [4, 6, 7, 8], .drop 0, .drop 1, .drop 6, .drop 7, .drop 8, .norm] (impl_PushReporth.c1)))) (impl_PushReporth.c2)))))))), hp := true }
def impl_PushReporth.env (N : Nat) : Env := envOf (tbl [(279, impl_IsPipe.fs N), (263, impl_IsReport.fs N), (269, impl_MayDrop.fs N), (206, impl_SameReport.fs N), (335, impl_copyPipeh.fs N), (334, impl_copyReport.fs N)] noFS)
def impl_PushReporth.H (N : Nat) (x : ((Int × List Int) × List (Int × List Int)) × Int × List Int) (D : List HRow) : Option ((((Int × Hnd) × List (Int × Hnd)) × Bool) × List HRow) := XFunc.runH impl_PushReporth.x (impl_PushReporth.env N) N x D
def impl_PushReporth.fs (N : Nat) : FS := { arg := .pair (.pair (.pair (.int .i64) (.list (.int .i64))) (.list (.pair (.int .i64) (.list (.int .i64))))) (.pair (.int .i64) (.list (.int .i64))), ret := .pair (.pair (.pair (.int .i64) (.hnd (.int .i64))) (.list (.pair (.int .i64) (.hnd (.int .i64))))) (.bool), fresh := true, F := fun _ => none, hp := true, H := impl_PushReporth.H N }
def impl_PushReporth.k2 (N : Nat) : Ex → S → Option ((((Int × Hnd) × List (Int × Hnd)) × Bool) × List HRow) := seqK (fun s => XCode.runK (impl_PushReporth.env N) N (impl_PushReporth.c2) s (XFunc.endKH impl_PushReporth.x)) (XFunc.endKH impl_PushReporth.x)
def impl_PushReporth.k1 (N : Nat) : Ex → S → Option ((((Int × Hnd) × List (Int × Hnd)) × Bool) × List HRow) := blockK 0 (impl_PushReporth.k2 N)
def impl_PushReporth.L1 (N : Nat) (n1 : Nat) (i : Int) (o30 : Int) (o31 : Hnd) (o4 : List (Int × Hnd)) (o5 : List (Int × Hnd)) (D : List HRow) : Option ((((Int × Hnd) × List (Int × Hnd)) × Bool) × List HRow) := loopK [.keep [4, 6, 7, 8], .drop 0, .drop 1, .drop 6, .drop 7, .drop 8, .norm] (fun s k => XCode.runK (impl_PushReporth.env N) N impl_PushReporth.c1 s k) n1
  { t := [.junk, .junk, .junk, .junk, .one (.ptr 2 0 0), .junk, .one (.ptr 3 0 0), .one (.ref 4 0 .all), .one (.int .i64 i), .junk, .junk, .junk, .junk, .junk, .junk, .junk, .junk, .junk, .junk, .junk, .junk, .junk, .junk, .junk, .junk, .junk, .junk, .junk, .junk, .junk, .junk, .junk, .junk, .junk, .junk, .junk, .junk, .junk, .junk, .junk, .junk, .junk, .junk, .junk, .junk, .junk, .junk, .junk, .junk, .junk, .junk, .junk, .junk, .junk, .junk, .junk, .junk, .junk, .junk, .junk, .junk, .junk, .junk, .junk, .junk, .junk, .junk, .junk, .junk, .junk, .junk, .junk, .junk, .junk, .junk, .junk, .junk, .junk, .junk, .junk, .junk, .junk], h := [.absent 0, .absent 0, .box 0 false [.int .i64 (0 : Int), .nil, .nil], .box 0 false [.int .i64 o30, .hnd (.int .i64) o31, .ref 5 0 .all], .row 0 false true 12 (.pair (.int .i64) (.hnd (.int .i64))) o4, .row 0 false true 12 (.pair (.int .i64) (.hnd (.int .i64))) o5, .absent 0, .absent 0, .absent 0], d := D }
  (impl_PushReporth.k1 N)

theorem impl_PushReporth.L1_eq (N : Nat) (n1 : Nat) (i : Int) (o30 : Int) (o31 : Hnd) (o4 : List (Int × Hnd)) (o5 : List (Int × Hnd)) (D : List HRow) : impl_PushReporth.L1 N (n1 + 1) i o30 o31 o4 o5 D =
    bif decide ((IntKind.wrap .i64 (i + (1 : Int))) < (List.length o4 : Int)) then
      bif inRange (IntKind.wrap .i64 (i - (1 : Int))) (List.length o4) then
      bif inRange i (List.length o4) then
      bif inRange (IntKind.wrap .i64 (i + (1 : Int))) (List.length o4) then
      bif (hok D (.int .i64) ((List.getD o4 (Int.toNat (IntKind.wrap .i64 (i - (1 : Int)))) ((0 : Int), (none : Hnd))).2)) && ((hok D (.int .i64) ((List.getD o4 (Int.toNat i) ((0 : Int), (none : Hnd))).2)) && (hok D (.int .i64) ((List.getD o4 (Int.toNat (IntKind.wrap .i64 (i + (1 : Int)))) ((0 : Int), (none : Hnd))).2))) then
      bindO (impl_MayDrop.F N (((List.getD o4 (Int.toNat (IntKind.wrap .i64 (i - (1 : Int)))) ((0 : Int), (none : Hnd))).1, hcut D (.int .i64) ((List.getD o4 (Int.toNat (IntKind.wrap .i64 (i - (1 : Int)))) ((0 : Int), (none : Hnd))).2)), (((List.getD o4 (Int.toNat i) ((0 : Int), (none : Hnd))).1, hcut D (.int .i64) ((List.getD o4 (Int.toNat i) ((0 : Int), (none : Hnd))).2)), ((List.getD o4 (Int.toNat (IntKind.wrap .i64 (i + (1 : Int)))) ((0 : Int), (none : Hnd))).1, hcut D (.int .i64) ((List.getD o4 (Int.toNat (IntKind.wrap .i64 (i + (1 : Int)))) ((0 : Int), (none : Hnd))).2))))) fun r6 =>
      bif r6 then
        bif bounds (1 : Int) i (List.length o4) then
        bif decide (List.length (List.drop 1 (List.take (Int.toNat i) o4)) ≤ maxN) then
        bif decide (0 ≤ IntKind.wrap .i64 (i + (1 : Int))) && decide (IntKind.wrap .i64 (i + (1 : Int)) ≤ (List.length o4 : Int)) then
        bif decide (List.length (List.drop 1 (List.take (Int.toNat i) o4)) + List.length (List.drop (Int.toNat (IntKind.wrap .i64 (i + (1 : Int)))) o4) ≤ maxN) then
        some ((((o30, o31), (List.drop 1 (List.take (Int.toNat i) o4)) ++ (List.drop (Int.toNat (IntKind.wrap .i64 (i + (1 : Int)))) o4)), true), D)
        else none
        else none
        else none
        else none
      else
        impl_PushReporth.L1 N n1 (IntKind.wrap .i64 (i + (1 : Int))) o30 o31 o4 o5 D
      else none
      else none
      else none
      else none
    else
      some (((((0 : Int), (none : Hnd)), ([] : List (Int × Hnd))), false), D) := by kernel_rfl
theorem impl_PushReporth.H_eq (N : Nat) (p : (Int × List Int) × List (Int × List Int)) (r_ : Int × List Int) (D : List HRow) : impl_PushReporth.H N (p, r_) D =
    bindO (impl_IsPipe.F N p) fun r1 =>
    bif !r1 then
      some (((((0 : Int), (none : Hnd)), ([] : List (Int × Hnd))), false), D)
    else
      bindO (impl_IsReport.F N r_) fun r2 =>
      bif !r2 then
        some (((((0 : Int), (none : Hnd)), ([] : List (Int × Hnd))), false), D)
      else
        bindO (impl_copyPipeh.H N p (hhide D)) fun r3 =>
        bif decide (List.length ([r3.1.1] : List (Int × Hnd)) + List.length r3.1.2 ≤ maxN) then
        bif inRange (IntKind.wrap .i64 ((List.length (([r3.1.1] : List (Int × Hnd)) ++ r3.1.2) : Int) - (1 : Int))) (List.length (([r3.1.1] : List (Int × Hnd)) ++ r3.1.2)) then
        bif hok (hmerge D r3.2) (.int .i64) ((List.getD (([r3.1.1] : List (Int × Hnd)) ++ r3.1.2) (Int.toNat (IntKind.wrap .i64 ((List.length (([r3.1.1] : List (Int × Hnd)) ++ r3.1.2) : Int) - (1 : Int)))) ((0 : Int), (none : Hnd))).2) then
        bindO (impl_SameReport.F N (((List.getD (([r3.1.1] : List (Int × Hnd)) ++ r3.1.2) (Int.toNat (IntKind.wrap .i64 ((List.length (([r3.1.1] : List (Int × Hnd)) ++ r3.1.2) : Int) - (1 : Int)))) ((0 : Int), (none : Hnd))).1, hcut (hmerge D r3.2) (.int .i64) ((List.getD (([r3.1.1] : List (Int × Hnd)) ++ r3.1.2) (Int.toNat (IntKind.wrap .i64 ((List.length (([r3.1.1] : List (Int × Hnd)) ++ r3.1.2) : Int) - (1 : Int)))) ((0 : Int), (none : Hnd))).2)), r_)) fun r4 =>
        bif r4 then
          some ((r3.1, true), hmerge D r3.2)
        else
          bindO (impl_copyReport.F N r_) fun r5 =>
          bif decide (List.length (([r3.1.1] : List (Int × Hnd)) ++ r3.1.2) + List.length ([(r5.1, (some (List.length (hmerge D r3.2), 0, List.length r5.2) : Hnd))] : List (Int × Hnd)) ≤ maxN) then
          bif decide ((IntKind.wrap .i64 ((List.length ((([r3.1.1] : List (Int × Hnd)) ++ r3.1.2) ++ ([(r5.1, (some (List.length (hmerge D r3.2), 0, List.length r5.2) : Hnd))] : List (Int × Hnd))) : Int) - (1 : Int))) ≤ (8 : Int)) then
            bif decide (0 ≤ (1 : Int)) && decide ((1 : Int) ≤ (List.length ((([r3.1.1] : List (Int × Hnd)) ++ r3.1.2) ++ ([(r5.1, (some (List.length (hmerge D r3.2), 0, List.length r5.2) : Hnd))] : List (Int × Hnd))) : Int)) then
            some (((r3.1.1, List.drop 1 ((([r3.1.1] : List (Int × Hnd)) ++ r3.1.2) ++ ([(r5.1, (some (List.length (hmerge D r3.2), 0, List.length r5.2) : Hnd))] : List (Int × Hnd)))), true), (hmerge D r3.2) ++ [HRow.row 2 (.int .i64) r5.2])
            else none
          else
            impl_PushReporth.L1 N N (1 : Int) r3.1.1.1 r3.1.1.2 ((([r3.1.1] : List (Int × Hnd)) ++ r3.1.2) ++ ([(r5.1, (some (List.length (hmerge D r3.2), 0, List.length r5.2) : Hnd))] : List (Int × Hnd))) r3.1.2 ((hmerge D r3.2) ++ [HRow.row 2 (.int .i64) r5.2])
          else none
        else none
        else none
        else none := by kernel_rfl

def spec_PushAll.c1 : XCode := .seq (.seq (.region false [mv 11 7, mv 12 1, o1 13 .len 12, o2 14 (.bin .lss) 11 13]) (.cond (.slot 14) (.skip) (.exit 0))) (.seq (.block 1 (.seq (.region true [ow 18 (.load true 3) [.slot 6] [2] [], mv 19 1, mv 20 7, o2 21 (.indexAddr (.pair (.int .i64) (.list (.int .i64)))) 19 20, o1 22 (.load true 2) 21, o2 23 (.call ⟨353, [.val true 3, .val true 2], no 5, [.val true 3, .val false 1], ims 4, true⟩) 18 22, mv 17 23, o1 24 (.extract 0) 17, o1 25 (.extract 1) 17, ow 8 (.alloc 3 [.int .i64 (0 : Int), .nil, .nil]) [] [3] [3], on (.store 3) [.slot 8, .slot 24] [3] [3], mv 9 25]) (.seq (.seq (.region false [mv 26 9, o1 27 .not 26]) (.cond (.slot 27) (.seq (.region false [ow 28 (.load true 3) [.slot 6] [2] [], o1 29 (.call ⟨332, [.val true 3], no 3, [.val true 3], ims 3, true⟩) 28, mv 30 7, on (.store 3) [.slot 4, .slot 29] [1] [1], mv 5 30]) (.ret)) (.skip))) (.region false [ow 31 (.load true 3) [.slot 8] [3] [], on (.store 3) [.slot 6, .slot 31] [2] [2]])))) (.region false [mv 15 7, op 16 (.bin .add) [.slot 15, .const (.one (.int .i64 (1 : Int)))], mv 7 16]))
def spec_PushAll.c2 : XCode := .seq (.region false [ow 32 (.load true 3) [.slot 6] [2] [], o1 33 (.call ⟨332, [.val true 3], no 3, [.val true 3], ims 3, true⟩) 32, mv 34 1, o1 35 .len 34, on (.store 3) [.slot 4, .slot 33] [1] [1], mv 5 35]) (.ret)
def spec_PushAll.x : XFunc := { nslots := 36, nobj := 4, pars := [.val true 3, .val false 1], rowsIn := [none, none, none, none], rets := [.var 4 true 3, .tmp 5 false 1], outs := [.imm, .imm, .imm, .imm], fresh := true, arg := .pair (.pair (.pair (.int .i64) (.list (.int .i64))) (.list (.pair (.int .i64) (.list (.int .i64))))) (.list (.pair (.int .i64) (.list (.int .i64)))), ret := .pair (.pair (.pair (.int .i64) (.list (.int .i64))) (.list (.pair (.int .i64) (.list (.int .i64))))) (.int .i64), body := .seq (.region false [ow 2 (.box 0) [.slot 0] [0] [0], ow 4 (.alloc 1 [.int .i64 (0 : Int), .nil, .nil]) [] [1] [1], op 5 .move [.const (.one (.int .i64 (0 : Int)))]]) (.seq (.region false [ow 10 (.load true 3) [.slot 2] [0] [], ow 6 (.alloc 2 [.int .i64 (0 : Int), .nil, .nil]) [] [2] [2], on (.store 3) [.slot 6, .slot 10] [2] [2]]) (.seq (.seq (.region false [op 7 .move [.const (.one (.int .i64 (0 : Int)))]]) (.block 0 (.loop [.keep [1, 4, 6, 7], .drop 0, .drop 3, .weak, .norm] (spec_PushAll.c1)))) (spec_PushAll.c2))) }
def spec_PushAll.env (N : Nat) : Env := envOf (tbl [(353, spec_PushReport.fs N), (332, spec_l13Copy.fs N)] noFS)
def spec_PushAll.F (N : Nat) (x : ((Int × List Int) × List (Int × List Int)) × List (Int × List Int)) : Option (((Int × List Int) × List (Int × List Int)) × Int) := XFunc.run spec_PushAll.x (spec_PushAll.env N) N x
def spec_PushAll.fs (N : Nat) : FS := { arg := .pair (.pair (.pair (.int .i64) (.list (.int .i64))) (.list (.pair (.int .i64) (.list (.int .i64))))) (.list (.pair (.int .i64) (.list (.int .i64)))), ret := .pair (.pair (.pair (.int .i64) (.list (.int .i64))) (.list (.pair (.int .i64) (.list (.int .i64))))) (.int .i64), fresh := true, F := spec_PushAll.F N }
def spec_PushAll.k2 (N : Nat) : Ex → S → Option (((Int × List Int) × List (Int × List Int)) × Int) := seqK (fun s => XCode.runK (spec_PushAll.env N) N (spec_PushAll.c2) s (XFunc.endK spec_PushAll.x)) (XFunc.endK spec_PushAll.x)
def spec_PushAll.k1 (N : Nat) : Ex → S → Option (((Int × List Int) × List (Int × List Int)) × Int) := blockK 0 (spec_PushAll.k2 N)
def spec_PushAll.L1 (N : Nat) (n1 : Nat) (l_ : List (Int × List Int)) (i : Int) (o20 : Int) (o21 : List Int) (o22 : List (Int × List Int)) : Option (((Int × List Int) × List (Int × List Int)) × Int) := loopK [.keep [1, 4, 6, 7], .drop 0, .drop 3, .weak, .norm] (fun s k => XCode.runK (spec_PushAll.env N) N spec_PushAll.c1 s k) n1
  { t := [.junk, .one (.sl false (.pair (.int .i64) (.list (.int .i64))) l_), .junk, .junk, .one (.ptr 1 0 0), .junk, .one (.ptr 2 0 0), .one (.int .i64 i), .junk, .junk, .junk, .junk, .junk, .junk, .junk, .junk, .junk, .junk, .junk, .junk, .junk, .junk, .junk, .junk, .junk, .junk, .junk, .junk, .junk, .junk, .junk, .junk, .junk, .junk, .junk, .junk], h := [.absent 0, .box 0 false [.int .i64 (0 : Int), .nil, .nil], .box 0 false [.int .i64 o20, .sl false (.int .i64) o21, .sl false (.pair (.int .i64) (.list (.int .i64))) o22], .absent 0] }
  (spec_PushAll.k1 N)

theorem spec_PushAll.L1_eq (N : Nat) (n1 : Nat) (l_ : List (Int × List Int)) (i : Int) (o20 : Int) (o21 : List Int) (o22 : List (Int × List Int)) : spec_PushAll.L1 N (n1 + 1) l_ i o20 o21 o22 =
    bif decide (i < (List.length l_ : Int)) then
      bif inRange i (List.length l_) then
      bindO (spec_PushReport.F N (((o20, o21), o22), (nth ((0 : Int), ([] : List Int)) l_ i))) fun r1 =>
      bif !r1.2 then
        bindO (spec_l13Copy.F N ((o20, o21), o22)) fun r2 =>
        some (r2, i)
      else
        spec_PushAll.L1 N n1 l_ (IntKind.wrap .i64 (i + (1 : Int))) r1.1.1.1 r1.1.1.2 r1.1.2
      else none
    else
      bindO (spec_l13Copy.F N ((o20, o21), o22)) fun r3 =>
      some (r3, (List.length l_ : Int)) := by kernel_rfl
theorem spec_PushAll.F_eq (N : Nat) (p : (Int × List Int) × List (Int × List Int)) (l_ : List (Int × List Int)) : spec_PushAll.F N (p, l_) =
    spec_PushAll.L1 N N l_ (0 : Int) p.1.1 p.1.2 p.2 := by kernel_rfl

def impl_PushAll.c1 : XCode := .seq (.region false [o2 16 (.bin .lss) 15 14]) (.seq (.cond (.slot 16) (.skip) (.exit 0)) (.seq (.block 1 (.seq (.region false [mv 17 15, o2 18 (.indexAddr (.pair (.int .i64) (.list (.int .i64)))) 13 15, o1 19 (.load true 2) 18, ow 8 (.alloc 3 [.int .i64 (0 : Int), .nil]) [] [3] [3], mv 7 17, on (.store 2) [.slot 8, .slot 19] [3] [3]]) (.seq (.region false [ow 21 (.load true 3) [.slot 6] [2] [], ow 22 (.load true 2) [.slot 8] [3] [], ow 23 (.callH false ⟨354, [.val true 3, .val true 2], no 5, [.val true 3, .val false 1], [.imm, .imm, .own 6 12, .imm], true⟩) [.slot 21, .slot 22] [5, 6, 100] [6, 100], mv 20 23, o1 24 (.extract 0) 20, o1 25 (.extract 1) 20, ow 9 (.alloc 4 [.int .i64 (0 : Int), .nil, .nil]) [] [4] [4], on (.store 3) [.slot 9, .slot 24] [4] [4], mv 10 25]) (.seq (.seq (.region false [mv 26 10, o1 27 .not 26]) (.cond (.slot 27) (.seq (.region false [ow 28 (.load true 3) [.slot 6] [2] [], mv 29 7, on (.store 3) [.slot 4, .slot 28] [1] [1], mv 5 29]) (.ret)) (.skip))) (.region false [ow 30 (.load true 3) [.slot 9] [4] [], on (.store 3) [.slot 6, .slot 30] [2] [2]]))))) (.region false [op 31 (.bin .add) [.slot 15, .const (.one (.int .i64 (1 : Int)))], mv 15 31])))
def impl_PushAll.c2 : XCode := .seq (.region false [ow 32 (.load true 3) [.slot 6] [2] [], mv 33 1, o1 34 .len 33, on (.store 3) [.slot 4, .slot 32] [1] [1], mv 5 34]) (.ret)
def impl_PushAll.x : XFunc := { nslots := 35, nobj := 7, pars := [.val true 3, .val false 1], rowsIn := [none, none, none, none], rets := [.var 4 true 3, .tmp 5 false 1], outs := [.imm, .imm, .own 12, .imm], fresh := true, arg := .pair (.pair (.pair (.int .i64) (.list (.int .i64))) (.list (.pair (.int .i64) (.list (.int .i64))))) (.list (.pair (.int .i64) (.list (.int .i64)))), ret := .pair (.pair (.pair (.int .i64) (.hnd (.int .i64))) (.list (.pair (.int .i64) (.hnd (.int .i64))))) (.int .i64), body := .seq (.region false [ow 2 (.box 0) [.slot 0] [0] [0], ow 4 (.alloc 1 [.int .i64 (0 : Int), .nil, .nil]) [] [1] [1], op 5 .move [.const (.one (.int .i64 (0 : Int)))]]) (.seq (.region false [ow 11 (.load true 3) [.slot 2] [0] [], ow 12 (.callH false ⟨335, [.val true 3], no 3, [.val true 3], [.imm, .imm, .own 5 12], true⟩) [.slot 11] [5, 100] [5, 100], ow 6 (.alloc 2 [.int .i64 (0 : Int), .nil, .nil]) [] [2] [2], on (.store 3) [.slot 6, .slot 12] [2] [2]]) (.seq (.seq (.region false [mv 13 1, o1 14 .len 13, op 15 .move [.const (.one (.int .i64 (0 : Int)))]]) (.block 0 (.loop [.rename 6 5, .keep [1, 4, 6, 13, 14, 15], .drop 0, .drop 3, .drop 4, .drop 6, .norm] (impl_PushAll.c1)))) (impl_PushAll.c2))), hp := true }
def impl_PushAll.env (N : Nat) : Env := envOf (tbl [(354, impl_PushReporth.fs N), (335, impl_copyPipeh.fs N)] noFS)
def impl_PushAll.H (N : Nat) (x : ((Int × List Int) × List (Int × List Int)) × List (Int × List Int)) (D : List HRow) : Option ((((Int × Hnd) × List (Int × Hnd)) × Int) × List HRow) := XFunc.runH impl_PushAll.x (impl_PushAll.env N) N x D
def impl_PushAll.fs (N : Nat) : FS := { arg := .pair (.pair (.pair (.int .i64) (.list (.int .i64))) (.list (.pair (.int .i64) (.list (.int .i64))))) (.list (.pair (.int .i64) (.list (.int .i64)))), ret := .pair (.pair (.pair (.int .i64) (.hnd (.int .i64))) (.list (.pair (.int .i64) (.hnd (.int .i64))))) (.int .i64), fresh := true, F := fun _ => none, hp := true, H := impl_PushAll.H N }
def impl_PushAll.k2 (N : Nat) : Ex → S → Option ((((Int × Hnd) × List (Int × Hnd)) × Int) × List HRow) := seqK (fun s => XCode.runK (impl_PushAll.env N) N (impl_PushAll.c2) s (XFunc.endKH impl_PushAll.x)) (XFunc.endKH impl_PushAll.x)
def impl_PushAll.k1 (N : Nat) : Ex → S → Option ((((Int × Hnd) × List (Int × Hnd)) × Int) × List HRow) := blockK 0 (impl_PushAll.k2 N)
def impl_PushAll.L1 (N : Nat) (n1 : Nat) (l_ : List (Int × List Int)) (t13 : List (Int × List Int)) (t14 : Int) (t15 : Int) (o20 : Int) (o21 : Hnd) (o5 : List (Int × Hnd)) (D : List HRow) : Option ((((Int × Hnd) × List (Int × Hnd)) × Int) × List HRow) := loopK [.rename 6 5, .keep [1, 4, 6, 13, 14, 15], .drop 0, .drop 3, .drop 4, .drop 6, .norm] (fun s k => XCode.runK (impl_PushAll.env N) N impl_PushAll.c1 s k) n1
  { t := [.junk, .one (.sl false (.pair (.int .i64) (.list (.int .i64))) l_), .junk, .junk, .one (.ptr 1 0 0), .junk, .one (.ptr 2 0 0), .junk, .junk, .junk, .junk, .junk, .junk, .one (.sl false (.pair (.int .i64) (.list (.int .i64))) t13), .one (.int .i64 t14), .one (.int .i64 t15), .junk, .junk, .junk, .junk, .junk, .junk, .junk, .junk, .junk, .junk, .junk, .junk, .junk, .junk, .junk, .junk, .junk, .junk, .junk], h := [.absent 0, .box 0 false [.int .i64 (0 : Int), .nil, .nil], .box 0 false [.int .i64 o20, .hnd (.int .i64) o21, .ref 5 0 .all], .absent 0, .absent 0, .row 0 false true 12 (.pair (.int .i64) (.hnd (.int .i64))) o5, .absent 0], d := D }
  (impl_PushAll.k1 N)

theorem impl_PushAll.L1_eq (N : Nat) (n1 : Nat) (l_ : List (Int × List Int)) (t13 : List (Int × List Int)) (t14 : Int) (t15 : Int) (o20 : Int) (o21 : Hnd) (o5 : List (Int × Hnd)) (D : List HRow) : impl_PushAll.L1 N (n1 + 1) l_ t13 t14 t15 o20 o21 o5 D =
    bif decide (t15 < t14) then
      bif inRange t15 (List.length t13) then
      bif (hok D (.int .i64) o21) && (List.all o5 (Ty.unok D (.pair (.int .i64) (.hnd (.int .i64))))) then
      bindO (impl_PushReporth.H N (((o20, hcut D (.int .i64) o21), List.map (Ty.unden D (.pair (.int .i64) (.hnd (.int .i64)))) o5), (nth ((0 : Int), ([] : List Int)) t13 t15)) (hhide D)) fun r2 =>
      bif !r2.1.2 then
        some ((((o20, o21), o5), t15), hmerge D r2.2)
      else
        impl_PushAll.L1 N n1 l_ t13 t14 (IntKind.wrap .i64 (t15 + (1 : Int))) r2.1.1.1.1 r2.1.1.1.2 r2.1.1.2 (hmerge D r2.2)
      else none
      else none
    else
      some ((((o20, o21), o5), (List.length l_ : Int)), D) := by kernel_rfl
theorem impl_PushAll.H_eq (N : Nat) (p : (Int × List Int) × List (Int × List Int)) (l_ : List (Int × List Int)) (D : List HRow) : impl_PushAll.H N (p, l_) D =
    bindO (impl_copyPipeh.H N p (hhide D)) fun r1 =>
    impl_PushAll.L1 N N l_ l_ (List.length l_ : Int) (0 : Int) r1.1.1.1 r1.1.1.2 r1.1.2 (hmerge D r1.2) := by kernel_rfl

def laws_FnExactPushAll.x : XFunc := { nslots := 119, nobj := 8, pars := [.val true 3, .val false 1], rowsIn := [none, none, none, none], rets := [.tmp 4 false 1], outs := [.imm], fresh := true, arg := .pair (.pair (.pair (.int .i64) (.list (.int .i64))) (.list (.pair (.int .i64) (.list (.int .i64))))) (.list (.pair (.int .i64) (.list (.int .i64)))), ret := .bool, body := .seq (.region false [ow 2 (.box 0) [.slot 0] [0] [0], op 4 .move [.const (.one (.bool false))]]) (.seq (.region false [op 5 .move [.const (.one (.int .i64 (1048576 : Int)))]]) (.seq (.region false [ow 17 (.load true 3) [.slot 2] [0] [], mv 18 5, o2 19 (.call ⟨274, [.val true 3, .val false 1], no 4, [.val false 1], ims 1, true⟩) 17 18, mv 5 19]) (.seq (.seq (.region false [mv 20 5, op 21 (.bin .lss) [.slot 20, .const (.one (.int .i64 (0 : Int)))]]) (.cond (.slot 21) (.seq (.region false [op 4 .move [.const (.one (.bool true))]]) (.ret)) (.skip))) (.seq (.region false [mv 22 1, mv 23 5, o2 24 (.call ⟨273, vs 2, no 2, [.val false 1], ims 1, true⟩) 22 23, mv 5 24]) (.seq (.seq (.region false [mv 25 5, op 26 (.bin .lss) [.slot 25, .const (.one (.int .i64 (0 : Int)))]]) (.cond (.slot 26) (.seq (.region false [op 4 .move [.const (.one (.bool true))]]) (.ret)) (.skip))) (.seq (.region false [ow 28 (.load true 3) [.slot 2] [0] [], ow 29 (.callH false ⟨276, [.val true 3], no 3, [.val true 3], ims 3, true⟩) [.slot 28] [100] [100], mv 30 1, ow 31 (.callH false ⟨275, vs 1, no 1, [.val false 1], ims 1, true⟩) [.slot 30] [100] [100], ow 32 (.call ⟨380, [.val true 3, .val false 1], no 4, [.val true 3, .val false 1], ims 4, true⟩) [.slot 29, .slot 31] [100] [], mv 27 32, o1 33 (.extract 0) 27, o1 34 (.extract 1) 27, ow 6 (.alloc 1 [.int .i64 (0 : Int), .nil, .nil]) [] [1] [1], on (.store 3) [.slot 6, .slot 33] [1] [1], mv 7 34]) (.seq (.region false [ow 35 (.load true 3) [.slot 2] [0] [], ow 36 (.callH false ⟨276, [.val true 3], no 3, [.val true 3], [.imm, .imm, .own 4 12], true⟩) [.slot 35] [4, 100] [4, 100], ow 8 (.alloc 2 [.int .i64 (0 : Int), .nil, .nil]) [] [2] [2], on (.store 3) [.slot 8, .slot 36] [2] [2]]) (.seq (.region false [mv 37 1, ow 38 (.callH false ⟨275, vs 1, no 1, [.val false 1], [.own 5 12], true⟩) [.slot 37] [5, 100] [5, 100], mv 9 38]) (.seq (.region false [ow 40 (.load true 3) [.slot 8] [2] [], mv 41 9, ow 42 (.callH false ⟨381, [.val true 3, .val false 1], no 4, [.val true 3, .val false 1], [.imm, .imm, .own 6 12, .imm], true⟩) [.slot 40, .slot 41] [4, 5, 6, 100] [6, 100], mv 39 42, o1 43 (.extract 0) 39, o1 44 (.extract 1) 39, ow 10 (.alloc 3 [.int .i64 (0 : Int), .nil, .nil]) [] [3] [3], on (.store 3) [.slot 10, .slot 43] [3] [3], mv 11 44]) (.seq (.seq (.region false [ow 45 (.load true 3) [.slot 10] [3] [], ow 46 (.load true 3) [.slot 6] [1] [], ow 47 (.call ⟨281, [.val true 3, .val true 3], no 6, [.val false 1], ims 1, true⟩) [.slot 45, .slot 46] [6, 100] [], o1 48 .not 47, ⟨some 49, .move, [.slot 48], [], [], none, true, .none⟩, ⟨some 50, .move, [.slot 11], [], [], some (49, false), false, .none⟩, ⟨some 51, .move, [.slot 7], [], [], some (49, false), false, .none⟩, ⟨some 52, .bin .neq, [.slot 50, .slot 51], [], [], some (49, false), false, .none⟩, op 53 .pick [.slot 49, .const (.one (.bool true)), .slot 52]]) (.cond (.slot 53) (.seq (.region false [op 4 .move [.const (.one (.bool false))]]) (.ret)) (.skip))) (.seq (.seq (.region true [ow 54 (.load true 3) [.slot 8] [2] [], ow 55 (.load true 3) [.slot 2] [0] [], ow 56 (.callH false ⟨276, [.val true 3], no 3, [.val true 3], ims 3, true⟩) [.slot 55] [100] [100], ow 57 (.call ⟨281, [.val true 3, .val true 3], no 6, [.val false 1], ims 1, true⟩) [.slot 54, .slot 56] [4, 100] [], o1 58 .not 57]) (.cond (.slot 58) (.seq (.region false [op 4 .move [.const (.one (.bool false))]]) (.ret)) (.skip))) (.seq (.seq (.region false [mv 59 9, mv 60 1, ow 61 (.callH false ⟨275, vs 1, no 1, [.val false 1], ims 1, true⟩) [.slot 60] [100] [100], ow 62 (.call ⟨280, vs 2, no 2, [.val false 1], ims 1, true⟩) [.slot 59, .slot 61] [5, 100] [], o1 63 .not 62]) (.cond (.slot 63) (.seq (.region false [op 4 .move [.const (.one (.bool false))]]) (.ret)) (.skip))) (.seq (.region false [op 12 .move [.const (.one (.int .i64 (1 : Int)))]]) (.seq (.region false [ow 64 (.load true 3) [.slot 8] [2] [], mv 65 12, ow 66 (.callH true ⟨338, [.val true 3, .val false 1], [none, none, some (4, 12), none], [.val false 1], [.imm, .back 4], false⟩) [.slot 64, .slot 65] [4, 100] [4, 100], mv 12 66]) (.seq (.region false [mv 67 9, mv 68 12, ow 69 (.callH true ⟨337, vs 2, [some (5, 12), none], [.val false 1], [.imm, .back 5], false⟩) [.slot 67, .slot 68] [5, 100] [5, 100], mv 12 69]) (.seq (.seq (.region false [mv 70 12, op 71 (.bin .lss) [.slot 70, .const (.one (.int .i64 (0 : Int)))], ⟨some 72, .move, [.slot 71], [], [], none, true, .none⟩, ⟨some 73, .load true 3, [.slot 10], [3], [], some (72, false), false, .none⟩, ⟨some 74, .load true 3, [.slot 6], [1], [], some (72, false), false, .none⟩, ⟨some 75, .call ⟨281, [.val true 3, .val true 3], no 6, [.val false 1], ims 1, true⟩, [.slot 73, .slot 74], [6, 100], [], some (72, false), false, .none⟩, ⟨some 76, .not, [.slot 75], [], [], some (72, false), false, .none⟩, op 77 .pick [.slot 72, .const (.one (.bool true)), .slot 76], ⟨some 78, .move, [.slot 77], [], [], none, true, .none⟩, ⟨some 79, .move, [.slot 11], [], [], some (78, false), false, .none⟩, ⟨some 80, .move, [.slot 7], [], [], some (78, false), false, .none⟩, ⟨some 81, .bin .neq, [.slot 79, .slot 80], [], [], some (78, false), false, .none⟩, op 82 .pick [.slot 78, .const (.one (.bool true)), .slot 81]]) (.cond (.slot 82) (.seq (.region false [op 4 .move [.const (.one (.bool false))]]) (.ret)) (.skip))) (.seq (.region false [op 13 .move [.const (.one (.int .i64 (1 : Int)))]]) (.seq (.region false [ow 83 (.load true 3) [.slot 10] [3] [], mv 84 13, ow 85 (.callH true ⟨338, [.val true 3, .val false 1], [none, none, some (6, 12), none], [.val false 1], [.imm, .back 6], false⟩) [.slot 83, .slot 84] [6, 100] [6, 100], mv 13 85]) (.seq (.region false [op 14 .move [.const (.one (.int .i64 (1 : Int)))]]) (.seq (.region false [ow 86 (.load true 3) [.slot 10] [3] [], mv 87 14, ow 88 (.call ⟨341, [.val true 3, .val false 1], no 4, [.val false 1], ims 1, true⟩) [.slot 86, .slot 87] [6, 100] [], mv 14 88]) (.seq (.seq (.region false [mv 89 14, op 90 (.bin .lss) [.slot 89, .const (.one (.int .i64 (0 : Int)))]]) (.cond (.slot 90) (.seq (.region false [op 4 .move [.const (.one (.bool false))]]) (.ret)) (.skip))) (.seq (.seq (.region false [mv 91 14, mv 92 13, o2 93 (.bin .neq) 91 92]) (.cond (.slot 93) (.seq (.region false [op 4 .move [.const (.one (.bool false))]]) (.ret)) (.skip))) (.seq (.region false [ow 95 (.load true 3) [.slot 2] [0] [], ow 96 (.callH false ⟨276, [.val true 3], no 3, [.val true 3], ims 3, true⟩) [.slot 95] [100] [100], mv 97 1, ow 98 (.callH false ⟨275, vs 1, no 1, [.val false 1], ims 1, true⟩) [.slot 97] [100] [100], ow 99 (.callH false ⟨381, [.val true 3, .val false 1], no 4, [.val true 3, .val false 1], ims 4, true⟩) [.slot 96, .slot 98] [100] [100], mv 94 99, o1 100 (.extract 0) 94, o1 101 (.extract 1) 94, ow 15 (.alloc 7 [.int .i64 (0 : Int), .nil, .nil]) [] [7] [7], on (.store 3) [.slot 15, .slot 100] [7] [7], mv 16 101]) (.seq (.seq (.region false [ow 102 (.load true 3) [.slot 15] [7] [], ow 103 (.load true 3) [.slot 6] [1] [], ow 104 (.call ⟨281, [.val true 3, .val true 3], no 6, [.val false 1], ims 1, true⟩) [.slot 102, .slot 103] [100] [], o1 105 .not 104, ⟨some 106, .move, [.slot 105], [], [], none, true, .none⟩, ⟨some 107, .move, [.slot 16], [], [], some (106, false), false, .none⟩, ⟨some 108, .move, [.slot 7], [], [], some (106, false), false, .none⟩, ⟨some 109, .bin .neq, [.slot 107, .slot 108], [], [], some (106, false), false, .none⟩, op 110 .pick [.slot 106, .const (.one (.bool true)), .slot 109]]) (.cond (.slot 110) (.seq (.region false [op 4 .move [.const (.one (.bool false))]]) (.ret)) (.skip))) (.seq (.region false [op 14 .move [.const (.one (.int .i64 (1 : Int)))]]) (.seq (.region false [ow 111 (.load true 3) [.slot 10] [3] [], mv 112 14, ow 113 (.call ⟨341, [.val true 3, .val false 1], no 4, [.val false 1], ims 1, true⟩) [.slot 111, .slot 112] [6, 100] [], mv 14 113]) (.seq (.seq (.region false [mv 114 14, op 115 (.bin .lss) [.slot 114, .const (.one (.int .i64 (0 : Int)))]]) (.cond (.slot 115) (.seq (.region false [op 4 .move [.const (.one (.bool false))]]) (.ret)) (.skip))) (.seq (.seq (.region false [mv 116 14, mv 117 13, o2 118 (.bin .neq) 116 117]) (.cond (.slot 118) (.seq (.region false [op 4 .move [.const (.one (.bool false))]]) (.ret)) (.skip))) (.seq (.region false [op 4 .move [.const (.one (.bool true))]]) (.ret)))))))))))))))))))))))))))))) }
def laws_FnExactPushAll.env (N : Nat) : Env := envOf (tbl [(381, impl_PushAll.fs N), (281, laws_eqPipe.fs N), (280, laws_eqReportS.fs N), (341, laws_heldPipe.fs N), (338, laws_markPipe.fs N), (337, laws_markReportS.fs N), (274, laws_szPipe.fs N), (273, laws_szReportS.fs N), (276, laws_toPipeh.fs N), (275, laws_toReportSh.fs N), (380, spec_PushAll.fs N)] noFS)
def laws_FnExactPushAll.F (N : Nat) (x : ((Int × List Int) × List (Int × List Int)) × List (Int × List Int)) : Option Bool := XFunc.run laws_FnExactPushAll.x (laws_FnExactPushAll.env N) N x
def laws_FnExactPushAll.fs (N : Nat) : FS := { arg := .pair (.pair (.pair (.int .i64) (.list (.int .i64))) (.list (.pair (.int .i64) (.list (.int .i64))))) (.list (.pair (.int .i64) (.list (.int .i64)))), ret := .bool, fresh := true, F := laws_FnExactPushAll.F N }

theorem laws_FnExactPushAll.F_eq (N : Nat) (aP : (Int × List Int) × List (Int × List Int)) (aL : List (Int × List Int)) : laws_FnExactPushAll.F N (aP, aL) =
    bindO (laws_szPipe.F N (aP, (1048576 : Int))) fun r1 =>
    bif decide (r1 < (0 : Int)) then
      some true
    else
      bindO (laws_szReportS.F N (aL, r1)) fun r2 =>
      bif decide (r2 < (0 : Int)) then
        some true
      else
        bindO (laws_toPipeh.H N aP (hhide ([] : List HRow))) fun r3 =>
        bindO (laws_toReportSh.H N aL (hhide (hmerge ([] : List HRow) r3.2))) fun r4 =>
        bif (hok (hmerge (hmerge ([] : List HRow) r3.2) r4.2) (.int .i64) r3.1.1.2) && ((List.all r3.1.2 (Ty.unok (hmerge (hmerge ([] : List HRow) r3.2) r4.2) (.pair (.int .i64) (.hnd (.int .i64))))) && (List.all r4.1 (Ty.unok (hmerge (hmerge ([] : List HRow) r3.2) r4.2) (.pair (.int .i64) (.hnd (.int .i64)))))) then
        bindO (spec_PushAll.F N (((r3.1.1.1, hcut (hmerge (hmerge ([] : List HRow) r3.2) r4.2) (.int .i64) r3.1.1.2), List.map (Ty.unden (hmerge (hmerge ([] : List HRow) r3.2) r4.2) (.pair (.int .i64) (.hnd (.int .i64)))) r3.1.2), List.map (Ty.unden (hmerge (hmerge ([] : List HRow) r3.2) r4.2) (.pair (.int .i64) (.hnd (.int .i64)))) r4.1)) fun r5 =>
        bindO (laws_toPipeh.H N aP (hhide (hmerge (hmerge ([] : List HRow) r3.2) r4.2))) fun r6 =>
        bindO (laws_toReportSh.H N aL (hhide (hmerge (hmerge (hmerge ([] : List HRow) r3.2) r4.2) r6.2))) fun r7 =>
        bif (hok (hmerge (hmerge (hmerge (hmerge ([] : List HRow) r3.2) r4.2) r6.2) r7.2) (.int .i64) r6.1.1.2) && ((List.all r6.1.2 (Ty.unok (hmerge (hmerge (hmerge (hmerge ([] : List HRow) r3.2) r4.2) r6.2) r7.2) (.pair (.int .i64) (.hnd (.int .i64))))) && (List.all r7.1 (Ty.unok (hmerge (hmerge (hmerge (hmerge ([] : List HRow) r3.2) r4.2) r6.2) r7.2) (.pair (.int .i64) (.hnd (.int .i64)))))) then
        bindO (impl_PushAll.H N (((r6.1.1.1, hcut (hmerge (hmerge (hmerge (hmerge ([] : List HRow) r3.2) r4.2) r6.2) r7.2) (.int .i64) r6.1.1.2), List.map (Ty.unden (hmerge (hmerge (hmerge (hmerge ([] : List HRow) r3.2) r4.2) r6.2) r7.2) (.pair (.int .i64) (.hnd (.int .i64)))) r6.1.2), List.map (Ty.unden (hmerge (hmerge (hmerge (hmerge ([] : List HRow) r3.2) r4.2) r6.2) r7.2) (.pair (.int .i64) (.hnd (.int .i64)))) r7.1) (hhide (hmerge (hmerge (hmerge (hmerge ([] : List HRow) r3.2) r4.2) r6.2) r7.2))) fun r8 =>
        bif (hok (hmerge (hmerge (hmerge (hmerge (hmerge ([] : List HRow) r3.2) r4.2) r6.2) r7.2) r8.2) (.int .i64) r8.1.1.1.2) && (List.all r8.1.1.2 (Ty.unok (hmerge (hmerge (hmerge (hmerge (hmerge ([] : List HRow) r3.2) r4.2) r6.2) r7.2) r8.2) (.pair (.int .i64) (.hnd (.int .i64))))) then
        bindO (laws_eqPipe.F N (((r8.1.1.1.1, hcut (hmerge (hmerge (hmerge (hmerge (hmerge ([] : List HRow) r3.2) r4.2) r6.2) r7.2) r8.2) (.int .i64) r8.1.1.1.2), List.map (Ty.unden (hmerge (hmerge (hmerge (hmerge (hmerge ([] : List HRow) r3.2) r4.2) r6.2) r7.2) r8.2) (.pair (.int .i64) (.hnd (.int .i64)))) r8.1.1.2), r5.1)) fun r9 =>
        bif !r9 then
          some false
        else
          bif r8.1.2 != r5.2 then
            some false
          else
            bindO (laws_toPipeh.H N aP (hhide (hmerge (hmerge (hmerge (hmerge (hmerge ([] : List HRow) r3.2) r4.2) r6.2) r7.2) r8.2))) fun r10 =>
            bif (hok (hmerge (hmerge (hmerge (hmerge (hmerge (hmerge ([] : List HRow) r3.2) r4.2) r6.2) r7.2) r8.2) r10.2) (.int .i64) r6.1.1.2) && ((List.all r6.1.2 (Ty.unok (hmerge (hmerge (hmerge (hmerge (hmerge (hmerge ([] : List HRow) r3.2) r4.2) r6.2) r7.2) r8.2) r10.2) (.pair (.int .i64) (.hnd (.int .i64))))) && ((hok (hmerge (hmerge (hmerge (hmerge (hmerge (hmerge ([] : List HRow) r3.2) r4.2) r6.2) r7.2) r8.2) r10.2) (.int .i64) r10.1.1.2) && (List.all r10.1.2 (Ty.unok (hmerge (hmerge (hmerge (hmerge (hmerge (hmerge ([] : List HRow) r3.2) r4.2) r6.2) r7.2) r8.2) r10.2) (.pair (.int .i64) (.hnd (.int .i64))))))) then
            bindO (laws_eqPipe.F N (((r6.1.1.1, hcut (hmerge (hmerge (hmerge (hmerge (hmerge (hmerge ([] : List HRow) r3.2) r4.2) r6.2) r7.2) r8.2) r10.2) (.int .i64) r6.1.1.2), List.map (Ty.unden (hmerge (hmerge (hmerge (hmerge (hmerge (hmerge ([] : List HRow) r3.2) r4.2) r6.2) r7.2) r8.2) r10.2) (.pair (.int .i64) (.hnd (.int .i64)))) r6.1.2), ((r10.1.1.1, hcut (hmerge (hmerge (hmerge (hmerge (hmerge (hmerge ([] : List HRow) r3.2) r4.2) r6.2) r7.2) r8.2) r10.2) (.int .i64) r10.1.1.2), List.map (Ty.unden (hmerge (hmerge (hmerge (hmerge (hmerge (hmerge ([] : List HRow) r3.2) r4.2) r6.2) r7.2) r8.2) r10.2) (.pair (.int .i64) (.hnd (.int .i64)))) r10.1.2))) fun r11 =>
            bif !r11 then
              some false
            else
              bindO (laws_toReportSh.H N aL (hhide (hmerge (hmerge (hmerge (hmerge (hmerge (hmerge ([] : List HRow) r3.2) r4.2) r6.2) r7.2) r8.2) r10.2))) fun r12 =>
              bif (List.all r7.1 (Ty.unok (hmerge (hmerge (hmerge (hmerge (hmerge (hmerge (hmerge ([] : List HRow) r3.2) r4.2) r6.2) r7.2) r8.2) r10.2) r12.2) (.pair (.int .i64) (.hnd (.int .i64))))) && (List.all r12.1 (Ty.unok (hmerge (hmerge (hmerge (hmerge (hmerge (hmerge (hmerge ([] : List HRow) r3.2) r4.2) r6.2) r7.2) r8.2) r10.2) r12.2) (.pair (.int .i64) (.hnd (.int .i64))))) then
              bindO (laws_eqReportS.F N (List.map (Ty.unden (hmerge (hmerge (hmerge (hmerge (hmerge (hmerge (hmerge ([] : List HRow) r3.2) r4.2) r6.2) r7.2) r8.2) r10.2) r12.2) (.pair (.int .i64) (.hnd (.int .i64)))) r7.1, List.map (Ty.unden (hmerge (hmerge (hmerge (hmerge (hmerge (hmerge (hmerge ([] : List HRow) r3.2) r4.2) r6.2) r7.2) r8.2) r10.2) r12.2) (.pair (.int .i64) (.hnd (.int .i64)))) r12.1)) fun r13 =>
              bif !r13 then
                some false
              else
                bindO (laws_markPipe.H N (r6.1, (1 : Int)) (hmerge (hmerge (hmerge (hmerge (hmerge (hmerge (hmerge ([] : List HRow) r3.2) r4.2) r6.2) r7.2) r8.2) r10.2) r12.2)) fun r14 =>
                bindO (laws_markReportS.H N (r7.1, r14.1.1) r14.2) fun r15 =>
                bif decide (r15.1.1 < (0 : Int)) then
                  some false
                else
                  bif (hok r15.2 (.int .i64) r8.1.1.1.2) && (List.all r8.1.1.2 (Ty.unok r15.2 (.pair (.int .i64) (.hnd (.int .i64))))) then
                  bindO (laws_eqPipe.F N (((r8.1.1.1.1, hcut r15.2 (.int .i64) r8.1.1.1.2), List.map (Ty.unden r15.2 (.pair (.int .i64) (.hnd (.int .i64)))) r8.1.1.2), r5.1)) fun r16 =>
                  bif !r16 then
                    some false
                  else
                    bif r8.1.2 != r5.2 then
                      some false
                    else
                      bindO (laws_markPipe.H N (r8.1.1, (1 : Int)) r15.2) fun r17 =>
                      bif (hok r17.2 (.int .i64) r8.1.1.1.2) && (List.all r17.1.2 (Ty.unok r17.2 (.pair (.int .i64) (.hnd (.int .i64))))) then
                      bindO (laws_heldPipe.F N (((r8.1.1.1.1, hcut r17.2 (.int .i64) r8.1.1.1.2), List.map (Ty.unden r17.2 (.pair (.int .i64) (.hnd (.int .i64)))) r17.1.2), (1 : Int))) fun r18 =>
                      bif decide (r18 < (0 : Int)) then
                        some false
                      else
                        bif r18 != r17.1.1 then
                          some false
                        else
                          bindO (laws_toPipeh.H N aP (hhide r17.2)) fun r19 =>
                          bindO (laws_toReportSh.H N aL (hhide (hmerge r17.2 r19.2))) fun r20 =>
                          bif (hok (hmerge (hmerge r17.2 r19.2) r20.2) (.int .i64) r19.1.1.2) && ((List.all r19.1.2 (Ty.unok (hmerge (hmerge r17.2 r19.2) r20.2) (.pair (.int .i64) (.hnd (.int .i64))))) && (List.all r20.1 (Ty.unok (hmerge (hmerge r17.2 r19.2) r20.2) (.pair (.int .i64) (.hnd (.int .i64)))))) then
                          bindO (impl_PushAll.H N (((r19.1.1.1, hcut (hmerge (hmerge r17.2 r19.2) r20.2) (.int .i64) r19.1.1.2), List.map (Ty.unden (hmerge (hmerge r17.2 r19.2) r20.2) (.pair (.int .i64) (.hnd (.int .i64)))) r19.1.2), List.map (Ty.unden (hmerge (hmerge r17.2 r19.2) r20.2) (.pair (.int .i64) (.hnd (.int .i64)))) r20.1) (hhide (hmerge (hmerge r17.2 r19.2) r20.2))) fun r21 =>
                          bif (hok (hmerge (hmerge (hmerge r17.2 r19.2) r20.2) r21.2) (.int .i64) r21.1.1.1.2) && (List.all r21.1.1.2 (Ty.unok (hmerge (hmerge (hmerge r17.2 r19.2) r20.2) r21.2) (.pair (.int .i64) (.hnd (.int .i64))))) then
                          bindO (laws_eqPipe.F N (((r21.1.1.1.1, hcut (hmerge (hmerge (hmerge r17.2 r19.2) r20.2) r21.2) (.int .i64) r21.1.1.1.2), List.map (Ty.unden (hmerge (hmerge (hmerge r17.2 r19.2) r20.2) r21.2) (.pair (.int .i64) (.hnd (.int .i64)))) r21.1.1.2), r5.1)) fun r22 =>
                          bif !r22 then
                            some false
                          else
                            bif r21.1.2 != r5.2 then
                              some false
                            else
                              bif (hok (hmerge (hmerge (hmerge r17.2 r19.2) r20.2) r21.2) (.int .i64) r8.1.1.1.2) && (List.all r17.1.2 (Ty.unok (hmerge (hmerge (hmerge r17.2 r19.2) r20.2) r21.2) (.pair (.int .i64) (.hnd (.int .i64))))) then
                              bindO (laws_heldPipe.F N (((r8.1.1.1.1, hcut (hmerge (hmerge (hmerge r17.2 r19.2) r20.2) r21.2) (.int .i64) r8.1.1.1.2), List.map (Ty.unden (hmerge (hmerge (hmerge r17.2 r19.2) r20.2) r21.2) (.pair (.int .i64) (.hnd (.int .i64)))) r17.1.2), (1 : Int))) fun r23 =>
                              bif decide (r23 < (0 : Int)) then
                                some false
                              else
                                bif r23 != r17.1.1 then
                                  some false
                                else
                                  some true
                              else none
                          else none
                          else none
                      else none
                  else none
              else none
            else none
        else none
        else none
        else none := by kernel_rfl

end Go.Kb
