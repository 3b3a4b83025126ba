/- The texts of functions, printed by a program, and the equations of their runs. -/
import Derived.Test.YtokploahoidhoabExactTakeReportF1
import Derived.Test.YtokploahoidhoabExactTakeReportF2
import Derived.Test.YtokploahoidhoabExactTakeReportF3
import Derived.KernelRfl
namespace Go.Kb
def laws_toReportSh.c1 : XCode := .seq (.seq (.region false [mv 8 4, mv 9 0, o1 10 .len 9, o2 11 (.bin .lss) 8 10]) (.cond (.slot 11) (.skip) (.exit 0))) (.seq (.block 1 (.region false [mv 14 3, mv 15 4, mv 16 0, mv 17 4, o2 18 (.indexAddr (.pair (.int .i64) (.list (.int .i64)))) 16 17, o1 19 (.load true 2) 18, ⟨some 20, .call ⟨259, [.val true 2], no 2, [.val true 2], [.imm, .own 1 2], true⟩, [.slot 19], [1, 100], [1], none, false, .pub 1⟩, ow 21 (.indexAddr (.pair (.int .i64) (.hnd (.int .i64)))) [.slot 14, .slot 15] [0] [], on (.store 2) [.slot 21, .slot 20] [0] [0]])) (.region false [mv 12 4, op 13 (.bin .add) [.slot 12, .const (.one (.int .i64 (1 : Int)))], mv 4 13]))
def laws_toReportSh.c2 : XCode := .seq (.region false [mv 22 3, mv 2 22]) (.ret)
def laws_toReportSh.x : XFunc := { nslots := 23, nobj := 2, pars := [.val false 1], rowsIn := [none], rets := [.tmp 2 false 1], outs := [.own 12], fresh := true, arg := .list (.pair (.int .i64) (.list (.int .i64))), ret := .list (.pair (.int .i64) (.hnd (.int .i64))), body := .seq (.region false [op 2 .move [.const (.one (.nil))]]) (.seq (.region false [mv 5 0, o1 6 .len 5, ow 7 (.makeSlice 0 12 (.pair (.int .i64) (.hnd (.int .i64)))) [.slot 6, .slot 6] [0] [0], mv 3 7]) (.seq (.seq (.region false [op 4 .move [.const (.one (.int .i64 (0 : Int)))]]) (.block 0 (.loop [.keep [0, 3, 4], .drop 1, .norm] (laws_toReportSh.c1)))) (laws_toReportSh.c2))), hp := true }
def laws_toReportSh.env (N : Nat) : Env := envOf (tbl [(259, laws_toReport.fs N)] noFS)
def laws_toReportSh.H (N : Nat) (x : List (Int × List Int)) (D : List HRow) : Option ((List (Int × Hnd)) × List HRow) := XFunc.runH laws_toReportSh.x (laws_toReportSh.env N) N x D
def laws_toReportSh.fs (N : Nat) : FS := { arg := .list (.pair (.int .i64) (.list (.int .i64))), ret := .list (.pair (.int .i64) (.hnd (.int .i64))), fresh := true, F := fun _ => none, hp := true, H := laws_toReportSh.H N }
def laws_toReportSh.k2 (N : Nat) : Ex → S → Option ((List (Int × Hnd)) × List HRow) := seqK (fun s => XCode.runK (laws_toReportSh.env N) N (laws_toReportSh.c2) s (XFunc.endKH laws_toReportSh.x)) (XFunc.endKH laws_toReportSh.x)
def laws_toReportSh.k1 (N : Nat) : Ex → S → Option ((List (Int × Hnd)) × List HRow) := blockK 0 (laws_toReportSh.k2 N)
def laws_toReportSh.L1 (N : Nat) (n1 : Nat) (a : List (Int × List Int)) (i : Int) (o0 : List (Int × Hnd)) (D : List HRow) : Option ((List (Int × Hnd)) × List HRow) := loopK [.keep [0, 3, 4], .drop 1, .norm] (fun s k => XCode.runK (laws_toReportSh.env N) N laws_toReportSh.c1 s k) n1
  { t := [.one (.sl false (.pair (.int .i64) (.list (.int .i64))) a), .junk, .junk, .one (.ref 0 0 .all), .one (.int .i64 i), .junk, .junk, .junk, .junk, .junk, .junk, .junk, .junk, .junk, .junk, .junk, .junk, .junk, .junk, .junk, .junk, .junk, .junk], h := [.row 0 false true 12 (.pair (.int .i64) (.hnd (.int .i64))) o0, .absent 0], d := D }
  (laws_toReportSh.k1 N)

theorem laws_toReportSh.L1_eq (N : Nat) (n1 : Nat) (a : List (Int × List Int)) (i : Int) (o0 : List (Int × Hnd)) (D : List HRow) : laws_toReportSh.L1 N (n1 + 1) a i o0 D =
    bif decide (i < (List.length a : Int)) then
      bif inRange i (List.length a) then
      bindO (laws_toReport.F N (nth ((0 : Int), ([] : List Int)) a i)) fun r1 =>
      bif inRange i (List.length o0) then
      laws_toReportSh.L1 N n1 a (IntKind.wrap .i64 (i + (1 : Int))) (List.set o0 (Int.toNat i) (r1.1, (some (List.length D, 0, List.length r1.2) : Hnd))) (D ++ [HRow.row 2 (.int .i64) r1.2])
      else none
      else none
    else
      some (o0, D) := by kernel_rfl
theorem laws_toReportSh.H_eq (N : Nat) (a : List (Int × List Int)) (D : List HRow) : laws_toReportSh.H N a D =
    bif decide (0 ≤ (List.length a : Int)) && decide ((List.length a : Int) ≤ (maxN : Int)) then
    laws_toReportSh.L1 N N a (0 : Int) (List.replicate (Int.toNat (List.length a : Int)) ((0 : Int), (none : Hnd))) D
    else none := by kernel_rfl

def laws_toPipeh.x : XFunc := { nslots := 13, nobj := 5, pars := [.val true 3], rowsIn := [none, none, none], rets := [.var 2 true 3], outs := [.imm, .imm, .own 12], fresh := true, arg := .pair (.pair (.int .i64) (.list (.int .i64))) (.list (.pair (.int .i64) (.list (.int .i64)))), ret := .pair (.pair (.int .i64) (.hnd (.int .i64))) (.list (.pair (.int .i64) (.hnd (.int .i64)))), body := .seq (.region false [ow 1 (.box 0) [.slot 0] [0] [0], ow 2 (.alloc 1 [.int .i64 (0 : Int), .nil, .nil]) [] [1] [1]]) (.seq (.region false [ow 3 (.alloc 2 [.int .i64 (0 : Int), .nil, .nil]) [] [2] [2]]) (.seq (.region false [o1 4 (.fieldAddr 0) 1, ow 5 (.load true 2) [.slot 4] [0] [], ⟨some 6, .call ⟨259, [.val true 2], no 2, [.val true 2], [.imm, .own 3 2], true⟩, [.slot 5], [3, 100], [3], none, false, .pub 3⟩, o1 7 (.fieldAddr 0) 3, on (.store 2) [.slot 7, .slot 6] [2] [2]]) (.seq (.region false [o1 8 (.fieldAddr 2) 1, ow 9 (.load false 1) [.slot 8] [0] [], ow 10 (.callH false ⟨275, vs 1, no 1, [.val false 1], [.own 4 12], true⟩) [.slot 9] [4, 100] [4, 100], o1 11 (.fieldAddr 2) 3, on (.store 1) [.slot 11, .slot 10] [2] [2]]) (.seq (.region false [ow 12 (.load true 3) [.slot 3] [2] [], on (.store 3) [.slot 2, .slot 12] [1] [1]]) (.ret))))), hp := true }
def laws_toPipeh.env (N : Nat) : Env := envOf (tbl [(259, laws_toReport.fs N), (275, laws_toReportSh.fs N)] noFS)
def laws_toPipeh.H (N : Nat) (x : (Int × List Int) × List (Int × List Int)) (D : List HRow) : Option (((Int × Hnd) × List (Int × Hnd)) × List HRow) := XFunc.runH laws_toPipeh.x (laws_toPipeh.env N) N x D
def laws_toPipeh.fs (N : Nat) : FS := { arg := .pair (.pair (.int .i64) (.list (.int .i64))) (.list (.pair (.int .i64) (.list (.int .i64)))), ret := .pair (.pair (.int .i64) (.hnd (.int .i64))) (.list (.pair (.int .i64) (.hnd (.int .i64)))), fresh := true, F := fun _ => none, hp := true, H := laws_toPipeh.H N }

theorem laws_toPipeh.H_eq (N : Nat) (a : (Int × List Int) × List (Int × List Int)) (D : List HRow) : laws_toPipeh.H N a D =
    bindO (laws_toReport.F N a.1) fun r1 =>
    bindO (laws_toReportSh.H N a.2 (hhide (D ++ [HRow.row 2 (.int .i64) r1.2]))) fun r2 =>
    some (((r1.1, (some (List.length D, 0, List.length r1.2) : Hnd)), r2.1), hmerge (D ++ [HRow.row 2 (.int .i64) r1.2]) r2.2) := by kernel_rfl

def spec_l7Copy.x : XFunc := { nslots := 10, nobj := 3, pars := [.val true 2], rowsIn := [none, none], rets := [.var 2 true 2], outs := [.imm, .own 2], fresh := true, arg := .pair (.int .i64) (.list (.int .i64)), ret := .pair (.int .i64) (.list (.int .i64)), body := .seq (.region false [ow 1 (.box 0) [.slot 0] [0] [0], ow 2 (.alloc 1 [.int .i64 (0 : Int), .nil]) [] [1] [1]]) (.seq (.region true [o1 3 (.fieldAddr 0) 1, ow 4 (.load false 1) [.slot 3] [0] [], ow 5 (.buildSlice false 2 2 (.int .i64) 0 [] [.int .i64 (0 : Int)]) [] [2] [2], o1 6 (.fieldAddr 1) 1, ow 7 (.load false 1) [.slot 6] [0] [], ow 8 (.append false 2 2 (.int .i64)) [.slot 5, .slot 7] [2] [2], o2 9 (.build [.int .i64 (0 : Int), .nil] [(0, 1), (1, 1)]) 4 8, on (.store 2) [.slot 2, .slot 9] [1] [1]]) (.ret)) }
def spec_l7Copy.env (_ : Nat) : Env := envOf (tbl [] noFS)
def spec_l7Copy.F (N : Nat) (x : Int × List Int) : Option (Int × List Int) := XFunc.run spec_l7Copy.x (spec_l7Copy.env N) N x
def spec_l7Copy.fs (N : Nat) : FS := { arg := .pair (.int .i64) (.list (.int .i64)), ret := .pair (.int .i64) (.list (.int .i64)), fresh := true, F := spec_l7Copy.F N }

theorem spec_l7Copy.F_eq (N : Nat) (r_ : Int × List Int) : spec_l7Copy.F N r_ =
    bif decide (List.length ([] : List Int) + List.length r_.2 ≤ maxN) then
    some (r_.1, ([] : List Int) ++ r_.2)
    else none := by kernel_rfl

def spec_l13Copy.c1 : XCode := .seq (.seq (.region false [mv 9 4, o1 10 (.fieldAddr 2) 1, ow 11 (.load false 1) [.slot 10] [0] [], o1 12 .len 11, o2 13 (.bin .lss) 9 12]) (.cond (.slot 13) (.skip) (.exit 0))) (.seq (.block 1 (.region true [o1 16 (.fieldAddr 2) 3, ow 17 (.load false 1) [.slot 16] [2] [], o1 18 (.fieldAddr 2) 1, ow 19 (.load false 1) [.slot 18] [0] [], mv 20 4, o2 21 (.indexAddr (.pair (.int .i64) (.list (.int .i64)))) 19 20, o1 22 (.load true 2) 21, o1 23 (.call ⟨314, [.val true 2], no 2, [.val true 2], ims 2, true⟩) 22, ow 24 (.buildSlice false 3 12 (.pair (.int .i64) (.list (.int .i64))) 1 [(0, 2)] [.int .i64 (0 : Int), .nil]) [.slot 23] [3] [3], ow 25 (.append false 4 12 (.pair (.int .i64) (.list (.int .i64)))) [.slot 17, .slot 24] [3, 4] [4], o1 26 (.fieldAddr 2) 3, on (.store 1) [.slot 26, .slot 25] [2] [2]])) (.region false [mv 14 4, op 15 (.bin .add) [.slot 14, .const (.one (.int .i64 (1 : Int)))], mv 4 15]))
def spec_l13Copy.c2 : XCode := .seq (.region false [ow 27 (.load true 3) [.slot 3] [2] [], on (.store 3) [.slot 2, .slot 27] [1] [1]]) (.ret)
def spec_l13Copy.x : XFunc := { nslots := 28, nobj := 5, pars := [.val true 3], rowsIn := [none, none, none], rets := [.var 2 true 3], outs := [.imm, .imm, .own 12], fresh := true, arg := .pair (.pair (.int .i64) (.list (.int .i64))) (.list (.pair (.int .i64) (.list (.int .i64)))), ret := .pair (.pair (.int .i64) (.list (.int .i64))) (.list (.pair (.int .i64) (.list (.int .i64)))), body := .seq (.region false [ow 1 (.box 0) [.slot 0] [0] [0], ow 2 (.alloc 1 [.int .i64 (0 : Int), .nil, .nil]) [] [1] [1]]) (.seq (.region false [o1 5 (.fieldAddr 0) 1, ow 6 (.load true 2) [.slot 5] [0] [], o1 7 (.call ⟨314, [.val true 2], no 2, [.val true 2], ims 2, true⟩) 6, o1 8 (.build [.int .i64 (0 : Int), .nil, .nil] [(0, 2)]) 7, ow 3 (.alloc 2 [.int .i64 (0 : Int), .nil, .nil]) [] [2] [2], on (.store 3) [.slot 3, .slot 8] [2] [2]]) (.seq (.seq (.region false [op 4 .move [.const (.one (.int .i64 (0 : Int)))]]) (.block 0 (.loop [.mkrow (.boxc 2 2) 4 12 (.pair (.int .i64) (.list (.int .i64))), .keep [1, 2, 3, 4], .drop 3, .norm] (spec_l13Copy.c1)))) (spec_l13Copy.c2))) }
def spec_l13Copy.env (N : Nat) : Env := envOf (tbl [(314, spec_l7Copy.fs N)] noFS)
def spec_l13Copy.F (N : Nat) (x : (Int × List Int) × List (Int × List Int)) : Option ((Int × List Int) × List (Int × List Int)) := XFunc.run spec_l13Copy.x (spec_l13Copy.env N) N x
def spec_l13Copy.fs (N : Nat) : FS := { arg := .pair (.pair (.int .i64) (.list (.int .i64))) (.list (.pair (.int .i64) (.list (.int .i64)))), ret := .pair (.pair (.int .i64) (.list (.int .i64))) (.list (.pair (.int .i64) (.list (.int .i64)))), fresh := true, F := spec_l13Copy.F N }
def spec_l13Copy.k2 (N : Nat) : Ex → S → Option ((Int × List Int) × List (Int × List Int)) := seqK (fun s => XCode.runK (spec_l13Copy.env N) N (spec_l13Copy.c2) s (XFunc.endK spec_l13Copy.x)) (XFunc.endK spec_l13Copy.x)
def spec_l13Copy.k1 (N : Nat) : Ex → S → Option ((Int × List Int) × List (Int × List Int)) := blockK 0 (spec_l13Copy.k2 N)
def spec_l13Copy.L1 (N : Nat) (n1 : Nat) (i : Int) (o00 : Int) (o01 : List Int) (o02 : List (Int × List Int)) (o20 : Int) (o21 : List Int) (o4 : List (Int × List Int)) : Option ((Int × List Int) × List (Int × List Int)) := loopK [.mkrow (.boxc 2 2) 4 12 (.pair (.int .i64) (.list (.int .i64))), .keep [1, 2, 3, 4], .drop 3, .norm] (fun s k => XCode.runK (spec_l13Copy.env N) N spec_l13Copy.c1 s k) n1
  { t := [.junk, .one (.ptr 0 0 0), .one (.ptr 1 0 0), .one (.ptr 2 0 0), .one (.int .i64 i), .junk, .junk, .junk, .junk, .junk, .junk, .junk, .junk, .junk, .junk, .junk, .junk, .junk, .junk, .junk, .junk, .junk, .junk, .junk, .junk, .junk, .junk, .junk], h := [.box 0 false [.int .i64 o00, .sl false (.int .i64) o01, .sl false (.pair (.int .i64) (.list (.int .i64))) o02], .box 0 false [.int .i64 (0 : Int), .nil, .nil], .box 0 false [.int .i64 o20, .sl true (.int .i64) o21, .ref 4 0 .all], .absent 0, .row 0 false true 12 (.pair (.int .i64) (.list (.int .i64))) o4] }
  (spec_l13Copy.k1 N)

theorem spec_l13Copy.L1_eq (N : Nat) (n1 : Nat) (i : Int) (o00 : Int) (o01 : List Int) (o02 : List (Int × List Int)) (o20 : Int) (o21 : List Int) (o4 : List (Int × List Int)) : spec_l13Copy.L1 N (n1 + 1) i o00 o01 o02 o20 o21 o4 =
    bif decide (i < (List.length o02 : Int)) then
      bif inRange i (List.length o02) then
      bindO (spec_l7Copy.F N (nth ((0 : Int), ([] : List Int)) o02 i)) fun r2 =>
      bif decide (List.length o4 + List.length ([r2] : List (Int × List Int)) ≤ maxN) then
      spec_l13Copy.L1 N n1 (IntKind.wrap .i64 (i + (1 : Int))) o00 o01 o02 o20 o21 (o4 ++ ([r2] : List (Int × List Int)))
      else none
      else none
    else
      some ((o20, o21), o4) := by kernel_rfl
theorem spec_l13Copy.F_eq (N : Nat) (p : (Int × List Int) × List (Int × List Int)) : spec_l13Copy.F N p =
    bindO (spec_l7Copy.F N p.1) fun r1 =>
    spec_l13Copy.L1 N N (0 : Int) p.1.1 p.1.2 p.2 r1.1 r1.2 ([] : List (Int × List Int)) := by kernel_rfl

def spec_TakeReport.x : XFunc := { nslots := 27, nobj := 3, pars := [.val true 3], rowsIn := [none, none, none], rets := [.var 2 true 3, .tmp 3 false 1], outs := [.imm, .imm, .imm, .imm], fresh := true, arg := .pair (.pair (.int .i64) (.list (.int .i64))) (.list (.pair (.int .i64) (.list (.int .i64)))), ret := .pair (.pair (.pair (.int .i64) (.list (.int .i64))) (.list (.pair (.int .i64) (.list (.int .i64))))) (.bool), body := .seq (.region false [ow 1 (.box 0) [.slot 0] [0] [0], ow 2 (.alloc 1 [.int .i64 (0 : Int), .nil, .nil]) [] [1] [1], op 3 .move [.const (.one (.bool false))]]) (.seq (.seq (.region false [ow 5 (.load true 3) [.slot 1] [0] [], o1 6 (.call ⟨278, [.val true 3], no 3, [.val false 1], ims 1, true⟩) 5, o1 7 .not 6, ⟨some 8, .move, [.slot 7], [], [], none, true, .none⟩, ⟨some 9, .fieldAddr 2, [.slot 1], [], [], some (8, false), false, .none⟩, ⟨some 10, .load false 1, [.slot 9], [0], [], some (8, false), false, .none⟩, ⟨some 11, .len, [.slot 10], [], [], some (8, false), false, .none⟩, ⟨some 12, .bin .eql, [.slot 11, .const (.one (.int .i64 (0 : Int)))], [], [], some (8, false), false, .none⟩, op 13 .pick [.slot 8, .const (.one (.bool true)), .slot 12]]) (.cond (.slot 13) (.seq (.region false [op 14 (.build [.int .i64 (0 : Int), .nil, .nil] []) [], on (.store 3) [.slot 2, .slot 14] [1] [1], op 3 .move [.const (.one (.bool false))]]) (.ret)) (.skip))) (.seq (.region false [ow 15 (.load true 3) [.slot 1] [0] [], o1 16 (.call ⟨332, [.val true 3], no 3, [.val true 3], ims 3, true⟩) 15, ow 4 (.alloc 2 [.int .i64 (0 : Int), .nil, .nil]) [] [2] [2], on (.store 3) [.slot 4, .slot 16] [2] [2]]) (.seq (.region false [o1 17 (.fieldAddr 2) 4, ow 18 (.load false 1) [.slot 17] [2] [], op 19 (.indexAddr (.pair (.int .i64) (.list (.int .i64)))) [.slot 18, .const (.one (.int .i64 (0 : Int)))], o1 20 (.load true 2) 19, o1 21 (.fieldAddr 0) 4, on (.store 2) [.slot 21, .slot 20] [2] [2]]) (.seq (.region false [o1 22 (.fieldAddr 2) 4, ow 23 (.load false 1) [.slot 22] [2] [], op 24 (.slice (.pair (.int .i64) (.list (.int .i64))) true false) [.slot 23, .const (.one (.int .i64 (1 : Int)))], o1 25 (.fieldAddr 2) 4, on (.store 1) [.slot 25, .slot 24] [2] [2]]) (.seq (.region false [ow 26 (.load true 3) [.slot 4] [2] [], on (.store 3) [.slot 2, .slot 26] [1] [1], op 3 .move [.const (.one (.bool true))]]) (.ret)))))) }
def spec_TakeReport.env (N : Nat) : Env := envOf (tbl [(278, spec_IsPipe.fs N), (332, spec_l13Copy.fs N)] noFS)
def spec_TakeReport.F (N : Nat) (x : (Int × List Int) × List (Int × List Int)) : Option (((Int × List Int) × List (Int × List Int)) × Bool) := XFunc.run spec_TakeReport.x (spec_TakeReport.env N) N x
def spec_TakeReport.fs (N : Nat) : FS := { arg := .pair (.pair (.int .i64) (.list (.int .i64))) (.list (.pair (.int .i64) (.list (.int .i64)))), ret := .pair (.pair (.pair (.int .i64) (.list (.int .i64))) (.list (.pair (.int .i64) (.list (.int .i64))))) (.bool), fresh := true, F := spec_TakeReport.F N }

theorem spec_TakeReport.F_eq (N : Nat) (p : (Int × List Int) × List (Int × List Int)) : spec_TakeReport.F N p =
    bindO (spec_IsPipe.F N p) fun r1 =>
    bif !r1 then
      some ((((0 : Int), ([] : List Int)), ([] : List (Int × List Int))), false)
    else
      bif (List.length p.2 : Int) == (0 : Int) then
        some ((((0 : Int), ([] : List Int)), ([] : List (Int × List Int))), false)
      else
        bindO (spec_l13Copy.F N p) fun r2 =>
        bif inRange (0 : Int) (List.length r2.2) then
        bif decide (0 ≤ (1 : Int)) && decide ((1 : Int) ≤ (List.length r2.2 : Int)) then
        some (((nth ((0 : Int), ([] : List Int)) r2.2 (0 : Int)), List.drop 1 r2.2), true)
        else none
        else none := by kernel_rfl

def impl_copyInts.x : XFunc := { nslots := 5, nobj := 1, pars := [.val false 1], rowsIn := [none], rets := [.tmp 2 false 1], outs := [.own 2], fresh := true, arg := .list (.int .i64), ret := .list (.int .i64), body := .seq (.region false [op 2 .move [.const (.one (.nil))]]) (.seq (.region false [mv 3 0, ow 4 (.append false 0 2 (.int .i64)) [.const (.one (.nil)), .slot 3] [0] [0], mv 2 4]) (.ret)) }
def impl_copyInts.env (_ : Nat) : Env := envOf (tbl [] noFS)
def impl_copyInts.F (N : Nat) (x : List Int) : Option (List Int) := XFunc.run impl_copyInts.x (impl_copyInts.env N) N x
def impl_copyInts.fs (N : Nat) : FS := { arg := .list (.int .i64), ret := .list (.int .i64), fresh := true, F := impl_copyInts.F N }

theorem impl_copyInts.F_eq (N : Nat) (l_ : List Int) : impl_copyInts.F N l_ =
    bif decide (List.length l_ ≤ maxN) then
    some l_
    else none := by kernel_rfl

def impl_copyReport.x : XFunc := { nslots := 9, nobj := 3, pars := [.val true 2], rowsIn := [none, none], rets := [.var 2 true 2], outs := [.imm, .own 2], fresh := true, arg := .pair (.int .i64) (.list (.int .i64)), ret := .pair (.int .i64) (.list (.int .i64)), body := .seq (.region false [ow 1 (.box 0) [.slot 0] [0] [0], ow 2 (.alloc 1 [.int .i64 (0 : Int), .nil]) [] [1] [1]]) (.seq (.region true [o1 3 (.fieldAddr 0) 1, ow 4 (.load false 1) [.slot 3] [0] [], o1 5 (.fieldAddr 1) 1, ow 6 (.load false 1) [.slot 5] [0] [], ow 7 (.call ⟨114, vs 1, no 1, [.val false 1], [.own 2 2], true⟩) [.slot 6] [2] [2], o2 8 (.build [.int .i64 (0 : Int), .nil] [(0, 1), (1, 1)]) 4 7, on (.store 2) [.slot 2, .slot 8] [1] [1]]) (.ret)) }
def impl_copyReport.env (N : Nat) : Env := envOf (tbl [(114, impl_copyInts.fs N)] noFS)
def impl_copyReport.F (N : Nat) (x : Int × List Int) : Option (Int × List Int) := XFunc.run impl_copyReport.x (impl_copyReport.env N) N x
def impl_copyReport.fs (N : Nat) : FS := { arg := .pair (.int .i64) (.list (.int .i64)), ret := .pair (.int .i64) (.list (.int .i64)), fresh := true, F := impl_copyReport.F N }

theorem impl_copyReport.F_eq (N : Nat) (r_ : Int × List Int) : impl_copyReport.F N r_ =
    bindO (impl_copyInts.F N r_.2) fun r1 =>
    some (r_.1, r1) := by kernel_rfl

def impl_copyPipeh.c1 : XCode := .seq (.region false [o2 14 (.bin .lss) 13 12]) (.seq (.cond (.slot 14) (.skip) (.exit 0)) (.seq (.block 1 (.seq (.region false [o2 15 (.indexAddr (.pair (.int .i64) (.list (.int .i64)))) 11 13, o1 16 (.load true 2) 15, ow 5 (.alloc 3 [.int .i64 (0 : Int), .nil]) [] [3] [3], on (.store 2) [.slot 5, .slot 16] [3] [3]]) (.region true [o1 17 (.fieldAddr 2) 3, ow 18 (.load false 1) [.slot 17] [2] [], ow 19 (.load true 2) [.slot 5] [3] [], ⟨some 20, .call ⟨334, [.val true 2], no 2, [.val true 2], [.imm, .own 5 2], true⟩, [.slot 19], [5, 100], [5], none, false, .pub 5⟩, ow 21 (.buildSlice false 4 12 (.pair (.int .i64) (.hnd (.int .i64))) 1 [(0, 2)] [.int .i64 (0 : Int), .nil]) [.slot 20] [4] [4], ow 22 (.append false 6 12 (.pair (.int .i64) (.hnd (.int .i64)))) [.slot 18, .slot 21] [4, 6] [6], o1 23 (.fieldAddr 2) 3, on (.store 1) [.slot 23, .slot 22] [2] [2]]))) (.region false [op 24 (.bin .add) [.slot 13, .const (.one (.int .i64 (1 : Int)))], mv 13 24])))
def impl_copyPipeh.c2 : XCode := .seq (.region false [ow 25 (.load true 3) [.slot 3] [2] [], on (.store 3) [.slot 2, .slot 25] [1] [1]]) (.ret)
def impl_copyPipeh.x : XFunc := { nslots := 26, nobj := 8, pars := [.val true 3], rowsIn := [none, none, none], rets := [.var 2 true 3], outs := [.imm, .imm, .own 12], fresh := true, arg := .pair (.pair (.int .i64) (.list (.int .i64))) (.list (.pair (.int .i64) (.list (.int .i64)))), ret := .pair (.pair (.int .i64) (.hnd (.int .i64))) (.list (.pair (.int .i64) (.hnd (.int .i64)))), body := .seq (.region false [ow 1 (.box 0) [.slot 0] [0] [0], ow 2 (.alloc 1 [.int .i64 (0 : Int), .nil, .nil]) [] [1] [1]]) (.seq (.region false [o1 6 (.fieldAddr 0) 1, ow 7 (.load true 2) [.slot 6] [0] [], ⟨some 8, .call ⟨334, [.val true 2], no 2, [.val true 2], [.imm, .own 7 2], true⟩, [.slot 7], [7, 100], [7], none, false, .pub 7⟩, o1 9 (.build [.int .i64 (0 : Int), .nil, .nil] [(0, 2)]) 8, ow 3 (.alloc 2 [.int .i64 (0 : Int), .nil, .nil]) [] [2] [2], on (.store 3) [.slot 3, .slot 9] [2] [2]]) (.seq (.seq (.region false [o1 10 (.fieldAddr 2) 1, ow 11 (.load false 1) [.slot 10] [0] [], o1 12 .len 11, op 13 .move [.const (.one (.int .i64 (0 : Int)))]]) (.block 0 (.loop [.mkrow (.boxc 2 2) 6 12 (.pair (.int .i64) (.hnd (.int .i64))), .keep [2, 3, 11, 12, 13], .drop 0, .drop 3, .drop 4, .drop 5, .drop 7, .norm] (impl_copyPipeh.c1)))) (impl_copyPipeh.c2))), hp := true }
def impl_copyPipeh.env (N : Nat) : Env := envOf (tbl [(334, impl_copyReport.fs N)] noFS)
def impl_copyPipeh.H (N : Nat) (x : (Int × List Int) × List (Int × List Int)) (D : List HRow) : Option (((Int × Hnd) × List (Int × Hnd)) × List HRow) := XFunc.runH impl_copyPipeh.x (impl_copyPipeh.env N) N x D
def impl_copyPipeh.fs (N : Nat) : FS := { arg := .pair (.pair (.int .i64) (.list (.int .i64))) (.list (.pair (.int .i64) (.list (.int .i64)))), ret := .pair (.pair (.int .i64) (.hnd (.int .i64))) (.list (.pair (.int .i64) (.hnd (.int .i64)))), fresh := true, F := fun _ => none, hp := true, H := impl_copyPipeh.H N }
def impl_copyPipeh.k2 (N : Nat) : Ex → S → Option (((Int × Hnd) × List (Int × Hnd)) × List HRow) := seqK (fun s => XCode.runK (impl_copyPipeh.env N) N (impl_copyPipeh.c2) s (XFunc.endKH impl_copyPipeh.x)) (XFunc.endKH impl_copyPipeh.x)
def impl_copyPipeh.k1 (N : Nat) : Ex → S → Option (((Int × Hnd) × List (Int × Hnd)) × List HRow) := blockK 0 (impl_copyPipeh.k2 N)
def impl_copyPipeh.L1 (N : Nat) (n1 : Nat) (t11 : List (Int × List Int)) (t12 : Int) (t13 : Int) (o20 : Int) (o21 : Hnd) (o6 : List (Int × Hnd)) (D : List HRow) : Option (((Int × Hnd) × List (Int × Hnd)) × List HRow) := loopK [.mkrow (.boxc 2 2) 6 12 (.pair (.int .i64) (.hnd (.int .i64))), .keep [2, 3, 11, 12, 13], .drop 0, .drop 3, .drop 4, .drop 5, .drop 7, .norm] (fun s k => XCode.runK (impl_copyPipeh.env N) N impl_copyPipeh.c1 s k) n1
  { t := [.junk, .junk, .one (.ptr 1 0 0), .one (.ptr 2 0 0), .junk, .junk, .junk, .junk, .junk, .junk, .junk, .one (.sl false (.pair (.int .i64) (.list (.int .i64))) t11), .one (.int .i64 t12), .one (.int .i64 t13), .junk, .junk, .junk, .junk, .junk, .junk, .junk, .junk, .junk, .junk, .junk, .junk], h := [.absent 0, .box 0 false [.int .i64 (0 : Int), .nil, .nil], .box 0 false [.int .i64 o20, .hnd (.int .i64) o21, .ref 6 0 .all], .absent 0, .absent 0, .absent 0, .row 0 false true 12 (.pair (.int .i64) (.hnd (.int .i64))) o6, .absent 0], d := D }
  (impl_copyPipeh.k1 N)

theorem impl_copyPipeh.L1_eq (N : Nat) (n1 : Nat) (t11 : List (Int × List Int)) (t12 : Int) (t13 : Int) (o20 : Int) (o21 : Hnd) (o6 : List (Int × Hnd)) (D : List HRow) : impl_copyPipeh.L1 N (n1 + 1) t11 t12 t13 o20 o21 o6 D =
    bif decide (t13 < t12) then
      bif inRange t13 (List.length t11) then
      bindO (impl_copyReport.F N (nth ((0 : Int), ([] : List Int)) t11 t13)) fun r2 =>
      bif decide (List.length o6 + List.length ([(r2.1, (some (List.length D, 0, List.length r2.2) : Hnd))] : List (Int × Hnd)) ≤ maxN) then
      impl_copyPipeh.L1 N n1 t11 t12 (IntKind.wrap .i64 (t13 + (1 : Int))) o20 o21 (o6 ++ ([(r2.1, (some (List.length D, 0, List.length r2.2) : Hnd))] : List (Int × Hnd))) (D ++ [HRow.row 2 (.int .i64) r2.2])
      else none
      else none
    else
      some (((o20, o21), o6), D) := by kernel_rfl
theorem impl_copyPipeh.H_eq (N : Nat) (p : (Int × List Int) × List (Int × List Int)) (D : List HRow) : impl_copyPipeh.H N p D =
    bindO (impl_copyReport.F N p.1) fun r1 =>
    impl_copyPipeh.L1 N N p.2 (List.length p.2 : Int) (0 : Int) r1.1 (some (List.length D, 0, List.length r1.2) : Hnd) ([] : List (Int × Hnd)) (D ++ [HRow.row 2 (.int .i64) r1.2]) := by kernel_rfl

def impl_TakeReporth.x : XFunc := { nslots := 25, nobj := 4, pars := [.val true 3], rowsIn := [none, none, none], rets := [.var 2 true 3, .tmp 3 false 1], outs := [.imm, .imm, .own 12, .imm], fresh := true, arg := .pair (.pair (.int .i64) (.list (.int .i64))) (.list (.pair (.int .i64) (.list (.int .i64)))), ret := .pair (.pair (.pair (.int .i64) (.hnd (.int .i64))) (.list (.pair (.int .i64) (.hnd (.int .i64))))) (.bool), body := .seq (.region false [ow 1 (.box 0) [.slot 0] [0] [0], ow 2 (.alloc 1 [.int .i64 (0 : Int), .nil, .nil]) [] [1] [1], op 3 .move [.const (.one (.bool false))]]) (.seq (.seq (.region false [ow 5 (.load true 3) [.slot 1] [0] [], o1 6 (.call ⟨279, [.val true 3], no 3, [.val false 1], ims 1, true⟩) 5, o1 7 .not 6, ⟨some 8, .move, [.slot 7], [], [], none, true, .none⟩, ⟨some 9, .fieldAddr 2, [.slot 1], [], [], some (8, false), false, .none⟩, ⟨some 10, .load false 1, [.slot 9], [0], [], some (8, false), false, .none⟩, ⟨some 11, .len, [.slot 10], [], [], some (8, false), false, .none⟩, ⟨some 12, .bin .eql, [.slot 11, .const (.one (.int .i64 (0 : Int)))], [], [], some (8, false), false, .none⟩, op 13 .pick [.slot 8, .const (.one (.bool true)), .slot 12]]) (.cond (.slot 13) (.seq (.region false [op 14 (.build [.int .i64 (0 : Int), .nil, .nil] []) [], on (.store 3) [.slot 2, .slot 14] [1] [1], op 3 .move [.const (.one (.bool false))]]) (.ret)) (.skip))) (.seq (.region false [ow 15 (.load true 3) [.slot 1] [0] [], ow 16 (.callH false ⟨335, [.val true 3], no 3, [.val true 3], [.imm, .imm, .own 3 12], true⟩) [.slot 15] [3, 100] [3, 100], ow 4 (.alloc 2 [.int .i64 (0 : Int), .nil, .nil]) [] [2] [2], on (.store 3) [.slot 4, .slot 16] [2] [2]]) (.seq (.region true [o1 17 (.fieldAddr 2) 4, ow 18 (.load false 1) [.slot 17] [2] [], ow 19 (.indexAddr (.pair (.int .i64) (.hnd (.int .i64)))) [.slot 18, .const (.one (.int .i64 (0 : Int)))] [3] [], ow 20 (.load true 2) [.slot 19] [3] [], o1 21 (.fieldAddr 2) 4, ow 22 (.load false 1) [.slot 21] [2] [], ow 23 (.slice (.pair (.int .i64) (.hnd (.int .i64))) true false) [.slot 22, .const (.one (.int .i64 (1 : Int)))] [3] [], o2 24 (.build [.int .i64 (0 : Int), .nil, .nil] [(0, 2), (2, 1)]) 20 23, on (.store 3) [.slot 2, .slot 24] [1] [1], op 3 .move [.const (.one (.bool true))]]) (.ret)))), hp := true }
def impl_TakeReporth.env (N : Nat) : Env := envOf (tbl [(279, impl_IsPipe.fs N), (335, impl_copyPipeh.fs N)] noFS)
def impl_TakeReporth.H (N : Nat) (x : (Int × List Int) × List (Int × List Int)) (D : List HRow) : Option ((((Int × Hnd) × List (Int × Hnd)) × Bool) × List HRow) := XFunc.runH impl_TakeReporth.x (impl_TakeReporth.env N) N x D
def impl_TakeReporth.fs (N : Nat) : FS := { arg := .pair (.pair (.int .i64) (.list (.int .i64))) (.list (.pair (.int .i64) (.list (.int .i64)))), ret := .pair (.pair (.pair (.int .i64) (.hnd (.int .i64))) (.list (.pair (.int .i64) (.hnd (.int .i64))))) (.bool), fresh := true, F := fun _ => none, hp := true, H := impl_TakeReporth.H N }

theorem impl_TakeReporth.H_eq (N : Nat) (p : (Int × List Int) × List (Int × List Int)) (D : List HRow) : impl_TakeReporth.H N p D =
    bindO (impl_IsPipe.F N p) fun r1 =>
    bif !r1 then
      some (((((0 : Int), (none : Hnd)), ([] : List (Int × Hnd))), false), D)
    else
      bif (List.length p.2 : Int) == (0 : Int) then
        some (((((0 : Int), (none : Hnd)), ([] : List (Int × Hnd))), false), D)
      else
        bindO (impl_copyPipeh.H N p (hhide D)) fun r2 =>
        bif inRange (0 : Int) (List.length r2.1.2) then
        bif decide (0 ≤ (1 : Int)) && decide ((1 : Int) ≤ (List.length r2.1.2 : Int)) then
        some ((((List.getD r2.1.2 0 ((0 : Int), (none : Hnd))), List.drop 1 r2.1.2), true), hmerge D r2.2)
        else none
        else none := by kernel_rfl

def laws_markReportS.c1 : XCode := .seq (.seq (.region false [mv 6 5, mv 7 0, ow 8 .len [.slot 7] [0] [], o2 9 (.bin .lss) 6 8]) (.cond (.slot 9) (.skip) (.exit 0))) (.seq (.block 1 (.seq (.region false [mv 12 0, mv 13 5, mv 14 1, ow 15 (.indexAddr (.pair (.int .i64) (.hnd (.int .i64)))) [.slot 12, .slot 13] [0] [], o1 16 (.fieldAddr 0) 15, on (.store 1) [.slot 16, .slot 14] [0] [0]]) (.seq (.region false [mv 17 1, op 18 (.bin .add) [.slot 17, .const (.one (.int .i64 (1 : Int)))], mv 1 18]) (.region false [mv 19 0, mv 20 5, ow 21 (.indexAddr (.pair (.int .i64) (.hnd (.int .i64)))) [.slot 19, .slot 20] [0] [], o1 22 (.fieldAddr 1) 21, ⟨some 23, .load false 1, [.slot 22], [0, 1, 100], [], none, false, .take 1 2 0⟩, mv 24 1, ow 25 (.call ⟨242, vs 2, [some (1, 2), none], [.val false 1], [.imm, .back 1], false⟩) [.slot 23, .slot 24] [1] [1], mv 1 25])))) (.region false [mv 10 5, op 11 (.bin .add) [.slot 10, .const (.one (.int .i64 (1 : Int)))], mv 5 11]))
def laws_markReportS.c2 : XCode := .seq (.region false [mv 26 1, mv 4 26]) (.ret)
def laws_markReportS.x : XFunc := { nslots := 27, nobj := 2, pars := [.val false 1, .val false 1], rowsIn := [some (0, 12), none], rets := [.tmp 4 false 1], outs := [.imm, .back 0], fresh := false, arg := .pair (.list (.pair (.int .i64) (.hnd (.int .i64)))) (.int .i64), ret := .pair (.int .i64) (.list (.pair (.int .i64) (.hnd (.int .i64)))), body := .seq (.region false [op 4 .move [.const (.one (.int .i64 (0 : Int)))]]) (.seq (.seq (.region false [op 5 .move [.const (.one (.int .i64 (0 : Int)))]]) (.block 0 (.loop [.hput 1, .keep [0, 1, 5], .drop 1, .norm] (laws_markReportS.c1)))) (laws_markReportS.c2)), hp := true }
def laws_markReportS.env (N : Nat) : Env := envOf (tbl [(242, laws_markIntS.fs N)] noFS)
def laws_markReportS.H (N : Nat) (x : (List (Int × Hnd)) × Int) (D : List HRow) : Option ((Int × List (Int × Hnd)) × List HRow) := XFunc.runH laws_markReportS.x (laws_markReportS.env N) N x D
def laws_markReportS.fs (N : Nat) : FS := { arg := .pair (.list (.pair (.int .i64) (.hnd (.int .i64)))) (.int .i64), ret := .pair (.int .i64) (.list (.pair (.int .i64) (.hnd (.int .i64)))), fresh := false, F := fun _ => none, hp := true, H := laws_markReportS.H N }
def laws_markReportS.k2 (N : Nat) : Ex → S → Option ((Int × List (Int × Hnd)) × List HRow) := seqK (fun s => XCode.runK (laws_markReportS.env N) N (laws_markReportS.c2) s (XFunc.endKH laws_markReportS.x)) (XFunc.endKH laws_markReportS.x)
def laws_markReportS.k1 (N : Nat) : Ex → S → Option ((Int × List (Int × Hnd)) × List HRow) := blockK 0 (laws_markReportS.k2 N)
def laws_markReportS.L1 (N : Nat) (n1 : Nat) (k_ : Int) (i : Int) (o0 : List (Int × Hnd)) (D : List HRow) : Option ((Int × List (Int × Hnd)) × List HRow) := loopK [.hput 1, .keep [0, 1, 5], .drop 1, .norm] (fun s k => XCode.runK (laws_markReportS.env N) N laws_markReportS.c1 s k) n1
  { t := [.one (.ref 0 0 .all), .one (.int .i64 k_), .junk, .junk, .junk, .one (.int .i64 i), .junk, .junk, .junk, .junk, .junk, .junk, .junk, .junk, .junk, .junk, .junk, .junk, .junk, .junk, .junk, .junk, .junk, .junk, .junk, .junk, .junk], h := [.row 0 true false 12 (.pair (.int .i64) (.hnd (.int .i64))) o0, .absent 0], d := D }
  (laws_markReportS.k1 N)

theorem laws_markReportS.L1_eq (N : Nat) (n1 : Nat) (k_ : Int) (i : Int) (o0 : List (Int × Hnd)) (D : List HRow) : laws_markReportS.L1 N (n1 + 1) k_ i o0 D =
    bif decide (i < (List.length o0 : Int)) then
      bif inRange i (List.length o0) then
      bif inRange i (List.length (List.set o0 (Int.toNat i) (k_, (List.getD o0 (Int.toNat i) ((0 : Int), (none : Hnd))).2))) then
      bif hfull D 2 (.int .i64) ((List.getD (List.set o0 (Int.toNat i) (k_, (List.getD o0 (Int.toNat i) ((0 : Int), (none : Hnd))).2)) (Int.toNat i) ((0 : Int), (none : Hnd))).2) then
      bindO (laws_markIntS.F N (hcut D (.int .i64) ((List.getD (List.set o0 (Int.toNat i) (k_, (List.getD o0 (Int.toNat i) ((0 : Int), (none : Hnd))).2)) (Int.toNat i) ((0 : Int), (none : Hnd))).2), IntKind.wrap .i64 (k_ + (1 : Int)))) fun r1 =>
      laws_markReportS.L1 N n1 r1.1 (IntKind.wrap .i64 (i + (1 : Int))) (List.set o0 (Int.toNat i) (k_, (List.getD o0 (Int.toNat i) ((0 : Int), (none : Hnd))).2)) (hput (hgone D ((List.getD (List.set o0 (Int.toNat i) (k_, (List.getD o0 (Int.toNat i) ((0 : Int), (none : Hnd))).2)) (Int.toNat i) ((0 : Int), (none : Hnd))).2)) ((List.getD (List.set o0 (Int.toNat i) (k_, (List.getD o0 (Int.toNat i) ((0 : Int), (none : Hnd))).2)) (Int.toNat i) ((0 : Int), (none : Hnd))).2) 2 (.int .i64) r1.2)
      else none
      else none
      else none
    else
      some ((k_, o0), D) := by kernel_rfl
theorem laws_markReportS.H_eq (N : Nat) (a : List (Int × Hnd)) (k_ : Int) (D : List HRow) : laws_markReportS.H N (a, k_) D =
    laws_markReportS.L1 N N k_ (0 : Int) a D := by kernel_rfl

def laws_markPipe.x : XFunc := { nslots := 14, nobj := 3, pars := [.val true 3, .val false 1], rowsIn := [none, none, some (2, 12), none], rets := [.tmp 4 false 1], outs := [.imm, .back 2], fresh := false, arg := .pair (.pair (.pair (.int .i64) (.hnd (.int .i64))) (.list (.pair (.int .i64) (.hnd (.int .i64))))) (.int .i64), ret := .pair (.int .i64) (.list (.pair (.int .i64) (.hnd (.int .i64)))), body := .seq (.region false [ow 2 (.box 0) [.slot 0] [0] [0], op 4 .move [.const (.one (.int .i64 (0 : Int)))]]) (.seq (.region false [o1 5 (.fieldAddr 0) 2, ⟨some 6, .load true 2, [.slot 5], [0, 1, 100], [], none, false, .take 1 2 1⟩, mv 7 1, ow 8 (.call ⟨266, [.val true 2, .val false 1], [none, some (1, 2), none], [.val false 1], [.imm, .back 1], false⟩) [.slot 6, .slot 7] [1] [1], mv 1 8]) (.seq (.region false [o1 9 (.fieldAddr 2) 2, ow 10 (.load false 1) [.slot 9] [0] [], mv 11 1, ow 12 (.callH true ⟨337, vs 2, [some (2, 12), none], [.val false 1], [.imm, .back 2], false⟩) [.slot 10, .slot 11] [2, 100] [2, 100], mv 1 12]) (.seq (.region false [mv 13 1, mv 4 13]) (.ret)))), hp := true }
def laws_markPipe.env (N : Nat) : Env := envOf (tbl [(266, laws_markReport.fs N), (337, laws_markReportS.fs N)] noFS)
def laws_markPipe.H (N : Nat) (x : ((Int × Hnd) × List (Int × Hnd)) × Int) (D : List HRow) : Option ((Int × List (Int × Hnd)) × List HRow) := XFunc.runH laws_markPipe.x (laws_markPipe.env N) N x D
def laws_markPipe.fs (N : Nat) : FS := { arg := .pair (.pair (.pair (.int .i64) (.hnd (.int .i64))) (.list (.pair (.int .i64) (.hnd (.int .i64))))) (.int .i64), ret := .pair (.int .i64) (.list (.pair (.int .i64) (.hnd (.int .i64)))), fresh := false, F := fun _ => none, hp := true, H := laws_markPipe.H N }

theorem laws_markPipe.H_eq (N : Nat) (a : (Int × Hnd) × List (Int × Hnd)) (k_ : Int) (D : List HRow) : laws_markPipe.H N (a, k_) D =
    bif hfull D 2 (.int .i64) a.1.2 then
    bindO (laws_markReport.F N ((a.1.1, hcut D (.int .i64) a.1.2), k_)) fun r1 =>
    bindO (laws_markReportS.H N (a.2, r1.1) (hgone D a.1.2)) fun r2 =>
    some (r2.1, hput r2.2 a.1.2 2 (.int .i64) r1.2)
    else none := by kernel_rfl

def laws_heldReport.x : XFunc := { nslots := 12, nobj := 1, pars := [.val true 2, .val false 1], rowsIn := [none, none, none], rets := [.tmp 4 false 1], outs := [.imm], fresh := true, arg := .pair (.pair (.int .i64) (.list (.int .i64))) (.int .i64), ret := .int .i64, body := .seq (.region false [ow 2 (.box 0) [.slot 0] [0] [0], op 4 .move [.const (.one (.int .i64 (0 : Int)))]]) (.seq (.region false [o1 5 (.fieldAddr 1) 2, ow 6 (.load false 1) [.slot 5] [0] [], mv 7 1, o2 8 (.call ⟨245, vs 2, no 2, [.val false 1], ims 1, true⟩) 6 7, mv 1 8]) (.seq (.seq (.region false [mv 9 1, op 10 (.bin .lss) [.slot 9, .const (.one (.int .i64 (0 : Int)))]]) (.cond (.slot 10) (.seq (.region false [op 4 .move [.const (.one (.int .i64 (-1 : Int)))]]) (.ret)) (.skip))) (.seq (.region false [mv 11 1, mv 4 11]) (.ret)))) }
def laws_heldReport.env (N : Nat) : Env := envOf (tbl [(245, laws_heldIntS.fs N)] noFS)
def laws_heldReport.F (N : Nat) (x : (Int × List Int) × Int) : Option Int := XFunc.run laws_heldReport.x (laws_heldReport.env N) N x
def laws_heldReport.fs (N : Nat) : FS := { arg := .pair (.pair (.int .i64) (.list (.int .i64))) (.int .i64), ret := .int .i64, fresh := true, F := laws_heldReport.F N }

theorem laws_heldReport.F_eq (N : Nat) (a : Int × List Int) (k_ : Int) : laws_heldReport.F N (a, k_) =
    bindO (laws_heldIntS.F N (a.2, k_)) fun r1 =>
    bif decide (r1 < (0 : Int)) then
      some (-1 : Int)
    else
      some r1 := by kernel_rfl

def laws_heldReportS.c1 : XCode := .seq (.seq (.region false [mv 6 5, mv 7 0, o1 8 .len 7, o2 9 (.bin .lss) 6 8]) (.cond (.slot 9) (.skip) (.exit 0))) (.seq (.block 1 (.seq (.seq (.region false [mv 12 0, mv 13 5, o2 14 (.indexAddr (.pair (.int .i64) (.list (.int .i64)))) 12 13, o1 15 (.fieldAddr 0) 14, o1 16 (.load false 1) 15, mv 17 1, o2 18 (.bin .neq) 16 17]) (.cond (.slot 18) (.seq (.region false [op 4 .move [.const (.one (.int .i64 (-1 : Int)))]]) (.ret)) (.skip))) (.seq (.region false [mv 19 1, op 20 (.bin .add) [.slot 19, .const (.one (.int .i64 (1 : Int)))], mv 1 20]) (.seq (.region false [mv 21 0, mv 22 5, o2 23 (.indexAddr (.pair (.int .i64) (.list (.int .i64)))) 21 22, o1 24 (.fieldAddr 1) 23, o1 25 (.load false 1) 24, mv 26 1, o2 27 (.call ⟨245, vs 2, no 2, [.val false 1], ims 1, true⟩) 25 26, mv 1 27]) (.seq (.region false [mv 28 1, op 29 (.bin .lss) [.slot 28, .const (.one (.int .i64 (0 : Int)))]]) (.cond (.slot 29) (.seq (.region false [op 4 .move [.const (.one (.int .i64 (-1 : Int)))]]) (.ret)) (.skip))))))) (.region false [mv 10 5, op 11 (.bin .add) [.slot 10, .const (.one (.int .i64 (1 : Int)))], mv 5 11]))
def laws_heldReportS.c2 : XCode := .seq (.region false [mv 30 1, mv 4 30]) (.ret)
def laws_heldReportS.x : XFunc := { nslots := 31, nobj := 0, pars := [.val false 1, .val false 1], rowsIn := [none, none], rets := [.tmp 4 false 1], outs := [.imm], fresh := true, arg := .pair (.list (.pair (.int .i64) (.list (.int .i64)))) (.int .i64), ret := .int .i64, body := .seq (.region false [op 4 .move [.const (.one (.int .i64 (0 : Int)))]]) (.seq (.seq (.region false [op 5 .move [.const (.one (.int .i64 (0 : Int)))]]) (.block 0 (.loop [.keep [0, 1, 5], .norm] (laws_heldReportS.c1)))) (laws_heldReportS.c2)) }
def laws_heldReportS.env (N : Nat) : Env := envOf (tbl [(245, laws_heldIntS.fs N)] noFS)
def laws_heldReportS.F (N : Nat) (x : (List (Int × List Int)) × Int) : Option Int := XFunc.run laws_heldReportS.x (laws_heldReportS.env N) N x
def laws_heldReportS.fs (N : Nat) : FS := { arg := .pair (.list (.pair (.int .i64) (.list (.int .i64)))) (.int .i64), ret := .int .i64, fresh := true, F := laws_heldReportS.F N }
def laws_heldReportS.k2 (N : Nat) : Ex → S → Option Int := seqK (fun s => XCode.runK (laws_heldReportS.env N) N (laws_heldReportS.c2) s (XFunc.endK laws_heldReportS.x)) (XFunc.endK laws_heldReportS.x)
def laws_heldReportS.k1 (N : Nat) : Ex → S → Option Int := blockK 0 (laws_heldReportS.k2 N)
def laws_heldReportS.L1 (N : Nat) (n1 : Nat) (a : List (Int × List Int)) (k_ : Int) (i : Int) : Option Int := loopK [.keep [0, 1, 5], .norm] (fun s k => XCode.runK (laws_heldReportS.env N) N laws_heldReportS.c1 s k) n1
  { t := [.one (.sl false (.pair (.int .i64) (.list (.int .i64))) a), .one (.int .i64 k_), .junk, .junk, .junk, .one (.int .i64 i), .junk, .junk, .junk, .junk, .junk, .junk, .junk, .junk, .junk, .junk, .junk, .junk, .junk, .junk, .junk, .junk, .junk, .junk, .junk, .junk, .junk, .junk, .junk, .junk, .junk], h := [] }
  (laws_heldReportS.k1 N)

theorem laws_heldReportS.L1_eq (N : Nat) (n1 : Nat) (a : List (Int × List Int)) (k_ : Int) (i : Int) : laws_heldReportS.L1 N (n1 + 1) a k_ i =
    bif decide (i < (List.length a : Int)) then
      bif inRange i (List.length a) then
      bif ((nth ((0 : Int), ([] : List Int)) a i).1) != k_ then
        some (-1 : Int)
      else
        bif inRange i (List.length a) then
        bindO (laws_heldIntS.F N ((nth ((0 : Int), ([] : List Int)) a i).2, IntKind.wrap .i64 (k_ + (1 : Int)))) fun r1 =>
        bif decide (r1 < (0 : Int)) then
          some (-1 : Int)
        else
          laws_heldReportS.L1 N n1 a r1 (IntKind.wrap .i64 (i + (1 : Int)))
        else none
      else none
    else
      some k_ := by kernel_rfl
theorem laws_heldReportS.F_eq (N : Nat) (a : List (Int × List Int)) (k_ : Int) : laws_heldReportS.F N (a, k_) =
    laws_heldReportS.L1 N N a k_ (0 : Int) := by kernel_rfl

def laws_heldPipe.x : XFunc := { nslots := 18, nobj := 1, pars := [.val true 3, .val false 1], rowsIn := [none, none, none, none], rets := [.tmp 4 false 1], outs := [.imm], fresh := true, arg := .pair (.pair (.pair (.int .i64) (.list (.int .i64))) (.list (.pair (.int .i64) (.list (.int .i64))))) (.int .i64), ret := .int .i64, body := .seq (.region false [ow 2 (.box 0) [.slot 0] [0] [0], op 4 .move [.const (.one (.int .i64 (0 : Int)))]]) (.seq (.region false [o1 5 (.fieldAddr 0) 2, ow 6 (.load true 2) [.slot 5] [0] [], mv 7 1, o2 8 (.call ⟨339, [.val true 2, .val false 1], no 3, [.val false 1], ims 1, true⟩) 6 7, mv 1 8]) (.seq (.seq (.region false [mv 9 1, op 10 (.bin .lss) [.slot 9, .const (.one (.int .i64 (0 : Int)))]]) (.cond (.slot 10) (.seq (.region false [op 4 .move [.const (.one (.int .i64 (-1 : Int)))]]) (.ret)) (.skip))) (.seq (.region false [o1 11 (.fieldAddr 2) 2, ow 12 (.load false 1) [.slot 11] [0] [], mv 13 1, o2 14 (.call ⟨340, vs 2, no 2, [.val false 1], ims 1, true⟩) 12 13, mv 1 14]) (.seq (.seq (.region false [mv 15 1, op 16 (.bin .lss) [.slot 15, .const (.one (.int .i64 (0 : Int)))]]) (.cond (.slot 16) (.seq (.region false [op 4 .move [.const (.one (.int .i64 (-1 : Int)))]]) (.ret)) (.skip))) (.seq (.region false [mv 17 1, mv 4 17]) (.ret)))))) }
def laws_heldPipe.env (N : Nat) : Env := envOf (tbl [(339, laws_heldReport.fs N), (340, laws_heldReportS.fs N)] noFS)
def laws_heldPipe.F (N : Nat) (x : ((Int × List Int) × List (Int × List Int)) × Int) : Option Int := XFunc.run laws_heldPipe.x (laws_heldPipe.env N) N x
def laws_heldPipe.fs (N : Nat) : FS := { arg := .pair (.pair (.pair (.int .i64) (.list (.int .i64))) (.list (.pair (.int .i64) (.list (.int .i64))))) (.int .i64), ret := .int .i64, fresh := true, F := laws_heldPipe.F N }

theorem laws_heldPipe.F_eq (N : Nat) (a : (Int × List Int) × List (Int × List Int)) (k_ : Int) : laws_heldPipe.F N (a, k_) =
    bindO (laws_heldReport.F N (a.1, k_)) fun r1 =>
    bif decide (r1 < (0 : Int)) then
      some (-1 : Int)
    else
      bindO (laws_heldReportS.F N (a.2, r1)) fun r2 =>
      bif decide (r2 < (0 : Int)) then
        some (-1 : Int)
      else
        some r2 := by kernel_rfl

def laws_FnExactTakeReport.x : XFunc := { nslots := 96, nobj := 7, pars := [.val true 3], rowsIn := [none, none, none], rets := [.tmp 2 false 1], outs := [.imm], fresh := true, arg := .pair (.pair (.int .i64) (.list (.int .i64))) (.list (.pair (.int .i64) (.list (.int .i64)))), ret := .bool, body := .seq (.region false [ow 1 (.box 0) [.slot 0] [0] [0], op 2 .move [.const (.one (.bool false))]]) (.seq (.region false [op 3 .move [.const (.one (.int .i64 (1048576 : Int)))]]) (.seq (.region false [ow 14 (.load true 3) [.slot 1] [0] [], mv 15 3, o2 16 (.call ⟨274, [.val true 3, .val false 1], no 4, [.val false 1], ims 1, true⟩) 14 15, mv 3 16]) (.seq (.seq (.region false [mv 17 3, op 18 (.bin .lss) [.slot 17, .const (.one (.int .i64 (0 : Int)))]]) (.cond (.slot 18) (.seq (.region false [op 2 .move [.const (.one (.bool true))]]) (.ret)) (.skip))) (.seq (.region false [ow 20 (.load true 3) [.slot 1] [0] [], ow 21 (.callH false ⟨276, [.val true 3], no 3, [.val true 3], ims 3, true⟩) [.slot 20] [100] [100], ow 22 (.call ⟨333, [.val true 3], no 3, [.val true 3, .val false 1], ims 4, true⟩) [.slot 21] [100] [], mv 19 22, o1 23 (.extract 0) 19, o1 24 (.extract 1) 19, ow 4 (.alloc 1 [.int .i64 (0 : Int), .nil, .nil]) [] [1] [1], on (.store 3) [.slot 4, .slot 23] [1] [1], mv 5 24]) (.seq (.region false [ow 25 (.load true 3) [.slot 1] [0] [], ow 26 (.callH false ⟨276, [.val true 3], no 3, [.val true 3], [.imm, .imm, .own 4 12], true⟩) [.slot 25] [4, 100] [4, 100], ow 6 (.alloc 2 [.int .i64 (0 : Int), .nil, .nil]) [] [2] [2], on (.store 3) [.slot 6, .slot 26] [2] [2]]) (.seq (.region false [ow 28 (.load true 3) [.slot 6] [2] [], ow 29 (.callH false ⟨336, [.val true 3], no 3, [.val true 3, .val false 1], [.imm, .imm, .own 5 12, .imm], true⟩) [.slot 28] [4, 5, 100] [5, 100], mv 27 29, o1 30 (.extract 0) 27, o1 31 (.extract 1) 27, ow 7 (.alloc 3 [.int .i64 (0 : Int), .nil, .nil]) [] [3] [3], on (.store 3) [.slot 7, .slot 30] [3] [3], mv 8 31]) (.seq (.seq (.region false [ow 32 (.load true 3) [.slot 7] [3] [], ow 33 (.load true 3) [.slot 4] [1] [], ow 34 (.call ⟨281, [.val true 3, .val true 3], no 6, [.val false 1], ims 1, true⟩) [.slot 32, .slot 33] [5, 100] [], o1 35 .not 34, ⟨some 36, .move, [.slot 35], [], [], none, true, .none⟩, ⟨some 37, .move, [.slot 8], [], [], some (36, false), false, .none⟩, ⟨some 38, .move, [.slot 5], [], [], some (36, false), false, .none⟩, ⟨some 39, .eqBool true, [.slot 37, .slot 38], [], [], some (36, false), false, .none⟩, op 40 .pick [.slot 36, .const (.one (.bool true)), .slot 39]]) (.cond (.slot 40) (.seq (.region false [op 2 .move [.const (.one (.bool false))]]) (.ret)) (.skip))) (.seq (.seq (.region true [ow 41 (.load true 3) [.slot 6] [2] [], ow 42 (.load true 3) [.slot 1] [0] [], ow 43 (.callH false ⟨276, [.val true 3], no 3, [.val true 3], ims 3, true⟩) [.slot 42] [100] [100], ow 44 (.call ⟨281, [.val true 3, .val true 3], no 6, [.val false 1], ims 1, true⟩) [.slot 41, .slot 43] [4, 100] [], o1 45 .not 44]) (.cond (.slot 45) (.seq (.region false [op 2 .move [.const (.one (.bool false))]]) (.ret)) (.skip))) (.seq (.region false [op 9 .move [.const (.one (.int .i64 (1 : Int)))]]) (.seq (.region false [ow 46 (.load true 3) [.slot 6] [2] [], mv 47 9, ow 48 (.callH true ⟨338, [.val true 3, .val false 1], [none, none, some (4, 12), none], [.val false 1], [.imm, .back 4], false⟩) [.slot 46, .slot 47] [4, 100] [4, 100], mv 9 48]) (.seq (.seq (.region false [mv 49 9, op 50 (.bin .lss) [.slot 49, .const (.one (.int .i64 (0 : Int)))], ⟨some 51, .move, [.slot 50], [], [], none, true, .none⟩, ⟨some 52, .load true 3, [.slot 7], [3], [], some (51, false), false, .none⟩, ⟨some 53, .load true 3, [.slot 4], [1], [], some (51, false), false, .none⟩, ⟨some 54, .call ⟨281, [.val true 3, .val true 3], no 6, [.val false 1], ims 1, true⟩, [.slot 52, .slot 53], [5, 100], [], some (51, false), false, .none⟩, ⟨some 55, .not, [.slot 54], [], [], some (51, false), false, .none⟩, op 56 .pick [.slot 51, .const (.one (.bool true)), .slot 55], ⟨some 57, .move, [.slot 56], [], [], none, true, .none⟩, ⟨some 58, .move, [.slot 8], [], [], some (57, false), false, .none⟩, ⟨some 59, .move, [.slot 5], [], [], some (57, false), false, .none⟩, ⟨some 60, .eqBool true, [.slot 58, .slot 59], [], [], some (57, false), false, .none⟩, op 61 .pick [.slot 57, .const (.one (.bool true)), .slot 60]]) (.cond (.slot 61) (.seq (.region false [op 2 .move [.const (.one (.bool false))]]) (.ret)) (.skip))) (.seq (.region false [op 10 .move [.const (.one (.int .i64 (1 : Int)))]]) (.seq (.region false [ow 62 (.load true 3) [.slot 7] [3] [], mv 63 10, ow 64 (.callH true ⟨338, [.val true 3, .val false 1], [none, none, some (5, 12), none], [.val false 1], [.imm, .back 5], false⟩) [.slot 62, .slot 63] [5, 100] [5, 100], mv 10 64]) (.seq (.region false [op 11 .move [.const (.one (.int .i64 (1 : Int)))]]) (.seq (.region false [ow 65 (.load true 3) [.slot 7] [3] [], mv 66 11, ow 67 (.call ⟨341, [.val true 3, .val false 1], no 4, [.val false 1], ims 1, true⟩) [.slot 65, .slot 66] [5, 100] [], mv 11 67]) (.seq (.seq (.region false [mv 68 11, op 69 (.bin .lss) [.slot 68, .const (.one (.int .i64 (0 : Int)))]]) (.cond (.slot 69) (.seq (.region false [op 2 .move [.const (.one (.bool false))]]) (.ret)) (.skip))) (.seq (.seq (.region false [mv 70 11, mv 71 10, o2 72 (.bin .neq) 70 71]) (.cond (.slot 72) (.seq (.region false [op 2 .move [.const (.one (.bool false))]]) (.ret)) (.skip))) (.seq (.region false [ow 74 (.load true 3) [.slot 1] [0] [], ow 75 (.callH false ⟨276, [.val true 3], no 3, [.val true 3], ims 3, true⟩) [.slot 74] [100] [100], ow 76 (.callH false ⟨336, [.val true 3], no 3, [.val true 3, .val false 1], ims 4, true⟩) [.slot 75] [100] [100], mv 73 76, o1 77 (.extract 0) 73, o1 78 (.extract 1) 73, ow 12 (.alloc 6 [.int .i64 (0 : Int), .nil, .nil]) [] [6] [6], on (.store 3) [.slot 12, .slot 77] [6] [6], mv 13 78]) (.seq (.seq (.region false [ow 79 (.load true 3) [.slot 12] [6] [], ow 80 (.load true 3) [.slot 4] [1] [], ow 81 (.call ⟨281, [.val true 3, .val true 3], no 6, [.val false 1], ims 1, true⟩) [.slot 79, .slot 80] [100] [], o1 82 .not 81, ⟨some 83, .move, [.slot 82], [], [], none, true, .none⟩, ⟨some 84, .move, [.slot 13], [], [], some (83, false), false, .none⟩, ⟨some 85, .move, [.slot 5], [], [], some (83, false), false, .none⟩, ⟨some 86, .eqBool true, [.slot 84, .slot 85], [], [], some (83, false), false, .none⟩, op 87 .pick [.slot 83, .const (.one (.bool true)), .slot 86]]) (.cond (.slot 87) (.seq (.region false [op 2 .move [.const (.one (.bool false))]]) (.ret)) (.skip))) (.seq (.region false [op 11 .move [.const (.one (.int .i64 (1 : Int)))]]) (.seq (.region false [ow 88 (.load true 3) [.slot 7] [3] [], mv 89 11, ow 90 (.call ⟨341, [.val true 3, .val false 1], no 4, [.val false 1], ims 1, true⟩) [.slot 88, .slot 89] [5, 100] [], mv 11 90]) (.seq (.seq (.region false [mv 91 11, op 92 (.bin .lss) [.slot 91, .const (.one (.int .i64 (0 : Int)))]]) (.cond (.slot 92) (.seq (.region false [op 2 .move [.const (.one (.bool false))]]) (.ret)) (.skip))) (.seq (.seq (.region false [mv 93 11, mv 94 10, o2 95 (.bin .neq) 93 94]) (.cond (.slot 95) (.seq (.region false [op 2 .move [.const (.one (.bool false))]]) (.ret)) (.skip))) (.seq (.region false [op 2 .move [.const (.one (.bool true))]]) (.ret))))))))))))))))))))))))) }
def laws_FnExactTakeReport.env (N : Nat) : Env := envOf (tbl [(336, impl_TakeReporth.fs N), (281, laws_eqPipe.fs N), (341, laws_heldPipe.fs N), (338, laws_markPipe.fs N), (274, laws_szPipe.fs N), (276, laws_toPipeh.fs N), (333, spec_TakeReport.fs N)] noFS)
def laws_FnExactTakeReport.F (N : Nat) (x : (Int × List Int) × List (Int × List Int)) : Option Bool := XFunc.run laws_FnExactTakeReport.x (laws_FnExactTakeReport.env N) N x
def laws_FnExactTakeReport.fs (N : Nat) : FS := { arg := .pair (.pair (.int .i64) (.list (.int .i64))) (.list (.pair (.int .i64) (.list (.int .i64)))), ret := .bool, fresh := true, F := laws_FnExactTakeReport.F N }

theorem laws_FnExactTakeReport.F_eq (N : Nat) (aP : (Int × List Int) × List (Int × List Int)) : laws_FnExactTakeReport.F N aP =
    bindO (laws_szPipe.F N (aP, (1048576 : Int))) fun r1 =>
    bif decide (r1 < (0 : Int)) then
      some true
    else
      bindO (laws_toPipeh.H N aP (hhide ([] : List HRow))) fun r2 =>
      bif (hok (hmerge ([] : List HRow) r2.2) (.int .i64) r2.1.1.2) && (List.all r2.1.2 (Ty.unok (hmerge ([] : List HRow) r2.2) (.pair (.int .i64) (.hnd (.int .i64))))) then
      bindO (spec_TakeReport.F N ((r2.1.1.1, hcut (hmerge ([] : List HRow) r2.2) (.int .i64) r2.1.1.2), List.map (Ty.unden (hmerge ([] : List HRow) r2.2) (.pair (.int .i64) (.hnd (.int .i64)))) r2.1.2)) fun r3 =>
      bindO (laws_toPipeh.H N aP (hhide (hmerge ([] : List HRow) r2.2))) fun r4 =>
      bif (hok (hmerge (hmerge ([] : List HRow) r2.2) r4.2) (.int .i64) r4.1.1.2) && (List.all r4.1.2 (Ty.unok (hmerge (hmerge ([] : List HRow) r2.2) r4.2) (.pair (.int .i64) (.hnd (.int .i64))))) then
      bindO (impl_TakeReporth.H N ((r4.1.1.1, hcut (hmerge (hmerge ([] : List HRow) r2.2) r4.2) (.int .i64) r4.1.1.2), List.map (Ty.unden (hmerge (hmerge ([] : List HRow) r2.2) r4.2) (.pair (.int .i64) (.hnd (.int .i64)))) r4.1.2) (hhide (hmerge (hmerge ([] : List HRow) r2.2) r4.2))) fun r5 =>
      bif (hok (hmerge (hmerge (hmerge ([] : List HRow) r2.2) r4.2) r5.2) (.int .i64) r5.1.1.1.2) && (List.all r5.1.1.2 (Ty.unok (hmerge (hmerge (hmerge ([] : List HRow) r2.2) r4.2) r5.2) (.pair (.int .i64) (.hnd (.int .i64))))) then
      bindO (laws_eqPipe.F N (((r5.1.1.1.1, hcut (hmerge (hmerge (hmerge ([] : List HRow) r2.2) r4.2) r5.2) (.int .i64) r5.1.1.1.2), List.map (Ty.unden (hmerge (hmerge (hmerge ([] : List HRow) r2.2) r4.2) r5.2) (.pair (.int .i64) (.hnd (.int .i64)))) r5.1.1.2), r3.1)) fun r6 =>
      bif !r6 then
        some false
      else
        bif r5.1.2 != r3.2 then
          some false
        else
          bindO (laws_toPipeh.H N aP (hhide (hmerge (hmerge (hmerge ([] : List HRow) r2.2) r4.2) r5.2))) fun r7 =>
          bif (hok (hmerge (hmerge (hmerge (hmerge ([] : List HRow) r2.2) r4.2) r5.2) r7.2) (.int .i64) r4.1.1.2) && ((List.all r4.1.2 (Ty.unok (hmerge (hmerge (hmerge (hmerge ([] : List HRow) r2.2) r4.2) r5.2) r7.2) (.pair (.int .i64) (.hnd (.int .i64))))) && ((hok (hmerge (hmerge (hmerge (hmerge ([] : List HRow) r2.2) r4.2) r5.2) r7.2) (.int .i64) r7.1.1.2) && (List.all r7.1.2 (Ty.unok (hmerge (hmerge (hmerge (hmerge ([] : List HRow) r2.2) r4.2) r5.2) r7.2) (.pair (.int .i64) (.hnd (.int .i64))))))) then
          bindO (laws_eqPipe.F N (((r4.1.1.1, hcut (hmerge (hmerge (hmerge (hmerge ([] : List HRow) r2.2) r4.2) r5.2) r7.2) (.int .i64) r4.1.1.2), List.map (Ty.unden (hmerge (hmerge (hmerge (hmerge ([] : List HRow) r2.2) r4.2) r5.2) r7.2) (.pair (.int .i64) (.hnd (.int .i64)))) r4.1.2), ((r7.1.1.1, hcut (hmerge (hmerge (hmerge (hmerge ([] : List HRow) r2.2) r4.2) r5.2) r7.2) (.int .i64) r7.1.1.2), List.map (Ty.unden (hmerge (hmerge (hmerge (hmerge ([] : List HRow) r2.2) r4.2) r5.2) r7.2) (.pair (.int .i64) (.hnd (.int .i64)))) r7.1.2))) fun r8 =>
          bif !r8 then
            some false
          else
            bindO (laws_markPipe.H N (r4.1, (1 : Int)) (hmerge (hmerge (hmerge (hmerge ([] : List HRow) r2.2) r4.2) r5.2) r7.2)) fun r9 =>
            bif decide (r9.1.1 < (0 : Int)) then
              some false
            else
              bif (hok r9.2 (.int .i64) r5.1.1.1.2) && (List.all r5.1.1.2 (Ty.unok r9.2 (.pair (.int .i64) (.hnd (.int .i64))))) then
              bindO (laws_eqPipe.F N (((r5.1.1.1.1, hcut r9.2 (.int .i64) r5.1.1.1.2), List.map (Ty.unden r9.2 (.pair (.int .i64) (.hnd (.int .i64)))) r5.1.1.2), r3.1)) fun r10 =>
              bif !r10 then
                some false
              else
                bif r5.1.2 != r3.2 then
                  some false
                else
                  bindO (laws_markPipe.H N (r5.1.1, (1 : Int)) r9.2) fun r11 =>
                  bif (hok r11.2 (.int .i64) r5.1.1.1.2) && (List.all r11.1.2 (Ty.unok r11.2 (.pair (.int .i64) (.hnd (.int .i64))))) then
                  bindO (laws_heldPipe.F N (((r5.1.1.1.1, hcut r11.2 (.int .i64) r5.1.1.1.2), List.map (Ty.unden r11.2 (.pair (.int .i64) (.hnd (.int .i64)))) r11.1.2), (1 : Int))) fun r12 =>
                  bif decide (r12 < (0 : Int)) then
                    some false
                  else
                    bif r12 != r11.1.1 then
                      some false
                    else
                      bindO (laws_toPipeh.H N aP (hhide r11.2)) fun r13 =>
                      bif (hok (hmerge r11.2 r13.2) (.int .i64) r13.1.1.2) && (List.all r13.1.2 (Ty.unok (hmerge r11.2 r13.2) (.pair (.int .i64) (.hnd (.int .i64))))) then
                      bindO (impl_TakeReporth.H N ((r13.1.1.1, hcut (hmerge r11.2 r13.2) (.int .i64) r13.1.1.2), List.map (Ty.unden (hmerge r11.2 r13.2) (.pair (.int .i64) (.hnd (.int .i64)))) r13.1.2) (hhide (hmerge r11.2 r13.2))) fun r14 =>
                      bif (hok (hmerge (hmerge r11.2 r13.2) r14.2) (.int .i64) r14.1.1.1.2) && (List.all r14.1.1.2 (Ty.unok (hmerge (hmerge r11.2 r13.2) r14.2) (.pair (.int .i64) (.hnd (.int .i64))))) then
                      bindO (laws_eqPipe.F N (((r14.1.1.1.1, hcut (hmerge (hmerge r11.2 r13.2) r14.2) (.int .i64) r14.1.1.1.2), List.map (Ty.unden (hmerge (hmerge r11.2 r13.2) r14.2) (.pair (.int .i64) (.hnd (.int .i64)))) r14.1.1.2), r3.1)) fun r15 =>
                      bif !r15 then
                        some false
                      else
                        bif r14.1.2 != r3.2 then
                          some false
                        else
                          bif (hok (hmerge (hmerge r11.2 r13.2) r14.2) (.int .i64) r5.1.1.1.2) && (List.all r11.1.2 (Ty.unok (hmerge (hmerge r11.2 r13.2) r14.2) (.pair (.int .i64) (.hnd (.int .i64))))) then
                          bindO (laws_heldPipe.F N (((r5.1.1.1.1, hcut (hmerge (hmerge r11.2 r13.2) r14.2) (.int .i64) r5.1.1.1.2), List.map (Ty.unden (hmerge (hmerge r11.2 r13.2) r14.2) (.pair (.int .i64) (.hnd (.int .i64)))) r11.1.2), (1 : Int))) fun r16 =>
                          bif decide (r16 < (0 : Int)) then
                            some false
                          else
                            bif r16 != r11.1.1 then
                              some false
                            else
                              some true
                          else none
                      else none
                      else none
                  else none
              else none
          else none
      else none
      else none
      else none := by kernel_rfl

end Go.Kb
