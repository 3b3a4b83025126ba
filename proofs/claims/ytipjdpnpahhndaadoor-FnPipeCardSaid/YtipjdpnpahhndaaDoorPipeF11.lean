/- The texts of functions, printed by a program, and the equations of their runs. -/
import Derived.Test.YtipjdpnpahhndaaDoorPipeF1
import Derived.Test.YtipjdpnpahhndaaDoorPipeF2
import Derived.Test.YtipjdpnpahhndaaDoorPipeF3
import Derived.Test.YtipjdpnpahhndaaDoorPipeF4
import Derived.Test.YtipjdpnpahhndaaDoorPipeF5
import Derived.Test.YtipjdpnpahhndaaDoorPipeF6
import Derived.Test.YtipjdpnpahhndaaDoorPipeF7
import Derived.Test.YtipjdpnpahhndaaDoorPipeF8
import Derived.Test.YtipjdpnpahhndaaDoorPipeF9
import Derived.Test.YtipjdpnpahhndaaDoorPipeF10
import Derived.KernelRfl
namespace Go.Kb
def spec_MakeReports.x : XFunc := { nslots := 9, nobj := 1, pars := [.val false 1, .val false 1], rowsIn := [none, none], rets := [.tmp 4 false 1], outs := [.imm], fresh := false, arg := .pair (.list (.int .u8)) (.int .i64), ret := .list (.pair (.int .i64) (.list (.int .i64))), body := .seq (.region false [op 4 .move [.const (.one (.nil))]]) (.seq (.region false [mv 5 0, ow 6 (.call ⟨237, vs 2, no 2, [.box 0 3], ims 3, false⟩) [.slot 5, .const (.one (.int .i64 (5 : Int)))] [0] [0], mv 7 1, ow 8 (.call ⟨399, [.box 0 3, .val false 1], no 4, [.val false 1], ims 4, false⟩) [.slot 6, .slot 7] [0] [0], mv 4 8]) (.ret)) }
def spec_MakeReports.env (N : Nat) : Env := envOf (tbl [(399, spec_l13Reports.fs N), (237, spec_l24New.fs N)] noFS)
def spec_MakeReports.F (N : Nat) (x : (List Int) × Int) : Option (List (Int × List Int)) := XFunc.run spec_MakeReports.x (spec_MakeReports.env N) N x
def spec_MakeReports.fs (N : Nat) : FS := { arg := .pair (.list (.int .u8)) (.int .i64), ret := .list (.pair (.int .i64) (.list (.int .i64))), fresh := false, F := spec_MakeReports.F N }

theorem spec_MakeReports.F_eq (N : Nat) (code : List Int) (most : Int) : spec_MakeReports.F N (code, most) =
    bindO (spec_l24New.F N (code, (5 : Int))) fun r1 =>
    bindO (spec_l13Reports.F N (r1, most)) fun r2 =>
    some r2.1 := by kernel_rfl

def impl_copyInts.x : XFunc := { nslots := 5, nobj := 1, pars := [.val false 1], rowsIn := [none], rets := [.tmp 2 false 1], outs := [.own 2], fresh := true, arg := .list (.int .i64), ret := .list (.int .i64), body := .seq (.region false [op 2 .move [.const (.one (.nil))]]) (.seq (.region false [mv 3 0, ow 4 (.append false 0 2 (.int .i64)) [.const (.one (.nil)), .slot 3] [0] [0], mv 2 4]) (.ret)) }
def impl_copyInts.env (_ : Nat) : Env := envOf (tbl [] noFS)
def impl_copyInts.F (N : Nat) (x : List Int) : Option (List Int) := XFunc.run impl_copyInts.x (impl_copyInts.env N) N x
def impl_copyInts.fs (N : Nat) : FS := { arg := .list (.int .i64), ret := .list (.int .i64), fresh := true, F := impl_copyInts.F N }

theorem impl_copyInts.F_eq (N : Nat) (l_ : List Int) : impl_copyInts.F N l_ =
    bif decide (List.length l_ ≤ maxN) then
    some l_
    else none := by kernel_rfl

def impl_copyReport.x : XFunc := { nslots := 9, nobj := 2, pars := [.val true 2], rowsIn := [none, none], rets := [.var 2 true 2], outs := [.imm, .imm], fresh := true, arg := .pair (.int .i64) (.list (.int .i64)), ret := .pair (.int .i64) (.list (.int .i64)), body := .seq (.region false [ow 1 (.box 0) [.slot 0] [0] [0], ow 2 (.alloc 1 [.int .i64 (0 : Int), .nil]) [] [1] [1]]) (.seq (.region true [o1 3 (.fieldAddr 0) 1, ow 4 (.load false 1) [.slot 3] [0] [], o1 5 (.fieldAddr 1) 1, ow 6 (.load false 1) [.slot 5] [0] [], o1 7 (.call ⟨114, vs 1, no 1, [.val false 1], ims 1, true⟩) 6, o2 8 (.build [.int .i64 (0 : Int), .nil] [(0, 1), (1, 1)]) 4 7, on (.store 2) [.slot 2, .slot 8] [1] [1]]) (.ret)) }
def impl_copyReport.env (N : Nat) : Env := envOf (tbl [(114, impl_copyInts.fs N)] noFS)
def impl_copyReport.F (N : Nat) (x : Int × List Int) : Option (Int × List Int) := XFunc.run impl_copyReport.x (impl_copyReport.env N) N x
def impl_copyReport.fs (N : Nat) : FS := { arg := .pair (.int .i64) (.list (.int .i64)), ret := .pair (.int .i64) (.list (.int .i64)), fresh := true, F := impl_copyReport.F N }

theorem impl_copyReport.F_eq (N : Nat) (r_ : Int × List Int) : impl_copyReport.F N r_ =
    bindO (impl_copyInts.F N r_.2) fun r1 =>
    some (r_.1, r1) := by kernel_rfl

def impl_copyPipe.c1 : XCode := .seq (.region false [o2 14 (.bin .lss) 13 12]) (.seq (.cond (.slot 14) (.skip) (.exit 0)) (.seq (.block 1 (.seq (.region false [o2 15 (.indexAddr (.pair (.int .i64) (.list (.int .i64)))) 11 13, o1 16 (.load true 2) 15, ow 5 (.alloc 3 [.int .i64 (0 : Int), .nil]) [] [3] [3], on (.store 2) [.slot 5, .slot 16] [3] [3]]) (.region true [o1 17 (.fieldAddr 2) 3, ow 18 (.load false 1) [.slot 17] [2] [], ow 19 (.load true 2) [.slot 5] [3] [], o1 20 (.call ⟨334, [.val true 2], no 2, [.val true 2], ims 2, true⟩) 19, ow 21 (.buildSlice false 4 12 (.pair (.int .i64) (.list (.int .i64))) 1 [(0, 2)] [.int .i64 (0 : Int), .nil]) [.slot 20] [4] [4], ow 22 (.append false 5 12 (.pair (.int .i64) (.list (.int .i64)))) [.slot 18, .slot 21] [4, 5] [5], o1 23 (.fieldAddr 2) 3, on (.store 1) [.slot 23, .slot 22] [2] [2]]))) (.region false [op 24 (.bin .add) [.slot 13, .const (.one (.int .i64 (1 : Int)))], mv 13 24])))
def impl_copyPipe.c2 : XCode := .seq (.region false [ow 25 (.load true 3) [.slot 3] [2] [], on (.store 3) [.slot 2, .slot 25] [1] [1]]) (.ret)
def impl_copyPipe.x : XFunc := { nslots := 26, nobj := 6, pars := [.val true 3], rowsIn := [none, none, none], rets := [.var 2 true 3], outs := [.imm, .imm, .own 12], fresh := true, arg := .pair (.pair (.int .i64) (.list (.int .i64))) (.list (.pair (.int .i64) (.list (.int .i64)))), ret := .pair (.pair (.int .i64) (.list (.int .i64))) (.list (.pair (.int .i64) (.list (.int .i64)))), body := .seq (.region false [ow 1 (.box 0) [.slot 0] [0] [0], ow 2 (.alloc 1 [.int .i64 (0 : Int), .nil, .nil]) [] [1] [1]]) (.seq (.region false [o1 6 (.fieldAddr 0) 1, ow 7 (.load true 2) [.slot 6] [0] [], o1 8 (.call ⟨334, [.val true 2], no 2, [.val true 2], ims 2, true⟩) 7, o1 9 (.build [.int .i64 (0 : Int), .nil, .nil] [(0, 2)]) 8, ow 3 (.alloc 2 [.int .i64 (0 : Int), .nil, .nil]) [] [2] [2], on (.store 3) [.slot 3, .slot 9] [2] [2]]) (.seq (.seq (.region false [o1 10 (.fieldAddr 2) 1, ow 11 (.load false 1) [.slot 10] [0] [], o1 12 .len 11, op 13 .move [.const (.one (.int .i64 (0 : Int)))]]) (.block 0 (.loop [.mkrow (.boxc 2 2) 5 12 (.pair (.int .i64) (.list (.int .i64))), .keep [2, 3, 11, 12, 13], .drop 0, .drop 3, .drop 4, .norm] (impl_copyPipe.c1)))) (impl_copyPipe.c2))) }
def impl_copyPipe.env (N : Nat) : Env := envOf (tbl [(334, impl_copyReport.fs N)] noFS)
def impl_copyPipe.F (N : Nat) (x : (Int × List Int) × List (Int × List Int)) : Option ((Int × List Int) × List (Int × List Int)) := XFunc.run impl_copyPipe.x (impl_copyPipe.env N) N x
def impl_copyPipe.fs (N : Nat) : FS := { arg := .pair (.pair (.int .i64) (.list (.int .i64))) (.list (.pair (.int .i64) (.list (.int .i64)))), ret := .pair (.pair (.int .i64) (.list (.int .i64))) (.list (.pair (.int .i64) (.list (.int .i64)))), fresh := true, F := impl_copyPipe.F N }
def impl_copyPipe.k2 (N : Nat) : Ex → S → Option ((Int × List Int) × List (Int × List Int)) := seqK (fun s => XCode.runK (impl_copyPipe.env N) N (impl_copyPipe.c2) s (XFunc.endK impl_copyPipe.x)) (XFunc.endK impl_copyPipe.x)
def impl_copyPipe.k1 (N : Nat) : Ex → S → Option ((Int × List Int) × List (Int × List Int)) := blockK 0 (impl_copyPipe.k2 N)
def impl_copyPipe.L1 (N : Nat) (n1 : Nat) (t11 : List (Int × List Int)) (t12 : Int) (t13 : Int) (o20 : Int) (o21 : List Int) (o5 : List (Int × List Int)) : Option ((Int × List Int) × List (Int × List Int)) := loopK [.mkrow (.boxc 2 2) 5 12 (.pair (.int .i64) (.list (.int .i64))), .keep [2, 3, 11, 12, 13], .drop 0, .drop 3, .drop 4, .norm] (fun s k => XCode.runK (impl_copyPipe.env N) N impl_copyPipe.c1 s k) n1
  { t := [.junk, .junk, .one (.ptr 1 0 0), .one (.ptr 2 0 0), .junk, .junk, .junk, .junk, .junk, .junk, .junk, .one (.sl false (.pair (.int .i64) (.list (.int .i64))) t11), .one (.int .i64 t12), .one (.int .i64 t13), .junk, .junk, .junk, .junk, .junk, .junk, .junk, .junk, .junk, .junk, .junk, .junk], h := [.absent 0, .box 0 false [.int .i64 (0 : Int), .nil, .nil], .box 0 false [.int .i64 o20, .sl true (.int .i64) o21, .ref 5 0 .all], .absent 0, .absent 0, .row 0 false true 12 (.pair (.int .i64) (.list (.int .i64))) o5] }
  (impl_copyPipe.k1 N)

theorem impl_copyPipe.L1_eq (N : Nat) (n1 : Nat) (t11 : List (Int × List Int)) (t12 : Int) (t13 : Int) (o20 : Int) (o21 : List Int) (o5 : List (Int × List Int)) : impl_copyPipe.L1 N (n1 + 1) t11 t12 t13 o20 o21 o5 =
    bif decide (t13 < t12) then
      bif inRange t13 (List.length t11) then
      bindO (impl_copyReport.F N (nth ((0 : Int), ([] : List Int)) t11 t13)) fun r2 =>
      bif decide (List.length o5 + List.length ([r2] : List (Int × List Int)) ≤ maxN) then
      impl_copyPipe.L1 N n1 t11 t12 (IntKind.wrap .i64 (t13 + (1 : Int))) o20 o21 (o5 ++ ([r2] : List (Int × List Int)))
      else none
      else none
    else
      some ((o20, o21), o5) := by kernel_rfl
theorem impl_copyPipe.F_eq (N : Nat) (p : (Int × List Int) × List (Int × List Int)) : impl_copyPipe.F N p =
    bindO (impl_copyReport.F N p.1) fun r1 =>
    impl_copyPipe.L1 N N p.2 (List.length p.2 : Int) (0 : Int) r1.1 r1.2 ([] : List (Int × List Int)) := by kernel_rfl

def impl_PushReport.c1 : XCode := .seq (.seq (.region false [mv 48 8, op 49 (.bin .add) [.slot 48, .const (.one (.int .i64 (1 : Int)))], mv 50 7, ow 51 .len [.slot 50] [4] [], o2 52 (.bin .lss) 49 51]) (.cond (.slot 52) (.skip) (.exit 0))) (.seq (.block 1 (.seq (.region true [mv 55 7, mv 56 8, op 57 (.bin .sub) [.slot 56, .const (.one (.int .i64 (1 : Int)))], ow 58 (.indexAddr (.pair (.int .i64) (.list (.int .i64)))) [.slot 55, .slot 57] [4] [], ow 59 (.load true 2) [.slot 58] [4] [], mv 60 7, mv 61 8, ow 62 (.indexAddr (.pair (.int .i64) (.list (.int .i64)))) [.slot 60, .slot 61] [4] [], ow 63 (.load true 2) [.slot 62] [4] [], mv 64 7, mv 65 8, op 66 (.bin .add) [.slot 65, .const (.one (.int .i64 (1 : Int)))], ow 67 (.indexAddr (.pair (.int .i64) (.list (.int .i64)))) [.slot 64, .slot 66] [4] [], ow 68 (.load true 2) [.slot 67] [4] [], op 69 (.call ⟨269, [.val true 2, .val true 2, .val true 2], no 6, [.val false 1], ims 1, true⟩) [.slot 59, .slot 63, .slot 68]]) (.cond (.slot 69) (.seq (.region true [mv 70 7, mv 71 8, ow 72 (.slice (.pair (.int .i64) (.list (.int .i64))) true true) [.slot 70, .const (.one (.int .i64 (1 : Int))), .slot 71] [4] [], ow 73 (.append false 6 12 (.pair (.int .i64) (.list (.int .i64)))) [.const (.one (.nil)), .slot 72] [4, 6] [6], mv 74 7, mv 75 8, op 76 (.bin .add) [.slot 75, .const (.one (.int .i64 (1 : Int)))], ow 77 (.slice (.pair (.int .i64) (.list (.int .i64))) true false) [.slot 74, .slot 76] [4] [], ow 78 (.append false 6 12 (.pair (.int .i64) (.list (.int .i64)))) [.slot 73, .slot 77] [4, 6] [6], o1 79 (.fieldAddr 2) 6, on (.store 1) [.slot 79, .slot 78] [3] [3]]) (.seq (.region false [ow 80 (.load true 3) [.slot 6] [3] [], on (.store 3) [.slot 4, .slot 80] [2] [2], op 5 .move [.const (.one (.bool true))]]) (.ret))) (.skip)))) (.region false [mv 53 8, op 54 (.bin .add) [.slot 53, .const (.one (.int .i64 (1 : Int)))], mv 8 54]))
def impl_PushReport.c2 : XCode := .seq (.region false [op 81 (.build [.int .i64 (0 : Int), .nil, .nil] []) [], on (.store 3) [.slot 4, .slot 81] [2] [2], op 5 .move [.const (.one (.bool false))]]) (.ret)
def impl_PushReport.x : XFunc := { nslots := 82, nobj := 7, pars := [.val true 3, .val true 2], rowsIn := [none, none, none, none, none], rets := [.var 4 true 3, .tmp 5 false 1], outs := [.imm, .imm, .imm, .imm], fresh := true, arg := .pair (.pair (.pair (.int .i64) (.list (.int .i64))) (.list (.pair (.int .i64) (.list (.int .i64))))) (.pair (.int .i64) (.list (.int .i64))), ret := .pair (.pair (.pair (.int .i64) (.list (.int .i64))) (.list (.pair (.int .i64) (.list (.int .i64))))) (.bool), body := .seq (.region false [ow 2 (.box 0) [.slot 0] [0] [0], ow 3 (.box 1) [.slot 1] [1] [1], ow 4 (.alloc 2 [.int .i64 (0 : Int), .nil, .nil]) [] [2] [2], op 5 .move [.const (.one (.bool false))]]) (.seq (.seq (.region false [ow 9 (.load true 3) [.slot 2] [0] [], o1 10 (.call ⟨279, [.val true 3], no 3, [.val false 1], ims 1, true⟩) 9, o1 11 .not 10, ⟨some 12, .move, [.slot 11], [], [], none, true⟩, ⟨some 13, .load true 2, [.slot 3], [1], [], some (12, false), false⟩, ⟨some 14, .call ⟨263, [.val true 2], no 2, [.val false 1], ims 1, true⟩, [.slot 13], [], [], some (12, false), false⟩, ⟨some 15, .not, [.slot 14], [], [], some (12, false), false⟩, op 16 .pick [.slot 12, .const (.one (.bool true)), .slot 15]]) (.cond (.slot 16) (.seq (.region false [op 17 (.build [.int .i64 (0 : Int), .nil, .nil] []) [], on (.store 3) [.slot 4, .slot 17] [2] [2], op 5 .move [.const (.one (.bool false))]]) (.ret)) (.skip))) (.seq (.region false [ow 18 (.load true 3) [.slot 2] [0] [], o1 19 (.call ⟨335, [.val true 3], no 3, [.val true 3], ims 3, true⟩) 18, ow 6 (.alloc 3 [.int .i64 (0 : Int), .nil, .nil]) [] [3] [3], on (.store 3) [.slot 6, .slot 19] [3] [3]]) (.seq (.region false [o1 20 (.fieldAddr 0) 6, ow 21 (.load true 2) [.slot 20] [3] [], ow 22 (.buildSlice false 4 12 (.pair (.int .i64) (.list (.int .i64))) 1 [(0, 2)] [.int .i64 (0 : Int), .nil]) [.slot 21] [4] [4], o1 23 (.fieldAddr 2) 6, ow 24 (.load false 1) [.slot 23] [3] [], ow 25 (.append false 4 12 (.pair (.int .i64) (.list (.int .i64)))) [.slot 22, .slot 24] [4] [4], mv 7 25]) (.seq (.seq (.region true [mv 26 7, mv 27 7, ow 28 .len [.slot 27] [4] [], op 29 (.bin .sub) [.slot 28, .const (.one (.int .i64 (1 : Int)))], ow 30 (.indexAddr (.pair (.int .i64) (.list (.int .i64)))) [.slot 26, .slot 29] [4] [], ow 31 (.load true 2) [.slot 30] [4] [], ow 32 (.load true 2) [.slot 3] [1] [], o2 33 (.call ⟨206, [.val true 2, .val true 2], no 4, [.val false 1], ims 1, true⟩) 31 32]) (.cond (.slot 33) (.seq (.region false [ow 34 (.load true 3) [.slot 6] [3] [], on (.store 3) [.slot 4, .slot 34] [2] [2], op 5 .move [.const (.one (.bool true))]]) (.ret)) (.skip))) (.seq (.region false [mv 35 7, ow 36 (.load true 2) [.slot 3] [1] [], o1 37 (.call ⟨334, [.val true 2], no 2, [.val true 2], ims 2, true⟩) 36, ow 38 (.buildSlice false 5 12 (.pair (.int .i64) (.list (.int .i64))) 1 [(0, 2)] [.int .i64 (0 : Int), .nil]) [.slot 37] [5] [5], ow 39 (.append false 4 12 (.pair (.int .i64) (.list (.int .i64)))) [.slot 35, .slot 38] [4, 5] [4], mv 7 39]) (.seq (.seq (.region false [mv 40 7, ow 41 .len [.slot 40] [4] [], op 42 (.bin .sub) [.slot 41, .const (.one (.int .i64 (1 : Int)))], op 43 (.bin .leq) [.slot 42, .const (.one (.int .i64 (8 : Int)))]]) (.cond (.slot 43) (.seq (.region false [mv 44 7, ow 45 (.slice (.pair (.int .i64) (.list (.int .i64))) true false) [.slot 44, .const (.one (.int .i64 (1 : Int)))] [4] [], o1 46 (.fieldAddr 2) 6, on (.store 1) [.slot 46, .slot 45] [3] [3]]) (.seq (.region false [ow 47 (.load true 3) [.slot 6] [3] [], on (.store 3) [.slot 4, .slot 47] [2] [2], op 5 .move [.const (.one (.bool true))]]) (.ret))) (.skip))) (.seq (.seq (.region false [op 8 .move [.const (.one (.int .i64 (1 : Int)))]]) (.block 0 (.loop [.keep [4, 6, 7, 8], .drop 0, .drop 1, .drop 5, .drop 6, .norm] (impl_PushReport.c1)))) (impl_PushReport.c2)))))))) }
def impl_PushReport.env (N : Nat) : Env := envOf (tbl [(279, impl_IsPipe.fs N), (263, impl_IsReport.fs N), (269, impl_MayDrop.fs N), (206, impl_SameReport.fs N), (335, impl_copyPipe.fs N), (334, impl_copyReport.fs N)] noFS)
def impl_PushReport.F (N : Nat) (x : ((Int × List Int) × List (Int × List Int)) × Int × List Int) : Option (((Int × List Int) × List (Int × List Int)) × Bool) := XFunc.run impl_PushReport.x (impl_PushReport.env N) N x
def impl_PushReport.fs (N : Nat) : FS := { arg := .pair (.pair (.pair (.int .i64) (.list (.int .i64))) (.list (.pair (.int .i64) (.list (.int .i64))))) (.pair (.int .i64) (.list (.int .i64))), ret := .pair (.pair (.pair (.int .i64) (.list (.int .i64))) (.list (.pair (.int .i64) (.list (.int .i64))))) (.bool), fresh := true, F := impl_PushReport.F N }
def impl_PushReport.k2 (N : Nat) : Ex → S → Option (((Int × List Int) × List (Int × List Int)) × Bool) := seqK (fun s => XCode.runK (impl_PushReport.env N) N (impl_PushReport.c2) s (XFunc.endK impl_PushReport.x)) (XFunc.endK impl_PushReport.x)
def impl_PushReport.k1 (N : Nat) : Ex → S → Option (((Int × List Int) × List (Int × List Int)) × Bool) := blockK 0 (impl_PushReport.k2 N)
def impl_PushReport.L1 (N : Nat) (n1 : Nat) (i : Int) (o30 : Int) (o31 : List Int) (o32 : List (Int × List Int)) (o4 : List (Int × List Int)) : Option (((Int × List Int) × List (Int × List Int)) × Bool) := loopK [.keep [4, 6, 7, 8], .drop 0, .drop 1, .drop 5, .drop 6, .norm] (fun s k => XCode.runK (impl_PushReport.env N) N impl_PushReport.c1 s k) n1
  { t := [.junk, .junk, .junk, .junk, .one (.ptr 2 0 0), .junk, .one (.ptr 3 0 0), .one (.ref 4 0 .all), .one (.int .i64 i), .junk, .junk, .junk, .junk, .junk, .junk, .junk, .junk, .junk, .junk, .junk, .junk, .junk, .junk, .junk, .junk, .junk, .junk, .junk, .junk, .junk, .junk, .junk, .junk, .junk, .junk, .junk, .junk, .junk, .junk, .junk, .junk, .junk, .junk, .junk, .junk, .junk, .junk, .junk, .junk, .junk, .junk, .junk, .junk, .junk, .junk, .junk, .junk, .junk, .junk, .junk, .junk, .junk, .junk, .junk, .junk, .junk, .junk, .junk, .junk, .junk, .junk, .junk, .junk, .junk, .junk, .junk, .junk, .junk, .junk, .junk, .junk, .junk], h := [.absent 0, .absent 0, .box 0 false [.int .i64 (0 : Int), .nil, .nil], .box 0 false [.int .i64 o30, .sl true (.int .i64) o31, .sl true (.pair (.int .i64) (.list (.int .i64))) o32], .row 0 false true 12 (.pair (.int .i64) (.list (.int .i64))) o4, .absent 0, .absent 0] }
  (impl_PushReport.k1 N)

theorem impl_PushReport.L1_eq (N : Nat) (n1 : Nat) (i : Int) (o30 : Int) (o31 : List Int) (o32 : List (Int × List Int)) (o4 : List (Int × List Int)) : impl_PushReport.L1 N (n1 + 1) i o30 o31 o32 o4 =
    bif decide ((IntKind.wrap .i64 (i + (1 : Int))) < (List.length o4 : Int)) then
      bif inRange (IntKind.wrap .i64 (i - (1 : Int))) (List.length o4) then
      bif inRange i (List.length o4) then
      bif inRange (IntKind.wrap .i64 (i + (1 : Int))) (List.length o4) then
      bindO (impl_MayDrop.F N ((List.getD o4 (Int.toNat (IntKind.wrap .i64 (i - (1 : Int)))) ((0 : Int), ([] : List Int))), ((List.getD o4 (Int.toNat i) ((0 : Int), ([] : List Int))), (List.getD o4 (Int.toNat (IntKind.wrap .i64 (i + (1 : Int)))) ((0 : Int), ([] : List Int)))))) fun r6 =>
      bif r6 then
        bif bounds (1 : Int) i (List.length o4) then
        bif decide (List.length (List.drop 1 (List.take (Int.toNat i) o4)) ≤ maxN) then
        bif decide (0 ≤ IntKind.wrap .i64 (i + (1 : Int))) && decide (IntKind.wrap .i64 (i + (1 : Int)) ≤ (List.length o4 : Int)) then
        bif decide (List.length (List.drop 1 (List.take (Int.toNat i) o4)) + List.length (List.drop (Int.toNat (IntKind.wrap .i64 (i + (1 : Int)))) o4) ≤ maxN) then
        some (((o30, o31), (List.drop 1 (List.take (Int.toNat i) o4)) ++ (List.drop (Int.toNat (IntKind.wrap .i64 (i + (1 : Int)))) o4)), true)
        else none
        else none
        else none
        else none
      else
        impl_PushReport.L1 N n1 (IntKind.wrap .i64 (i + (1 : Int))) o30 o31 o32 o4
      else none
      else none
      else none
    else
      some ((((0 : Int), ([] : List Int)), ([] : List (Int × List Int))), false) := by kernel_rfl
theorem impl_PushReport.F_eq (N : Nat) (p : (Int × List Int) × List (Int × List Int)) (r_ : Int × List Int) : impl_PushReport.F N (p, r_) =
    bindO (impl_IsPipe.F N p) fun r1 =>
    bif !r1 then
      some ((((0 : Int), ([] : List Int)), ([] : List (Int × List Int))), false)
    else
      bindO (impl_IsReport.F N r_) fun r2 =>
      bif !r2 then
        some ((((0 : Int), ([] : List Int)), ([] : List (Int × List Int))), false)
      else
        bindO (impl_copyPipe.F N p) fun r3 =>
        bif decide (List.length ([r3.1] : List (Int × List Int)) + List.length r3.2 ≤ maxN) then
        bif inRange (IntKind.wrap .i64 ((List.length (([r3.1] : List (Int × List Int)) ++ r3.2) : Int) - (1 : Int))) (List.length (([r3.1] : List (Int × List Int)) ++ r3.2)) then
        bindO (impl_SameReport.F N ((List.getD (([r3.1] : List (Int × List Int)) ++ r3.2) (Int.toNat (IntKind.wrap .i64 ((List.length (([r3.1] : List (Int × List Int)) ++ r3.2) : Int) - (1 : Int)))) ((0 : Int), ([] : List Int))), r_)) fun r4 =>
        bif r4 then
          some (r3, true)
        else
          bindO (impl_copyReport.F N r_) fun r5 =>
          bif decide (List.length (([r3.1] : List (Int × List Int)) ++ r3.2) + List.length ([r5] : List (Int × List Int)) ≤ maxN) then
          bif decide ((IntKind.wrap .i64 ((List.length ((([r3.1] : List (Int × List Int)) ++ r3.2) ++ ([r5] : List (Int × List Int))) : Int) - (1 : Int))) ≤ (8 : Int)) then
            bif decide (0 ≤ (1 : Int)) && decide ((1 : Int) ≤ (List.length ((([r3.1] : List (Int × List Int)) ++ r3.2) ++ ([r5] : List (Int × List Int))) : Int)) then
            some ((r3.1, List.drop 1 ((([r3.1] : List (Int × List Int)) ++ r3.2) ++ ([r5] : List (Int × List Int)))), true)
            else none
          else
            impl_PushReport.L1 N N (1 : Int) r3.1.1 r3.1.2 r3.2 ((([r3.1] : List (Int × List Int)) ++ r3.2) ++ ([r5] : List (Int × List Int)))
          else none
        else none
        else none := by kernel_rfl

def spec_l7Copy.x : XFunc := { nslots := 10, nobj := 3, pars := [.val true 2], rowsIn := [none, none], rets := [.var 2 true 2], outs := [.imm, .own 2], fresh := true, arg := .pair (.int .i64) (.list (.int .i64)), ret := .pair (.int .i64) (.list (.int .i64)), body := .seq (.region false [ow 1 (.box 0) [.slot 0] [0] [0], ow 2 (.alloc 1 [.int .i64 (0 : Int), .nil]) [] [1] [1]]) (.seq (.region true [o1 3 (.fieldAddr 0) 1, ow 4 (.load false 1) [.slot 3] [0] [], ow 5 (.buildSlice false 2 2 (.int .i64) 0 [] [.int .i64 (0 : Int)]) [] [2] [2], o1 6 (.fieldAddr 1) 1, ow 7 (.load false 1) [.slot 6] [0] [], ow 8 (.append false 2 2 (.int .i64)) [.slot 5, .slot 7] [2] [2], o2 9 (.build [.int .i64 (0 : Int), .nil] [(0, 1), (1, 1)]) 4 8, on (.store 2) [.slot 2, .slot 9] [1] [1]]) (.ret)) }
def spec_l7Copy.env (_ : Nat) : Env := envOf (tbl [] noFS)
def spec_l7Copy.F (N : Nat) (x : Int × List Int) : Option (Int × List Int) := XFunc.run spec_l7Copy.x (spec_l7Copy.env N) N x
def spec_l7Copy.fs (N : Nat) : FS := { arg := .pair (.int .i64) (.list (.int .i64)), ret := .pair (.int .i64) (.list (.int .i64)), fresh := true, F := spec_l7Copy.F N }

theorem spec_l7Copy.F_eq (N : Nat) (r_ : Int × List Int) : spec_l7Copy.F N r_ =
    bif decide (List.length ([] : List Int) + List.length r_.2 ≤ maxN) then
    some (r_.1, ([] : List Int) ++ r_.2)
    else none := by kernel_rfl

def spec_l13Copy.c1 : XCode := .seq (.seq (.region false [mv 9 4, o1 10 (.fieldAddr 2) 1, ow 11 (.load false 1) [.slot 10] [0] [], o1 12 .len 11, o2 13 (.bin .lss) 9 12]) (.cond (.slot 13) (.skip) (.exit 0))) (.seq (.block 1 (.region true [o1 16 (.fieldAddr 2) 3, ow 17 (.load false 1) [.slot 16] [2] [], o1 18 (.fieldAddr 2) 1, ow 19 (.load false 1) [.slot 18] [0] [], mv 20 4, o2 21 (.indexAddr (.pair (.int .i64) (.list (.int .i64)))) 19 20, o1 22 (.load true 2) 21, o1 23 (.call ⟨314, [.val true 2], no 2, [.val true 2], ims 2, true⟩) 22, ow 24 (.buildSlice false 3 12 (.pair (.int .i64) (.list (.int .i64))) 1 [(0, 2)] [.int .i64 (0 : Int), .nil]) [.slot 23] [3] [3], ow 25 (.append false 4 12 (.pair (.int .i64) (.list (.int .i64)))) [.slot 17, .slot 24] [3, 4] [4], o1 26 (.fieldAddr 2) 3, on (.store 1) [.slot 26, .slot 25] [2] [2]])) (.region false [mv 14 4, op 15 (.bin .add) [.slot 14, .const (.one (.int .i64 (1 : Int)))], mv 4 15]))
def spec_l13Copy.c2 : XCode := .seq (.region false [ow 27 (.load true 3) [.slot 3] [2] [], on (.store 3) [.slot 2, .slot 27] [1] [1]]) (.ret)
def spec_l13Copy.x : XFunc := { nslots := 28, nobj := 5, pars := [.val true 3], rowsIn := [none, none, none], rets := [.var 2 true 3], outs := [.imm, .imm, .own 12], fresh := true, arg := .pair (.pair (.int .i64) (.list (.int .i64))) (.list (.pair (.int .i64) (.list (.int .i64)))), ret := .pair (.pair (.int .i64) (.list (.int .i64))) (.list (.pair (.int .i64) (.list (.int .i64)))), body := .seq (.region false [ow 1 (.box 0) [.slot 0] [0] [0], ow 2 (.alloc 1 [.int .i64 (0 : Int), .nil, .nil]) [] [1] [1]]) (.seq (.region false [o1 5 (.fieldAddr 0) 1, ow 6 (.load true 2) [.slot 5] [0] [], o1 7 (.call ⟨314, [.val true 2], no 2, [.val true 2], ims 2, true⟩) 6, o1 8 (.build [.int .i64 (0 : Int), .nil, .nil] [(0, 2)]) 7, ow 3 (.alloc 2 [.int .i64 (0 : Int), .nil, .nil]) [] [2] [2], on (.store 3) [.slot 3, .slot 8] [2] [2]]) (.seq (.seq (.region false [op 4 .move [.const (.one (.int .i64 (0 : Int)))]]) (.block 0 (.loop [.mkrow (.boxc 2 2) 4 12 (.pair (.int .i64) (.list (.int .i64))), .keep [1, 2, 3, 4], .drop 3, .norm] (spec_l13Copy.c1)))) (spec_l13Copy.c2))) }
def spec_l13Copy.env (N : Nat) : Env := envOf (tbl [(314, spec_l7Copy.fs N)] noFS)
def spec_l13Copy.F (N : Nat) (x : (Int × List Int) × List (Int × List Int)) : Option ((Int × List Int) × List (Int × List Int)) := XFunc.run spec_l13Copy.x (spec_l13Copy.env N) N x
def spec_l13Copy.fs (N : Nat) : FS := { arg := .pair (.pair (.int .i64) (.list (.int .i64))) (.list (.pair (.int .i64) (.list (.int .i64)))), ret := .pair (.pair (.int .i64) (.list (.int .i64))) (.list (.pair (.int .i64) (.list (.int .i64)))), fresh := true, F := spec_l13Copy.F N }
def spec_l13Copy.k2 (N : Nat) : Ex → S → Option ((Int × List Int) × List (Int × List Int)) := seqK (fun s => XCode.runK (spec_l13Copy.env N) N (spec_l13Copy.c2) s (XFunc.endK spec_l13Copy.x)) (XFunc.endK spec_l13Copy.x)
def spec_l13Copy.k1 (N : Nat) : Ex → S → Option ((Int × List Int) × List (Int × List Int)) := blockK 0 (spec_l13Copy.k2 N)
def spec_l13Copy.L1 (N : Nat) (n1 : Nat) (i : Int) (o00 : Int) (o01 : List Int) (o02 : List (Int × List Int)) (o20 : Int) (o21 : List Int) (o4 : List (Int × List Int)) : Option ((Int × List Int) × List (Int × List Int)) := loopK [.mkrow (.boxc 2 2) 4 12 (.pair (.int .i64) (.list (.int .i64))), .keep [1, 2, 3, 4], .drop 3, .norm] (fun s k => XCode.runK (spec_l13Copy.env N) N spec_l13Copy.c1 s k) n1
  { t := [.junk, .one (.ptr 0 0 0), .one (.ptr 1 0 0), .one (.ptr 2 0 0), .one (.int .i64 i), .junk, .junk, .junk, .junk, .junk, .junk, .junk, .junk, .junk, .junk, .junk, .junk, .junk, .junk, .junk, .junk, .junk, .junk, .junk, .junk, .junk, .junk, .junk], h := [.box 0 false [.int .i64 o00, .sl false (.int .i64) o01, .sl false (.pair (.int .i64) (.list (.int .i64))) o02], .box 0 false [.int .i64 (0 : Int), .nil, .nil], .box 0 false [.int .i64 o20, .sl true (.int .i64) o21, .ref 4 0 .all], .absent 0, .row 0 false true 12 (.pair (.int .i64) (.list (.int .i64))) o4] }
  (spec_l13Copy.k1 N)

theorem spec_l13Copy.L1_eq (N : Nat) (n1 : Nat) (i : Int) (o00 : Int) (o01 : List Int) (o02 : List (Int × List Int)) (o20 : Int) (o21 : List Int) (o4 : List (Int × List Int)) : spec_l13Copy.L1 N (n1 + 1) i o00 o01 o02 o20 o21 o4 =
    bif decide (i < (List.length o02 : Int)) then
      bif inRange i (List.length o02) then
      bindO (spec_l7Copy.F N (nth ((0 : Int), ([] : List Int)) o02 i)) fun r2 =>
      bif decide (List.length o4 + List.length ([r2] : List (Int × List Int)) ≤ maxN) then
      spec_l13Copy.L1 N n1 (IntKind.wrap .i64 (i + (1 : Int))) o00 o01 o02 o20 o21 (o4 ++ ([r2] : List (Int × List Int)))
      else none
      else none
    else
      some ((o20, o21), o4) := by kernel_rfl
theorem spec_l13Copy.F_eq (N : Nat) (p : (Int × List Int) × List (Int × List Int)) : spec_l13Copy.F N p =
    bindO (spec_l7Copy.F N p.1) fun r1 =>
    spec_l13Copy.L1 N N (0 : Int) p.1.1 p.1.2 p.2 r1.1 r1.2 ([] : List (Int × List Int)) := by kernel_rfl

def spec_l13Drop.c1 : XCode := .seq (.seq (.region false [mv 9 4, op 10 (.bin .add) [.slot 9, .const (.one (.int .i64 (1 : Int)))], mv 11 0, o1 12 .nilck 11, o1 13 (.fieldAddr 2) 12, ow 14 (.load false 1) [.slot 13] [0] [], o1 15 .len 14, o2 16 (.bin .lss) 10 15]) (.cond (.slot 16) (.skip) (.exit 0))) (.seq (.block 1 (.seq (.seq (.region true [ow 19 (.load true 2) [.slot 3] [1] [], mv 20 0, o1 21 .nilck 20, o1 22 (.fieldAddr 2) 21, ow 23 (.load false 1) [.slot 22] [0] [], mv 24 4, o2 25 (.indexAddr (.pair (.int .i64) (.list (.int .i64)))) 23 24, o1 26 (.load true 2) 25, mv 27 0, o1 28 .nilck 27, o1 29 (.fieldAddr 2) 28, ow 30 (.load false 1) [.slot 29] [0] [], mv 31 4, op 32 (.bin .add) [.slot 31, .const (.one (.int .i64 (1 : Int)))], o2 33 (.indexAddr (.pair (.int .i64) (.list (.int .i64)))) 30 32, o1 34 (.load true 2) 33, op 35 (.call ⟨268, [.val true 2, .val true 2, .val true 2], no 6, [.val false 1], ims 1, true⟩) [.slot 19, .slot 26, .slot 34]]) (.cond (.slot 35) (.seq (.region true [mv 36 0, ow 37 (.buildSlice false 2 12 (.pair (.int .i64) (.list (.int .i64))) 0 [] [.int .i64 (0 : Int), .nil]) [] [2] [2], mv 38 0, o1 39 .nilck 38, o1 40 (.fieldAddr 2) 39, ow 41 (.load false 1) [.slot 40] [0] [], mv 42 4, o2 43 (.slice (.pair (.int .i64) (.list (.int .i64))) false true) 41 42, ow 44 (.append false 2 12 (.pair (.int .i64) (.list (.int .i64)))) [.slot 37, .slot 43] [2] [2], mv 45 0, o1 46 .nilck 45, o1 47 (.fieldAddr 2) 46, ow 48 (.load false 1) [.slot 47] [0] [], mv 49 4, op 50 (.bin .add) [.slot 49, .const (.one (.int .i64 (1 : Int)))], o2 51 (.slice (.pair (.int .i64) (.list (.int .i64))) true false) 48 50, ow 52 (.append false 2 12 (.pair (.int .i64) (.list (.int .i64)))) [.slot 44, .slot 51] [2] [2], o1 53 .nilck 36, o1 54 (.fieldAddr 2) 53, on (.store 1) [.slot 54, .slot 52] [0] [0]]) (.seq (.region false [op 2 .move [.const (.one (.bool true))]]) (.ret))) (.skip))) (.region false [mv 55 0, o1 56 .nilck 55, o1 57 (.fieldAddr 2) 56, ow 58 (.load false 1) [.slot 57] [0] [], mv 59 4, o2 60 (.indexAddr (.pair (.int .i64) (.list (.int .i64)))) 58 59, o1 61 (.load true 2) 60, on (.store 2) [.slot 3, .slot 61] [1] [1]]))) (.region false [mv 17 4, op 18 (.bin .add) [.slot 17, .const (.one (.int .i64 (1 : Int)))], mv 4 18]))
def spec_l13Drop.c2 : XCode := .seq (.region false [op 2 .move [.const (.one (.bool false))]]) (.ret)
def spec_l13Drop.x : XFunc := { nslots := 62, nobj := 3, pars := [.box 0 3], rowsIn := [none, none, none], rets := [.tmp 2 false 1], outs := [.imm, .imm, .imm, .imm], fresh := false, arg := .pair (.pair (.int .i64) (.list (.int .i64))) (.list (.pair (.int .i64) (.list (.int .i64)))), ret := .pair (.bool) (.pair (.pair (.int .i64) (.list (.int .i64))) (.list (.pair (.int .i64) (.list (.int .i64))))), body := .seq (.region false [op 2 .move [.const (.one (.bool false))]]) (.seq (.region false [mv 5 0, o1 6 .nilck 5, o1 7 (.fieldAddr 0) 6, ow 8 (.load true 2) [.slot 7] [0] [], ow 3 (.alloc 1 [.int .i64 (0 : Int), .nil]) [] [1] [1], on (.store 2) [.slot 3, .slot 8] [1] [1]]) (.seq (.seq (.region false [op 4 .move [.const (.one (.int .i64 (0 : Int)))]]) (.block 0 (.loop [.keep [0, 3, 4], .drop 2, .norm] (spec_l13Drop.c1)))) (spec_l13Drop.c2))) }
def spec_l13Drop.env (N : Nat) : Env := envOf (tbl [(268, spec_MayDrop.fs N)] noFS)
def spec_l13Drop.F (N : Nat) (x : (Int × List Int) × List (Int × List Int)) : Option (Bool × (Int × List Int) × List (Int × List Int)) := XFunc.run spec_l13Drop.x (spec_l13Drop.env N) N x
def spec_l13Drop.fs (N : Nat) : FS := { arg := .pair (.pair (.int .i64) (.list (.int .i64))) (.list (.pair (.int .i64) (.list (.int .i64)))), ret := .pair (.bool) (.pair (.pair (.int .i64) (.list (.int .i64))) (.list (.pair (.int .i64) (.list (.int .i64))))), fresh := false, F := spec_l13Drop.F N }
def spec_l13Drop.k2 (N : Nat) : Ex → S → Option (Bool × (Int × List Int) × List (Int × List Int)) := seqK (fun s => XCode.runK (spec_l13Drop.env N) N (spec_l13Drop.c2) s (XFunc.endK spec_l13Drop.x)) (XFunc.endK spec_l13Drop.x)
def spec_l13Drop.k1 (N : Nat) : Ex → S → Option (Bool × (Int × List Int) × List (Int × List Int)) := blockK 0 (spec_l13Drop.k2 N)
def spec_l13Drop.L1 (N : Nat) (n1 : Nat) (i : Int) (p0 : Int) (p1 : List Int) (p2 : List (Int × List Int)) (o10 : Int) (o11 : List Int) : Option (Bool × (Int × List Int) × List (Int × List Int)) := loopK [.keep [0, 3, 4], .drop 2, .norm] (fun s k => XCode.runK (spec_l13Drop.env N) N spec_l13Drop.c1 s k) n1
  { t := [.one (.ptr 0 0 0), .junk, .junk, .one (.ptr 1 0 0), .one (.int .i64 i), .junk, .junk, .junk, .junk, .junk, .junk, .junk, .junk, .junk, .junk, .junk, .junk, .junk, .junk, .junk, .junk, .junk, .junk, .junk, .junk, .junk, .junk, .junk, .junk, .junk, .junk, .junk, .junk, .junk, .junk, .junk, .junk, .junk, .junk, .junk, .junk, .junk, .junk, .junk, .junk, .junk, .junk, .junk, .junk, .junk, .junk, .junk, .junk, .junk, .junk, .junk, .junk, .junk, .junk, .junk, .junk, .junk], h := [.box 0 true [.int .i64 p0, .sl false (.int .i64) p1, .sl false (.pair (.int .i64) (.list (.int .i64))) p2], .box 0 false [.int .i64 o10, .sl false (.int .i64) o11], .absent 0] }
  (spec_l13Drop.k1 N)

theorem spec_l13Drop.L1_eq (N : Nat) (n1 : Nat) (i : Int) (p0 : Int) (p1 : List Int) (p2 : List (Int × List Int)) (o10 : Int) (o11 : List Int) : spec_l13Drop.L1 N (n1 + 1) i p0 p1 p2 o10 o11 =
    bif decide ((IntKind.wrap .i64 (i + (1 : Int))) < (List.length p2 : Int)) then
      bif inRange i (List.length p2) then
      bif inRange (IntKind.wrap .i64 (i + (1 : Int))) (List.length p2) then
      bindO (spec_MayDrop.F N ((o10, o11), ((nth ((0 : Int), ([] : List Int)) p2 i), (nth ((0 : Int), ([] : List Int)) p2 (IntKind.wrap .i64 (i + (1 : Int))))))) fun r1 =>
      bif r1 then
        bif decide (0 ≤ i) && decide (i ≤ (List.length p2 : Int)) then
        bif decide (List.length ([] : List (Int × List Int)) + List.length (List.take (Int.toNat i) p2) ≤ maxN) then
        bif decide (0 ≤ IntKind.wrap .i64 (i + (1 : Int))) && decide (IntKind.wrap .i64 (i + (1 : Int)) ≤ (List.length p2 : Int)) then
        bif decide (List.length (([] : List (Int × List Int)) ++ (List.take (Int.toNat i) p2)) + List.length (List.drop (Int.toNat (IntKind.wrap .i64 (i + (1 : Int)))) p2) ≤ maxN) then
        some (true, ((p0, p1), (([] : List (Int × List Int)) ++ (List.take (Int.toNat i) p2)) ++ (List.drop (Int.toNat (IntKind.wrap .i64 (i + (1 : Int)))) p2)))
        else none
        else none
        else none
        else none
      else
        bif inRange i (List.length p2) then
        spec_l13Drop.L1 N n1 (IntKind.wrap .i64 (i + (1 : Int))) p0 p1 p2 ((nth ((0 : Int), ([] : List Int)) p2 i).1) ((nth ((0 : Int), ([] : List Int)) p2 i).2)
        else none
      else none
      else none
    else
      some (false, ((p0, p1), p2)) := by kernel_rfl
theorem spec_l13Drop.F_eq (N : Nat) (p : (Int × List Int) × List (Int × List Int)) : spec_l13Drop.F N p =
    spec_l13Drop.L1 N N (0 : Int) p.1.1 p.1.2 p.2 p.1.1 p.1.2 := by kernel_rfl

def spec_PushReport.x : XFunc := { nslots := 54, nobj := 7, pars := [.val true 3, .val true 2], rowsIn := [none, none, none, none, none], rets := [.var 4 true 3, .tmp 5 false 1], outs := [.imm, .imm, .imm, .imm], fresh := false, arg := .pair (.pair (.pair (.int .i64) (.list (.int .i64))) (.list (.pair (.int .i64) (.list (.int .i64))))) (.pair (.int .i64) (.list (.int .i64))), ret := .pair (.pair (.pair (.int .i64) (.list (.int .i64))) (.list (.pair (.int .i64) (.list (.int .i64))))) (.bool), body := .seq (.region false [ow 2 (.box 0) [.slot 0] [0] [0], ow 3 (.box 1) [.slot 1] [1] [1], ow 4 (.alloc 2 [.int .i64 (0 : Int), .nil, .nil]) [] [2] [2], op 5 .move [.const (.one (.bool false))]]) (.seq (.seq (.region false [ow 8 (.load true 3) [.slot 2] [0] [], o1 9 (.call ⟨278, [.val true 3], no 3, [.val false 1], ims 1, true⟩) 8, o1 10 .not 9, ⟨some 11, .move, [.slot 10], [], [], none, true⟩, ⟨some 12, .load true 2, [.slot 3], [1], [], some (11, false), false⟩, ⟨some 13, .call ⟨260, [.val true 2], no 2, [.val false 1], ims 1, true⟩, [.slot 12], [], [], some (11, false), false⟩, ⟨some 14, .not, [.slot 13], [], [], some (11, false), false⟩, op 15 .pick [.slot 11, .const (.one (.bool true)), .slot 14]]) (.cond (.slot 15) (.seq (.region false [op 16 (.build [.int .i64 (0 : Int), .nil, .nil] []) [], on (.store 3) [.slot 4, .slot 16] [2] [2], op 5 .move [.const (.one (.bool false))]]) (.ret)) (.skip))) (.seq (.region false [ow 17 (.load true 3) [.slot 2] [0] [], ow 18 (.call ⟨332, [.val true 3], no 3, [.val true 3], [.imm, .imm, .own 6 12], true⟩) [.slot 17] [6] [6], ow 6 (.alloc 3 [.int .i64 (0 : Int), .nil, .nil]) [] [3] [3], on (.store 3) [.slot 6, .slot 18] [3] [3]]) (.seq (.region false [o1 19 (.fieldAddr 0) 2, ow 20 (.load true 2) [.slot 19] [0] [], ow 7 (.alloc 4 [.int .i64 (0 : Int), .nil]) [] [4] [4], on (.store 2) [.slot 7, .slot 20] [4] [4]]) (.seq (.seq (.region false [o1 21 (.fieldAddr 2) 2, ow 22 (.load false 1) [.slot 21] [0] [], o1 23 .len 22, op 24 (.bin .gtr) [.slot 23, .const (.one (.int .i64 (0 : Int)))]]) (.cond (.slot 24) (.region false [o1 25 (.fieldAddr 2) 2, ow 26 (.load false 1) [.slot 25] [0] [], o1 27 (.fieldAddr 2) 2, ow 28 (.load false 1) [.slot 27] [0] [], o1 29 .len 28, op 30 (.bin .sub) [.slot 29, .const (.one (.int .i64 (1 : Int)))], o2 31 (.indexAddr (.pair (.int .i64) (.list (.int .i64)))) 26 30, o1 32 (.load true 2) 31, on (.store 2) [.slot 7, .slot 32] [4] [4]]) (.skip))) (.seq (.seq (.region false [ow 33 (.load true 2) [.slot 7] [4] [], ow 34 (.load true 2) [.slot 3] [1] [], o2 35 (.call ⟨277, [.val true 2, .val true 2], no 4, [.val false 1], ims 1, true⟩) 33 34]) (.cond (.slot 35) (.seq (.region false [ow 36 (.load true 3) [.slot 6] [3] [], on (.store 3) [.slot 4, .slot 36] [2] [2], op 5 .move [.const (.one (.bool true))]]) (.ret)) (.skip))) (.seq (.region true [o1 37 (.fieldAddr 2) 6, ow 38 (.load false 1) [.slot 37] [3] [], ow 39 (.load true 2) [.slot 3] [1] [], o1 40 (.call ⟨314, [.val true 2], no 2, [.val true 2], ims 2, true⟩) 39, ow 41 (.buildSlice false 5 12 (.pair (.int .i64) (.list (.int .i64))) 1 [(0, 2)] [.int .i64 (0 : Int), .nil]) [.slot 40] [5] [5], ow 42 (.append false 6 12 (.pair (.int .i64) (.list (.int .i64)))) [.slot 38, .slot 41] [5, 6] [6], o1 43 (.fieldAddr 2) 6, on (.store 1) [.slot 43, .slot 42] [3] [3]]) (.seq (.seq (.adj [.freeze 6] (.region false [o1 44 (.fieldAddr 2) 6, ow 45 (.load false 1) [.slot 44] [3] [], o1 46 .len 45, op 47 (.bin .gtr) [.slot 46, .const (.one (.int .i64 (8 : Int)))], ⟨some 48, .move, [.slot 47], [], [], none, true⟩, ⟨some 49, .call ⟨352, [.box 3 3], no 3, [.val false 1], ims 4, false⟩, [.slot 6], [3], [3], some (48, true), false⟩, ⟨some 50, .not, [.slot 49], [], [], some (48, true), false⟩, op 51 .pick [.slot 48, .slot 50, .const (.one (.bool false))]])) (.cond (.slot 51) (.seq (.region false [op 52 (.build [.int .i64 (0 : Int), .nil, .nil] []) [], on (.store 3) [.slot 4, .slot 52] [2] [2], op 5 .move [.const (.one (.bool false))]]) (.ret)) (.skip))) (.seq (.region false [ow 53 (.load true 3) [.slot 6] [3] [], on (.store 3) [.slot 4, .slot 53] [2] [2], op 5 .move [.const (.one (.bool true))]]) (.ret))))))))) }
def spec_PushReport.env (N : Nat) : Env := envOf (tbl [(278, spec_IsPipe.fs N), (260, spec_IsReport.fs N), (277, spec_SameReport.fs N), (332, spec_l13Copy.fs N), (352, spec_l13Drop.fs N), (314, spec_l7Copy.fs N)] noFS)
def spec_PushReport.F (N : Nat) (x : ((Int × List Int) × List (Int × List Int)) × Int × List Int) : Option (((Int × List Int) × List (Int × List Int)) × Bool) := XFunc.run spec_PushReport.x (spec_PushReport.env N) N x
def spec_PushReport.fs (N : Nat) : FS := { arg := .pair (.pair (.pair (.int .i64) (.list (.int .i64))) (.list (.pair (.int .i64) (.list (.int .i64))))) (.pair (.int .i64) (.list (.int .i64))), ret := .pair (.pair (.pair (.int .i64) (.list (.int .i64))) (.list (.pair (.int .i64) (.list (.int .i64))))) (.bool), fresh := false, F := spec_PushReport.F N }

theorem spec_PushReport.F_eq (N : Nat) (p : (Int × List Int) × List (Int × List Int)) (r_ : Int × List Int) : spec_PushReport.F N (p, r_) =
    bindO (spec_IsPipe.F N p) fun r1 =>
    bif !r1 then
      some ((((0 : Int), ([] : List Int)), ([] : List (Int × List Int))), false)
    else
      bindO (spec_IsReport.F N r_) fun r2 =>
      bif !r2 then
        some ((((0 : Int), ([] : List Int)), ([] : List (Int × List Int))), false)
      else
        bindO (spec_l13Copy.F N p) fun r3 =>
        bif decide ((List.length p.2 : Int) > (0 : Int)) then
          bif inRange (IntKind.wrap .i64 ((List.length p.2 : Int) - (1 : Int))) (List.length p.2) then
          bindO (spec_SameReport.F N ((nth ((0 : Int), ([] : List Int)) p.2 (IntKind.wrap .i64 ((List.length p.2 : Int) - (1 : Int)))), r_)) fun r4 =>
          bif r4 then
            some (r3, true)
          else
            bindO (spec_l7Copy.F N r_) fun r5 =>
            bif decide (List.length r3.2 + List.length ([r5] : List (Int × List Int)) ≤ maxN) then
            bif decide ((List.length (r3.2 ++ ([r5] : List (Int × List Int))) : Int) > (8 : Int)) then
              bindO (spec_l13Drop.F N (r3.1, r3.2 ++ ([r5] : List (Int × List Int)))) fun r6 =>
              bif !r6.1 then
                some ((((0 : Int), ([] : List Int)), ([] : List (Int × List Int))), false)
              else
                some (r6.2, true)
            else
              some ((r3.1, r3.2 ++ ([r5] : List (Int × List Int))), true)
            else none
          else none
        else
          bindO (spec_SameReport.F N (p.1, r_)) fun r7 =>
          bif r7 then
            some (r3, true)
          else
            bindO (spec_l7Copy.F N r_) fun r8 =>
            bif decide (List.length r3.2 + List.length ([r8] : List (Int × List Int)) ≤ maxN) then
            bif decide ((List.length (r3.2 ++ ([r8] : List (Int × List Int))) : Int) > (8 : Int)) then
              bindO (spec_l13Drop.F N (r3.1, r3.2 ++ ([r8] : List (Int × List Int)))) fun r9 =>
              bif !r9.1 then
                some ((((0 : Int), ([] : List Int)), ([] : List (Int × List Int))), false)
              else
                some (r9.2, true)
            else
              some ((r3.1, r3.2 ++ ([r8] : List (Int × List Int))), true)
            else none := by kernel_rfl

def impl_TakeReport.x : XFunc := { nslots := 25, nobj := 3, pars := [.val true 3], rowsIn := [none, none, none], rets := [.var 2 true 3, .tmp 3 false 1], outs := [.imm, .imm, .imm, .imm], fresh := true, arg := .pair (.pair (.int .i64) (.list (.int .i64))) (.list (.pair (.int .i64) (.list (.int .i64)))), ret := .pair (.pair (.pair (.int .i64) (.list (.int .i64))) (.list (.pair (.int .i64) (.list (.int .i64))))) (.bool), body := .seq (.region false [ow 1 (.box 0) [.slot 0] [0] [0], ow 2 (.alloc 1 [.int .i64 (0 : Int), .nil, .nil]) [] [1] [1], op 3 .move [.const (.one (.bool false))]]) (.seq (.seq (.region false [ow 5 (.load true 3) [.slot 1] [0] [], o1 6 (.call ⟨279, [.val true 3], no 3, [.val false 1], ims 1, true⟩) 5, o1 7 .not 6, ⟨some 8, .move, [.slot 7], [], [], none, true⟩, ⟨some 9, .fieldAddr 2, [.slot 1], [], [], some (8, false), false⟩, ⟨some 10, .load false 1, [.slot 9], [0], [], some (8, false), false⟩, ⟨some 11, .len, [.slot 10], [], [], some (8, false), false⟩, ⟨some 12, .bin .eql, [.slot 11, .const (.one (.int .i64 (0 : Int)))], [], [], some (8, false), false⟩, op 13 .pick [.slot 8, .const (.one (.bool true)), .slot 12]]) (.cond (.slot 13) (.seq (.region false [op 14 (.build [.int .i64 (0 : Int), .nil, .nil] []) [], on (.store 3) [.slot 2, .slot 14] [1] [1], op 3 .move [.const (.one (.bool false))]]) (.ret)) (.skip))) (.seq (.region false [ow 15 (.load true 3) [.slot 1] [0] [], o1 16 (.call ⟨335, [.val true 3], no 3, [.val true 3], ims 3, true⟩) 15, ow 4 (.alloc 2 [.int .i64 (0 : Int), .nil, .nil]) [] [2] [2], on (.store 3) [.slot 4, .slot 16] [2] [2]]) (.seq (.region true [o1 17 (.fieldAddr 2) 4, ow 18 (.load false 1) [.slot 17] [2] [], op 19 (.indexAddr (.pair (.int .i64) (.list (.int .i64)))) [.slot 18, .const (.one (.int .i64 (0 : Int)))], o1 20 (.load true 2) 19, o1 21 (.fieldAddr 2) 4, ow 22 (.load false 1) [.slot 21] [2] [], op 23 (.slice (.pair (.int .i64) (.list (.int .i64))) true false) [.slot 22, .const (.one (.int .i64 (1 : Int)))], o2 24 (.build [.int .i64 (0 : Int), .nil, .nil] [(0, 2), (2, 1)]) 20 23, on (.store 3) [.slot 2, .slot 24] [1] [1], op 3 .move [.const (.one (.bool true))]]) (.ret)))) }
def impl_TakeReport.env (N : Nat) : Env := envOf (tbl [(279, impl_IsPipe.fs N), (335, impl_copyPipe.fs N)] noFS)
def impl_TakeReport.F (N : Nat) (x : (Int × List Int) × List (Int × List Int)) : Option (((Int × List Int) × List (Int × List Int)) × Bool) := XFunc.run impl_TakeReport.x (impl_TakeReport.env N) N x
def impl_TakeReport.fs (N : Nat) : FS := { arg := .pair (.pair (.int .i64) (.list (.int .i64))) (.list (.pair (.int .i64) (.list (.int .i64)))), ret := .pair (.pair (.pair (.int .i64) (.list (.int .i64))) (.list (.pair (.int .i64) (.list (.int .i64))))) (.bool), fresh := true, F := impl_TakeReport.F N }

theorem impl_TakeReport.F_eq (N : Nat) (p : (Int × List Int) × List (Int × List Int)) : impl_TakeReport.F N p =
    bindO (impl_IsPipe.F N p) fun r1 =>
    bif !r1 then
      some ((((0 : Int), ([] : List Int)), ([] : List (Int × List Int))), false)
    else
      bif (List.length p.2 : Int) == (0 : Int) then
        some ((((0 : Int), ([] : List Int)), ([] : List (Int × List Int))), false)
      else
        bindO (impl_copyPipe.F N p) fun r2 =>
        bif inRange (0 : Int) (List.length r2.2) then
        bif decide (0 ≤ (1 : Int)) && decide ((1 : Int) ≤ (List.length r2.2 : Int)) then
        some (((nth ((0 : Int), ([] : List Int)) r2.2 (0 : Int)), List.drop 1 r2.2), true)
        else none
        else none := by kernel_rfl

def laws_FnPipe.c1 : XCode := .seq (.seq (.region false [mv 52 0, mv 53 7, op 54 (.bin .add) [.const (.one (.int .i64 (90 : Int))), .slot 53], op 55 (.call ⟨81, vs 3, no 3, [.val false 1], ims 1, true⟩) [.slot 52, .slot 54, .const (.one (.int .i64 (3 : Int)))], op 56 (.bin .eql) [.slot 55, .const (.one (.int .i64 (0 : Int)))], ⟨some 57, .move, [.slot 56], [], [], none, true⟩, ⟨some 58, .fieldAddr 2, [.slot 4], [], [], some (57, true), false⟩, ⟨some 59, .load false 1, [.slot 58], [0], [], some (57, true), false⟩, ⟨some 60, .len, [.slot 59], [], [], some (57, true), false⟩, ⟨some 61, .bin .gtr, [.slot 60, .const (.one (.int .i64 (0 : Int)))], [], [], some (57, true), false⟩, op 62 .pick [.slot 57, .slot 61, .const (.one (.bool false))], ⟨some 63, .move, [.slot 62], [], [], none, true⟩, ⟨some 64, .move, [.slot 5], [], [], some (63, true), false⟩, ⟨some 65, .len, [.slot 64], [1], [], some (63, true), false⟩, ⟨some 66, .bin .lss, [.slot 65, .const (.one (.int .i64 (100 : Int)))], [], [], some (63, true), false⟩, op 67 .pick [.slot 63, .slot 66, .const (.one (.bool false))]]) (.cond (.slot 67) (.skip) (.exit 2))) (.block 3 (.seq (.region false [ow 69 (.load true 3) [.slot 4] [0] [], o1 70 (.call ⟨336, [.val true 3], no 3, [.val true 3, .val false 1], ims 4, true⟩) 69, mv 68 70, o1 71 (.extract 0) 68, o1 72 (.extract 1) 68, ow 12 (.alloc 4 [.int .i64 (0 : Int), .nil, .nil]) [] [4] [4], on (.store 3) [.slot 12, .slot 71] [4] [4], mv 13 72]) (.seq (.seq (.region false [mv 73 13, o1 74 .not 73]) (.cond (.slot 74) (.seq (.region false [op 2 .move [.const (.one (.bool false))]]) (.ret)) (.skip))) (.seq (.region false [ow 75 (.load true 3) [.slot 12] [4] [], on (.store 3) [.slot 4, .slot 75] [0] [0]]) (.seq (.region false [mv 76 5, o1 77 (.fieldAddr 0) 4, ow 78 (.load true 2) [.slot 77] [0] [], ow 79 (.buildSlice false 5 12 (.pair (.int .i64) (.list (.int .i64))) 1 [(0, 2)] [.int .i64 (0 : Int), .nil]) [.slot 78] [5] [5], ow 80 (.append false 1 12 (.pair (.int .i64) (.list (.int .i64)))) [.slot 76, .slot 79] [1, 5] [1], mv 5 80]) (.seq (.region false [mv 81 5, ow 82 .len [.slot 81] [1] [], op 83 (.bin .rem) [.slot 82, .const (.one (.int .i64 (2 : Int)))], op 84 (.bin .eql) [.slot 83, .const (.one (.int .i64 (0 : Int)))]]) (.cond (.slot 84) (.exit 2) (.skip))))))))
def laws_FnPipe.c2 : XCode := .region false [mv 26 7, op 27 (.bin .add) [.slot 26, .const (.one (.int .i64 (1 : Int)))], mv 7 27]
def laws_FnPipe.c3 : XCode := .seq (.seq (.region false [mv 22 7, mv 23 3, o1 24 .len 23, o2 25 (.bin .lss) 22 24]) (.cond (.slot 25) (.skip) (.exit 0))) (.seq (.block 1 (.seq (.region true [ow 29 (.load true 3) [.slot 4] [0] [], mv 30 3, mv 31 7, o2 32 (.indexAddr (.pair (.int .i64) (.list (.int .i64)))) 30 31, o1 33 (.load true 2) 32, o2 34 (.call ⟨354, [.val true 3, .val true 2], no 5, [.val true 3, .val false 1], ims 4, true⟩) 29 33, mv 28 34, o1 35 (.extract 0) 28, o1 36 (.extract 1) 28, ow 8 (.alloc 2 [.int .i64 (0 : Int), .nil, .nil]) [] [2] [2], on (.store 3) [.slot 8, .slot 35] [2] [2], mv 9 36]) (.seq (.seq (.region false [mv 37 9, o1 38 .not 37]) (.cond (.slot 38) (.seq (.region true [ow 40 (.load true 3) [.slot 4] [0] [], mv 41 3, mv 42 7, o2 43 (.indexAddr (.pair (.int .i64) (.list (.int .i64)))) 41 42, o1 44 (.load true 2) 43, o2 45 (.call ⟨353, [.val true 3, .val true 2], no 5, [.val true 3, .val false 1], ims 4, false⟩) 40 44, mv 39 45, o1 46 (.extract 0) 39, o1 47 (.extract 1) 39, ow 10 (.alloc 3 [.int .i64 (0 : Int), .nil, .nil]) [] [3] [3], on (.store 3) [.slot 10, .slot 46] [3] [3], mv 11 47]) (.seq (.seq (.region false [mv 48 11]) (.cond (.slot 48) (.seq (.region false [op 2 .move [.const (.one (.bool false))]]) (.ret)) (.skip))) (.exit 0))) (.skip))) (.seq (.region false [ow 49 (.load true 3) [.slot 8] [2] [], on (.store 3) [.slot 4, .slot 49] [0] [0]]) (.seq (.region false [mv 50 7, op 51 (.bin .add) [.slot 50, .const (.one (.int .i64 (1 : Int)))], mv 6 51]) (.block 2 (.loop [.keep [0, 3, 4, 5, 6, 7], .drop 2, .drop 3, .drop 4, .drop 5, .drop 6, .drop 7, .norm] (laws_FnPipe.c1)))))))) (laws_FnPipe.c2))
def laws_FnPipe.c4 : XCode := .seq (.seq (.region false [o1 85 (.fieldAddr 2) 4, ow 86 (.load false 1) [.slot 85] [0] [], o1 87 .len 86, op 88 (.bin .gtr) [.slot 87, .const (.one (.int .i64 (0 : Int)))], ⟨some 89, .move, [.slot 88], [], [], none, true⟩, ⟨some 90, .move, [.slot 5], [], [], some (89, true), false⟩, ⟨some 91, .len, [.slot 90], [1], [], some (89, true), false⟩, ⟨some 92, .bin .lss, [.slot 91, .const (.one (.int .i64 (100 : Int)))], [], [], some (89, true), false⟩, op 93 .pick [.slot 89, .slot 92, .const (.one (.bool false))]]) (.cond (.slot 93) (.skip) (.exit 4))) (.block 5 (.seq (.region false [ow 95 (.load true 3) [.slot 4] [0] [], o1 96 (.call ⟨336, [.val true 3], no 3, [.val true 3, .val false 1], ims 4, true⟩) 95, mv 94 96, o1 97 (.extract 0) 94, o1 98 (.extract 1) 94, ow 14 (.alloc 6 [.int .i64 (0 : Int), .nil, .nil]) [] [6] [6], on (.store 3) [.slot 14, .slot 97] [6] [6], mv 15 98]) (.seq (.seq (.region false [mv 99 15, o1 100 .not 99]) (.cond (.slot 100) (.seq (.region false [op 2 .move [.const (.one (.bool false))]]) (.ret)) (.skip))) (.seq (.region false [ow 101 (.load true 3) [.slot 14] [6] [], on (.store 3) [.slot 4, .slot 101] [0] [0]]) (.region false [mv 102 5, o1 103 (.fieldAddr 0) 4, ow 104 (.load true 2) [.slot 103] [0] [], ow 105 (.buildSlice false 7 12 (.pair (.int .i64) (.list (.int .i64))) 1 [(0, 2)] [.int .i64 (0 : Int), .nil]) [.slot 104] [7] [7], ow 106 (.append false 1 12 (.pair (.int .i64) (.list (.int .i64)))) [.slot 102, .slot 105] [1, 7] [1], mv 5 106])))))
def laws_FnPipe.c5 : XCode := .seq (.region true [ow 107 (.load true 3) [.slot 4] [0] [], o1 108 (.call ⟨279, [.val true 3], no 3, [.val false 1], ims 1, true⟩) 107, ⟨some 109, .move, [.slot 108], [], [], none, true⟩, ⟨some 110, .build [.int .i64 (0 : Int), .nil] [], [], [], [], some (109, true), false⟩, ⟨some 111, .move, [.slot 5], [], [], some (109, true), false⟩, ⟨some 112, .call ⟨403, [.val true 2, .val false 1], no 3, [.val false 1], ims 1, true⟩, [.slot 110, .slot 111], [1], [], some (109, true), false⟩, ⟨some 113, .build [.int .i64 (0 : Int), .nil] [], [], [], [], some (109, true), false⟩, ⟨some 114, .move, [.slot 3], [], [], some (109, true), false⟩, ⟨some 115, .move, [.slot 6], [], [], some (109, true), false⟩, ⟨some 116, .slice (.pair (.int .i64) (.list (.int .i64))) false true, [.slot 114, .slot 115], [], [], some (109, true), false⟩, ⟨some 117, .call ⟨403, [.val true 2, .val false 1], no 3, [.val false 1], ims 1, true⟩, [.slot 113, .slot 116], [], [], some (109, true), false⟩, ⟨some 118, .bin .eql, [.slot 112, .slot 117], [], [], some (109, true), false⟩, op 119 .pick [.slot 109, .slot 118, .const (.one (.bool false))], ⟨some 120, .move, [.slot 119], [], [], none, true⟩, ⟨some 121, .move, [.slot 6], [], [], some (120, true), false⟩, ⟨some 122, .bin .eql, [.slot 121, .const (.one (.int .i64 (0 : Int)))], [], [], some (120, true), false⟩, ⟨some 123, .move, [.slot 122], [], [], some (120, true), true⟩, ⟨some 124, .fieldAddr 0, [.slot 4], [], [], some (123, false), false⟩, ⟨some 125, .load true 2, [.slot 124], [0], [], some (123, false), false⟩, ⟨some 126, .move, [.slot 3], [], [], some (123, false), false⟩, ⟨some 127, .move, [.slot 6], [], [], some (123, false), false⟩, ⟨some 128, .bin .sub, [.slot 127, .const (.one (.int .i64 (1 : Int)))], [], [], some (123, false), false⟩, ⟨some 129, .indexAddr (.pair (.int .i64) (.list (.int .i64))), [.slot 126, .slot 128], [], [], some (123, false), false⟩, ⟨some 130, .load true 2, [.slot 129], [], [], some (123, false), false⟩, ⟨some 131, .call ⟨206, [.val true 2, .val true 2], no 4, [.val false 1], ims 1, true⟩, [.slot 125, .slot 130], [], [], some (123, false), false⟩, ⟨some 132, .pick, [.slot 123, .const (.one (.bool true)), .slot 131], [], [], some (120, true), false⟩, op 133 .pick [.slot 120, .slot 132, .const (.one (.bool false))], mv 2 133]) (.ret)
def laws_FnPipe.c6 : XCode := .seq (.block 4 (.loop [.keep [3, 4, 5, 6], .drop 2, .drop 3, .drop 4, .drop 5, .drop 6, .drop 7, .norm] (laws_FnPipe.c4))) (laws_FnPipe.c5)
def laws_FnPipe.x : XFunc := { nslots := 134, nobj := 8, pars := [.val false 1], rowsIn := [none], rets := [.tmp 2 false 1], outs := [.imm], fresh := true, arg := .list (.int .u8), ret := .bool, body := .seq (.region false [op 2 .move [.const (.one (.bool false))]]) (.seq (.seq (.region false [mv 16 0, o1 17 (.call ⟨31, vs 1, no 1, [.val false 1], ims 1, true⟩) 16]) (.cond (.slot 17) (.seq (.region false [op 2 .move [.const (.one (.bool true))]]) (.ret)) (.skip))) (.seq (.region false [mv 18 0, op 19 (.call ⟨407, vs 2, no 2, [.val false 1], ims 1, false⟩) [.slot 18, .const (.one (.int .i64 (24 : Int)))], mv 3 19]) (.seq (.region false [op 20 (.build [.int .i64 (0 : Int), .nil, .nil] []) [], ow 4 (.alloc 0 [.int .i64 (0 : Int), .nil, .nil]) [] [0] [0], on (.store 3) [.slot 4, .slot 20] [0] [0]]) (.seq (.region false [ow 21 (.buildSlice false 1 12 (.pair (.int .i64) (.list (.int .i64))) 0 [] [.int .i64 (0 : Int), .nil]) [] [1] [1], mv 5 21]) (.seq (.region false [op 6 .move [.const (.one (.int .i64 (0 : Int)))]]) (.seq (.seq (.region false [op 7 .move [.const (.one (.int .i64 (0 : Int)))]]) (.block 0 (.loop [.unnil (.boxc 0 1) (.int .i64), .unnil (.boxc 0 2) (.pair (.int .i64) (.list (.int .i64))), .keep [0, 3, 4, 5, 6, 7], .drop 2, .drop 3, .drop 4, .drop 5, .drop 6, .drop 7, .norm] (laws_FnPipe.c3)))) (laws_FnPipe.c6))))))) }
def laws_FnPipe.env (N : Nat) : Env := envOf (tbl [(279, impl_IsPipe.fs N), (354, impl_PushReport.fs N), (206, impl_SameReport.fs N), (336, impl_TakeReport.fs N), (403, impl_TypedText.fs N), (31, laws_big.fs N), (81, spec_MakeNumber.fs N), (407, spec_MakeReports.fs N), (353, spec_PushReport.fs N)] noFS)
def laws_FnPipe.F (N : Nat) (x : List Int) : Option Bool := XFunc.run laws_FnPipe.x (laws_FnPipe.env N) N x
def laws_FnPipe.fs (N : Nat) : FS := { arg := .list (.int .u8), ret := .bool, fresh := true, F := laws_FnPipe.F N }
def laws_FnPipe.k2 (N : Nat) : Ex → S → Option Bool := seqK (fun s => XCode.runK (laws_FnPipe.env N) N (laws_FnPipe.c6) s (XFunc.endK laws_FnPipe.x)) (XFunc.endK laws_FnPipe.x)
def laws_FnPipe.k1 (N : Nat) : Ex → S → Option Bool := blockK 0 (laws_FnPipe.k2 N)
def laws_FnPipe.k6 (N : Nat) (n1 : Nat) : Ex → S → Option Bool := seqK (fun s => bindO (S.ghosts s [.unnil (.boxc 0 1) (.int .i64), .unnil (.boxc 0 2) (.pair (.int .i64) (.list (.int .i64))), .keep [0, 3, 4, 5, 6, 7], .drop 2, .drop 3, .drop 4, .drop 5, .drop 6, .drop 7, .norm]) fun s1 => loopK [.unnil (.boxc 0 1) (.int .i64), .unnil (.boxc 0 2) (.pair (.int .i64) (.list (.int .i64))), .keep [0, 3, 4, 5, 6, 7], .drop 2, .drop 3, .drop 4, .drop 5, .drop 6, .drop 7, .norm] (fun s k => XCode.runK (laws_FnPipe.env N) N laws_FnPipe.c3 s k) n1 s1 (laws_FnPipe.k1 N)) (laws_FnPipe.k1 N)
def laws_FnPipe.k5 (N : Nat) (n1 : Nat) : Ex → S → Option Bool := seqK (fun s => XCode.runK (laws_FnPipe.env N) N (laws_FnPipe.c2) s (laws_FnPipe.k6 N n1)) (laws_FnPipe.k6 N n1)
def laws_FnPipe.k4 (N : Nat) (n1 : Nat) : Ex → S → Option Bool := blockK 1 (laws_FnPipe.k5 N n1)
def laws_FnPipe.k3 (N : Nat) (n1 : Nat) : Ex → S → Option Bool := blockK 2 (laws_FnPipe.k4 N n1)
def laws_FnPipe.k8 (N : Nat) : Ex → S → Option Bool := seqK (fun s => XCode.runK (laws_FnPipe.env N) N (laws_FnPipe.c5) s (XFunc.endK laws_FnPipe.x)) (XFunc.endK laws_FnPipe.x)
def laws_FnPipe.k7 (N : Nat) : Ex → S → Option Bool := blockK 4 (laws_FnPipe.k8 N)
def laws_FnPipe.L1 (N : Nat) (n1 : Nat) (code : List Int) (l_ : List (Int × List Int)) (n_ : Int) (i : Int) (o00 : Int) (o01 : List Int) (o02 : List (Int × List Int)) (o1 : List (Int × List Int)) : Option Bool := loopK [.unnil (.boxc 0 1) (.int .i64), .unnil (.boxc 0 2) (.pair (.int .i64) (.list (.int .i64))), .keep [0, 3, 4, 5, 6, 7], .drop 2, .drop 3, .drop 4, .drop 5, .drop 6, .drop 7, .norm] (fun s k => XCode.runK (laws_FnPipe.env N) N laws_FnPipe.c3 s k) n1
  { t := [.one (.sl false (.int .u8) code), .junk, .junk, .one (.sl false (.pair (.int .i64) (.list (.int .i64))) l_), .one (.ptr 0 0 0), .one (.ref 1 0 .all), .one (.int .i64 n_), .one (.int .i64 i), .junk, .junk, .junk, .junk, .junk, .junk, .junk, .junk, .junk, .junk, .junk, .junk, .junk, .junk, .junk, .junk, .junk, .junk, .junk, .junk, .junk, .junk, .junk, .junk, .junk, .junk, .junk, .junk, .junk, .junk, .junk, .junk, .junk, .junk, .junk, .junk, .junk, .junk, .junk, .junk, .junk, .junk, .junk, .junk, .junk, .junk, .junk, .junk, .junk, .junk, .junk, .junk, .junk, .junk, .junk, .junk, .junk, .junk, .junk, .junk, .junk, .junk, .junk, .junk, .junk, .junk, .junk, .junk, .junk, .junk, .junk, .junk, .junk, .junk, .junk, .junk, .junk, .junk, .junk, .junk, .junk, .junk, .junk, .junk, .junk, .junk, .junk, .junk, .junk, .junk, .junk, .junk, .junk, .junk, .junk, .junk, .junk, .junk, .junk, .junk, .junk, .junk, .junk, .junk, .junk, .junk, .junk, .junk, .junk, .junk, .junk, .junk, .junk, .junk, .junk, .junk, .junk, .junk, .junk, .junk, .junk, .junk, .junk, .junk, .junk, .junk], h := [.box 0 false [.int .i64 o00, .sl true (.int .i64) o01, .sl true (.pair (.int .i64) (.list (.int .i64))) o02], .row 0 false true 12 (.pair (.int .i64) (.list (.int .i64))) o1, .absent 0, .absent 0, .absent 0, .absent 0, .absent 0, .absent 0] }
  (laws_FnPipe.k1 N)
def laws_FnPipe.L2 (N : Nat) (n1 : Nat) (n2 : Nat) (code : List Int) (l_ : List (Int × List Int)) (n_ : Int) (i : Int) (o00 : Int) (o01 : List Int) (o02 : List (Int × List Int)) (o1 : List (Int × List Int)) : Option Bool := loopK [.keep [0, 3, 4, 5, 6, 7], .drop 2, .drop 3, .drop 4, .drop 5, .drop 6, .drop 7, .norm] (fun s k => XCode.runK (laws_FnPipe.env N) N laws_FnPipe.c1 s k) n2
  { t := [.one (.sl false (.int .u8) code), .junk, .junk, .one (.sl false (.pair (.int .i64) (.list (.int .i64))) l_), .one (.ptr 0 0 0), .one (.ref 1 0 .all), .one (.int .i64 n_), .one (.int .i64 i), .junk, .junk, .junk, .junk, .junk, .junk, .junk, .junk, .junk, .junk, .junk, .junk, .junk, .junk, .junk, .junk, .junk, .junk, .junk, .junk, .junk, .junk, .junk, .junk, .junk, .junk, .junk, .junk, .junk, .junk, .junk, .junk, .junk, .junk, .junk, .junk, .junk, .junk, .junk, .junk, .junk, .junk, .junk, .junk, .junk, .junk, .junk, .junk, .junk, .junk, .junk, .junk, .junk, .junk, .junk, .junk, .junk, .junk, .junk, .junk, .junk, .junk, .junk, .junk, .junk, .junk, .junk, .junk, .junk, .junk, .junk, .junk, .junk, .junk, .junk, .junk, .junk, .junk, .junk, .junk, .junk, .junk, .junk, .junk, .junk, .junk, .junk, .junk, .junk, .junk, .junk, .junk, .junk, .junk, .junk, .junk, .junk, .junk, .junk, .junk, .junk, .junk, .junk, .junk, .junk, .junk, .junk, .junk, .junk, .junk, .junk, .junk, .junk, .junk, .junk, .junk, .junk, .junk, .junk, .junk, .junk, .junk, .junk, .junk, .junk, .junk], h := [.box 0 false [.int .i64 o00, .sl true (.int .i64) o01, .sl true (.pair (.int .i64) (.list (.int .i64))) o02], .row 0 false true 12 (.pair (.int .i64) (.list (.int .i64))) o1, .absent 0, .absent 0, .absent 0, .absent 0, .absent 0, .absent 0] }
  (laws_FnPipe.k3 N n1)
def laws_FnPipe.L3 (N : Nat) (n3 : Nat) (l_ : List (Int × List Int)) (n_ : Int) (o00 : Int) (o01 : List Int) (o02 : List (Int × List Int)) (o1 : List (Int × List Int)) : Option Bool := loopK [.keep [3, 4, 5, 6], .drop 2, .drop 3, .drop 4, .drop 5, .drop 6, .drop 7, .norm] (fun s k => XCode.runK (laws_FnPipe.env N) N laws_FnPipe.c4 s k) n3
  { t := [.junk, .junk, .junk, .one (.sl false (.pair (.int .i64) (.list (.int .i64))) l_), .one (.ptr 0 0 0), .one (.ref 1 0 .all), .one (.int .i64 n_), .junk, .junk, .junk, .junk, .junk, .junk, .junk, .junk, .junk, .junk, .junk, .junk, .junk, .junk, .junk, .junk, .junk, .junk, .junk, .junk, .junk, .junk, .junk, .junk, .junk, .junk, .junk, .junk, .junk, .junk, .junk, .junk, .junk, .junk, .junk, .junk, .junk, .junk, .junk, .junk, .junk, .junk, .junk, .junk, .junk, .junk, .junk, .junk, .junk, .junk, .junk, .junk, .junk, .junk, .junk, .junk, .junk, .junk, .junk, .junk, .junk, .junk, .junk, .junk, .junk, .junk, .junk, .junk, .junk, .junk, .junk, .junk, .junk, .junk, .junk, .junk, .junk, .junk, .junk, .junk, .junk, .junk, .junk, .junk, .junk, .junk, .junk, .junk, .junk, .junk, .junk, .junk, .junk, .junk, .junk, .junk, .junk, .junk, .junk, .junk, .junk, .junk, .junk, .junk, .junk, .junk, .junk, .junk, .junk, .junk, .junk, .junk, .junk, .junk, .junk, .junk, .junk, .junk, .junk, .junk, .junk, .junk, .junk, .junk, .junk, .junk, .junk], h := [.box 0 false [.int .i64 o00, .sl true (.int .i64) o01, .sl true (.pair (.int .i64) (.list (.int .i64))) o02], .row 0 false true 12 (.pair (.int .i64) (.list (.int .i64))) o1, .absent 0, .absent 0, .absent 0, .absent 0, .absent 0, .absent 0] }
  (laws_FnPipe.k7 N)

theorem laws_FnPipe.L1_eq (N : Nat) (n1 : Nat) (code : List Int) (l_ : List (Int × List Int)) (n_ : Int) (i : Int) (o00 : Int) (o01 : List Int) (o02 : List (Int × List Int)) (o1 : List (Int × List Int)) : laws_FnPipe.L1 N (n1 + 1) code l_ n_ i o00 o01 o02 o1 =
    bif decide (i < (List.length l_ : Int)) then
      bif inRange i (List.length l_) then
      bindO (impl_PushReport.F N (((o00, o01), o02), (nth ((0 : Int), ([] : List Int)) l_ i))) fun r3 =>
      bif !r3.2 then
        bif inRange i (List.length l_) then
        bindO (spec_PushReport.F N (((o00, o01), o02), (nth ((0 : Int), ([] : List Int)) l_ i))) fun r4 =>
        bif r4.2 then
          some false
        else
          laws_FnPipe.L3 N N l_ n_ o00 o01 o02 o1
        else none
      else
        laws_FnPipe.L2 N n1 N code l_ (IntKind.wrap .i64 (i + (1 : Int))) i r3.1.1.1 r3.1.1.2 r3.1.2 o1
      else none
    else
      laws_FnPipe.L3 N N l_ n_ o00 o01 o02 o1 := by kernel_rfl
theorem laws_FnPipe.L2_eq (N : Nat) (n1 : Nat) (n2 : Nat) (code : List Int) (l_ : List (Int × List Int)) (n_ : Int) (i : Int) (o00 : Int) (o01 : List Int) (o02 : List (Int × List Int)) (o1 : List (Int × List Int)) : laws_FnPipe.L2 N n1 (n2 + 1) code l_ n_ i o00 o01 o02 o1 =
    bindO (spec_MakeNumber.F N (code, (IntKind.wrap .i64 ((90 : Int) + i), (3 : Int)))) fun r14 =>
    bif r14 == (0 : Int) then
      bif decide ((List.length o02 : Int) > (0 : Int)) then
        bif decide ((List.length o1 : Int) < (100 : Int)) then
          bindO (impl_TakeReport.F N ((o00, o01), o02)) fun r15 =>
          bif !r15.2 then
            some false
          else
            bif decide (List.length o1 + List.length ([r15.1.1] : List (Int × List Int)) ≤ maxN) then
            bif (Int.tmod (List.length (o1 ++ ([r15.1.1] : List (Int × List Int))) : Int) (2 : Int)) == (0 : Int) then
              laws_FnPipe.L1 N n1 code l_ n_ (IntKind.wrap .i64 (i + (1 : Int))) r15.1.1.1 r15.1.1.2 r15.1.2 (o1 ++ ([r15.1.1] : List (Int × List Int)))
            else
              laws_FnPipe.L2 N n1 n2 code l_ n_ i r15.1.1.1 r15.1.1.2 r15.1.2 (o1 ++ ([r15.1.1] : List (Int × List Int)))
            else none
        else
          laws_FnPipe.L1 N n1 code l_ n_ (IntKind.wrap .i64 (i + (1 : Int))) o00 o01 o02 o1
      else
        laws_FnPipe.L1 N n1 code l_ n_ (IntKind.wrap .i64 (i + (1 : Int))) o00 o01 o02 o1
    else
      laws_FnPipe.L1 N n1 code l_ n_ (IntKind.wrap .i64 (i + (1 : Int))) o00 o01 o02 o1 := by kernel_rfl
theorem laws_FnPipe.L3_eq (N : Nat) (n3 : Nat) (l_ : List (Int × List Int)) (n_ : Int) (o00 : Int) (o01 : List Int) (o02 : List (Int × List Int)) (o1 : List (Int × List Int)) : laws_FnPipe.L3 N (n3 + 1) l_ n_ o00 o01 o02 o1 =
    bif decide ((List.length o02 : Int) > (0 : Int)) then
      bif decide ((List.length o1 : Int) < (100 : Int)) then
        bindO (impl_TakeReport.F N ((o00, o01), o02)) fun r5 =>
        bif !r5.2 then
          some false
        else
          bif decide (List.length o1 + List.length ([r5.1.1] : List (Int × List Int)) ≤ maxN) then
          laws_FnPipe.L3 N n3 l_ n_ r5.1.1.1 r5.1.1.2 r5.1.2 (o1 ++ ([r5.1.1] : List (Int × List Int)))
          else none
      else
        bindO (impl_IsPipe.F N ((o00, o01), o02)) fun r6 =>
        bif r6 then
          bindO (impl_TypedText.F N (((0 : Int), ([] : List Int)), o1)) fun r7 =>
          bif decide (0 ≤ n_) && decide (n_ ≤ (List.length l_ : Int)) then
          bindO (impl_TypedText.F N (((0 : Int), ([] : List Int)), List.take (Int.toNat n_) l_)) fun r8 =>
          bif r7 == r8 then
            bif n_ == (0 : Int) then
              some true
            else
              bif inRange (IntKind.wrap .i64 (n_ - (1 : Int))) (List.length l_) then
              bindO (impl_SameReport.F N ((o00, o01), (nth ((0 : Int), ([] : List Int)) l_ (IntKind.wrap .i64 (n_ - (1 : Int)))))) fun r9 =>
              some r9
              else none
          else
            some false
          else none
        else
          some false
    else
      bindO (impl_IsPipe.F N ((o00, o01), o02)) fun r10 =>
      bif r10 then
        bindO (impl_TypedText.F N (((0 : Int), ([] : List Int)), o1)) fun r11 =>
        bif decide (0 ≤ n_) && decide (n_ ≤ (List.length l_ : Int)) then
        bindO (impl_TypedText.F N (((0 : Int), ([] : List Int)), List.take (Int.toNat n_) l_)) fun r12 =>
        bif r11 == r12 then
          bif n_ == (0 : Int) then
            some true
          else
            bif inRange (IntKind.wrap .i64 (n_ - (1 : Int))) (List.length l_) then
            bindO (impl_SameReport.F N ((o00, o01), (nth ((0 : Int), ([] : List Int)) l_ (IntKind.wrap .i64 (n_ - (1 : Int)))))) fun r13 =>
            some r13
            else none
        else
          some false
        else none
      else
        some false := by kernel_rfl
theorem laws_FnPipe.F_eq (N : Nat) (code : List Int) : laws_FnPipe.F N code =
    bindO (laws_big.F N code) fun r1 =>
    bif r1 then
      some true
    else
      bindO (spec_MakeReports.F N (code, (24 : Int))) fun r2 =>
      laws_FnPipe.L1 N N code r2 (0 : Int) (0 : Int) (0 : Int) ([] : List Int) ([] : List (Int × List Int)) ([] : List (Int × List Int)) := by kernel_rfl

end Go.Kb
