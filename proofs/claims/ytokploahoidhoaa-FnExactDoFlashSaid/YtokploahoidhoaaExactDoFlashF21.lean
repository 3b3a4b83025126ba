/- The texts of functions, printed by a program, and the equations of their runs. -/
import Derived.Test.YtokploahoidhoaaExactDoFlashF1
import Derived.Test.YtokploahoidhoaaExactDoFlashF2
import Derived.Test.YtokploahoidhoaaExactDoFlashF3
import Derived.Test.YtokploahoidhoaaExactDoFlashF20
import Derived.KernelRfl
namespace Go.Kb
def laws_toIntSSh.c1 : XCode := .seq (.seq (.region false [mv 8 4, mv 9 0, o1 10 .len 9, o2 11 (.bin .lss) 8 10]) (.cond (.slot 11) (.skip) (.exit 0))) (.seq (.block 1 (.region false [mv 14 3, mv 15 4, mv 16 0, mv 17 4, o2 18 (.indexAddr (.list (.int .i64))) 16 17, o1 19 (.load false 1) 18, ⟨some 20, .call ⟨254, vs 1, no 1, [.val false 1], [.own 1 2], true⟩, [.slot 19], [1, 100], [1], none, false, .pub 1⟩, ow 21 (.indexAddr (.hnd (.int .i64))) [.slot 14, .slot 15] [0] [], on (.store 1) [.slot 21, .slot 20] [0] [0]])) (.region false [mv 12 4, op 13 (.bin .add) [.slot 12, .const (.one (.int .i64 (1 : Int)))], mv 4 13]))
def laws_toIntSSh.c2 : XCode := .seq (.region false [mv 22 3, mv 2 22]) (.ret)
def laws_toIntSSh.x : XFunc := { nslots := 23, nobj := 2, pars := [.val false 1], rowsIn := [none], rets := [.tmp 2 false 1], outs := [.own 6], fresh := true, arg := .list (.list (.int .i64)), ret := .list (.hnd (.int .i64)), body := .seq (.region false [op 2 .move [.const (.one (.nil))]]) (.seq (.region false [mv 5 0, o1 6 .len 5, ow 7 (.makeSlice 0 6 (.hnd (.int .i64))) [.slot 6, .slot 6] [0] [0], mv 3 7]) (.seq (.seq (.region false [op 4 .move [.const (.one (.int .i64 (0 : Int)))]]) (.block 0 (.loop [.keep [0, 3, 4], .drop 1, .norm] (laws_toIntSSh.c1)))) (laws_toIntSSh.c2))), hp := true }
def laws_toIntSSh.env (N : Nat) : Env := envOf (tbl [(254, laws_toIntS.fs N)] noFS)
def laws_toIntSSh.H (N : Nat) (x : List (List Int)) (D : List HRow) : Option ((List Hnd) × List HRow) := XFunc.runH laws_toIntSSh.x (laws_toIntSSh.env N) N x D
def laws_toIntSSh.fs (N : Nat) : FS := { arg := .list (.list (.int .i64)), ret := .list (.hnd (.int .i64)), fresh := true, F := fun _ => none, hp := true, H := laws_toIntSSh.H N }
def laws_toIntSSh.k2 (N : Nat) : Ex → S → Option ((List Hnd) × List HRow) := seqK (fun s => XCode.runK (laws_toIntSSh.env N) N (laws_toIntSSh.c2) s (XFunc.endKH laws_toIntSSh.x)) (XFunc.endKH laws_toIntSSh.x)
def laws_toIntSSh.k1 (N : Nat) : Ex → S → Option ((List Hnd) × List HRow) := blockK 0 (laws_toIntSSh.k2 N)
def laws_toIntSSh.L1 (N : Nat) (n1 : Nat) (a : List (List Int)) (i : Int) (o0 : List Hnd) (D : List HRow) : Option ((List Hnd) × List HRow) := loopK [.keep [0, 3, 4], .drop 1, .norm] (fun s k => XCode.runK (laws_toIntSSh.env N) N laws_toIntSSh.c1 s k) n1
  { t := [.one (.sl false (.list (.int .i64)) a), .junk, .junk, .one (.ref 0 0 .all), .one (.int .i64 i), .junk, .junk, .junk, .junk, .junk, .junk, .junk, .junk, .junk, .junk, .junk, .junk, .junk, .junk, .junk, .junk, .junk, .junk], h := [.row 0 false true 6 (.hnd (.int .i64)) o0, .absent 0], d := D }
  (laws_toIntSSh.k1 N)

theorem laws_toIntSSh.L1_eq (N : Nat) (n1 : Nat) (a : List (List Int)) (i : Int) (o0 : List Hnd) (D : List HRow) : laws_toIntSSh.L1 N (n1 + 1) a i o0 D =
    bif decide (i < (List.length a : Int)) then
      bif inRange i (List.length a) then
      bindO (laws_toIntS.F N (nth ([] : List Int) a i)) fun r1 =>
      bif inRange i (List.length o0) then
      laws_toIntSSh.L1 N n1 a (IntKind.wrap .i64 (i + (1 : Int))) (List.set o0 (Int.toNat i) (some (List.length D, 0, List.length r1) : Hnd)) (D ++ [HRow.row 2 (.int .i64) r1])
      else none
      else none
    else
      some (o0, D) := by kernel_rfl
theorem laws_toIntSSh.H_eq (N : Nat) (a : List (List Int)) (D : List HRow) : laws_toIntSSh.H N a D =
    bif decide (0 ≤ (List.length a : Int)) && decide ((List.length a : Int) ≤ (maxN : Int)) then
    laws_toIntSSh.L1 N N a (0 : Int) (List.replicate (Int.toNat (List.length a : Int)) (none : Hnd)) D
    else none := by kernel_rfl

def laws_toFlashh.x : XFunc := { nslots := 13, nobj := 4, pars := [.val true 2], rowsIn := [none, none], rets := [.var 2 true 2], outs := [.imm, .own 2], fresh := true, arg := .pair (.list (.list (.int .i64))) (.list (.int .i64)), ret := .pair (.list (.hnd (.int .i64))) (.list (.int .i64)), body := .seq (.region false [ow 1 (.box 0) [.slot 0] [0] [0], ow 2 (.alloc 1 [.nil, .nil]) [] [1] [1]]) (.seq (.region false [ow 3 (.alloc 2 [.nil, .nil]) [] [2] [2]]) (.seq (.region false [o1 4 (.fieldAddr 0) 1, ow 5 (.load false 1) [.slot 4] [0] [], ow 6 (.callH false ⟨255, vs 1, no 1, [.val false 1], ims 1, true⟩) [.slot 5] [100] [100], o1 7 (.fieldAddr 0) 3, on (.store 1) [.slot 7, .slot 6] [2] [2]]) (.seq (.region false [o1 8 (.fieldAddr 1) 1, ow 9 (.load false 1) [.slot 8] [0] [], ow 10 (.call ⟨254, vs 1, no 1, [.val false 1], [.own 3 2], true⟩) [.slot 9] [3] [3], o1 11 (.fieldAddr 1) 3, on (.store 1) [.slot 11, .slot 10] [2] [2]]) (.seq (.region false [ow 12 (.load true 2) [.slot 3] [2] [], on (.store 2) [.slot 2, .slot 12] [1] [1]]) (.ret))))), hp := true }
def laws_toFlashh.env (N : Nat) : Env := envOf (tbl [(254, laws_toIntS.fs N), (255, laws_toIntSSh.fs N)] noFS)
def laws_toFlashh.H (N : Nat) (x : (List (List Int)) × List Int) (D : List HRow) : Option (((List Hnd) × List Int) × List HRow) := XFunc.runH laws_toFlashh.x (laws_toFlashh.env N) N x D
def laws_toFlashh.fs (N : Nat) : FS := { arg := .pair (.list (.list (.int .i64))) (.list (.int .i64)), ret := .pair (.list (.hnd (.int .i64))) (.list (.int .i64)), fresh := true, F := fun _ => none, hp := true, H := laws_toFlashh.H N }

theorem laws_toFlashh.H_eq (N : Nat) (a : (List (List Int)) × List Int) (D : List HRow) : laws_toFlashh.H N a D =
    bindO (laws_toIntSSh.H N a.1 (hhide D)) fun r1 =>
    bindO (laws_toIntS.F N a.2) fun r2 =>
    some ((r1.1, r2), hmerge D r1.2) := by kernel_rfl

def laws_toFlashOp.x : XFunc := { nslots := 17, nobj := 3, pars := [.val true 4], rowsIn := [none, none, none, none], rets := [.var 2 true 4], outs := [.imm, .imm, .imm, .imm], fresh := true, arg := .pair (.bool) (.pair (.int .i64) (.pair (.int .i64) (.int .i64))), ret := .pair (.bool) (.pair (.int .i64) (.pair (.int .i64) (.int .i64))), body := .seq (.region false [ow 1 (.box 0) [.slot 0] [0] [0], ow 2 (.alloc 1 [.bool false, .int .i64 (0 : Int), .int .i64 (0 : Int), .int .i64 (0 : Int)]) [] [1] [1]]) (.seq (.region false [ow 3 (.alloc 2 [.bool false, .int .i64 (0 : Int), .int .i64 (0 : Int), .int .i64 (0 : Int)]) [] [2] [2]]) (.seq (.region false [o1 4 (.fieldAddr 0) 1, ow 5 (.load false 1) [.slot 4] [0] [], o1 6 (.fieldAddr 0) 3, on (.store 1) [.slot 6, .slot 5] [2] [2]]) (.seq (.region false [o1 7 (.fieldAddr 1) 1, ow 8 (.load false 1) [.slot 7] [0] [], o1 9 (.fieldAddr 1) 3, on (.store 1) [.slot 9, .slot 8] [2] [2]]) (.seq (.region false [o1 10 (.fieldAddr 2) 1, ow 11 (.load false 1) [.slot 10] [0] [], o1 12 (.fieldAddr 2) 3, on (.store 1) [.slot 12, .slot 11] [2] [2]]) (.seq (.region false [o1 13 (.fieldAddr 3) 1, ow 14 (.load false 1) [.slot 13] [0] [], o1 15 (.fieldAddr 3) 3, on (.store 1) [.slot 15, .slot 14] [2] [2]]) (.seq (.region false [ow 16 (.load true 4) [.slot 3] [2] [], on (.store 4) [.slot 2, .slot 16] [1] [1]]) (.ret))))))) }
def laws_toFlashOp.env (_ : Nat) : Env := envOf (tbl [] noFS)
def laws_toFlashOp.F (N : Nat) (x : Bool × Int × Int × Int) : Option (Bool × Int × Int × Int) := XFunc.run laws_toFlashOp.x (laws_toFlashOp.env N) N x
def laws_toFlashOp.fs (N : Nat) : FS := { arg := .pair (.bool) (.pair (.int .i64) (.pair (.int .i64) (.int .i64))), ret := .pair (.bool) (.pair (.int .i64) (.pair (.int .i64) (.int .i64))), fresh := true, F := laws_toFlashOp.F N }

theorem laws_toFlashOp.F_eq (N : Nat) (a : Bool × Int × Int × Int) : laws_toFlashOp.F N a =
    some a := by kernel_rfl

def spec_l14Copy.c1 : XCode := .seq (.seq (.region false [mv 10 4, o1 11 (.fieldAddr 0) 1, ow 12 (.load false 1) [.slot 11] [0] [], o1 13 .len 12, o2 14 (.bin .lss) 10 13]) (.cond (.slot 14) (.skip) (.exit 0))) (.seq (.block 1 (.region true [o1 17 (.fieldAddr 0) 3, ow 18 (.load false 1) [.slot 17] [3] [], ow 19 (.buildSlice false 4 2 (.int .i64) 0 [] [.int .i64 (0 : Int)]) [] [4] [4], o1 20 (.fieldAddr 0) 1, ow 21 (.load false 1) [.slot 20] [0] [], mv 22 4, o2 23 (.indexAddr (.list (.int .i64))) 21 22, o1 24 (.load false 1) 23, ⟨some 25, .append false 4 2 (.int .i64), [.slot 19, .slot 24], [4, 100], [4], none, false, .pub 4⟩, ow 26 (.buildSlice false 5 6 (.hnd (.int .i64)) 1 [(0, 1)] [.nil]) [.slot 25] [5] [5], ow 27 (.append false 6 6 (.hnd (.int .i64))) [.slot 18, .slot 26] [5, 6] [6], o1 28 (.fieldAddr 0) 3, on (.store 1) [.slot 28, .slot 27] [3] [3]])) (.region false [mv 15 4, op 16 (.bin .add) [.slot 15, .const (.one (.int .i64 (1 : Int)))], mv 4 16]))
def spec_l14Copy.c2 : XCode := .seq (.region false [ow 29 (.load true 2) [.slot 3] [3] [], on (.store 2) [.slot 2, .slot 29] [1] [1]]) (.ret)
def spec_l14Copy.x : XFunc := { nslots := 30, nobj := 7, pars := [.val true 2], rowsIn := [none, none], rets := [.var 2 true 2], outs := [.own 6, .own 2], fresh := true, arg := .pair (.list (.list (.int .i64))) (.list (.int .i64)), ret := .pair (.list (.hnd (.int .i64))) (.list (.int .i64)), body := .seq (.region false [ow 1 (.box 0) [.slot 0] [0] [0], ow 2 (.alloc 1 [.nil, .nil]) [] [1] [1]]) (.seq (.region false [ow 5 (.buildSlice false 2 2 (.int .i64) 0 [] [.int .i64 (0 : Int)]) [] [2] [2], o1 6 (.fieldAddr 1) 1, ow 7 (.load false 1) [.slot 6] [0] [], ow 8 (.append false 2 2 (.int .i64)) [.slot 5, .slot 7] [2] [2], o1 9 (.build [.nil, .nil] [(1, 1)]) 8, ow 3 (.alloc 3 [.nil, .nil]) [] [3] [3], on (.store 2) [.slot 3, .slot 9] [3] [3]]) (.seq (.seq (.region false [op 4 .move [.const (.one (.int .i64 (0 : Int)))]]) (.block 0 (.loop [.mkrow (.boxc 3 0) 6 6 (.hnd (.int .i64)), .keep [1, 2, 3, 4], .drop 4, .drop 5, .norm] (spec_l14Copy.c1)))) (spec_l14Copy.c2))), hp := true }
def spec_l14Copy.env (_ : Nat) : Env := envOf (tbl [] noFS)
def spec_l14Copy.H (N : Nat) (x : (List (List Int)) × List Int) (D : List HRow) : Option (((List Hnd) × List Int) × List HRow) := XFunc.runH spec_l14Copy.x (spec_l14Copy.env N) N x D
def spec_l14Copy.fs (N : Nat) : FS := { arg := .pair (.list (.list (.int .i64))) (.list (.int .i64)), ret := .pair (.list (.hnd (.int .i64))) (.list (.int .i64)), fresh := true, F := fun _ => none, hp := true, H := spec_l14Copy.H N }
def spec_l14Copy.k2 (N : Nat) : Ex → S → Option (((List Hnd) × List Int) × List HRow) := seqK (fun s => XCode.runK (spec_l14Copy.env N) N (spec_l14Copy.c2) s (XFunc.endKH spec_l14Copy.x)) (XFunc.endKH spec_l14Copy.x)
def spec_l14Copy.k1 (N : Nat) : Ex → S → Option (((List Hnd) × List Int) × List HRow) := blockK 0 (spec_l14Copy.k2 N)
def spec_l14Copy.L1 (N : Nat) (n1 : Nat) (i : Int) (o00 : List (List Int)) (o01 : List Int) (o2 : List Int) (o6 : List Hnd) (D : List HRow) : Option (((List Hnd) × List Int) × List HRow) := loopK [.mkrow (.boxc 3 0) 6 6 (.hnd (.int .i64)), .keep [1, 2, 3, 4], .drop 4, .drop 5, .norm] (fun s k => XCode.runK (spec_l14Copy.env N) N spec_l14Copy.c1 s k) n1
  { t := [.junk, .one (.ptr 0 0 0), .one (.ptr 1 0 0), .one (.ptr 3 0 0), .one (.int .i64 i), .junk, .junk, .junk, .junk, .junk, .junk, .junk, .junk, .junk, .junk, .junk, .junk, .junk, .junk, .junk, .junk, .junk, .junk, .junk, .junk, .junk, .junk, .junk, .junk, .junk], h := [.box 0 false [.sl false (.list (.int .i64)) o00, .sl false (.int .i64) o01], .box 0 false [.nil, .nil], .row 0 false true 2 (.int .i64) o2, .box 0 false [.ref 6 0 .all, .ref 2 0 .all], .absent 0, .absent 0, .row 0 false true 6 (.hnd (.int .i64)) o6], d := D }
  (spec_l14Copy.k1 N)

theorem spec_l14Copy.L1_eq (N : Nat) (n1 : Nat) (i : Int) (o00 : List (List Int)) (o01 : List Int) (o2 : List Int) (o6 : List Hnd) (D : List HRow) : spec_l14Copy.L1 N (n1 + 1) i o00 o01 o2 o6 D =
    bif decide (i < (List.length o00 : Int)) then
      bif inRange i (List.length o00) then
      bif decide (List.length ([] : List Int) + List.length (nth ([] : List Int) o00 i) ≤ maxN) then
      bif decide (List.length o6 + List.length ([(some (List.length D, 0, List.length (([] : List Int) ++ (nth ([] : List Int) o00 i))) : Hnd)] : List Hnd) ≤ maxN) then
      spec_l14Copy.L1 N n1 (IntKind.wrap .i64 (i + (1 : Int))) o00 o01 o2 (o6 ++ ([(some (List.length D, 0, List.length (([] : List Int) ++ (nth ([] : List Int) o00 i))) : Hnd)] : List Hnd)) (D ++ [HRow.row 2 (.int .i64) (([] : List Int) ++ (nth ([] : List Int) o00 i))])
      else none
      else none
      else none
    else
      some ((o6, o2), D) := by kernel_rfl
theorem spec_l14Copy.H_eq (N : Nat) (f : (List (List Int)) × List Int) (D : List HRow) : spec_l14Copy.H N f D =
    bif decide (List.length ([] : List Int) + List.length f.2 ≤ maxN) then
    spec_l14Copy.L1 N N (0 : Int) f.1 f.2 (([] : List Int) ++ f.2) ([] : List Hnd) D
    else none := by kernel_rfl

def spec_DoFlash.c1 : XCode := .seq (.seq (.region false [mv 22 7, op 23 (.bin .lss) [.slot 22, .const (.one (.int .i64 (19 : Int)))]]) (.cond (.slot 23) (.skip) (.exit 0))) (.seq (.block 1 (.region false [o1 26 (.fieldAddr 0) 6, ow 27 (.load false 1) [.slot 26] [3] [], o1 28 (.fieldAddr 1) 3, ow 29 (.load false 1) [.slot 28] [1] [], o2 30 (.indexAddr (.hnd (.int .i64))) 27 29, ⟨some 31, .load false 1, [.slot 30], [4, 100], [], none, false, .take 4 2 0⟩, mv 32 7, ow 33 (.indexAddr (.int .i64)) [.slot 31, .slot 32] [4] [], on (.store 1) [.slot 33, .const (.one (.int .i64 (65535 : Int)))] [4] [4]])) (.region false [mv 24 7, op 25 (.bin .add) [.slot 24, .const (.one (.int .i64 (1 : Int)))], mv 7 25]))
def spec_DoFlash.c2 : XCode := .seq (.region true [o1 34 (.fieldAddr 1) 6, ow 35 (.load false 1) [.slot 34] [3] [], o1 36 (.fieldAddr 1) 3, ow 37 (.load false 1) [.slot 36] [1] [], o1 38 (.fieldAddr 1) 6, ow 39 (.load false 1) [.slot 38] [3] [], o1 40 (.fieldAddr 1) 3, ow 41 (.load false 1) [.slot 40] [1] [], ow 42 (.indexAddr (.int .i64)) [.slot 39, .slot 41] [5] [], ow 43 (.load false 1) [.slot 42] [5] [], op 44 (.bin .add) [.slot 43, .const (.one (.int .i64 (1 : Int)))], ow 45 (.indexAddr (.int .i64)) [.slot 35, .slot 37] [5] [], on (.store 1) [.slot 45, .slot 44] [5] [5]]) (.seq (.seq (.region false [o1 46 (.fieldAddr 2) 3, ow 47 (.load false 1) [.slot 46] [1] [], op 48 (.bin .neq) [.slot 47, .const (.one (.int .i64 (0 : Int)))], ⟨some 49, .move, [.slot 48], [], [], none, true, .none⟩, ⟨some 50, .fieldAddr 3, [.slot 3], [], [], some (49, false), false, .none⟩, ⟨some 51, .load false 1, [.slot 50], [1], [], some (49, false), false, .none⟩, ⟨some 52, .bin .neq, [.slot 51, .const (.one (.int .i64 (0 : Int)))], [], [], some (49, false), false, .none⟩, op 53 .pick [.slot 49, .const (.one (.bool true)), .slot 52], ⟨some 54, .move, [.slot 53], [], [], none, true, .none⟩, ⟨some 55, .load true 2, [.slot 6], [3], [], some (54, false), false, .none⟩, ⟨some 56, .call ⟨96, [.val true 2], no 2, [.val false 1], ims 1, true⟩, [.slot 55], [5, 100], [], some (54, false), false, .none⟩, ⟨some 57, .not, [.slot 56], [], [], some (54, false), false, .none⟩, op 58 .pick [.slot 54, .const (.one (.bool true)), .slot 57]]) (.cond (.slot 58) (.seq (.region false [op 59 (.build [.nil, .nil] []) [], on (.store 2) [.slot 4, .slot 59] [2] [2], op 5 .move [.const (.one (.bool false))]]) (.ret)) (.skip))) (.seq (.region false [ow 60 (.load true 2) [.slot 6] [3] [], on (.store 2) [.slot 4, .slot 60] [2] [2], op 5 .move [.const (.one (.bool true))]]) (.ret)))
def spec_DoFlash.c3 : XCode := .seq (.seq (.region true [o1 61 (.fieldAddr 2) 3, ow 62 (.load false 1) [.slot 61] [1] [], op 63 (.call ⟨1, vs 3, no 3, [.val false 1], ims 1, true⟩) [.slot 62, .const (.one (.int .i64 (0 : Int))), .const (.one (.int .i64 (18 : Int)))], o1 64 .not 63, ⟨some 65, .move, [.slot 64], [], [], none, true, .none⟩, ⟨some 66, .fieldAddr 3, [.slot 3], [], [], some (65, false), false, .none⟩, ⟨some 67, .load false 1, [.slot 66], [1], [], some (65, false), false, .none⟩, ⟨some 68, .call ⟨1, vs 3, no 3, [.val false 1], ims 1, true⟩, [.slot 67, .const (.one (.int .i64 (0 : Int))), .const (.one (.int .i64 (65534 : Int)))], [], [], some (65, false), false, .none⟩, ⟨some 69, .not, [.slot 68], [], [], some (65, false), false, .none⟩, op 70 .pick [.slot 65, .const (.one (.bool true)), .slot 69], ⟨some 71, .move, [.slot 70], [], [], none, true, .none⟩, ⟨some 72, .fieldAddr 0, [.slot 2], [], [], some (71, false), false, .none⟩, ⟨some 73, .load false 1, [.slot 72], [0], [], some (71, false), false, .none⟩, ⟨some 74, .fieldAddr 1, [.slot 3], [], [], some (71, false), false, .none⟩, ⟨some 75, .load false 1, [.slot 74], [1], [], some (71, false), false, .none⟩, ⟨some 76, .indexAddr (.list (.int .i64)), [.slot 73, .slot 75], [], [], some (71, false), false, .none⟩, ⟨some 77, .load false 1, [.slot 76], [], [], some (71, false), false, .none⟩, ⟨some 78, .fieldAddr 2, [.slot 3], [], [], some (71, false), false, .none⟩, ⟨some 79, .load false 1, [.slot 78], [1], [], some (71, false), false, .none⟩, ⟨some 80, .indexAddr (.int .i64), [.slot 77, .slot 79], [], [], some (71, false), false, .none⟩, ⟨some 81, .load false 1, [.slot 80], [], [], some (71, false), false, .none⟩, ⟨some 82, .bin .neq, [.slot 81, .const (.one (.int .i64 (65535 : Int)))], [], [], some (71, false), false, .none⟩, op 83 .pick [.slot 71, .const (.one (.bool true)), .slot 82]]) (.cond (.slot 83) (.seq (.region false [op 84 (.build [.nil, .nil] []) [], on (.store 2) [.slot 4, .slot 84] [2] [2], op 5 .move [.const (.one (.bool false))]]) (.ret)) (.skip))) (.seq (.region true [o1 85 (.fieldAddr 0) 6, ow 86 (.load false 1) [.slot 85] [3] [], o1 87 (.fieldAddr 1) 3, ow 88 (.load false 1) [.slot 87] [1] [], o2 89 (.indexAddr (.hnd (.int .i64))) 86 88, ⟨some 90, .load false 1, [.slot 89], [6, 100], [], none, false, .take 6 2 0⟩, o1 91 (.fieldAddr 2) 3, ow 92 (.load false 1) [.slot 91] [1] [], o1 93 (.fieldAddr 3) 3, ow 94 (.load false 1) [.slot 93] [1] [], ow 95 (.indexAddr (.int .i64)) [.slot 90, .slot 92] [6] [], on (.store 1) [.slot 95, .slot 94] [6] [6]]) (.seq (.region false [ow 96 (.load true 2) [.slot 6] [3] [], on (.store 2) [.slot 4, .slot 96] [2] [2], op 5 .move [.const (.one (.bool true))]]) (.ret)))
def spec_DoFlash.x : XFunc := { nslots := 97, nobj := 7, pars := [.val true 2, .val true 4], rowsIn := [none, none, none, none, none, none], rets := [.var 4 true 2, .tmp 5 false 1], outs := [.imm, .own 2, .imm], fresh := true, arg := .pair (.pair (.list (.list (.int .i64))) (.list (.int .i64))) (.pair (.bool) (.pair (.int .i64) (.pair (.int .i64) (.int .i64)))), ret := .pair (.pair (.list (.hnd (.int .i64))) (.list (.int .i64))) (.bool), body := .seq (.region false [ow 2 (.box 0) [.slot 0] [0] [0], ow 3 (.box 1) [.slot 1] [1] [1], ow 4 (.alloc 2 [.nil, .nil]) [] [2] [2], op 5 .move [.const (.one (.bool false))]]) (.seq (.seq (.region false [ow 8 (.load true 2) [.slot 2] [0] [], o1 9 (.call ⟨96, [.val true 2], no 2, [.val false 1], ims 1, true⟩) 8, o1 10 .not 9, ⟨some 11, .move, [.slot 10], [], [], none, true, .none⟩, ⟨some 12, .fieldAddr 1, [.slot 3], [], [], some (11, false), false, .none⟩, ⟨some 13, .load false 1, [.slot 12], [1], [], some (11, false), false, .none⟩, ⟨some 14, .call ⟨1, vs 3, no 3, [.val false 1], ims 1, true⟩, [.slot 13, .const (.one (.int .i64 (0 : Int))), .const (.one (.int .i64 (1 : Int)))], [], [], some (11, false), false, .none⟩, ⟨some 15, .not, [.slot 14], [], [], some (11, false), false, .none⟩, op 16 .pick [.slot 11, .const (.one (.bool true)), .slot 15]]) (.cond (.slot 16) (.seq (.region false [op 17 (.build [.nil, .nil] []) [], on (.store 2) [.slot 4, .slot 17] [2] [2], op 5 .move [.const (.one (.bool false))]]) (.ret)) (.skip))) (.seq (.region false [ow 18 (.load true 2) [.slot 2] [0] [], ow 19 (.callH false ⟨103, [.val true 2], no 2, [.val true 2], [.imm, .own 5 2], true⟩) [.slot 18] [5, 100] [5, 100], ow 6 (.alloc 3 [.nil, .nil]) [] [3] [3], on (.store 2) [.slot 6, .slot 19] [3] [3]]) (.seq (.seq (.region false [o1 20 (.fieldAddr 0) 3, ow 21 (.load false 1) [.slot 20] [1] []]) (.cond (.slot 21) (.seq (.seq (.region false [op 7 .move [.const (.one (.int .i64 (0 : Int)))]]) (.block 0 (.loop [.hput 4, .keep [3, 4, 6, 7], .drop 0, .drop 4, .drop 6, .norm] (spec_DoFlash.c1)))) (spec_DoFlash.c2)) (.skip))) (spec_DoFlash.c3)))), hp := true }
def spec_DoFlash.env (N : Nat) : Env := envOf (tbl [(96, spec_IsFlash.fs N), (103, spec_l14Copy.fs N), (1, spec_l1In.fs N)] noFS)
def spec_DoFlash.H (N : Nat) (x : ((List (List Int)) × List Int) × Bool × Int × Int × Int) (D : List HRow) : Option ((((List Hnd) × List Int) × Bool) × List HRow) := XFunc.runH spec_DoFlash.x (spec_DoFlash.env N) N x D
def spec_DoFlash.fs (N : Nat) : FS := { arg := .pair (.pair (.list (.list (.int .i64))) (.list (.int .i64))) (.pair (.bool) (.pair (.int .i64) (.pair (.int .i64) (.int .i64)))), ret := .pair (.pair (.list (.hnd (.int .i64))) (.list (.int .i64))) (.bool), fresh := true, F := fun _ => none, hp := true, H := spec_DoFlash.H N }
def spec_DoFlash.k3 (N : Nat) : Ex → S → Option ((((List Hnd) × List Int) × Bool) × List HRow) := seqK (fun s => XCode.runK (spec_DoFlash.env N) N (spec_DoFlash.c3) s (XFunc.endKH spec_DoFlash.x)) (XFunc.endKH spec_DoFlash.x)
def spec_DoFlash.k2 (N : Nat) : Ex → S → Option ((((List Hnd) × List Int) × Bool) × List HRow) := seqK (fun s => XCode.runK (spec_DoFlash.env N) N (spec_DoFlash.c2) s (spec_DoFlash.k3 N)) (spec_DoFlash.k3 N)
def spec_DoFlash.k1 (N : Nat) : Ex → S → Option ((((List Hnd) × List Int) × Bool) × List HRow) := blockK 0 (spec_DoFlash.k2 N)
def spec_DoFlash.L1 (N : Nat) (n1 : Nat) (i : Int) (o10 : Bool) (o11 : Int) (o12 : Int) (o13 : Int) (o30 : List Hnd) (o5 : List Int) (D : List HRow) : Option ((((List Hnd) × List Int) × Bool) × List HRow) := loopK [.hput 4, .keep [3, 4, 6, 7], .drop 0, .drop 4, .drop 6, .norm] (fun s k => XCode.runK (spec_DoFlash.env N) N spec_DoFlash.c1 s k) n1
  { t := [.junk, .junk, .junk, .one (.ptr 1 0 0), .one (.ptr 2 0 0), .junk, .one (.ptr 3 0 0), .one (.int .i64 i), .junk, .junk, .junk, .junk, .junk, .junk, .junk, .junk, .junk, .junk, .junk, .junk, .junk, .junk, .junk, .junk, .junk, .junk, .junk, .junk, .junk, .junk, .junk, .junk, .junk, .junk, .junk, .junk, .junk, .junk, .junk, .junk, .junk, .junk, .junk, .junk, .junk, .junk, .junk, .junk, .junk, .junk, .junk, .junk, .junk, .junk, .junk, .junk, .junk, .junk, .junk, .junk, .junk, .junk, .junk, .junk, .junk, .junk, .junk, .junk, .junk, .junk, .junk, .junk, .junk, .junk, .junk, .junk, .junk, .junk, .junk, .junk, .junk, .junk, .junk, .junk, .junk, .junk, .junk, .junk, .junk, .junk, .junk, .junk, .junk, .junk, .junk, .junk, .junk], h := [.absent 0, .box 0 false [.bool o10, .int .i64 o11, .int .i64 o12, .int .i64 o13], .box 0 false [.nil, .nil], .box 0 false [.sl true (.hnd (.int .i64)) o30, .ref 5 0 .all], .absent 0, .row 0 false true 2 (.int .i64) o5, .absent 0], d := D }
  (spec_DoFlash.k1 N)

theorem spec_DoFlash.L1_eq (N : Nat) (n1 : Nat) (i : Int) (o10 : Bool) (o11 : Int) (o12 : Int) (o13 : Int) (o30 : List Hnd) (o5 : List Int) (D : List HRow) : spec_DoFlash.L1 N (n1 + 1) i o10 o11 o12 o13 o30 o5 D =
    bif decide (i < (19 : Int)) then
      bif inRange o11 (List.length o30) then
      bif hfull D 2 (.int .i64) (nth (none : Hnd) o30 o11) then
      bif inRange i (List.length (hcut D (.int .i64) (nth (none : Hnd) o30 o11))) then
      spec_DoFlash.L1 N n1 (IntKind.wrap .i64 (i + (1 : Int))) o10 o11 o12 o13 o30 o5 (hput (hgone D (nth (none : Hnd) o30 o11)) (nth (none : Hnd) o30 o11) 2 (.int .i64) (List.set (hcut D (.int .i64) (nth (none : Hnd) o30 o11)) (Int.toNat i) (65535 : Int)))
      else none
      else none
      else none
    else
      bif inRange o11 (List.length o5) then
      bif inRange o11 (List.length o5) then
      bif o12 != (0 : Int) then
        some (((([] : List Hnd), ([] : List Int)), false), D)
      else
        bif o13 != (0 : Int) then
          some (((([] : List Hnd), ([] : List Int)), false), D)
        else
          bif List.all o30 (Ty.unok D (.hnd (.int .i64))) then
          bindO (spec_IsFlash.F N (List.map (Ty.unden D (.hnd (.int .i64))) o30, List.set o5 (Int.toNat o11) (IntKind.wrap .i64 ((List.getD o5 (Int.toNat o11) (0 : Int)) + (1 : Int))))) fun r4 =>
          bif !r4 then
            some (((([] : List Hnd), ([] : List Int)), false), D)
          else
            some (((o30, List.set o5 (Int.toNat o11) (IntKind.wrap .i64 ((List.getD o5 (Int.toNat o11) (0 : Int)) + (1 : Int)))), true), D)
          else none
      else none
      else none := by kernel_rfl
theorem spec_DoFlash.H_eq (N : Nat) (f : (List (List Int)) × List Int) (o : Bool × Int × Int × Int) (D : List HRow) : spec_DoFlash.H N (f, o) D =
    bindO (spec_IsFlash.F N f) fun r1 =>
    bif !r1 then
      some (((([] : List Hnd), ([] : List Int)), false), D)
    else
      bindO (spec_l1In.F N (o.2.1, ((0 : Int), (1 : Int)))) fun r2 =>
      bif !r2 then
        some (((([] : List Hnd), ([] : List Int)), false), D)
      else
        bindO (spec_l14Copy.H N f (hhide D)) fun r3 =>
        bif o.1 then
          spec_DoFlash.L1 N N (0 : Int) o.1 o.2.1 o.2.2.1 o.2.2.2 r3.1.1 r3.1.2 (hmerge D r3.2)
        else
          bindO (spec_l1In.F N (o.2.2.1, ((0 : Int), (18 : Int)))) fun r5 =>
          bif !r5 then
            some (((([] : List Hnd), ([] : List Int)), false), hmerge D r3.2)
          else
            bindO (spec_l1In.F N (o.2.2.2, ((0 : Int), (65534 : Int)))) fun r6 =>
            bif !r6 then
              some (((([] : List Hnd), ([] : List Int)), false), hmerge D r3.2)
            else
              bif inRange o.2.1 (List.length f.1) then
              bif inRange o.2.2.1 (List.length (nth ([] : List Int) f.1 o.2.1)) then
              bif (nth (0 : Int) (nth ([] : List Int) f.1 o.2.1) o.2.2.1) != (65535 : Int) then
                some (((([] : List Hnd), ([] : List Int)), false), hmerge D r3.2)
              else
                bif inRange o.2.1 (List.length r3.1.1) then
                bif hfull (hmerge D r3.2) 2 (.int .i64) (nth (none : Hnd) r3.1.1 o.2.1) then
                bif inRange o.2.2.1 (List.length (hcut (hmerge D r3.2) (.int .i64) (nth (none : Hnd) r3.1.1 o.2.1))) then
                some ((r3.1, true), hput (hgone (hmerge D r3.2) (nth (none : Hnd) r3.1.1 o.2.1)) (nth (none : Hnd) r3.1.1 o.2.1) 2 (.int .i64) (List.set (hcut (hmerge D r3.2) (.int .i64) (nth (none : Hnd) r3.1.1 o.2.1)) (Int.toNat o.2.2.1) o.2.2.2))
                else none
                else none
                else none
              else none
              else none := by kernel_rfl

def impl_copyInts.x : XFunc := { nslots := 5, nobj := 1, pars := [.val false 1], rowsIn := [none], rets := [.tmp 2 false 1], outs := [.own 2], fresh := true, arg := .list (.int .i64), ret := .list (.int .i64), body := .seq (.region false [op 2 .move [.const (.one (.nil))]]) (.seq (.region false [mv 3 0, ow 4 (.append false 0 2 (.int .i64)) [.const (.one (.nil)), .slot 3] [0] [0], mv 2 4]) (.ret)) }
def impl_copyInts.env (_ : Nat) : Env := envOf (tbl [] noFS)
def impl_copyInts.F (N : Nat) (x : List Int) : Option (List Int) := XFunc.run impl_copyInts.x (impl_copyInts.env N) N x
def impl_copyInts.fs (N : Nat) : FS := { arg := .list (.int .i64), ret := .list (.int .i64), fresh := true, F := impl_copyInts.F N }

theorem impl_copyInts.F_eq (N : Nat) (l_ : List Int) : impl_copyInts.F N l_ =
    bif decide (List.length l_ ≤ maxN) then
    some l_
    else none := by kernel_rfl

def impl_copyFlash.c1 : XCode := .seq (.region false [o2 14 (.bin .lss) 13 12]) (.seq (.cond (.slot 14) (.skip) (.exit 0)) (.seq (.block 1 (.seq (.region false [o2 15 (.indexAddr (.list (.int .i64))) 11 13, o1 16 (.load false 1) 15, mv 5 16]) (.region true [o1 17 (.fieldAddr 0) 3, ow 18 (.load false 1) [.slot 17] [2] [], mv 19 5, ⟨some 20, .call ⟨114, vs 1, no 1, [.val false 1], [.own 4 2], true⟩, [.slot 19], [4, 100], [4], none, false, .pub 4⟩, ow 21 (.buildSlice false 3 6 (.hnd (.int .i64)) 1 [(0, 1)] [.nil]) [.slot 20] [3] [3], ow 22 (.append false 5 6 (.hnd (.int .i64))) [.slot 18, .slot 21] [3, 5] [5], o1 23 (.fieldAddr 0) 3, on (.store 1) [.slot 23, .slot 22] [2] [2]]))) (.region false [op 24 (.bin .add) [.slot 13, .const (.one (.int .i64 (1 : Int)))], mv 13 24])))
def impl_copyFlash.c2 : XCode := .seq (.region false [ow 25 (.load true 2) [.slot 3] [2] [], on (.store 2) [.slot 2, .slot 25] [1] [1]]) (.ret)
def impl_copyFlash.x : XFunc := { nslots := 26, nobj := 7, pars := [.val true 2], rowsIn := [none, none], rets := [.var 2 true 2], outs := [.own 6, .own 2], fresh := true, arg := .pair (.list (.list (.int .i64))) (.list (.int .i64)), ret := .pair (.list (.hnd (.int .i64))) (.list (.int .i64)), body := .seq (.region false [ow 1 (.box 0) [.slot 0] [0] [0], ow 2 (.alloc 1 [.nil, .nil]) [] [1] [1]]) (.seq (.region false [o1 6 (.fieldAddr 1) 1, ow 7 (.load false 1) [.slot 6] [0] [], ow 8 (.call ⟨114, vs 1, no 1, [.val false 1], [.own 6 2], true⟩) [.slot 7] [6] [6], o1 9 (.build [.nil, .nil] [(1, 1)]) 8, ow 3 (.alloc 2 [.nil, .nil]) [] [2] [2], on (.store 2) [.slot 3, .slot 9] [2] [2]]) (.seq (.seq (.region false [o1 10 (.fieldAddr 0) 1, ow 11 (.load false 1) [.slot 10] [0] [], o1 12 .len 11, op 13 .move [.const (.one (.int .i64 (0 : Int)))]]) (.block 0 (.loop [.mkrow (.boxc 2 0) 5 6 (.hnd (.int .i64)), .keep [2, 3, 11, 12, 13], .drop 0, .drop 3, .drop 4, .norm] (impl_copyFlash.c1)))) (impl_copyFlash.c2))), hp := true }
def impl_copyFlash.env (N : Nat) : Env := envOf (tbl [(114, impl_copyInts.fs N)] noFS)
def impl_copyFlash.H (N : Nat) (x : (List (List Int)) × List Int) (D : List HRow) : Option (((List Hnd) × List Int) × List HRow) := XFunc.runH impl_copyFlash.x (impl_copyFlash.env N) N x D
def impl_copyFlash.fs (N : Nat) : FS := { arg := .pair (.list (.list (.int .i64))) (.list (.int .i64)), ret := .pair (.list (.hnd (.int .i64))) (.list (.int .i64)), fresh := true, F := fun _ => none, hp := true, H := impl_copyFlash.H N }
def impl_copyFlash.k2 (N : Nat) : Ex → S → Option (((List Hnd) × List Int) × List HRow) := seqK (fun s => XCode.runK (impl_copyFlash.env N) N (impl_copyFlash.c2) s (XFunc.endKH impl_copyFlash.x)) (XFunc.endKH impl_copyFlash.x)
def impl_copyFlash.k1 (N : Nat) : Ex → S → Option (((List Hnd) × List Int) × List HRow) := blockK 0 (impl_copyFlash.k2 N)
def impl_copyFlash.L1 (N : Nat) (n1 : Nat) (t11 : List (List Int)) (t12 : Int) (t13 : Int) (o5 : List Hnd) (o6 : List Int) (D : List HRow) : Option (((List Hnd) × List Int) × List HRow) := loopK [.mkrow (.boxc 2 0) 5 6 (.hnd (.int .i64)), .keep [2, 3, 11, 12, 13], .drop 0, .drop 3, .drop 4, .norm] (fun s k => XCode.runK (impl_copyFlash.env N) N impl_copyFlash.c1 s k) n1
  { t := [.junk, .junk, .one (.ptr 1 0 0), .one (.ptr 2 0 0), .junk, .junk, .junk, .junk, .junk, .junk, .junk, .one (.sl false (.list (.int .i64)) t11), .one (.int .i64 t12), .one (.int .i64 t13), .junk, .junk, .junk, .junk, .junk, .junk, .junk, .junk, .junk, .junk, .junk, .junk], h := [.absent 0, .box 0 false [.nil, .nil], .box 0 false [.ref 5 0 .all, .ref 6 0 .all], .absent 0, .absent 0, .row 0 false true 6 (.hnd (.int .i64)) o5, .row 0 false true 2 (.int .i64) o6], d := D }
  (impl_copyFlash.k1 N)

theorem impl_copyFlash.L1_eq (N : Nat) (n1 : Nat) (t11 : List (List Int)) (t12 : Int) (t13 : Int) (o5 : List Hnd) (o6 : List Int) (D : List HRow) : impl_copyFlash.L1 N (n1 + 1) t11 t12 t13 o5 o6 D =
    bif decide (t13 < t12) then
      bif inRange t13 (List.length t11) then
      bindO (impl_copyInts.F N (nth ([] : List Int) t11 t13)) fun r2 =>
      bif decide (List.length o5 + List.length ([(some (List.length D, 0, List.length r2) : Hnd)] : List Hnd) ≤ maxN) then
      impl_copyFlash.L1 N n1 t11 t12 (IntKind.wrap .i64 (t13 + (1 : Int))) (o5 ++ ([(some (List.length D, 0, List.length r2) : Hnd)] : List Hnd)) o6 (D ++ [HRow.row 2 (.int .i64) r2])
      else none
      else none
    else
      some ((o5, o6), D) := by kernel_rfl
theorem impl_copyFlash.H_eq (N : Nat) (f : (List (List Int)) × List Int) (D : List HRow) : impl_copyFlash.H N f D =
    bindO (impl_copyInts.F N f.2) fun r1 =>
    impl_copyFlash.L1 N N f.1 (List.length f.1 : Int) (0 : Int) ([] : List Hnd) r1 D := by kernel_rfl

def impl_DoFlash.c1 : XCode := .seq (.region false [o2 60 (.bin .lss) 59 58]) (.seq (.cond (.slot 60) (.skip) (.exit 1)) (.seq (.block 2 (.seq (.region false [mv 61 59, mv 8 61]) (.region false [mv 62 7, mv 63 8, ow 64 (.indexAddr (.int .i64)) [.slot 62, .slot 63] [4] [], on (.store 1) [.slot 64, .const (.one (.int .i64 (65535 : Int)))] [4] [4]]))) (.region false [op 65 (.bin .add) [.slot 59, .const (.one (.int .i64 (1 : Int)))], mv 59 65])))
def impl_DoFlash.c2 : XCode := .seq (.region false [o1 66 (.fieldAddr 1) 6, ow 67 (.load false 1) [.slot 66] [3] [], o1 68 (.fieldAddr 1) 3, ow 69 (.load false 1) [.slot 68] [1] [], ow 70 (.indexAddr (.int .i64)) [.slot 67, .slot 69] [5] [], ow 71 (.load false 1) [.slot 70] [5] [], op 72 (.bin .add) [.slot 71, .const (.one (.int .i64 (1 : Int)))], ow 73 (.indexAddr (.int .i64)) [.slot 67, .slot 69] [5] [], on (.store 1) [.slot 73, .slot 72] [5] [5]]) (.seq (.region false [ow 74 (.load true 2) [.slot 6] [3] [], on (.store 2) [.slot 4, .slot 74] [2] [2], op 5 .move [.const (.one (.bool true))]]) (.ret))
def impl_DoFlash.c3 : XCode := .seq (.region false [mv 103 7, o1 104 (.fieldAddr 2) 3, ow 105 (.load false 1) [.slot 104] [1] [], o1 106 (.fieldAddr 3) 3, ow 107 (.load false 1) [.slot 106] [1] [], ow 108 (.indexAddr (.int .i64)) [.slot 103, .slot 105] [4] [], on (.store 1) [.slot 108, .slot 107] [4] [4]]) (.seq (.region false [ow 109 (.load true 2) [.slot 6] [3] [], on (.store 2) [.slot 4, .slot 109] [2] [2], op 5 .move [.const (.one (.bool true))]]) (.ret))
def impl_DoFlash.x : XFunc := { nslots := 110, nobj := 6, pars := [.val true 2, .val true 4], rowsIn := [none, none, none, none, none, none], rets := [.var 4 true 2, .tmp 5 false 1], outs := [.imm, .own 2, .imm], fresh := true, arg := .pair (.pair (.list (.list (.int .i64))) (.list (.int .i64))) (.pair (.bool) (.pair (.int .i64) (.pair (.int .i64) (.int .i64)))), ret := .pair (.pair (.list (.hnd (.int .i64))) (.list (.int .i64))) (.bool), body := .seq (.region false [ow 2 (.box 0) [.slot 0] [0] [0], ow 3 (.box 1) [.slot 1] [1] [1], ow 4 (.alloc 2 [.nil, .nil]) [] [2] [2], op 5 .move [.const (.one (.bool false))]]) (.seq (.seq (.region false [ow 9 (.load true 2) [.slot 2] [0] [], o1 10 (.call ⟨108, [.val true 2], no 2, [.val false 1], ims 1, true⟩) 9, o1 11 .not 10, ⟨some 12, .move, [.slot 11], [], [], none, true, .none⟩, ⟨some 13, .fieldAddr 1, [.slot 3], [], [], some (12, false), false, .none⟩, ⟨some 14, .load false 1, [.slot 13], [1], [], some (12, false), false, .none⟩, ⟨some 15, .bin .lss, [.slot 14, .const (.one (.int .i64 (0 : Int)))], [], [], some (12, false), false, .none⟩, op 16 .pick [.slot 12, .const (.one (.bool true)), .slot 15], ⟨some 17, .move, [.slot 16], [], [], none, true, .none⟩, ⟨some 18, .fieldAddr 1, [.slot 3], [], [], some (17, false), false, .none⟩, ⟨some 19, .load false 1, [.slot 18], [1], [], some (17, false), false, .none⟩, ⟨some 20, .bin .gtr, [.slot 19, .const (.one (.int .i64 (1 : Int)))], [], [], some (17, false), false, .none⟩, op 21 .pick [.slot 17, .const (.one (.bool true)), .slot 20]]) (.cond (.slot 21) (.seq (.region false [op 22 (.build [.nil, .nil] []) [], on (.store 2) [.slot 4, .slot 22] [2] [2], op 5 .move [.const (.one (.bool false))]]) (.ret)) (.skip))) (.seq (.region false [ow 23 (.load true 2) [.slot 2] [0] [], ow 24 (.callH false ⟨115, [.val true 2], no 2, [.val true 2], [.imm, .own 5 2], true⟩) [.slot 23] [5, 100] [5, 100], ow 6 (.alloc 3 [.nil, .nil]) [] [3] [3], on (.store 2) [.slot 6, .slot 24] [3] [3]]) (.seq (.region false [o1 25 (.fieldAddr 0) 6, ow 26 (.load false 1) [.slot 25] [3] [], o1 27 (.fieldAddr 1) 3, ow 28 (.load false 1) [.slot 27] [1] [], o2 29 (.indexAddr (.hnd (.int .i64))) 26 28, ⟨some 30, .load false 1, [.slot 29], [4, 100], [], none, false, .take 4 2 0⟩, mv 7 30]) (.seq (.block 0 (.seq (.region false [o1 32 (.fieldAddr 0) 3, ow 33 (.load false 1) [.slot 32] [1] [], ⟨some 34, .move, [.slot 33], [], [], none, true, .none⟩, ⟨some 35, .fieldAddr 2, [.slot 3], [], [], some (34, true), false, .none⟩, ⟨some 36, .load false 1, [.slot 35], [1], [], some (34, true), false, .none⟩, ⟨some 37, .bin .neq, [.slot 36, .const (.one (.int .i64 (0 : Int)))], [], [], some (34, true), false, .none⟩, ⟨some 38, .move, [.slot 37], [], [], some (34, true), true, .none⟩, ⟨some 39, .fieldAddr 3, [.slot 3], [], [], some (38, false), false, .none⟩, ⟨some 40, .load false 1, [.slot 39], [1], [], some (38, false), false, .none⟩, ⟨some 41, .bin .neq, [.slot 40, .const (.one (.int .i64 (0 : Int)))], [], [], some (38, false), false, .none⟩, ⟨some 42, .pick, [.slot 38, .const (.one (.bool true)), .slot 41], [], [], some (34, true), false, .none⟩, ⟨some 43, .move, [.slot 42], [], [], some (34, true), true, .none⟩, ⟨some 44, .fieldAddr 1, [.slot 6], [], [], some (43, false), false, .none⟩, ⟨some 45, .load false 1, [.slot 44], [3], [], some (43, false), false, .none⟩, ⟨some 46, .fieldAddr 1, [.slot 3], [], [], some (43, false), false, .none⟩, ⟨some 47, .load false 1, [.slot 46], [1], [], some (43, false), false, .none⟩, ⟨some 48, .indexAddr (.int .i64), [.slot 45, .slot 47], [5], [], some (43, false), false, .none⟩, ⟨some 49, .load false 1, [.slot 48], [5], [], some (43, false), false, .none⟩, ⟨some 50, .bin .geq, [.slot 49, .const (.one (.int .i64 (1000 : Int)))], [], [], some (43, false), false, .none⟩, ⟨some 51, .pick, [.slot 43, .const (.one (.bool true)), .slot 50], [], [], some (34, true), false, .none⟩, op 52 .pick [.slot 34, .slot 51, .const (.one (.bool false))], mv 31 52]) (.cond (.slot 31) (.seq (.region false [op 53 (.build [.nil, .nil] []) [], on (.store 2) [.slot 4, .slot 53] [2] [2], op 5 .move [.const (.one (.bool false))]]) (.ret)) (.seq (.region false [o1 55 (.fieldAddr 0) 3, ow 56 (.load false 1) [.slot 55] [1] [], mv 54 56]) (.cond (.slot 54) (.seq (.seq (.region false [mv 57 7, ow 58 .len [.slot 57] [4] [], op 59 .move [.const (.one (.int .i64 (0 : Int)))]]) (.block 1 (.loop [.keep [3, 4, 6, 7, 58, 59], .drop 0, .norm] (impl_DoFlash.c1)))) (impl_DoFlash.c2)) (.seq (.region false [o1 76 (.fieldAddr 2) 3, ow 77 (.load false 1) [.slot 76] [1] [], op 78 (.bin .lss) [.slot 77, .const (.one (.int .i64 (0 : Int)))], ⟨some 79, .move, [.slot 78], [], [], none, true, .none⟩, ⟨some 80, .fieldAddr 2, [.slot 3], [], [], some (79, false), false, .none⟩, ⟨some 81, .load false 1, [.slot 80], [1], [], some (79, false), false, .none⟩, ⟨some 82, .bin .geq, [.slot 81, .const (.one (.int .i64 (19 : Int)))], [], [], some (79, false), false, .none⟩, op 83 .pick [.slot 79, .const (.one (.bool true)), .slot 82], ⟨some 84, .move, [.slot 83], [], [], none, true, .none⟩, ⟨some 85, .fieldAddr 3, [.slot 3], [], [], some (84, false), false, .none⟩, ⟨some 86, .load false 1, [.slot 85], [1], [], some (84, false), false, .none⟩, ⟨some 87, .bin .lss, [.slot 86, .const (.one (.int .i64 (0 : Int)))], [], [], some (84, false), false, .none⟩, op 88 .pick [.slot 84, .const (.one (.bool true)), .slot 87], ⟨some 89, .move, [.slot 88], [], [], none, true, .none⟩, ⟨some 90, .fieldAddr 3, [.slot 3], [], [], some (89, false), false, .none⟩, ⟨some 91, .load false 1, [.slot 90], [1], [], some (89, false), false, .none⟩, ⟨some 92, .bin .geq, [.slot 91, .const (.one (.int .i64 (65535 : Int)))], [], [], some (89, false), false, .none⟩, op 93 .pick [.slot 89, .const (.one (.bool true)), .slot 92], ⟨some 94, .move, [.slot 93], [], [], none, true, .none⟩, ⟨some 95, .move, [.slot 7], [], [], some (94, false), false, .none⟩, ⟨some 96, .fieldAddr 2, [.slot 3], [], [], some (94, false), false, .none⟩, ⟨some 97, .load false 1, [.slot 96], [1], [], some (94, false), false, .none⟩, ⟨some 98, .indexAddr (.int .i64), [.slot 95, .slot 97], [4], [], some (94, false), false, .none⟩, ⟨some 99, .load false 1, [.slot 98], [4], [], some (94, false), false, .none⟩, ⟨some 100, .bin .neq, [.slot 99, .const (.one (.int .i64 (65535 : Int)))], [], [], some (94, false), false, .none⟩, op 101 .pick [.slot 94, .const (.one (.bool true)), .slot 100], mv 75 101]) (.cond (.slot 75) (.seq (.region false [op 102 (.build [.nil, .nil] []) [], on (.store 2) [.slot 4, .slot 102] [2] [2], op 5 .move [.const (.one (.bool false))]]) (.ret)) (.skip)))))))) (impl_DoFlash.c3))))), hp := true }
def impl_DoFlash.env (N : Nat) : Env := envOf (tbl [(108, impl_IsFlash.fs N), (115, impl_copyFlash.fs N)] noFS)
def impl_DoFlash.H (N : Nat) (x : ((List (List Int)) × List Int) × Bool × Int × Int × Int) (D : List HRow) : Option ((((List Hnd) × List Int) × Bool) × List HRow) := XFunc.runH impl_DoFlash.x (impl_DoFlash.env N) N x D
def impl_DoFlash.fs (N : Nat) : FS := { arg := .pair (.pair (.list (.list (.int .i64))) (.list (.int .i64))) (.pair (.bool) (.pair (.int .i64) (.pair (.int .i64) (.int .i64)))), ret := .pair (.pair (.list (.hnd (.int .i64))) (.list (.int .i64))) (.bool), fresh := true, F := fun _ => none, hp := true, H := impl_DoFlash.H N }
def impl_DoFlash.k4 (N : Nat) : Ex → S → Option ((((List Hnd) × List Int) × Bool) × List HRow) := seqK (fun s => XCode.runK (impl_DoFlash.env N) N (impl_DoFlash.c3) s (XFunc.endKH impl_DoFlash.x)) (XFunc.endKH impl_DoFlash.x)
def impl_DoFlash.k3 (N : Nat) : Ex → S → Option ((((List Hnd) × List Int) × Bool) × List HRow) := blockK 0 (impl_DoFlash.k4 N)
def impl_DoFlash.k2 (N : Nat) : Ex → S → Option ((((List Hnd) × List Int) × Bool) × List HRow) := seqK (fun s => XCode.runK (impl_DoFlash.env N) N (impl_DoFlash.c2) s (impl_DoFlash.k3 N)) (impl_DoFlash.k3 N)
def impl_DoFlash.k1 (N : Nat) : Ex → S → Option ((((List Hnd) × List Int) × Bool) × List HRow) := blockK 1 (impl_DoFlash.k2 N)
def impl_DoFlash.L1 (N : Nat) (n1 : Nat) (t58 : Int) (t59 : Int) (o10 : Bool) (o11 : Int) (o12 : Int) (o13 : Int) (o30 : List Hnd) (o4 : List Int) (o5 : List Int) (D : List HRow) (h4 : Hnd) : Option ((((List Hnd) × List Int) × Bool) × List HRow) := loopK [.keep [3, 4, 6, 7, 58, 59], .drop 0, .norm] (fun s k => XCode.runK (impl_DoFlash.env N) N impl_DoFlash.c1 s k) n1
  { t := [.junk, .junk, .junk, .one (.ptr 1 0 0), .one (.ptr 2 0 0), .junk, .one (.ptr 3 0 0), .one (.ref 4 0 .all), .junk, .junk, .junk, .junk, .junk, .junk, .junk, .junk, .junk, .junk, .junk, .junk, .junk, .junk, .junk, .junk, .junk, .junk, .junk, .junk, .junk, .junk, .junk, .junk, .junk, .junk, .junk, .junk, .junk, .junk, .junk, .junk, .junk, .junk, .junk, .junk, .junk, .junk, .junk, .junk, .junk, .junk, .junk, .junk, .junk, .junk, .junk, .junk, .junk, .junk, .one (.int .i64 t58), .one (.int .i64 t59), .junk, .junk, .junk, .junk, .junk, .junk, .junk, .junk, .junk, .junk, .junk, .junk, .junk, .junk, .junk, .junk, .junk, .junk, .junk, .junk, .junk, .junk, .junk, .junk, .junk, .junk, .junk, .junk, .junk, .junk, .junk, .junk, .junk, .junk, .junk, .junk, .junk, .junk, .junk, .junk, .junk, .junk, .junk, .junk, .junk, .junk, .junk, .junk, .junk, .junk], h := [.absent 0, .box 0 false [.bool o10, .int .i64 o11, .int .i64 o12, .int .i64 o13], .box 0 false [.nil, .nil], .box 0 false [.sl true (.hnd (.int .i64)) o30, .ref 5 0 .all], .row 0 false false 2 (.int .i64) o4, .row 0 false true 2 (.int .i64) o5], d := D, k := [(4, 0, h4)] }
  (impl_DoFlash.k1 N)

theorem impl_DoFlash.L1_eq (N : Nat) (n1 : Nat) (t58 : Int) (t59 : Int) (o10 : Bool) (o11 : Int) (o12 : Int) (o13 : Int) (o30 : List Hnd) (o4 : List Int) (o5 : List Int) (D : List HRow) (h4 : Hnd) : impl_DoFlash.L1 N (n1 + 1) t58 t59 o10 o11 o12 o13 o30 o4 o5 D h4 =
    bif decide (t59 < t58) then
      bif inRange t59 (List.length o4) then
      impl_DoFlash.L1 N n1 t58 (IntKind.wrap .i64 (t59 + (1 : Int))) o10 o11 o12 o13 o30 (List.set o4 (Int.toNat t59) (65535 : Int)) o5 D h4
      else none
    else
      bif inRange o11 (List.length o5) then
      bif inRange o11 (List.length o5) then
      some (((o30, List.set o5 (Int.toNat o11) (IntKind.wrap .i64 ((List.getD o5 (Int.toNat o11) (0 : Int)) + (1 : Int)))), true), hput D h4 2 (.int .i64) o4)
      else none
      else none := by kernel_rfl
theorem impl_DoFlash.H_eq (N : Nat) (f : (List (List Int)) × List Int) (o : Bool × Int × Int × Int) (D : List HRow) : impl_DoFlash.H N (f, o) D =
    bindO (impl_IsFlash.F N f) fun r1 =>
    bif !r1 then
      some (((([] : List Hnd), ([] : List Int)), false), D)
    else
      bif decide (o.2.1 < (0 : Int)) then
        some (((([] : List Hnd), ([] : List Int)), false), D)
      else
        bif decide (o.2.1 > (1 : Int)) then
          some (((([] : List Hnd), ([] : List Int)), false), D)
        else
          bindO (impl_copyFlash.H N f (hhide D)) fun r2 =>
          bif inRange o.2.1 (List.length r2.1.1) then
          bif hfull (hmerge D r2.2) 2 (.int .i64) (nth (none : Hnd) r2.1.1 o.2.1) then
          bif o.1 then
            bif o.2.2.1 != (0 : Int) then
              some (((([] : List Hnd), ([] : List Int)), false), hput (hgone (hmerge D r2.2) (nth (none : Hnd) r2.1.1 o.2.1)) (nth (none : Hnd) r2.1.1 o.2.1) 2 (.int .i64) (hcut (hmerge D r2.2) (.int .i64) (nth (none : Hnd) r2.1.1 o.2.1)))
            else
              bif o.2.2.2 != (0 : Int) then
                some (((([] : List Hnd), ([] : List Int)), false), hput (hgone (hmerge D r2.2) (nth (none : Hnd) r2.1.1 o.2.1)) (nth (none : Hnd) r2.1.1 o.2.1) 2 (.int .i64) (hcut (hmerge D r2.2) (.int .i64) (nth (none : Hnd) r2.1.1 o.2.1)))
              else
                bif inRange o.2.1 (List.length r2.1.2) then
                bif decide ((List.getD r2.1.2 (Int.toNat o.2.1) (0 : Int)) ≥ (1000 : Int)) then
                  some (((([] : List Hnd), ([] : List Int)), false), hput (hgone (hmerge D r2.2) (nth (none : Hnd) r2.1.1 o.2.1)) (nth (none : Hnd) r2.1.1 o.2.1) 2 (.int .i64) (hcut (hmerge D r2.2) (.int .i64) (nth (none : Hnd) r2.1.1 o.2.1)))
                else
                  bif o.1 then
                    impl_DoFlash.L1 N N (List.length (hcut (hmerge D r2.2) (.int .i64) (nth (none : Hnd) r2.1.1 o.2.1)) : Int) (0 : Int) o.1 o.2.1 o.2.2.1 o.2.2.2 r2.1.1 (hcut (hmerge D r2.2) (.int .i64) (nth (none : Hnd) r2.1.1 o.2.1)) r2.1.2 (hgone (hmerge D r2.2) (nth (none : Hnd) r2.1.1 o.2.1)) (nth (none : Hnd) r2.1.1 o.2.1)
                  else
                    bif decide (o.2.2.1 < (0 : Int)) then
                      some (((([] : List Hnd), ([] : List Int)), false), hput (hgone (hmerge D r2.2) (nth (none : Hnd) r2.1.1 o.2.1)) (nth (none : Hnd) r2.1.1 o.2.1) 2 (.int .i64) (hcut (hmerge D r2.2) (.int .i64) (nth (none : Hnd) r2.1.1 o.2.1)))
                    else
                      bif decide (o.2.2.1 ≥ (19 : Int)) then
                        some (((([] : List Hnd), ([] : List Int)), false), hput (hgone (hmerge D r2.2) (nth (none : Hnd) r2.1.1 o.2.1)) (nth (none : Hnd) r2.1.1 o.2.1) 2 (.int .i64) (hcut (hmerge D r2.2) (.int .i64) (nth (none : Hnd) r2.1.1 o.2.1)))
                      else
                        bif decide (o.2.2.2 < (0 : Int)) then
                          some (((([] : List Hnd), ([] : List Int)), false), hput (hgone (hmerge D r2.2) (nth (none : Hnd) r2.1.1 o.2.1)) (nth (none : Hnd) r2.1.1 o.2.1) 2 (.int .i64) (hcut (hmerge D r2.2) (.int .i64) (nth (none : Hnd) r2.1.1 o.2.1)))
                        else
                          bif decide (o.2.2.2 ≥ (65535 : Int)) then
                            some (((([] : List Hnd), ([] : List Int)), false), hput (hgone (hmerge D r2.2) (nth (none : Hnd) r2.1.1 o.2.1)) (nth (none : Hnd) r2.1.1 o.2.1) 2 (.int .i64) (hcut (hmerge D r2.2) (.int .i64) (nth (none : Hnd) r2.1.1 o.2.1)))
                          else
                            bif inRange o.2.2.1 (List.length (hcut (hmerge D r2.2) (.int .i64) (nth (none : Hnd) r2.1.1 o.2.1))) then
                            bif (List.getD (hcut (hmerge D r2.2) (.int .i64) (nth (none : Hnd) r2.1.1 o.2.1)) (Int.toNat o.2.2.1) (0 : Int)) != (65535 : Int) then
                              some (((([] : List Hnd), ([] : List Int)), false), hput (hgone (hmerge D r2.2) (nth (none : Hnd) r2.1.1 o.2.1)) (nth (none : Hnd) r2.1.1 o.2.1) 2 (.int .i64) (hcut (hmerge D r2.2) (.int .i64) (nth (none : Hnd) r2.1.1 o.2.1)))
                            else
                              bif inRange o.2.2.1 (List.length (hcut (hmerge D r2.2) (.int .i64) (nth (none : Hnd) r2.1.1 o.2.1))) then
                              some ((r2.1, true), hput (hgone (hmerge D r2.2) (nth (none : Hnd) r2.1.1 o.2.1)) (nth (none : Hnd) r2.1.1 o.2.1) 2 (.int .i64) (List.set (hcut (hmerge D r2.2) (.int .i64) (nth (none : Hnd) r2.1.1 o.2.1)) (Int.toNat o.2.2.1) o.2.2.2))
                              else none
                            else none
                else none
          else
            bif o.1 then
              impl_DoFlash.L1 N N (List.length (hcut (hmerge D r2.2) (.int .i64) (nth (none : Hnd) r2.1.1 o.2.1)) : Int) (0 : Int) o.1 o.2.1 o.2.2.1 o.2.2.2 r2.1.1 (hcut (hmerge D r2.2) (.int .i64) (nth (none : Hnd) r2.1.1 o.2.1)) r2.1.2 (hgone (hmerge D r2.2) (nth (none : Hnd) r2.1.1 o.2.1)) (nth (none : Hnd) r2.1.1 o.2.1)
            else
              bif decide (o.2.2.1 < (0 : Int)) then
                some (((([] : List Hnd), ([] : List Int)), false), hput (hgone (hmerge D r2.2) (nth (none : Hnd) r2.1.1 o.2.1)) (nth (none : Hnd) r2.1.1 o.2.1) 2 (.int .i64) (hcut (hmerge D r2.2) (.int .i64) (nth (none : Hnd) r2.1.1 o.2.1)))
              else
                bif decide (o.2.2.1 ≥ (19 : Int)) then
                  some (((([] : List Hnd), ([] : List Int)), false), hput (hgone (hmerge D r2.2) (nth (none : Hnd) r2.1.1 o.2.1)) (nth (none : Hnd) r2.1.1 o.2.1) 2 (.int .i64) (hcut (hmerge D r2.2) (.int .i64) (nth (none : Hnd) r2.1.1 o.2.1)))
                else
                  bif decide (o.2.2.2 < (0 : Int)) then
                    some (((([] : List Hnd), ([] : List Int)), false), hput (hgone (hmerge D r2.2) (nth (none : Hnd) r2.1.1 o.2.1)) (nth (none : Hnd) r2.1.1 o.2.1) 2 (.int .i64) (hcut (hmerge D r2.2) (.int .i64) (nth (none : Hnd) r2.1.1 o.2.1)))
                  else
                    bif decide (o.2.2.2 ≥ (65535 : Int)) then
                      some (((([] : List Hnd), ([] : List Int)), false), hput (hgone (hmerge D r2.2) (nth (none : Hnd) r2.1.1 o.2.1)) (nth (none : Hnd) r2.1.1 o.2.1) 2 (.int .i64) (hcut (hmerge D r2.2) (.int .i64) (nth (none : Hnd) r2.1.1 o.2.1)))
                    else
                      bif inRange o.2.2.1 (List.length (hcut (hmerge D r2.2) (.int .i64) (nth (none : Hnd) r2.1.1 o.2.1))) then
                      bif (List.getD (hcut (hmerge D r2.2) (.int .i64) (nth (none : Hnd) r2.1.1 o.2.1)) (Int.toNat o.2.2.1) (0 : Int)) != (65535 : Int) then
                        some (((([] : List Hnd), ([] : List Int)), false), hput (hgone (hmerge D r2.2) (nth (none : Hnd) r2.1.1 o.2.1)) (nth (none : Hnd) r2.1.1 o.2.1) 2 (.int .i64) (hcut (hmerge D r2.2) (.int .i64) (nth (none : Hnd) r2.1.1 o.2.1)))
                      else
                        bif inRange o.2.2.1 (List.length (hcut (hmerge D r2.2) (.int .i64) (nth (none : Hnd) r2.1.1 o.2.1))) then
                        some ((r2.1, true), hput (hgone (hmerge D r2.2) (nth (none : Hnd) r2.1.1 o.2.1)) (nth (none : Hnd) r2.1.1 o.2.1) 2 (.int .i64) (List.set (hcut (hmerge D r2.2) (.int .i64) (nth (none : Hnd) r2.1.1 o.2.1)) (Int.toNat o.2.2.1) o.2.2.2))
                        else none
                      else none
          else none
          else none := by kernel_rfl

def laws_FnExactDoFlash.x : XFunc := { nslots := 104, nobj := 8, pars := [.val true 2, .val true 4], rowsIn := [none, none, none, none, none, none], rets := [.tmp 4 false 1], outs := [.imm], fresh := true, arg := .pair (.pair (.list (.list (.int .i64))) (.list (.int .i64))) (.pair (.bool) (.pair (.int .i64) (.pair (.int .i64) (.int .i64)))), ret := .bool, body := .seq (.region false [ow 2 (.box 0) [.slot 0] [0] [0], ow 3 (.box 1) [.slot 1] [1] [1], op 4 .move [.const (.one (.bool false))]]) (.seq (.region false [op 5 .move [.const (.one (.int .i64 (1048576 : Int)))]]) (.seq (.region false [ow 16 (.load true 2) [.slot 2] [0] [], mv 17 5, o2 18 (.call ⟨253, [.val true 2, .val false 1], no 3, [.val false 1], ims 1, true⟩) 16 17, mv 5 18]) (.seq (.seq (.region false [mv 19 5, op 20 (.bin .lss) [.slot 19, .const (.one (.int .i64 (0 : Int)))]]) (.cond (.slot 20) (.seq (.region false [op 4 .move [.const (.one (.bool true))]]) (.ret)) (.skip))) (.seq (.region true [ow 22 (.load true 2) [.slot 2] [0] [], ow 23 (.callH false ⟨256, [.val true 2], no 2, [.val true 2], ims 2, true⟩) [.slot 22] [100] [100], ow 24 (.load true 4) [.slot 3] [1] [], o1 25 (.call ⟨328, [.val true 4], no 4, [.val true 4], ims 4, true⟩) 24, ow 26 (.callH false ⟨104, [.val true 2, .val true 4], no 6, [.val true 2, .val false 1], ims 3, true⟩) [.slot 23, .slot 25] [100] [100], mv 21 26, o1 27 (.extract 0) 21, o1 28 (.extract 1) 21, ow 6 (.alloc 2 [.nil, .nil]) [] [2] [2], on (.store 2) [.slot 6, .slot 27] [2] [2], mv 7 28]) (.seq (.region false [ow 29 (.load true 2) [.slot 2] [0] [], ow 30 (.callH false ⟨256, [.val true 2], no 2, [.val true 2], [.imm, .own 5 2], true⟩) [.slot 29] [5, 100] [5, 100], ow 8 (.alloc 3 [.nil, .nil]) [] [3] [3], on (.store 2) [.slot 8, .slot 30] [3] [3]]) (.seq (.region true [ow 32 (.load true 2) [.slot 8] [3] [], ow 33 (.load true 4) [.slot 3] [1] [], o1 34 (.call ⟨328, [.val true 4], no 4, [.val true 4], ims 4, true⟩) 33, ow 35 (.callH false ⟨116, [.val true 2, .val true 4], no 6, [.val true 2, .val false 1], [.imm, .own 6 2, .imm], true⟩) [.slot 32, .slot 34] [5, 6, 100] [6, 100], mv 31 35, o1 36 (.extract 0) 31, o1 37 (.extract 1) 31, ow 9 (.alloc 4 [.nil, .nil]) [] [4] [4], on (.store 2) [.slot 9, .slot 36] [4] [4], mv 10 37]) (.seq (.seq (.region false [ow 38 (.load true 2) [.slot 9] [4] [], ow 39 (.load true 2) [.slot 6] [2] [], ow 40 (.call ⟨241, [.val true 2, .val true 2], no 4, [.val false 1], ims 1, true⟩) [.slot 38, .slot 39] [6, 100] [], o1 41 .not 40, ⟨some 42, .move, [.slot 41], [], [], none, true, .none⟩, ⟨some 43, .move, [.slot 10], [], [], some (42, false), false, .none⟩, ⟨some 44, .move, [.slot 7], [], [], some (42, false), false, .none⟩, ⟨some 45, .eqBool true, [.slot 43, .slot 44], [], [], some (42, false), false, .none⟩, op 46 .pick [.slot 42, .const (.one (.bool true)), .slot 45]]) (.cond (.slot 46) (.seq (.region false [op 4 .move [.const (.one (.bool false))]]) (.ret)) (.skip))) (.seq (.seq (.region true [ow 47 (.load true 2) [.slot 8] [3] [], ow 48 (.load true 2) [.slot 2] [0] [], ow 49 (.callH false ⟨256, [.val true 2], no 2, [.val true 2], ims 2, true⟩) [.slot 48] [100] [100], ow 50 (.call ⟨241, [.val true 2, .val true 2], no 4, [.val false 1], ims 1, true⟩) [.slot 47, .slot 49] [5, 100] [], o1 51 .not 50]) (.cond (.slot 51) (.seq (.region false [op 4 .move [.const (.one (.bool false))]]) (.ret)) (.skip))) (.seq (.region false [op 11 .move [.const (.one (.int .i64 (1 : Int)))]]) (.seq (.region false [ow 52 (.load true 2) [.slot 8] [3] [], mv 53 11, ow 54 (.callH true ⟨244, [.val true 2, .val false 1], [none, some (5, 2), none], [.val false 1], [.imm, .back 5], false⟩) [.slot 52, .slot 53] [5, 100] [5, 100], mv 11 54]) (.seq (.seq (.region false [mv 55 11, op 56 (.bin .lss) [.slot 55, .const (.one (.int .i64 (0 : Int)))], ⟨some 57, .move, [.slot 56], [], [], none, true, .none⟩, ⟨some 58, .load true 2, [.slot 9], [4], [], some (57, false), false, .none⟩, ⟨some 59, .load true 2, [.slot 6], [2], [], some (57, false), false, .none⟩, ⟨some 60, .call ⟨241, [.val true 2, .val true 2], no 4, [.val false 1], ims 1, true⟩, [.slot 58, .slot 59], [6, 100], [], some (57, false), false, .none⟩, ⟨some 61, .not, [.slot 60], [], [], some (57, false), false, .none⟩, op 62 .pick [.slot 57, .const (.one (.bool true)), .slot 61], ⟨some 63, .move, [.slot 62], [], [], none, true, .none⟩, ⟨some 64, .move, [.slot 10], [], [], some (63, false), false, .none⟩, ⟨some 65, .move, [.slot 7], [], [], some (63, false), false, .none⟩, ⟨some 66, .eqBool true, [.slot 64, .slot 65], [], [], some (63, false), false, .none⟩, op 67 .pick [.slot 63, .const (.one (.bool true)), .slot 66]]) (.cond (.slot 67) (.seq (.region false [op 4 .move [.const (.one (.bool false))]]) (.ret)) (.skip))) (.seq (.region false [op 12 .move [.const (.one (.int .i64 (1 : Int)))]]) (.seq (.region false [ow 68 (.load true 2) [.slot 9] [4] [], mv 69 12, ow 70 (.callH true ⟨244, [.val true 2, .val false 1], [none, some (6, 2), none], [.val false 1], [.imm, .back 6], false⟩) [.slot 68, .slot 69] [6, 100] [6, 100], mv 12 70]) (.seq (.region false [op 13 .move [.const (.one (.int .i64 (1 : Int)))]]) (.seq (.region false [ow 71 (.load true 2) [.slot 9] [4] [], mv 72 13, ow 73 (.call ⟨247, [.val true 2, .val false 1], no 3, [.val false 1], ims 1, true⟩) [.slot 71, .slot 72] [6, 100] [], mv 13 73]) (.seq (.seq (.region false [mv 74 13, op 75 (.bin .lss) [.slot 74, .const (.one (.int .i64 (0 : Int)))]]) (.cond (.slot 75) (.seq (.region false [op 4 .move [.const (.one (.bool false))]]) (.ret)) (.skip))) (.seq (.seq (.region false [mv 76 13, mv 77 12, o2 78 (.bin .neq) 76 77]) (.cond (.slot 78) (.seq (.region false [op 4 .move [.const (.one (.bool false))]]) (.ret)) (.skip))) (.seq (.region true [ow 80 (.load true 2) [.slot 2] [0] [], ow 81 (.callH false ⟨256, [.val true 2], no 2, [.val true 2], ims 2, true⟩) [.slot 80] [100] [100], ow 82 (.load true 4) [.slot 3] [1] [], o1 83 (.call ⟨328, [.val true 4], no 4, [.val true 4], ims 4, true⟩) 82, ow 84 (.callH false ⟨116, [.val true 2, .val true 4], no 6, [.val true 2, .val false 1], ims 3, true⟩) [.slot 81, .slot 83] [100] [100], mv 79 84, o1 85 (.extract 0) 79, o1 86 (.extract 1) 79, ow 14 (.alloc 7 [.nil, .nil]) [] [7] [7], on (.store 2) [.slot 14, .slot 85] [7] [7], mv 15 86]) (.seq (.seq (.region false [ow 87 (.load true 2) [.slot 14] [7] [], ow 88 (.load true 2) [.slot 6] [2] [], ow 89 (.call ⟨241, [.val true 2, .val true 2], no 4, [.val false 1], ims 1, true⟩) [.slot 87, .slot 88] [100] [], o1 90 .not 89, ⟨some 91, .move, [.slot 90], [], [], none, true, .none⟩, ⟨some 92, .move, [.slot 15], [], [], some (91, false), false, .none⟩, ⟨some 93, .move, [.slot 7], [], [], some (91, false), false, .none⟩, ⟨some 94, .eqBool true, [.slot 92, .slot 93], [], [], some (91, false), false, .none⟩, op 95 .pick [.slot 91, .const (.one (.bool true)), .slot 94]]) (.cond (.slot 95) (.seq (.region false [op 4 .move [.const (.one (.bool false))]]) (.ret)) (.skip))) (.seq (.region false [op 13 .move [.const (.one (.int .i64 (1 : Int)))]]) (.seq (.region false [ow 96 (.load true 2) [.slot 9] [4] [], mv 97 13, ow 98 (.call ⟨247, [.val true 2, .val false 1], no 3, [.val false 1], ims 1, true⟩) [.slot 96, .slot 97] [6, 100] [], mv 13 98]) (.seq (.seq (.region false [mv 99 13, op 100 (.bin .lss) [.slot 99, .const (.one (.int .i64 (0 : Int)))]]) (.cond (.slot 100) (.seq (.region false [op 4 .move [.const (.one (.bool false))]]) (.ret)) (.skip))) (.seq (.seq (.region false [mv 101 13, mv 102 12, o2 103 (.bin .neq) 101 102]) (.cond (.slot 103) (.seq (.region false [op 4 .move [.const (.one (.bool false))]]) (.ret)) (.skip))) (.seq (.region false [op 4 .move [.const (.one (.bool true))]]) (.ret))))))))))))))))))))))))) }
def laws_FnExactDoFlash.env (N : Nat) : Env := envOf (tbl [(116, impl_DoFlash.fs N), (241, laws_eqFlash.fs N), (247, laws_heldFlash.fs N), (244, laws_markFlash.fs N), (253, laws_szFlash.fs N), (328, laws_toFlashOp.fs N), (256, laws_toFlashh.fs N), (104, spec_DoFlash.fs N)] noFS)
def laws_FnExactDoFlash.F (N : Nat) (x : ((List (List Int)) × List Int) × Bool × Int × Int × Int) : Option Bool := XFunc.run laws_FnExactDoFlash.x (laws_FnExactDoFlash.env N) N x
def laws_FnExactDoFlash.fs (N : Nat) : FS := { arg := .pair (.pair (.list (.list (.int .i64))) (.list (.int .i64))) (.pair (.bool) (.pair (.int .i64) (.pair (.int .i64) (.int .i64)))), ret := .bool, fresh := true, F := laws_FnExactDoFlash.F N }

theorem laws_FnExactDoFlash.F_eq (N : Nat) (aF : (List (List Int)) × List Int) (aO : Bool × Int × Int × Int) : laws_FnExactDoFlash.F N (aF, aO) =
    bindO (laws_szFlash.F N (aF, (1048576 : Int))) fun r1 =>
    bif decide (r1 < (0 : Int)) then
      some true
    else
      bindO (laws_toFlashh.H N aF (hhide ([] : List HRow))) fun r2 =>
      bindO (laws_toFlashOp.F N aO) fun r3 =>
      bif List.all r2.1.1 (Ty.unok (hmerge ([] : List HRow) r2.2) (.hnd (.int .i64))) then
      bindO (spec_DoFlash.H N ((List.map (Ty.unden (hmerge ([] : List HRow) r2.2) (.hnd (.int .i64))) r2.1.1, r2.1.2), r3) (hhide (hmerge ([] : List HRow) r2.2))) fun r4 =>
      bindO (laws_toFlashh.H N aF (hhide (hmerge (hmerge ([] : List HRow) r2.2) r4.2))) fun r5 =>
      bindO (laws_toFlashOp.F N aO) fun r6 =>
      bif List.all r5.1.1 (Ty.unok (hmerge (hmerge (hmerge ([] : List HRow) r2.2) r4.2) r5.2) (.hnd (.int .i64))) then
      bindO (impl_DoFlash.H N ((List.map (Ty.unden (hmerge (hmerge (hmerge ([] : List HRow) r2.2) r4.2) r5.2) (.hnd (.int .i64))) r5.1.1, r5.1.2), r6) (hhide (hmerge (hmerge (hmerge ([] : List HRow) r2.2) r4.2) r5.2))) fun r7 =>
      bif (List.all r7.1.1.1 (Ty.unok (hmerge (hmerge (hmerge (hmerge ([] : List HRow) r2.2) r4.2) r5.2) r7.2) (.hnd (.int .i64)))) && (List.all r4.1.1.1 (Ty.unok (hmerge (hmerge (hmerge (hmerge ([] : List HRow) r2.2) r4.2) r5.2) r7.2) (.hnd (.int .i64)))) then
      bindO (laws_eqFlash.F N ((List.map (Ty.unden (hmerge (hmerge (hmerge (hmerge ([] : List HRow) r2.2) r4.2) r5.2) r7.2) (.hnd (.int .i64))) r7.1.1.1, r7.1.1.2), (List.map (Ty.unden (hmerge (hmerge (hmerge (hmerge ([] : List HRow) r2.2) r4.2) r5.2) r7.2) (.hnd (.int .i64))) r4.1.1.1, r4.1.1.2))) fun r8 =>
      bif !r8 then
        some false
      else
        bif r7.1.2 != r4.1.2 then
          some false
        else
          bindO (laws_toFlashh.H N aF (hhide (hmerge (hmerge (hmerge (hmerge ([] : List HRow) r2.2) r4.2) r5.2) r7.2))) fun r9 =>
          bif (List.all r5.1.1 (Ty.unok (hmerge (hmerge (hmerge (hmerge (hmerge ([] : List HRow) r2.2) r4.2) r5.2) r7.2) r9.2) (.hnd (.int .i64)))) && (List.all r9.1.1 (Ty.unok (hmerge (hmerge (hmerge (hmerge (hmerge ([] : List HRow) r2.2) r4.2) r5.2) r7.2) r9.2) (.hnd (.int .i64)))) then
          bindO (laws_eqFlash.F N ((List.map (Ty.unden (hmerge (hmerge (hmerge (hmerge (hmerge ([] : List HRow) r2.2) r4.2) r5.2) r7.2) r9.2) (.hnd (.int .i64))) r5.1.1, r5.1.2), (List.map (Ty.unden (hmerge (hmerge (hmerge (hmerge (hmerge ([] : List HRow) r2.2) r4.2) r5.2) r7.2) r9.2) (.hnd (.int .i64))) r9.1.1, r9.1.2))) fun r10 =>
          bif !r10 then
            some false
          else
            bindO (laws_markFlash.H N (r5.1, (1 : Int)) (hmerge (hmerge (hmerge (hmerge (hmerge ([] : List HRow) r2.2) r4.2) r5.2) r7.2) r9.2)) fun r11 =>
            bif decide (r11.1.1 < (0 : Int)) then
              some false
            else
              bif (List.all r7.1.1.1 (Ty.unok r11.2 (.hnd (.int .i64)))) && (List.all r4.1.1.1 (Ty.unok r11.2 (.hnd (.int .i64)))) then
              bindO (laws_eqFlash.F N ((List.map (Ty.unden r11.2 (.hnd (.int .i64))) r7.1.1.1, r7.1.1.2), (List.map (Ty.unden r11.2 (.hnd (.int .i64))) r4.1.1.1, r4.1.1.2))) fun r12 =>
              bif !r12 then
                some false
              else
                bif r7.1.2 != r4.1.2 then
                  some false
                else
                  bindO (laws_markFlash.H N (r7.1.1, (1 : Int)) r11.2) fun r13 =>
                  bif List.all r7.1.1.1 (Ty.unok r13.2 (.hnd (.int .i64))) then
                  bindO (laws_heldFlash.F N ((List.map (Ty.unden r13.2 (.hnd (.int .i64))) r7.1.1.1, r13.1.2), (1 : Int))) fun r14 =>
                  bif decide (r14 < (0 : Int)) then
                    some false
                  else
                    bif r14 != r13.1.1 then
                      some false
                    else
                      bindO (laws_toFlashh.H N aF (hhide r13.2)) fun r15 =>
                      bindO (laws_toFlashOp.F N aO) fun r16 =>
                      bif List.all r15.1.1 (Ty.unok (hmerge r13.2 r15.2) (.hnd (.int .i64))) then
                      bindO (impl_DoFlash.H N ((List.map (Ty.unden (hmerge r13.2 r15.2) (.hnd (.int .i64))) r15.1.1, r15.1.2), r16) (hhide (hmerge r13.2 r15.2))) fun r17 =>
                      bif (List.all r17.1.1.1 (Ty.unok (hmerge (hmerge r13.2 r15.2) r17.2) (.hnd (.int .i64)))) && (List.all r4.1.1.1 (Ty.unok (hmerge (hmerge r13.2 r15.2) r17.2) (.hnd (.int .i64)))) then
                      bindO (laws_eqFlash.F N ((List.map (Ty.unden (hmerge (hmerge r13.2 r15.2) r17.2) (.hnd (.int .i64))) r17.1.1.1, r17.1.1.2), (List.map (Ty.unden (hmerge (hmerge r13.2 r15.2) r17.2) (.hnd (.int .i64))) r4.1.1.1, r4.1.1.2))) fun r18 =>
                      bif !r18 then
                        some false
                      else
                        bif r17.1.2 != r4.1.2 then
                          some false
                        else
                          bif List.all r7.1.1.1 (Ty.unok (hmerge (hmerge r13.2 r15.2) r17.2) (.hnd (.int .i64))) then
                          bindO (laws_heldFlash.F N ((List.map (Ty.unden (hmerge (hmerge r13.2 r15.2) r17.2) (.hnd (.int .i64))) r7.1.1.1, r13.1.2), (1 : Int))) fun r19 =>
                          bif decide (r19 < (0 : Int)) then
                            some false
                          else
                            bif r19 != r13.1.1 then
                              some false
                            else
                              some true
                          else none
                      else none
                      else none
                  else none
              else none
          else none
      else none
      else none
      else none := by kernel_rfl

end Go.Kb
