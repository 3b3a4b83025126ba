/- The texts of functions, printed by a program, and the equations of their runs. -/
import Derived.Test.YtokploahoidhoabCutsF1
import Derived.Test.YtokploahoidhoabCutsF2
import Derived.Test.YtokploahoidhoabCutsF3
import Derived.Test.YtokploahoidhoabCutsF20
import Derived.KernelRfl
namespace Go.Kb
def spec_l14Copy.c1 : XCode := .seq (.seq (.region false [mv 10 4, o1 11 (.fieldAddr 0) 1, ow 12 (.load false 1) [.slot 11] [0] [], o1 13 .len 12, o2 14 (.bin .lss) 10 13]) (.cond (.slot 14) (.skip) (.exit 0))) (.seq (.block 1 (.region true [o1 17 (.fieldAddr 0) 3, ow 18 (.load false 1) [.slot 17] [3] [], ow 19 (.buildSlice false 4 2 (.int .i64) 0 [] [.int .i64 (0 : Int)]) [] [4] [4], o1 20 (.fieldAddr 0) 1, ow 21 (.load false 1) [.slot 20] [0] [], mv 22 4, o2 23 (.indexAddr (.list (.int .i64))) 21 22, o1 24 (.load false 1) 23, ⟨some 25, .append false 4 2 (.int .i64), [.slot 19, .slot 24], [4, 100], [4], none, false, .pub 4⟩, ow 26 (.buildSlice false 5 6 (.hnd (.int .i64)) 1 [(0, 1)] [.nil]) [.slot 25] [5] [5], ow 27 (.append false 6 6 (.hnd (.int .i64))) [.slot 18, .slot 26] [5, 6] [6], o1 28 (.fieldAddr 0) 3, on (.store 1) [.slot 28, .slot 27] [3] [3]])) (.region false [mv 15 4, op 16 (.bin .add) [.slot 15, .const (.one (.int .i64 (1 : Int)))], mv 4 16]))
def spec_l14Copy.c2 : XCode := .seq (.region false [ow 29 (.load true 2) [.slot 3] [3] [], on (.store 2) [.slot 2, .slot 29] [1] [1]]) (.ret)
def spec_l14Copy.x : XFunc := { nslots := 30, nobj := 7, pars := [.val true 2], rowsIn := [none, none], rets := [.var 2 true 2], outs := [.own 6, .own 2], fresh := true, arg := .pair (.list (.list (.int .i64))) (.list (.int .i64)), ret := .pair (.list (.hnd (.int .i64))) (.list (.int .i64)), body := .seq (.region false [ow 1 (.box 0) [.slot 0] [0] [0], ow 2 (.alloc 1 [.nil, .nil]) [] [1] [1]]) (.seq (.region false [ow 5 (.buildSlice false 2 2 (.int .i64) 0 [] [.int .i64 (0 : Int)]) [] [2] [2], o1 6 (.fieldAddr 1) 1, ow 7 (.load false 1) [.slot 6] [0] [], ow 8 (.append false 2 2 (.int .i64)) [.slot 5, .slot 7] [2] [2], o1 9 (.build [.nil, .nil] [(1, 1)]) 8, ow 3 (.alloc 3 [.nil, .nil]) [] [3] [3], on (.store 2) [.slot 3, .slot 9] [3] [3]]) (.seq (.seq (.region false [op 4 .move [.const (.one (.int .i64 (0 : Int)))]]) (.block 0 (.loop [.mkrow (.boxc 3 0) 6 6 (.hnd (.int .i64)), .keep [1, 2, 3, 4], .drop 4, .drop 5, .norm] (spec_l14Copy.c1)))) (spec_l14Copy.c2))), hp := true }
def spec_l14Copy.env (_ : Nat) : Env := envOf (tbl [] noFS)
def spec_l14Copy.H (N : Nat) (x : (List (List Int)) × List Int) (D : List HRow) : Option (((List Hnd) × List Int) × List HRow) := XFunc.runH spec_l14Copy.x (spec_l14Copy.env N) N x D
def spec_l14Copy.fs (N : Nat) : FS := { arg := .pair (.list (.list (.int .i64))) (.list (.int .i64)), ret := .pair (.list (.hnd (.int .i64))) (.list (.int .i64)), fresh := true, F := fun _ => none, hp := true, H := spec_l14Copy.H N }
def spec_l14Copy.k2 (N : Nat) : Ex → S → Option (((List Hnd) × List Int) × List HRow) := seqK (fun s => XCode.runK (spec_l14Copy.env N) N (spec_l14Copy.c2) s (XFunc.endKH spec_l14Copy.x)) (XFunc.endKH spec_l14Copy.x)
def spec_l14Copy.k1 (N : Nat) : Ex → S → Option (((List Hnd) × List Int) × List HRow) := blockK 0 (spec_l14Copy.k2 N)
def spec_l14Copy.L1 (N : Nat) (n1 : Nat) (i : Int) (o00 : List (List Int)) (o01 : List Int) (o2 : List Int) (o6 : List Hnd) (D : List HRow) : Option (((List Hnd) × List Int) × List HRow) := loopK [.mkrow (.boxc 3 0) 6 6 (.hnd (.int .i64)), .keep [1, 2, 3, 4], .drop 4, .drop 5, .norm] (fun s k => XCode.runK (spec_l14Copy.env N) N spec_l14Copy.c1 s k) n1
  { t := [.junk, .one (.ptr 0 0 0), .one (.ptr 1 0 0), .one (.ptr 3 0 0), .one (.int .i64 i), .junk, .junk, .junk, .junk, .junk, .junk, .junk, .junk, .junk, .junk, .junk, .junk, .junk, .junk, .junk, .junk, .junk, .junk, .junk, .junk, .junk, .junk, .junk, .junk, .junk], h := [.box 0 false [.sl false (.list (.int .i64)) o00, .sl false (.int .i64) o01], .box 0 false [.nil, .nil], .row 0 false true 2 (.int .i64) o2, .box 0 false [.ref 6 0 .all, .ref 2 0 .all], .absent 0, .absent 0, .row 0 false true 6 (.hnd (.int .i64)) o6], d := D }
  (spec_l14Copy.k1 N)

theorem spec_l14Copy.L1_eq (N : Nat) (n1 : Nat) (i : Int) (o00 : List (List Int)) (o01 : List Int) (o2 : List Int) (o6 : List Hnd) (D : List HRow) : spec_l14Copy.L1 N (n1 + 1) i o00 o01 o2 o6 D =
    bif decide (i < (List.length o00 : Int)) then
      bif inRange i (List.length o00) then
      bif decide (List.length ([] : List Int) + List.length (nth ([] : List Int) o00 i) ≤ maxN) then
      bif decide (List.length o6 + List.length ([(some (List.length D, 0, List.length (([] : List Int) ++ (nth ([] : List Int) o00 i))) : Hnd)] : List Hnd) ≤ maxN) then
      spec_l14Copy.L1 N n1 (IntKind.wrap .i64 (i + (1 : Int))) o00 o01 o2 (o6 ++ ([(some (List.length D, 0, List.length (([] : List Int) ++ (nth ([] : List Int) o00 i))) : Hnd)] : List Hnd)) (D ++ [HRow.row 2 (.int .i64) (([] : List Int) ++ (nth ([] : List Int) o00 i))])
      else none
      else none
      else none
    else
      some ((o6, o2), D) := by kernel_rfl
theorem spec_l14Copy.H_eq (N : Nat) (f : (List (List Int)) × List Int) (D : List HRow) : spec_l14Copy.H N f D =
    bif decide (List.length ([] : List Int) + List.length f.2 ≤ maxN) then
    spec_l14Copy.L1 N N (0 : Int) f.1 f.2 (([] : List Int) ++ f.2) ([] : List Hnd) D
    else none := by kernel_rfl

def spec_DoFlash.c1 : XCode := .seq (.seq (.region false [mv 22 7, op 23 (.bin .lss) [.slot 22, .const (.one (.int .i64 (19 : Int)))]]) (.cond (.slot 23) (.skip) (.exit 0))) (.seq (.block 1 (.region false [o1 26 (.fieldAddr 0) 6, ow 27 (.load false 1) [.slot 26] [3] [], o1 28 (.fieldAddr 1) 3, ow 29 (.load false 1) [.slot 28] [1] [], o2 30 (.indexAddr (.hnd (.int .i64))) 27 29, ⟨some 31, .load false 1, [.slot 30], [4, 100], [], none, false, .take 4 2 0⟩, mv 32 7, ow 33 (.indexAddr (.int .i64)) [.slot 31, .slot 32] [4] [], on (.store 1) [.slot 33, .const (.one (.int .i64 (65535 : Int)))] [4] [4]])) (.region false [mv 24 7, op 25 (.bin .add) [.slot 24, .const (.one (.int .i64 (1 : Int)))], mv 7 25]))
def spec_DoFlash.c2 : XCode := .seq (.region true [o1 34 (.fieldAddr 1) 6, ow 35 (.load false 1) [.slot 34] [3] [], o1 36 (.fieldAddr 1) 3, ow 37 (.load false 1) [.slot 36] [1] [], o1 38 (.fieldAddr 1) 6, ow 39 (.load false 1) [.slot 38] [3] [], o1 40 (.fieldAddr 1) 3, ow 41 (.load false 1) [.slot 40] [1] [], ow 42 (.indexAddr (.int .i64)) [.slot 39, .slot 41] [5] [], ow 43 (.load false 1) [.slot 42] [5] [], op 44 (.bin .add) [.slot 43, .const (.one (.int .i64 (1 : Int)))], ow 45 (.indexAddr (.int .i64)) [.slot 35, .slot 37] [5] [], on (.store 1) [.slot 45, .slot 44] [5] [5]]) (.seq (.seq (.region false [o1 46 (.fieldAddr 2) 3, ow 47 (.load false 1) [.slot 46] [1] [], op 48 (.bin .neq) [.slot 47, .const (.one (.int .i64 (0 : Int)))], ⟨some 49, .move, [.slot 48], [], [], none, true, .none⟩, ⟨some 50, .fieldAddr 3, [.slot 3], [], [], some (49, false), false, .none⟩, ⟨some 51, .load false 1, [.slot 50], [1], [], some (49, false), false, .none⟩, ⟨some 52, .bin .neq, [.slot 51, .const (.one (.int .i64 (0 : Int)))], [], [], some (49, false), false, .none⟩, op 53 .pick [.slot 49, .const (.one (.bool true)), .slot 52], ⟨some 54, .move, [.slot 53], [], [], none, true, .none⟩, ⟨some 55, .load true 2, [.slot 6], [3], [], some (54, false), false, .none⟩, ⟨some 56, .call ⟨96, [.val true 2], no 2, [.val false 1], ims 1, true⟩, [.slot 55], [5, 100], [], some (54, false), false, .none⟩, ⟨some 57, .not, [.slot 56], [], [], some (54, false), false, .none⟩, op 58 .pick [.slot 54, .const (.one (.bool true)), .slot 57]]) (.cond (.slot 58) (.seq (.region false [op 59 (.build [.nil, .nil] []) [], on (.store 2) [.slot 4, .slot 59] [2] [2], op 5 .move [.const (.one (.bool false))]]) (.ret)) (.skip))) (.seq (.region false [ow 60 (.load true 2) [.slot 6] [3] [], on (.store 2) [.slot 4, .slot 60] [2] [2], op 5 .move [.const (.one (.bool true))]]) (.ret)))
def spec_DoFlash.c3 : XCode := .seq (.seq (.region true [o1 61 (.fieldAddr 2) 3, ow 62 (.load false 1) [.slot 61] [1] [], op 63 (.call ⟨1, vs 3, no 3, [.val false 1], ims 1, true⟩) [.slot 62, .const (.one (.int .i64 (0 : Int))), .const (.one (.int .i64 (18 : Int)))], o1 64 .not 63, ⟨some 65, .move, [.slot 64], [], [], none, true, .none⟩, ⟨some 66, .fieldAddr 3, [.slot 3], [], [], some (65, false), false, .none⟩, ⟨some 67, .load false 1, [.slot 66], [1], [], some (65, false), false, .none⟩, ⟨some 68, .call ⟨1, vs 3, no 3, [.val false 1], ims 1, true⟩, [.slot 67, .const (.one (.int .i64 (0 : Int))), .const (.one (.int .i64 (65534 : Int)))], [], [], some (65, false), false, .none⟩, ⟨some 69, .not, [.slot 68], [], [], some (65, false), false, .none⟩, op 70 .pick [.slot 65, .const (.one (.bool true)), .slot 69], ⟨some 71, .move, [.slot 70], [], [], none, true, .none⟩, ⟨some 72, .fieldAddr 0, [.slot 2], [], [], some (71, false), false, .none⟩, ⟨some 73, .load false 1, [.slot 72], [0], [], some (71, false), false, .none⟩, ⟨some 74, .fieldAddr 1, [.slot 3], [], [], some (71, false), false, .none⟩, ⟨some 75, .load false 1, [.slot 74], [1], [], some (71, false), false, .none⟩, ⟨some 76, .indexAddr (.list (.int .i64)), [.slot 73, .slot 75], [], [], some (71, false), false, .none⟩, ⟨some 77, .load false 1, [.slot 76], [], [], some (71, false), false, .none⟩, ⟨some 78, .fieldAddr 2, [.slot 3], [], [], some (71, false), false, .none⟩, ⟨some 79, .load false 1, [.slot 78], [1], [], some (71, false), false, .none⟩, ⟨some 80, .indexAddr (.int .i64), [.slot 77, .slot 79], [], [], some (71, false), false, .none⟩, ⟨some 81, .load false 1, [.slot 80], [], [], some (71, false), false, .none⟩, ⟨some 82, .bin .neq, [.slot 81, .const (.one (.int .i64 (65535 : Int)))], [], [], some (71, false), false, .none⟩, op 83 .pick [.slot 71, .const (.one (.bool true)), .slot 82]]) (.cond (.slot 83) (.seq (.region false [op 84 (.build [.nil, .nil] []) [], on (.store 2) [.slot 4, .slot 84] [2] [2], op 5 .move [.const (.one (.bool false))]]) (.ret)) (.skip))) (.seq (.region true [o1 85 (.fieldAddr 0) 6, ow 86 (.load false 1) [.slot 85] [3] [], o1 87 (.fieldAddr 1) 3, ow 88 (.load false 1) [.slot 87] [1] [], o2 89 (.indexAddr (.hnd (.int .i64))) 86 88, ⟨some 90, .load false 1, [.slot 89], [6, 100], [], none, false, .take 6 2 0⟩, o1 91 (.fieldAddr 2) 3, ow 92 (.load false 1) [.slot 91] [1] [], o1 93 (.fieldAddr 3) 3, ow 94 (.load false 1) [.slot 93] [1] [], ow 95 (.indexAddr (.int .i64)) [.slot 90, .slot 92] [6] [], on (.store 1) [.slot 95, .slot 94] [6] [6]]) (.seq (.region false [ow 96 (.load true 2) [.slot 6] [3] [], on (.store 2) [.slot 4, .slot 96] [2] [2], op 5 .move [.const (.one (.bool true))]]) (.ret)))
def spec_DoFlash.x : XFunc := { nslots := 97, nobj := 7, pars := [.val true 2, .val true 4], rowsIn := [none, none, none, none, none, none], rets := [.var 4 true 2, .tmp 5 false 1], outs := [.imm, .own 2, .imm], fresh := true, arg := .pair (.pair (.list (.list (.int .i64))) (.list (.int .i64))) (.pair (.bool) (.pair (.int .i64) (.pair (.int .i64) (.int .i64)))), ret := .pair (.pair (.list (.hnd (.int .i64))) (.list (.int .i64))) (.bool), body := .seq (.region false [ow 2 (.box 0) [.slot 0] [0] [0], ow 3 (.box 1) [.slot 1] [1] [1], ow 4 (.alloc 2 [.nil, .nil]) [] [2] [2], op 5 .move [.const (.one (.bool false))]]) (.seq (.seq (.region false [ow 8 (.load true 2) [.slot 2] [0] [], o1 9 (.call ⟨96, [.val true 2], no 2, [.val false 1], ims 1, true⟩) 8, o1 10 .not 9, ⟨some 11, .move, [.slot 10], [], [], none, true, .none⟩, ⟨some 12, .fieldAddr 1, [.slot 3], [], [], some (11, false), false, .none⟩, ⟨some 13, .load false 1, [.slot 12], [1], [], some (11, false), false, .none⟩, ⟨some 14, .call ⟨1, vs 3, no 3, [.val false 1], ims 1, true⟩, [.slot 13, .const (.one (.int .i64 (0 : Int))), .const (.one (.int .i64 (1 : Int)))], [], [], some (11, false), false, .none⟩, ⟨some 15, .not, [.slot 14], [], [], some (11, false), false, .none⟩, op 16 .pick [.slot 11, .const (.one (.bool true)), .slot 15]]) (.cond (.slot 16) (.seq (.region false [op 17 (.build [.nil, .nil] []) [], on (.store 2) [.slot 4, .slot 17] [2] [2], op 5 .move [.const (.one (.bool false))]]) (.ret)) (.skip))) (.seq (.region false [ow 18 (.load true 2) [.slot 2] [0] [], ow 19 (.callH false ⟨103, [.val true 2], no 2, [.val true 2], [.imm, .own 5 2], true⟩) [.slot 18] [5, 100] [5, 100], ow 6 (.alloc 3 [.nil, .nil]) [] [3] [3], on (.store 2) [.slot 6, .slot 19] [3] [3]]) (.seq (.seq (.region false [o1 20 (.fieldAddr 0) 3, ow 21 (.load false 1) [.slot 20] [1] []]) (.cond (.slot 21) (.seq (.seq (.region false [op 7 .move [.const (.one (.int .i64 (0 : Int)))]]) (.block 0 (.loop [.hput 4, .keep [3, 4, 6, 7], .drop 0, .drop 4, .drop 6, .norm] (spec_DoFlash.c1)))) (spec_DoFlash.c2)) (.skip))) (spec_DoFlash.c3)))), hp := true }
def spec_DoFlash.env (N : Nat) : Env := envOf (tbl [(96, spec_IsFlash.fs N), (103, spec_l14Copy.fs N), (1, spec_l1In.fs N)] noFS)
def spec_DoFlash.H (N : Nat) (x : ((List (List Int)) × List Int) × Bool × Int × Int × Int) (D : List HRow) : Option ((((List Hnd) × List Int) × Bool) × List HRow) := XFunc.runH spec_DoFlash.x (spec_DoFlash.env N) N x D
def spec_DoFlash.fs (N : Nat) : FS := { arg := .pair (.pair (.list (.list (.int .i64))) (.list (.int .i64))) (.pair (.bool) (.pair (.int .i64) (.pair (.int .i64) (.int .i64)))), ret := .pair (.pair (.list (.hnd (.int .i64))) (.list (.int .i64))) (.bool), fresh := true, F := fun _ => none, hp := true, H := spec_DoFlash.H N }
def spec_DoFlash.k3 (N : Nat) : Ex → S → Option ((((List Hnd) × List Int) × Bool) × List HRow) := seqK (fun s => XCode.runK (spec_DoFlash.env N) N (spec_DoFlash.c3) s (XFunc.endKH spec_DoFlash.x)) (XFunc.endKH spec_DoFlash.x)
def spec_DoFlash.k2 (N : Nat) : Ex → S → Option ((((List Hnd) × List Int) × Bool) × List HRow) := seqK (fun s => XCode.runK (spec_DoFlash.env N) N (spec_DoFlash.c2) s (spec_DoFlash.k3 N)) (spec_DoFlash.k3 N)
def spec_DoFlash.k1 (N : Nat) : Ex → S → Option ((((List Hnd) × List Int) × Bool) × List HRow) := blockK 0 (spec_DoFlash.k2 N)
def spec_DoFlash.L1 (N : Nat) (n1 : Nat) (i : Int) (o10 : Bool) (o11 : Int) (o12 : Int) (o13 : Int) (o30 : List Hnd) (o5 : List Int) (D : List HRow) : Option ((((List Hnd) × List Int) × Bool) × List HRow) := loopK [.hput 4, .keep [3, 4, 6, 7], .drop 0, .drop 4, .drop 6, .norm] (fun s k => XCode.runK (spec_DoFlash.env N) N spec_DoFlash.c1 s k) n1
  { t := [.junk, .junk, .junk, .one (.ptr 1 0 0), .one (.ptr 2 0 0), .junk, .one (.ptr 3 0 0), .one (.int .i64 i), .junk, .junk, .junk, .junk, .junk, .junk, .junk, .junk, .junk, .junk, .junk, .junk, .junk, .junk, .junk, .junk, .junk, .junk, .junk, .junk, .junk, .junk, .junk, .junk, .junk, .junk, .junk, .junk, .junk, .junk, .junk, .junk, .junk, .junk, .junk, .junk, .junk, .junk, .junk, .junk, .junk, .junk, .junk, .junk, .junk, .junk, .junk, .junk, .junk, .junk, .junk, .junk, .junk, .junk, .junk, .junk, .junk, .junk, .junk, .junk, .junk, .junk, .junk, .junk, .junk, .junk, .junk, .junk, .junk, .junk, .junk, .junk, .junk, .junk, .junk, .junk, .junk, .junk, .junk, .junk, .junk, .junk, .junk, .junk, .junk, .junk, .junk, .junk, .junk], h := [.absent 0, .box 0 false [.bool o10, .int .i64 o11, .int .i64 o12, .int .i64 o13], .box 0 false [.nil, .nil], .box 0 false [.sl true (.hnd (.int .i64)) o30, .ref 5 0 .all], .absent 0, .row 0 false true 2 (.int .i64) o5, .absent 0], d := D }
  (spec_DoFlash.k1 N)

theorem spec_DoFlash.L1_eq (N : Nat) (n1 : Nat) (i : Int) (o10 : Bool) (o11 : Int) (o12 : Int) (o13 : Int) (o30 : List Hnd) (o5 : List Int) (D : List HRow) : spec_DoFlash.L1 N (n1 + 1) i o10 o11 o12 o13 o30 o5 D =
    bif decide (i < (19 : Int)) then
      bif inRange o11 (List.length o30) then
      bif hfull D 2 (.int .i64) (nth (none : Hnd) o30 o11) then
      bif inRange i (List.length (hcut D (.int .i64) (nth (none : Hnd) o30 o11))) then
      spec_DoFlash.L1 N n1 (IntKind.wrap .i64 (i + (1 : Int))) o10 o11 o12 o13 o30 o5 (hput (hgone D (nth (none : Hnd) o30 o11)) (nth (none : Hnd) o30 o11) 2 (.int .i64) (List.set (hcut D (.int .i64) (nth (none : Hnd) o30 o11)) (Int.toNat i) (65535 : Int)))
      else none
      else none
      else none
    else
      bif inRange o11 (List.length o5) then
      bif inRange o11 (List.length o5) then
      bif o12 != (0 : Int) then
        some (((([] : List Hnd), ([] : List Int)), false), D)
      else
        bif o13 != (0 : Int) then
          some (((([] : List Hnd), ([] : List Int)), false), D)
        else
          bif List.all o30 (Ty.unok D (.hnd (.int .i64))) then
          bindO (spec_IsFlash.F N (List.map (Ty.unden D (.hnd (.int .i64))) o30, List.set o5 (Int.toNat o11) (IntKind.wrap .i64 ((List.getD o5 (Int.toNat o11) (0 : Int)) + (1 : Int))))) fun r4 =>
          bif !r4 then
            some (((([] : List Hnd), ([] : List Int)), false), D)
          else
            some (((o30, List.set o5 (Int.toNat o11) (IntKind.wrap .i64 ((List.getD o5 (Int.toNat o11) (0 : Int)) + (1 : Int)))), true), D)
          else none
      else none
      else none := by kernel_rfl
theorem spec_DoFlash.H_eq (N : Nat) (f : (List (List Int)) × List Int) (o : Bool × Int × Int × Int) (D : List HRow) : spec_DoFlash.H N (f, o) D =
    bindO (spec_IsFlash.F N f) fun r1 =>
    bif !r1 then
      some (((([] : List Hnd), ([] : List Int)), false), D)
    else
      bindO (spec_l1In.F N (o.2.1, ((0 : Int), (1 : Int)))) fun r2 =>
      bif !r2 then
        some (((([] : List Hnd), ([] : List Int)), false), D)
      else
        bindO (spec_l14Copy.H N f (hhide D)) fun r3 =>
        bif o.1 then
          spec_DoFlash.L1 N N (0 : Int) o.1 o.2.1 o.2.2.1 o.2.2.2 r3.1.1 r3.1.2 (hmerge D r3.2)
        else
          bindO (spec_l1In.F N (o.2.2.1, ((0 : Int), (18 : Int)))) fun r5 =>
          bif !r5 then
            some (((([] : List Hnd), ([] : List Int)), false), hmerge D r3.2)
          else
            bindO (spec_l1In.F N (o.2.2.2, ((0 : Int), (65534 : Int)))) fun r6 =>
            bif !r6 then
              some (((([] : List Hnd), ([] : List Int)), false), hmerge D r3.2)
            else
              bif inRange o.2.1 (List.length f.1) then
              bif inRange o.2.2.1 (List.length (nth ([] : List Int) f.1 o.2.1)) then
              bif (nth (0 : Int) (nth ([] : List Int) f.1 o.2.1) o.2.2.1) != (65535 : Int) then
                some (((([] : List Hnd), ([] : List Int)), false), hmerge D r3.2)
              else
                bif inRange o.2.1 (List.length r3.1.1) then
                bif hfull (hmerge D r3.2) 2 (.int .i64) (nth (none : Hnd) r3.1.1 o.2.1) then
                bif inRange o.2.2.1 (List.length (hcut (hmerge D r3.2) (.int .i64) (nth (none : Hnd) r3.1.1 o.2.1))) then
                some ((r3.1, true), hput (hgone (hmerge D r3.2) (nth (none : Hnd) r3.1.1 o.2.1)) (nth (none : Hnd) r3.1.1 o.2.1) 2 (.int .i64) (List.set (hcut (hmerge D r3.2) (.int .i64) (nth (none : Hnd) r3.1.1 o.2.1)) (Int.toNat o.2.2.1) o.2.2.2))
                else none
                else none
                else none
              else none
              else none := by kernel_rfl

def impl_copyInts.x : XFunc := { nslots := 5, nobj := 1, pars := [.val false 1], rowsIn := [none], rets := [.tmp 2 false 1], outs := [.own 2], fresh := true, arg := .list (.int .i64), ret := .list (.int .i64), body := .seq (.region false [op 2 .move [.const (.one (.nil))]]) (.seq (.region false [mv 3 0, ow 4 (.append false 0 2 (.int .i64)) [.const (.one (.nil)), .slot 3] [0] [0], mv 2 4]) (.ret)) }
def impl_copyInts.env (_ : Nat) : Env := envOf (tbl [] noFS)
def impl_copyInts.F (N : Nat) (x : List Int) : Option (List Int) := XFunc.run impl_copyInts.x (impl_copyInts.env N) N x
def impl_copyInts.fs (N : Nat) : FS := { arg := .list (.int .i64), ret := .list (.int .i64), fresh := true, F := impl_copyInts.F N }

theorem impl_copyInts.F_eq (N : Nat) (l_ : List Int) : impl_copyInts.F N l_ =
    bif decide (List.length l_ ≤ maxN) then
    some l_
    else none := by kernel_rfl

def impl_copyFlash.c1 : XCode := .seq (.region false [o2 14 (.bin .lss) 13 12]) (.seq (.cond (.slot 14) (.skip) (.exit 0)) (.seq (.block 1 (.seq (.region false [o2 15 (.indexAddr (.list (.int .i64))) 11 13, o1 16 (.load false 1) 15, mv 5 16]) (.region true [o1 17 (.fieldAddr 0) 3, ow 18 (.load false 1) [.slot 17] [2] [], mv 19 5, ⟨some 20, .call ⟨114, vs 1, no 1, [.val false 1], [.own 4 2], true⟩, [.slot 19], [4, 100], [4], none, false, .pub 4⟩, ow 21 (.buildSlice false 3 6 (.hnd (.int .i64)) 1 [(0, 1)] [.nil]) [.slot 20] [3] [3], ow 22 (.append false 5 6 (.hnd (.int .i64))) [.slot 18, .slot 21] [3, 5] [5], o1 23 (.fieldAddr 0) 3, on (.store 1) [.slot 23, .slot 22] [2] [2]]))) (.region false [op 24 (.bin .add) [.slot 13, .const (.one (.int .i64 (1 : Int)))], mv 13 24])))
def impl_copyFlash.c2 : XCode := .seq (.region false [ow 25 (.load true 2) [.slot 3] [2] [], on (.store 2) [.slot 2, .slot 25] [1] [1]]) (.ret)
def impl_copyFlash.x : XFunc := { nslots := 26, nobj := 7, pars := [.val true 2], rowsIn := [none, none], rets := [.var 2 true 2], outs := [.own 6, .own 2], fresh := true, arg := .pair (.list (.list (.int .i64))) (.list (.int .i64)), ret := .pair (.list (.hnd (.int .i64))) (.list (.int .i64)), body := .seq (.region false [ow 1 (.box 0) [.slot 0] [0] [0], ow 2 (.alloc 1 [.nil, .nil]) [] [1] [1]]) (.seq (.region false [o1 6 (.fieldAddr 1) 1, ow 7 (.load false 1) [.slot 6] [0] [], ow 8 (.call ⟨114, vs 1, no 1, [.val false 1], [.own 6 2], true⟩) [.slot 7] [6] [6], o1 9 (.build [.nil, .nil] [(1, 1)]) 8, ow 3 (.alloc 2 [.nil, .nil]) [] [2] [2], on (.store 2) [.slot 3, .slot 9] [2] [2]]) (.seq (.seq (.region false [o1 10 (.fieldAddr 0) 1, ow 11 (.load false 1) [.slot 10] [0] [], o1 12 .len 11, op 13 .move [.const (.one (.int .i64 (0 : Int)))]]) (.block 0 (.loop [.mkrow (.boxc 2 0) 5 6 (.hnd (.int .i64)), .keep [2, 3, 11, 12, 13], .drop 0, .drop 3, .drop 4, .norm] (impl_copyFlash.c1)))) (impl_copyFlash.c2))), hp := true }
def impl_copyFlash.env (N : Nat) : Env := envOf (tbl [(114, impl_copyInts.fs N)] noFS)
def impl_copyFlash.H (N : Nat) (x : (List (List Int)) × List Int) (D : List HRow) : Option (((List Hnd) × List Int) × List HRow) := XFunc.runH impl_copyFlash.x (impl_copyFlash.env N) N x D
def impl_copyFlash.fs (N : Nat) : FS := { arg := .pair (.list (.list (.int .i64))) (.list (.int .i64)), ret := .pair (.list (.hnd (.int .i64))) (.list (.int .i64)), fresh := true, F := fun _ => none, hp := true, H := impl_copyFlash.H N }
def impl_copyFlash.k2 (N : Nat) : Ex → S → Option (((List Hnd) × List Int) × List HRow) := seqK (fun s => XCode.runK (impl_copyFlash.env N) N (impl_copyFlash.c2) s (XFunc.endKH impl_copyFlash.x)) (XFunc.endKH impl_copyFlash.x)
def impl_copyFlash.k1 (N : Nat) : Ex → S → Option (((List Hnd) × List Int) × List HRow) := blockK 0 (impl_copyFlash.k2 N)
def impl_copyFlash.L1 (N : Nat) (n1 : Nat) (t11 : List (List Int)) (t12 : Int) (t13 : Int) (o5 : List Hnd) (o6 : List Int) (D : List HRow) : Option (((List Hnd) × List Int) × List HRow) := loopK [.mkrow (.boxc 2 0) 5 6 (.hnd (.int .i64)), .keep [2, 3, 11, 12, 13], .drop 0, .drop 3, .drop 4, .norm] (fun s k => XCode.runK (impl_copyFlash.env N) N impl_copyFlash.c1 s k) n1
  { t := [.junk, .junk, .one (.ptr 1 0 0), .one (.ptr 2 0 0), .junk, .junk, .junk, .junk, .junk, .junk, .junk, .one (.sl false (.list (.int .i64)) t11), .one (.int .i64 t12), .one (.int .i64 t13), .junk, .junk, .junk, .junk, .junk, .junk, .junk, .junk, .junk, .junk, .junk, .junk], h := [.absent 0, .box 0 false [.nil, .nil], .box 0 false [.ref 5 0 .all, .ref 6 0 .all], .absent 0, .absent 0, .row 0 false true 6 (.hnd (.int .i64)) o5, .row 0 false true 2 (.int .i64) o6], d := D }
  (impl_copyFlash.k1 N)

theorem impl_copyFlash.L1_eq (N : Nat) (n1 : Nat) (t11 : List (List Int)) (t12 : Int) (t13 : Int) (o5 : List Hnd) (o6 : List Int) (D : List HRow) : impl_copyFlash.L1 N (n1 + 1) t11 t12 t13 o5 o6 D =
    bif decide (t13 < t12) then
      bif inRange t13 (List.length t11) then
      bindO (impl_copyInts.F N (nth ([] : List Int) t11 t13)) fun r2 =>
      bif decide (List.length o5 + List.length ([(some (List.length D, 0, List.length r2) : Hnd)] : List Hnd) ≤ maxN) then
      impl_copyFlash.L1 N n1 t11 t12 (IntKind.wrap .i64 (t13 + (1 : Int))) (o5 ++ ([(some (List.length D, 0, List.length r2) : Hnd)] : List Hnd)) o6 (D ++ [HRow.row 2 (.int .i64) r2])
      else none
      else none
    else
      some ((o5, o6), D) := by kernel_rfl
theorem impl_copyFlash.H_eq (N : Nat) (f : (List (List Int)) × List Int) (D : List HRow) : impl_copyFlash.H N f D =
    bindO (impl_copyInts.F N f.2) fun r1 =>
    impl_copyFlash.L1 N N f.1 (List.length f.1 : Int) (0 : Int) ([] : List Hnd) r1 D := by kernel_rfl

def impl_DoFlash.c1 : XCode := .seq (.region false [o2 60 (.bin .lss) 59 58]) (.seq (.cond (.slot 60) (.skip) (.exit 1)) (.seq (.block 2 (.seq (.region false [mv 61 59, mv 8 61]) (.region false [mv 62 7, mv 63 8, ow 64 (.indexAddr (.int .i64)) [.slot 62, .slot 63] [4] [], on (.store 1) [.slot 64, .const (.one (.int .i64 (65535 : Int)))] [4] [4]]))) (.region false [op 65 (.bin .add) [.slot 59, .const (.one (.int .i64 (1 : Int)))], mv 59 65])))
def impl_DoFlash.c2 : XCode := .seq (.region false [o1 66 (.fieldAddr 1) 6, ow 67 (.load false 1) [.slot 66] [3] [], o1 68 (.fieldAddr 1) 3, ow 69 (.load false 1) [.slot 68] [1] [], ow 70 (.indexAddr (.int .i64)) [.slot 67, .slot 69] [5] [], ow 71 (.load false 1) [.slot 70] [5] [], op 72 (.bin .add) [.slot 71, .const (.one (.int .i64 (1 : Int)))], ow 73 (.indexAddr (.int .i64)) [.slot 67, .slot 69] [5] [], on (.store 1) [.slot 73, .slot 72] [5] [5]]) (.seq (.region false [ow 74 (.load true 2) [.slot 6] [3] [], on (.store 2) [.slot 4, .slot 74] [2] [2], op 5 .move [.const (.one (.bool true))]]) (.ret))
def impl_DoFlash.c3 : XCode := .seq (.region false [mv 103 7, o1 104 (.fieldAddr 2) 3, ow 105 (.load false 1) [.slot 104] [1] [], o1 106 (.fieldAddr 3) 3, ow 107 (.load false 1) [.slot 106] [1] [], ow 108 (.indexAddr (.int .i64)) [.slot 103, .slot 105] [4] [], on (.store 1) [.slot 108, .slot 107] [4] [4]]) (.seq (.region false [ow 109 (.load true 2) [.slot 6] [3] [], on (.store 2) [.slot 4, .slot 109] [2] [2], op 5 .move [.const (.one (.bool true))]]) (.ret))
def impl_DoFlash.x : XFunc := { nslots := 110, nobj := 6, pars := [.val true 2, .val true 4], rowsIn := [none, none, none, none, none, none], rets := [.var 4 true 2, .tmp 5 false 1], outs := [.imm, .own 2, .imm], fresh := true, arg := .pair (.pair (.list (.list (.int .i64))) (.list (.int .i64))) (.pair (.bool) (.pair (.int .i64) (.pair (.int .i64) (.int .i64)))), ret := .pair (.pair (.list (.hnd (.int .i64))) (.list (.int .i64))) (.bool), body := .seq (.region false [ow 2 (.box 0) [.slot 0] [0] [0], ow 3 (.box 1) [.slot 1] [1] [1], ow 4 (.alloc 2 [.nil, .nil]) [] [2] [2], op 5 .move [.const (.one (.bool false))]]) (.seq (.seq (.region false [ow 9 (.load true 2) [.slot 2] [0] [], o1 10 (.call ⟨108, [.val true 2], no 2, [.val false 1], ims 1, true⟩) 9, o1 11 .not 10, ⟨some 12, .move, [.slot 11], [], [], none, true, .none⟩, ⟨some 13, .fieldAddr 1, [.slot 3], [], [], some (12, false), false, .none⟩, ⟨some 14, .load false 1, [.slot 13], [1], [], some (12, false), false, .none⟩, ⟨some 15, .bin .lss, [.slot 14, .const (.one (.int .i64 (0 : Int)))], [], [], some (12, false), false, .none⟩, op 16 .pick [.slot 12, .const (.one (.bool true)), .slot 15], ⟨some 17, .move, [.slot 16], [], [], none, true, .none⟩, ⟨some 18, .fieldAddr 1, [.slot 3], [], [], some (17, false), false, .none⟩, ⟨some 19, .load false 1, [.slot 18], [1], [], some (17, false), false, .none⟩, ⟨some 20, .bin .gtr, [.slot 19, .const (.one (.int .i64 (1 : Int)))], [], [], some (17, false), false, .none⟩, op 21 .pick [.slot 17, .const (.one (.bool true)), .slot 20]]) (.cond (.slot 21) (.seq (.region false [op 22 (.build [.nil, .nil] []) [], on (.store 2) [.slot 4, .slot 22] [2] [2], op 5 .move [.const (.one (.bool false))]]) (.ret)) (.skip))) (.seq (.region false [ow 23 (.load true 2) [.slot 2] [0] [], ow 24 (.callH false ⟨115, [.val true 2], no 2, [.val true 2], [.imm, .own 5 2], true⟩) [.slot 23] [5, 100] [5, 100], ow 6 (.alloc 3 [.nil, .nil]) [] [3] [3], on (.store 2) [.slot 6, .slot 24] [3] [3]]) (.seq (.region false [o1 25 (.fieldAddr 0) 6, ow 26 (.load false 1) [.slot 25] [3] [], o1 27 (.fieldAddr 1) 3, ow 28 (.load false 1) [.slot 27] [1] [], o2 29 (.indexAddr (.hnd (.int .i64))) 26 28, ⟨some 30, .load false 1, [.slot 29], [4, 100], [], none, false, .take 4 2 0⟩, mv 7 30]) (.seq (.block 0 (.seq (.region false [o1 32 (.fieldAddr 0) 3, ow 33 (.load false 1) [.slot 32] [1] [], ⟨some 34, .move, [.slot 33], [], [], none, true, .none⟩, ⟨some 35, .fieldAddr 2, [.slot 3], [], [], some (34, true), false, .none⟩, ⟨some 36, .load false 1, [.slot 35], [1], [], some (34, true), false, .none⟩, ⟨some 37, .bin .neq, [.slot 36, .const (.one (.int .i64 (0 : Int)))], [], [], some (34, true), false, .none⟩, ⟨some 38, .move, [.slot 37], [], [], some (34, true), true, .none⟩, ⟨some 39, .fieldAddr 3, [.slot 3], [], [], some (38, false), false, .none⟩, ⟨some 40, .load false 1, [.slot 39], [1], [], some (38, false), false, .none⟩, ⟨some 41, .bin .neq, [.slot 40, .const (.one (.int .i64 (0 : Int)))], [], [], some (38, false), false, .none⟩, ⟨some 42, .pick, [.slot 38, .const (.one (.bool true)), .slot 41], [], [], some (34, true), false, .none⟩, ⟨some 43, .move, [.slot 42], [], [], some (34, true), true, .none⟩, ⟨some 44, .fieldAddr 1, [.slot 6], [], [], some (43, false), false, .none⟩, ⟨some 45, .load false 1, [.slot 44], [3], [], some (43, false), false, .none⟩, ⟨some 46, .fieldAddr 1, [.slot 3], [], [], some (43, false), false, .none⟩, ⟨some 47, .load false 1, [.slot 46], [1], [], some (43, false), false, .none⟩, ⟨some 48, .indexAddr (.int .i64), [.slot 45, .slot 47], [5], [], some (43, false), false, .none⟩, ⟨some 49, .load false 1, [.slot 48], [5], [], some (43, false), false, .none⟩, ⟨some 50, .bin .geq, [.slot 49, .const (.one (.int .i64 (1000 : Int)))], [], [], some (43, false), false, .none⟩, ⟨some 51, .pick, [.slot 43, .const (.one (.bool true)), .slot 50], [], [], some (34, true), false, .none⟩, op 52 .pick [.slot 34, .slot 51, .const (.one (.bool false))], mv 31 52]) (.cond (.slot 31) (.seq (.region false [op 53 (.build [.nil, .nil] []) [], on (.store 2) [.slot 4, .slot 53] [2] [2], op 5 .move [.const (.one (.bool false))]]) (.ret)) (.seq (.region false [o1 55 (.fieldAddr 0) 3, ow 56 (.load false 1) [.slot 55] [1] [], mv 54 56]) (.cond (.slot 54) (.seq (.seq (.region false [mv 57 7, ow 58 .len [.slot 57] [4] [], op 59 .move [.const (.one (.int .i64 (0 : Int)))]]) (.block 1 (.loop [.keep [3, 4, 6, 7, 58, 59], .drop 0, .norm] (impl_DoFlash.c1)))) (impl_DoFlash.c2)) (.seq (.region false [o1 76 (.fieldAddr 2) 3, ow 77 (.load false 1) [.slot 76] [1] [], op 78 (.bin .lss) [.slot 77, .const (.one (.int .i64 (0 : Int)))], ⟨some 79, .move, [.slot 78], [], [], none, true, .none⟩, ⟨some 80, .fieldAddr 2, [.slot 3], [], [], some (79, false), false, .none⟩, ⟨some 81, .load false 1, [.slot 80], [1], [], some (79, false), false, .none⟩, ⟨some 82, .bin .geq, [.slot 81, .const (.one (.int .i64 (19 : Int)))], [], [], some (79, false), false, .none⟩, op 83 .pick [.slot 79, .const (.one (.bool true)), .slot 82], ⟨some 84, .move, [.slot 83], [], [], none, true, .none⟩, ⟨some 85, .fieldAddr 3, [.slot 3], [], [], some (84, false), false, .none⟩, ⟨some 86, .load false 1, [.slot 85], [1], [], some (84, false), false, .none⟩, ⟨some 87, .bin .lss, [.slot 86, .const (.one (.int .i64 (0 : Int)))], [], [], some (84, false), false, .none⟩, op 88 .pick [.slot 84, .const (.one (.bool true)), .slot 87], ⟨some 89, .move, [.slot 88], [], [], none, true, .none⟩, ⟨some 90, .fieldAddr 3, [.slot 3], [], [], some (89, false), false, .none⟩, ⟨some 91, .load false 1, [.slot 90], [1], [], some (89, false), false, .none⟩, ⟨some 92, .bin .geq, [.slot 91, .const (.one (.int .i64 (65535 : Int)))], [], [], some (89, false), false, .none⟩, op 93 .pick [.slot 89, .const (.one (.bool true)), .slot 92], ⟨some 94, .move, [.slot 93], [], [], none, true, .none⟩, ⟨some 95, .move, [.slot 7], [], [], some (94, false), false, .none⟩, ⟨some 96, .fieldAddr 2, [.slot 3], [], [], some (94, false), false, .none⟩, ⟨some 97, .load false 1, [.slot 96], [1], [], some (94, false), false, .none⟩, ⟨some 98, .indexAddr (.int .i64), [.slot 95, .slot 97], [4], [], some (94, false), false, .none⟩, ⟨some 99, .load false 1, [.slot 98], [4], [], some (94, false), false, .none⟩, ⟨some 100, .bin .neq, [.slot 99, .const (.one (.int .i64 (65535 : Int)))], [], [], some (94, false), false, .none⟩, op 101 .pick [.slot 94, .const (.one (.bool true)), .slot 100], mv 75 101]) (.cond (.slot 75) (.seq (.region false [op 102 (.build [.nil, .nil] []) [], on (.store 2) [.slot 4, .slot 102] [2] [2], op 5 .move [.const (.one (.bool false))]]) (.ret)) (.skip)))))))) (impl_DoFlash.c3))))), hp := true }
def impl_DoFlash.env (N : Nat) : Env := envOf (tbl [(108, impl_IsFlash.fs N), (115, impl_copyFlash.fs N)] noFS)
def impl_DoFlash.H (N : Nat) (x : ((List (List Int)) × List Int) × Bool × Int × Int × Int) (D : List HRow) : Option ((((List Hnd) × List Int) × Bool) × List HRow) := XFunc.runH impl_DoFlash.x (impl_DoFlash.env N) N x D
def impl_DoFlash.fs (N : Nat) : FS := { arg := .pair (.pair (.list (.list (.int .i64))) (.list (.int .i64))) (.pair (.bool) (.pair (.int .i64) (.pair (.int .i64) (.int .i64)))), ret := .pair (.pair (.list (.hnd (.int .i64))) (.list (.int .i64))) (.bool), fresh := true, F := fun _ => none, hp := true, H := impl_DoFlash.H N }
def impl_DoFlash.k4 (N : Nat) : Ex → S → Option ((((List Hnd) × List Int) × Bool) × List HRow) := seqK (fun s => XCode.runK (impl_DoFlash.env N) N (impl_DoFlash.c3) s (XFunc.endKH impl_DoFlash.x)) (XFunc.endKH impl_DoFlash.x)
def impl_DoFlash.k3 (N : Nat) : Ex → S → Option ((((List Hnd) × List Int) × Bool) × List HRow) := blockK 0 (impl_DoFlash.k4 N)
def impl_DoFlash.k2 (N : Nat) : Ex → S → Option ((((List Hnd) × List Int) × Bool) × List HRow) := seqK (fun s => XCode.runK (impl_DoFlash.env N) N (impl_DoFlash.c2) s (impl_DoFlash.k3 N)) (impl_DoFlash.k3 N)
def impl_DoFlash.k1 (N : Nat) : Ex → S → Option ((((List Hnd) × List Int) × Bool) × List HRow) := blockK 1 (impl_DoFlash.k2 N)
def impl_DoFlash.L1 (N : Nat) (n1 : Nat) (t58 : Int) (t59 : Int) (o10 : Bool) (o11 : Int) (o12 : Int) (o13 : Int) (o30 : List Hnd) (o4 : List Int) (o5 : List Int) (D : List HRow) (h4 : Hnd) : Option ((((List Hnd) × List Int) × Bool) × List HRow) := loopK [.keep [3, 4, 6, 7, 58, 59], .drop 0, .norm] (fun s k => XCode.runK (impl_DoFlash.env N) N impl_DoFlash.c1 s k) n1
  { t := [.junk, .junk, .junk, .one (.ptr 1 0 0), .one (.ptr 2 0 0), .junk, .one (.ptr 3 0 0), .one (.ref 4 0 .all), .junk, .junk, .junk, .junk, .junk, .junk, .junk, .junk, .junk, .junk, .junk, .junk, .junk, .junk, .junk, .junk, .junk, .junk, .junk, .junk, .junk, .junk, .junk, .junk, .junk, .junk, .junk, .junk, .junk, .junk, .junk, .junk, .junk, .junk, .junk, .junk, .junk, .junk, .junk, .junk, .junk, .junk, .junk, .junk, .junk, .junk, .junk, .junk, .junk, .junk, .one (.int .i64 t58), .one (.int .i64 t59), .junk, .junk, .junk, .junk, .junk, .junk, .junk, .junk, .junk, .junk, .junk, .junk, .junk, .junk, .junk, .junk, .junk, .junk, .junk, .junk, .junk, .junk, .junk, .junk, .junk, .junk, .junk, .junk, .junk, .junk, .junk, .junk, .junk, .junk, .junk, .junk, .junk, .junk, .junk, .junk, .junk, .junk, .junk, .junk, .junk, .junk, .junk, .junk, .junk, .junk], h := [.absent 0, .box 0 false [.bool o10, .int .i64 o11, .int .i64 o12, .int .i64 o13], .box 0 false [.nil, .nil], .box 0 false [.sl true (.hnd (.int .i64)) o30, .ref 5 0 .all], .row 0 false false 2 (.int .i64) o4, .row 0 false true 2 (.int .i64) o5], d := D, k := [(4, 0, h4)] }
  (impl_DoFlash.k1 N)

theorem impl_DoFlash.L1_eq (N : Nat) (n1 : Nat) (t58 : Int) (t59 : Int) (o10 : Bool) (o11 : Int) (o12 : Int) (o13 : Int) (o30 : List Hnd) (o4 : List Int) (o5 : List Int) (D : List HRow) (h4 : Hnd) : impl_DoFlash.L1 N (n1 + 1) t58 t59 o10 o11 o12 o13 o30 o4 o5 D h4 =
    bif decide (t59 < t58) then
      bif inRange t59 (List.length o4) then
      impl_DoFlash.L1 N n1 t58 (IntKind.wrap .i64 (t59 + (1 : Int))) o10 o11 o12 o13 o30 (List.set o4 (Int.toNat t59) (65535 : Int)) o5 D h4
      else none
    else
      bif inRange o11 (List.length o5) then
      bif inRange o11 (List.length o5) then
      some (((o30, List.set o5 (Int.toNat o11) (IntKind.wrap .i64 ((List.getD o5 (Int.toNat o11) (0 : Int)) + (1 : Int)))), true), hput D h4 2 (.int .i64) o4)
      else none
      else none := by kernel_rfl
theorem impl_DoFlash.H_eq (N : Nat) (f : (List (List Int)) × List Int) (o : Bool × Int × Int × Int) (D : List HRow) : impl_DoFlash.H N (f, o) D =
    bindO (impl_IsFlash.F N f) fun r1 =>
    bif !r1 then
      some (((([] : List Hnd), ([] : List Int)), false), D)
    else
      bif decide (o.2.1 < (0 : Int)) then
        some (((([] : List Hnd), ([] : List Int)), false), D)
      else
        bif decide (o.2.1 > (1 : Int)) then
          some (((([] : List Hnd), ([] : List Int)), false), D)
        else
          bindO (impl_copyFlash.H N f (hhide D)) fun r2 =>
          bif inRange o.2.1 (List.length r2.1.1) then
          bif hfull (hmerge D r2.2) 2 (.int .i64) (nth (none : Hnd) r2.1.1 o.2.1) then
          bif o.1 then
            bif o.2.2.1 != (0 : Int) then
              some (((([] : List Hnd), ([] : List Int)), false), hput (hgone (hmerge D r2.2) (nth (none : Hnd) r2.1.1 o.2.1)) (nth (none : Hnd) r2.1.1 o.2.1) 2 (.int .i64) (hcut (hmerge D r2.2) (.int .i64) (nth (none : Hnd) r2.1.1 o.2.1)))
            else
              bif o.2.2.2 != (0 : Int) then
                some (((([] : List Hnd), ([] : List Int)), false), hput (hgone (hmerge D r2.2) (nth (none : Hnd) r2.1.1 o.2.1)) (nth (none : Hnd) r2.1.1 o.2.1) 2 (.int .i64) (hcut (hmerge D r2.2) (.int .i64) (nth (none : Hnd) r2.1.1 o.2.1)))
              else
                bif inRange o.2.1 (List.length r2.1.2) then
                bif decide ((List.getD r2.1.2 (Int.toNat o.2.1) (0 : Int)) ≥ (1000 : Int)) then
                  some (((([] : List Hnd), ([] : List Int)), false), hput (hgone (hmerge D r2.2) (nth (none : Hnd) r2.1.1 o.2.1)) (nth (none : Hnd) r2.1.1 o.2.1) 2 (.int .i64) (hcut (hmerge D r2.2) (.int .i64) (nth (none : Hnd) r2.1.1 o.2.1)))
                else
                  bif o.1 then
                    impl_DoFlash.L1 N N (List.length (hcut (hmerge D r2.2) (.int .i64) (nth (none : Hnd) r2.1.1 o.2.1)) : Int) (0 : Int) o.1 o.2.1 o.2.2.1 o.2.2.2 r2.1.1 (hcut (hmerge D r2.2) (.int .i64) (nth (none : Hnd) r2.1.1 o.2.1)) r2.1.2 (hgone (hmerge D r2.2) (nth (none : Hnd) r2.1.1 o.2.1)) (nth (none : Hnd) r2.1.1 o.2.1)
                  else
                    bif decide (o.2.2.1 < (0 : Int)) then
                      some (((([] : List Hnd), ([] : List Int)), false), hput (hgone (hmerge D r2.2) (nth (none : Hnd) r2.1.1 o.2.1)) (nth (none : Hnd) r2.1.1 o.2.1) 2 (.int .i64) (hcut (hmerge D r2.2) (.int .i64) (nth (none : Hnd) r2.1.1 o.2.1)))
                    else
                      bif decide (o.2.2.1 ≥ (19 : Int)) then
                        some (((([] : List Hnd), ([] : List Int)), false), hput (hgone (hmerge D r2.2) (nth (none : Hnd) r2.1.1 o.2.1)) (nth (none : Hnd) r2.1.1 o.2.1) 2 (.int .i64) (hcut (hmerge D r2.2) (.int .i64) (nth (none : Hnd) r2.1.1 o.2.1)))
                      else
                        bif decide (o.2.2.2 < (0 : Int)) then
                          some (((([] : List Hnd), ([] : List Int)), false), hput (hgone (hmerge D r2.2) (nth (none : Hnd) r2.1.1 o.2.1)) (nth (none : Hnd) r2.1.1 o.2.1) 2 (.int .i64) (hcut (hmerge D r2.2) (.int .i64) (nth (none : Hnd) r2.1.1 o.2.1)))
                        else
                          bif decide (o.2.2.2 ≥ (65535 : Int)) then
                            some (((([] : List Hnd), ([] : List Int)), false), hput (hgone (hmerge D r2.2) (nth (none : Hnd) r2.1.1 o.2.1)) (nth (none : Hnd) r2.1.1 o.2.1) 2 (.int .i64) (hcut (hmerge D r2.2) (.int .i64) (nth (none : Hnd) r2.1.1 o.2.1)))
                          else
                            bif inRange o.2.2.1 (List.length (hcut (hmerge D r2.2) (.int .i64) (nth (none : Hnd) r2.1.1 o.2.1))) then
                            bif (List.getD (hcut (hmerge D r2.2) (.int .i64) (nth (none : Hnd) r2.1.1 o.2.1)) (Int.toNat o.2.2.1) (0 : Int)) != (65535 : Int) then
                              some (((([] : List Hnd), ([] : List Int)), false), hput (hgone (hmerge D r2.2) (nth (none : Hnd) r2.1.1 o.2.1)) (nth (none : Hnd) r2.1.1 o.2.1) 2 (.int .i64) (hcut (hmerge D r2.2) (.int .i64) (nth (none : Hnd) r2.1.1 o.2.1)))
                            else
                              bif inRange o.2.2.1 (List.length (hcut (hmerge D r2.2) (.int .i64) (nth (none : Hnd) r2.1.1 o.2.1))) then
                              some ((r2.1, true), hput (hgone (hmerge D r2.2) (nth (none : Hnd) r2.1.1 o.2.1)) (nth (none : Hnd) r2.1.1 o.2.1) 2 (.int .i64) (List.set (hcut (hmerge D r2.2) (.int .i64) (nth (none : Hnd) r2.1.1 o.2.1)) (Int.toNat o.2.2.1) o.2.2.2))
                              else none
                            else none
                else none
          else
            bif o.1 then
              impl_DoFlash.L1 N N (List.length (hcut (hmerge D r2.2) (.int .i64) (nth (none : Hnd) r2.1.1 o.2.1)) : Int) (0 : Int) o.1 o.2.1 o.2.2.1 o.2.2.2 r2.1.1 (hcut (hmerge D r2.2) (.int .i64) (nth (none : Hnd) r2.1.1 o.2.1)) r2.1.2 (hgone (hmerge D r2.2) (nth (none : Hnd) r2.1.1 o.2.1)) (nth (none : Hnd) r2.1.1 o.2.1)
            else
              bif decide (o.2.2.1 < (0 : Int)) then
                some (((([] : List Hnd), ([] : List Int)), false), hput (hgone (hmerge D r2.2) (nth (none : Hnd) r2.1.1 o.2.1)) (nth (none : Hnd) r2.1.1 o.2.1) 2 (.int .i64) (hcut (hmerge D r2.2) (.int .i64) (nth (none : Hnd) r2.1.1 o.2.1)))
              else
                bif decide (o.2.2.1 ≥ (19 : Int)) then
                  some (((([] : List Hnd), ([] : List Int)), false), hput (hgone (hmerge D r2.2) (nth (none : Hnd) r2.1.1 o.2.1)) (nth (none : Hnd) r2.1.1 o.2.1) 2 (.int .i64) (hcut (hmerge D r2.2) (.int .i64) (nth (none : Hnd) r2.1.1 o.2.1)))
                else
                  bif decide (o.2.2.2 < (0 : Int)) then
                    some (((([] : List Hnd), ([] : List Int)), false), hput (hgone (hmerge D r2.2) (nth (none : Hnd) r2.1.1 o.2.1)) (nth (none : Hnd) r2.1.1 o.2.1) 2 (.int .i64) (hcut (hmerge D r2.2) (.int .i64) (nth (none : Hnd) r2.1.1 o.2.1)))
                  else
                    bif decide (o.2.2.2 ≥ (65535 : Int)) then
                      some (((([] : List Hnd), ([] : List Int)), false), hput (hgone (hmerge D r2.2) (nth (none : Hnd) r2.1.1 o.2.1)) (nth (none : Hnd) r2.1.1 o.2.1) 2 (.int .i64) (hcut (hmerge D r2.2) (.int .i64) (nth (none : Hnd) r2.1.1 o.2.1)))
                    else
                      bif inRange o.2.2.1 (List.length (hcut (hmerge D r2.2) (.int .i64) (nth (none : Hnd) r2.1.1 o.2.1))) then
                      bif (List.getD (hcut (hmerge D r2.2) (.int .i64) (nth (none : Hnd) r2.1.1 o.2.1)) (Int.toNat o.2.2.1) (0 : Int)) != (65535 : Int) then
                        some (((([] : List Hnd), ([] : List Int)), false), hput (hgone (hmerge D r2.2) (nth (none : Hnd) r2.1.1 o.2.1)) (nth (none : Hnd) r2.1.1 o.2.1) 2 (.int .i64) (hcut (hmerge D r2.2) (.int .i64) (nth (none : Hnd) r2.1.1 o.2.1)))
                      else
                        bif inRange o.2.2.1 (List.length (hcut (hmerge D r2.2) (.int .i64) (nth (none : Hnd) r2.1.1 o.2.1))) then
                        some ((r2.1, true), hput (hgone (hmerge D r2.2) (nth (none : Hnd) r2.1.1 o.2.1)) (nth (none : Hnd) r2.1.1 o.2.1) 2 (.int .i64) (List.set (hcut (hmerge D r2.2) (.int .i64) (nth (none : Hnd) r2.1.1 o.2.1)) (Int.toNat o.2.2.1) o.2.2.2))
                        else none
                      else none
          else none
          else none := by kernel_rfl

def spec_l14Record.x : XFunc := { nslots := 37, nobj := 2, pars := [.val false 1, .val false 1, .val false 1, .val false 1, .val false 1], rowsIn := [none, none, none, none, none], rets := [.tmp 10 false 1], outs := [.own 7], fresh := true, arg := .pair (.int .i64) (.pair (.int .i64) (.pair (.int .i64) (.pair (.int .i64) (.int .i64)))), ret := .list (.pair (.bool) (.pair (.int .i64) (.pair (.int .i64) (.int .i64)))), body := .seq (.region false [op 10 .move [.const (.one (.nil))]]) (.seq (.region false [mv 12 0, mv 13 1, op 14 (.bin .mul) [.const (.one (.int .i64 (3 : Int))), .slot 13], op 15 (.bin .add) [.const (.one (.int .i64 (1 : Int))), .slot 14], mv 16 2, op 17 (.build [.bool false, .int .i64 (0 : Int), .int .i64 (0 : Int), .int .i64 (0 : Int)] [(1, 1), (2, 1), (3, 1)]) [.slot 12, .slot 15, .slot 16], mv 18 0, mv 19 1, op 20 (.bin .mul) [.const (.one (.int .i64 (3 : Int))), .slot 19], op 21 (.bin .add) [.const (.one (.int .i64 (2 : Int))), .slot 20], mv 22 3, op 23 (.build [.bool false, .int .i64 (0 : Int), .int .i64 (0 : Int), .int .i64 (0 : Int)] [(1, 1), (2, 1), (3, 1)]) [.slot 18, .slot 21, .slot 22], ow 24 (.buildSlice false 0 7 (.pair (.bool) (.pair (.int .i64) (.pair (.int .i64) (.int .i64)))) 2 [(0, 4), (4, 4)] [.bool false, .int .i64 (0 : Int), .int .i64 (0 : Int), .int .i64 (0 : Int)]) [.slot 17, .slot 23] [0] [0], mv 11 24]) (.seq (.region false [mv 25 11, mv 26 0, mv 27 1, op 28 (.bin .mul) [.const (.one (.int .i64 (3 : Int))), .slot 27], op 29 (.bin .add) [.const (.one (.int .i64 (3 : Int))), .slot 28], mv 30 2, mv 31 3, mv 32 4, op 33 (.call ⟨2, vs 3, no 3, [.val false 1], ims 1, true⟩) [.slot 30, .slot 31, .slot 32], op 34 (.build [.bool false, .int .i64 (0 : Int), .int .i64 (0 : Int), .int .i64 (0 : Int)] [(1, 1), (2, 1), (3, 1)]) [.slot 26, .slot 29, .slot 33], ow 35 (.buildSlice false 1 7 (.pair (.bool) (.pair (.int .i64) (.pair (.int .i64) (.int .i64)))) 1 [(0, 4)] [.bool false, .int .i64 (0 : Int), .int .i64 (0 : Int), .int .i64 (0 : Int)]) [.slot 34] [1] [1], ow 36 (.append false 0 7 (.pair (.bool) (.pair (.int .i64) (.pair (.int .i64) (.int .i64))))) [.slot 25, .slot 35] [0, 1] [0], mv 10 36]) (.ret))) }
def spec_l14Record.env (N : Nat) : Env := envOf (tbl [(2, spec_CheckOf.fs N)] noFS)
def spec_l14Record.F (N : Nat) (x : Int × Int × Int × Int × Int) : Option (List (Bool × Int × Int × Int)) := XFunc.run spec_l14Record.x (spec_l14Record.env N) N x
def spec_l14Record.fs (N : Nat) : FS := { arg := .pair (.int .i64) (.pair (.int .i64) (.pair (.int .i64) (.pair (.int .i64) (.int .i64)))), ret := .list (.pair (.bool) (.pair (.int .i64) (.pair (.int .i64) (.int .i64)))), fresh := true, F := spec_l14Record.F N }

theorem spec_l14Record.F_eq (N : Nat) (page : Int) (at_ : Int) (setting : Int) (value : Int) (header : Int) : spec_l14Record.F N (page, at_, setting, value, header) =
    bindO (spec_CheckOf.F N (setting, (value, header))) fun r1 =>
    bif decide (List.length ([(false, (page, (IntKind.wrap .i64 ((1 : Int) + (IntKind.wrap .i64 ((3 : Int) * at_))), setting))), (false, (page, (IntKind.wrap .i64 ((2 : Int) + (IntKind.wrap .i64 ((3 : Int) * at_))), value)))] : List (Bool × Int × Int × Int)) + List.length ([(false, (page, (IntKind.wrap .i64 ((3 : Int) + (IntKind.wrap .i64 ((3 : Int) * at_))), r1)))] : List (Bool × Int × Int × Int)) ≤ maxN) then
    some (([(false, (page, (IntKind.wrap .i64 ((1 : Int) + (IntKind.wrap .i64 ((3 : Int) * at_))), setting))), (false, (page, (IntKind.wrap .i64 ((2 : Int) + (IntKind.wrap .i64 ((3 : Int) * at_))), value)))] : List (Bool × Int × Int × Int)) ++ ([(false, (page, (IntKind.wrap .i64 ((3 : Int) + (IntKind.wrap .i64 ((3 : Int) * at_))), r1)))] : List (Bool × Int × Int × Int)))
    else none := by kernel_rfl

def spec_SettingOps.c1 : XCode := .seq (.seq (.region false [mv 65 13, op 66 (.bin .lss) [.slot 65, .const (.one (.int .i64 (4 : Int)))]]) (.cond (.slot 66) (.skip) (.exit 0))) (.seq (.block 1 (.seq (.region false [ow 70 (.load true 2) [.slot 3] [0] [], mv 71 13, o2 72 (.call ⟨100, [.val true 2, .val false 1], no 3, [.val false 1, .val false 1], ims 2, true⟩) 70 71, mv 69 72, o1 73 (.extract 0) 69, o1 74 (.extract 1) 69, mv 14 73, mv 15 74]) (.seq (.seq (.region false [mv 75 13, mv 76 1, o2 77 (.bin .eql) 75 76]) (.cond (.slot 77) (.region false [mv 78 2, mv 14 78]) (.skip))) (.seq (.region false [mv 79 15, ⟨some 80, .move, [.slot 79], [], [], none, true, .none⟩, ⟨some 81, .move, [.slot 13], [], [], some (80, false), false, .none⟩, ⟨some 82, .move, [.slot 1], [], [], some (80, false), false, .none⟩, ⟨some 83, .bin .eql, [.slot 81, .slot 82], [], [], some (80, false), false, .none⟩, op 84 .pick [.slot 80, .const (.one (.bool true)), .slot 83]]) (.cond (.slot 84) (.seq (.region false [mv 85 11, mv 86 8, op 87 (.bin .sub) [.const (.one (.int .i64 (1 : Int))), .slot 86], mv 88 12, mv 89 13, mv 90 14, mv 91 10, op 92 (.bin .add) [.slot 91, .const (.one (.int .i64 (1 : Int)))], op 93 (.call ⟨99, vs 5, no 5, [.val false 1], ims 1, true⟩) [.slot 87, .slot 88, .slot 89, .slot 90, .slot 92], ow 94 (.append false 3 7 (.pair (.bool) (.pair (.int .i64) (.pair (.int .i64) (.int .i64))))) [.slot 85, .slot 93] [3] [3], mv 11 94]) (.region false [mv 95 12, op 96 (.bin .add) [.slot 95, .const (.one (.int .i64 (1 : Int)))], mv 12 96])) (.skip)))))) (.region false [mv 67 13, op 68 (.bin .add) [.slot 67, .const (.one (.int .i64 (1 : Int)))], mv 13 68]))
def spec_SettingOps.c2 : XCode := .seq (.region false [mv 97 11, mv 98 8, op 99 (.bin .sub) [.const (.one (.int .i64 (1 : Int))), .slot 98], mv 100 10, op 101 (.bin .add) [.slot 100, .const (.one (.int .i64 (1 : Int)))], o2 102 (.build [.bool false, .int .i64 (0 : Int), .int .i64 (0 : Int), .int .i64 (0 : Int)] [(1, 1), (3, 1)]) 99 101, ow 103 (.buildSlice false 4 7 (.pair (.bool) (.pair (.int .i64) (.pair (.int .i64) (.int .i64)))) 1 [(0, 4)] [.bool false, .int .i64 (0 : Int), .int .i64 (0 : Int), .int .i64 (0 : Int)]) [.slot 102] [4] [4], ow 104 (.append false 3 7 (.pair (.bool) (.pair (.int .i64) (.pair (.int .i64) (.int .i64))))) [.slot 97, .slot 103] [3, 4] [3], mv 6 104, op 7 .move [.const (.one (.bool true))]]) (.ret)
def spec_SettingOps.x : XFunc := { nslots := 105, nobj := 5, pars := [.val true 2, .val false 1, .val false 1], rowsIn := [none, none, none, none], rets := [.tmp 6 false 1, .tmp 7 false 1], outs := [.imm, .imm], fresh := true, arg := .pair (.pair (.list (.list (.int .i64))) (.list (.int .i64))) (.pair (.int .i64) (.int .i64)), ret := .pair (.list (.pair (.bool) (.pair (.int .i64) (.pair (.int .i64) (.int .i64))))) (.bool), body := .seq (.region false [ow 3 (.box 0) [.slot 0] [0] [0], op 6 .move [.const (.one (.nil))], op 7 .move [.const (.one (.bool false))]]) (.seq (.region false [ow 16 (.load true 2) [.slot 3] [0] [], o1 17 (.call ⟨97, [.val true 2], no 2, [.val false 1], ims 1, true⟩) 16, mv 8 17]) (.seq (.seq (.region false [mv 18 8, op 19 (.bin .lss) [.slot 18, .const (.one (.int .i64 (0 : Int)))], ⟨some 20, .move, [.slot 19], [], [], none, true, .none⟩, ⟨some 21, .move, [.slot 1], [], [], some (20, false), false, .none⟩, ⟨some 22, .call ⟨1, vs 3, no 3, [.val false 1], ims 1, true⟩, [.slot 21, .const (.one (.int .i64 (0 : Int))), .const (.one (.int .i64 (3 : Int)))], [], [], some (20, false), false, .none⟩, ⟨some 23, .not, [.slot 22], [], [], some (20, false), false, .none⟩, op 24 .pick [.slot 20, .const (.one (.bool true)), .slot 23], ⟨some 25, .move, [.slot 24], [], [], none, true, .none⟩, ⟨some 26, .move, [.slot 2], [], [], some (25, false), false, .none⟩, ⟨some 27, .call ⟨1, vs 3, no 3, [.val false 1], ims 1, true⟩, [.slot 26, .const (.one (.int .i64 (0 : Int))), .const (.one (.int .i64 (9999 : Int)))], [], [], some (25, false), false, .none⟩, ⟨some 28, .not, [.slot 27], [], [], some (25, false), false, .none⟩, op 29 .pick [.slot 25, .const (.one (.bool true)), .slot 28]]) (.cond (.slot 29) (.seq (.region false [ow 30 (.buildSlice false 1 7 (.pair (.bool) (.pair (.int .i64) (.pair (.int .i64) (.int .i64)))) 0 [] [.bool false, .int .i64 (0 : Int), .int .i64 (0 : Int), .int .i64 (0 : Int)]) [] [1] [1], mv 6 30, op 7 .move [.const (.one (.bool false))]]) (.ret)) (.skip))) (.seq (.region false [ow 31 (.load true 2) [.slot 3] [0] [], mv 32 8, o2 33 (.call ⟨98, [.val true 2, .val false 1], no 3, [.val false 1], ims 1, true⟩) 31 32, mv 9 33]) (.seq (.region false [o1 34 (.fieldAddr 0) 3, ow 35 (.load false 1) [.slot 34] [0] [], mv 36 8, o2 37 (.indexAddr (.list (.int .i64))) 35 36, o1 38 (.load false 1) 37, op 39 (.indexAddr (.int .i64)) [.slot 38, .const (.one (.int .i64 (0 : Int)))], o1 40 (.load false 1) 39, mv 10 40]) (.seq (.seq (.region false [mv 41 9, op 42 (.bin .lss) [.slot 41, .const (.one (.int .i64 (6 : Int)))]]) (.cond (.slot 42) (.seq (.region false [mv 43 8, mv 44 9, mv 45 1, mv 46 2, mv 47 10, op 48 (.call ⟨99, vs 5, no 5, [.val false 1], ims 1, true⟩) [.slot 43, .slot 44, .slot 45, .slot 46, .slot 47], mv 6 48, op 7 .move [.const (.one (.bool true))]]) (.ret)) (.skip))) (.seq (.seq (.region false [mv 49 10, op 50 (.bin .eql) [.slot 49, .const (.one (.int .i64 (60000 : Int)))], ⟨some 51, .move, [.slot 50], [], [], none, true, .none⟩, ⟨some 52, .fieldAddr 1, [.slot 3], [], [], some (51, false), false, .none⟩, ⟨some 53, .load false 1, [.slot 52], [0], [], some (51, false), false, .none⟩, ⟨some 54, .move, [.slot 8], [], [], some (51, false), false, .none⟩, ⟨some 55, .bin .sub, [.const (.one (.int .i64 (1 : Int))), .slot 54], [], [], some (51, false), false, .none⟩, ⟨some 56, .indexAddr (.int .i64), [.slot 53, .slot 55], [], [], some (51, false), false, .none⟩, ⟨some 57, .load false 1, [.slot 56], [], [], some (51, false), false, .none⟩, ⟨some 58, .bin .eql, [.slot 57, .const (.one (.int .i64 (1000 : Int)))], [], [], some (51, false), false, .none⟩, op 59 .pick [.slot 51, .const (.one (.bool true)), .slot 58]]) (.cond (.slot 59) (.seq (.region false [ow 60 (.buildSlice false 2 7 (.pair (.bool) (.pair (.int .i64) (.pair (.int .i64) (.int .i64)))) 0 [] [.bool false, .int .i64 (0 : Int), .int .i64 (0 : Int), .int .i64 (0 : Int)]) [] [2] [2], mv 6 60, op 7 .move [.const (.one (.bool false))]]) (.ret)) (.skip))) (.seq (.region false [mv 61 8, op 62 (.bin .sub) [.const (.one (.int .i64 (1 : Int))), .slot 61], op 63 (.build [.bool false, .int .i64 (0 : Int), .int .i64 (0 : Int), .int .i64 (0 : Int)] [(0, 1), (1, 1)]) [.const (.one (.bool true)), .slot 62], ow 64 (.buildSlice false 3 7 (.pair (.bool) (.pair (.int .i64) (.pair (.int .i64) (.int .i64)))) 1 [(0, 4)] [.bool false, .int .i64 (0 : Int), .int .i64 (0 : Int), .int .i64 (0 : Int)]) [.slot 63] [3] [3], mv 11 64]) (.seq (.region false [op 12 .move [.const (.one (.int .i64 (0 : Int)))]]) (.seq (.seq (.region false [op 13 .move [.const (.one (.int .i64 (0 : Int)))]]) (.block 0 (.loop [.keep [1, 2, 3, 8, 10, 11, 12, 13], .drop 1, .drop 2, .drop 4, .norm] (spec_SettingOps.c1)))) (spec_SettingOps.c2)))))))))) }
def spec_SettingOps.env (N : Nat) : Env := envOf (tbl [(97, spec_ActivePage.fs N), (98, spec_FreeRecord.fs N), (100, spec_ReadSetting.fs N), (99, spec_l14Record.fs N), (1, spec_l1In.fs N)] noFS)
def spec_SettingOps.F (N : Nat) (x : ((List (List Int)) × List Int) × Int × Int) : Option ((List (Bool × Int × Int × Int)) × Bool) := XFunc.run spec_SettingOps.x (spec_SettingOps.env N) N x
def spec_SettingOps.fs (N : Nat) : FS := { arg := .pair (.pair (.list (.list (.int .i64))) (.list (.int .i64))) (.pair (.int .i64) (.int .i64)), ret := .pair (.list (.pair (.bool) (.pair (.int .i64) (.pair (.int .i64) (.int .i64))))) (.bool), fresh := true, F := spec_SettingOps.F N }
def spec_SettingOps.k2 (N : Nat) : Ex → S → Option ((List (Bool × Int × Int × Int)) × Bool) := seqK (fun s => XCode.runK (spec_SettingOps.env N) N (spec_SettingOps.c2) s (XFunc.endK spec_SettingOps.x)) (XFunc.endK spec_SettingOps.x)
def spec_SettingOps.k1 (N : Nat) : Ex → S → Option ((List (Bool × Int × Int × Int)) × Bool) := blockK 0 (spec_SettingOps.k2 N)
def spec_SettingOps.L1 (N : Nat) (n1 : Nat) (setting : Int) (value : Int) (p : Int) (header : Int) (at_ : Int) (s_ : Int) (o00 : List (List Int)) (o01 : List Int) (o3 : List (Bool × Int × Int × Int)) : Option ((List (Bool × Int × Int × Int)) × Bool) := loopK [.keep [1, 2, 3, 8, 10, 11, 12, 13], .drop 1, .drop 2, .drop 4, .norm] (fun s k => XCode.runK (spec_SettingOps.env N) N spec_SettingOps.c1 s k) n1
  { t := [.junk, .one (.int .i64 setting), .one (.int .i64 value), .one (.ptr 0 0 0), .junk, .junk, .junk, .junk, .one (.int .i64 p), .junk, .one (.int .i64 header), .one (.ref 3 0 .all), .one (.int .i64 at_), .one (.int .i64 s_), .junk, .junk, .junk, .junk, .junk, .junk, .junk, .junk, .junk, .junk, .junk, .junk, .junk, .junk, .junk, .junk, .junk, .junk, .junk, .junk, .junk, .junk, .junk, .junk, .junk, .junk, .junk, .junk, .junk, .junk, .junk, .junk, .junk, .junk, .junk, .junk, .junk, .junk, .junk, .junk, .junk, .junk, .junk, .junk, .junk, .junk, .junk, .junk, .junk, .junk, .junk, .junk, .junk, .junk, .junk, .junk, .junk, .junk, .junk, .junk, .junk, .junk, .junk, .junk, .junk, .junk, .junk, .junk, .junk, .junk, .junk, .junk, .junk, .junk, .junk, .junk, .junk, .junk, .junk, .junk, .junk, .junk, .junk, .junk, .junk, .junk, .junk, .junk, .junk, .junk, .junk], h := [.box 0 false [.sl false (.list (.int .i64)) o00, .sl false (.int .i64) o01], .absent 0, .absent 0, .row 0 false true 7 (.pair (.bool) (.pair (.int .i64) (.pair (.int .i64) (.int .i64)))) o3, .absent 0] }
  (spec_SettingOps.k1 N)

theorem spec_SettingOps.L1_eq (N : Nat) (n1 : Nat) (setting : Int) (value : Int) (p : Int) (header : Int) (at_ : Int) (s_ : Int) (o00 : List (List Int)) (o01 : List Int) (o3 : List (Bool × Int × Int × Int)) : spec_SettingOps.L1 N (n1 + 1) setting value p header at_ s_ o00 o01 o3 =
    bif decide (s_ < (4 : Int)) then
      bindO (spec_ReadSetting.F N ((o00, o01), s_)) fun r6 =>
      bif s_ == setting then
        bif r6.2 then
          bindO (spec_l14Record.F N (IntKind.wrap .i64 ((1 : Int) - p), (at_, (s_, (value, IntKind.wrap .i64 (header + (1 : Int))))))) fun r7 =>
          bif decide (List.length o3 + List.length r7 ≤ maxN) then
          spec_SettingOps.L1 N n1 setting value p header (IntKind.wrap .i64 (at_ + (1 : Int))) (IntKind.wrap .i64 (s_ + (1 : Int))) o00 o01 (o3 ++ r7)
          else none
        else
          bif s_ == setting then
            bindO (spec_l14Record.F N (IntKind.wrap .i64 ((1 : Int) - p), (at_, (s_, (value, IntKind.wrap .i64 (header + (1 : Int))))))) fun r8 =>
            bif decide (List.length o3 + List.length r8 ≤ maxN) then
            spec_SettingOps.L1 N n1 setting value p header (IntKind.wrap .i64 (at_ + (1 : Int))) (IntKind.wrap .i64 (s_ + (1 : Int))) o00 o01 (o3 ++ r8)
            else none
          else
            spec_SettingOps.L1 N n1 setting value p header at_ (IntKind.wrap .i64 (s_ + (1 : Int))) o00 o01 o3
      else
        bif r6.2 then
          bindO (spec_l14Record.F N (IntKind.wrap .i64 ((1 : Int) - p), (at_, (s_, (r6.1, IntKind.wrap .i64 (header + (1 : Int))))))) fun r9 =>
          bif decide (List.length o3 + List.length r9 ≤ maxN) then
          spec_SettingOps.L1 N n1 setting value p header (IntKind.wrap .i64 (at_ + (1 : Int))) (IntKind.wrap .i64 (s_ + (1 : Int))) o00 o01 (o3 ++ r9)
          else none
        else
          bif s_ == setting then
            bindO (spec_l14Record.F N (IntKind.wrap .i64 ((1 : Int) - p), (at_, (s_, (r6.1, IntKind.wrap .i64 (header + (1 : Int))))))) fun r10 =>
            bif decide (List.length o3 + List.length r10 ≤ maxN) then
            spec_SettingOps.L1 N n1 setting value p header (IntKind.wrap .i64 (at_ + (1 : Int))) (IntKind.wrap .i64 (s_ + (1 : Int))) o00 o01 (o3 ++ r10)
            else none
          else
            spec_SettingOps.L1 N n1 setting value p header at_ (IntKind.wrap .i64 (s_ + (1 : Int))) o00 o01 o3
    else
      bif decide (List.length o3 + List.length ([(false, (IntKind.wrap .i64 ((1 : Int) - p), ((0 : Int), IntKind.wrap .i64 (header + (1 : Int)))))] : List (Bool × Int × Int × Int)) ≤ maxN) then
      some (o3 ++ ([(false, (IntKind.wrap .i64 ((1 : Int) - p), ((0 : Int), IntKind.wrap .i64 (header + (1 : Int)))))] : List (Bool × Int × Int × Int)), true)
      else none := by kernel_rfl
theorem spec_SettingOps.F_eq (N : Nat) (f : (List (List Int)) × List Int) (setting : Int) (value : Int) : spec_SettingOps.F N (f, setting, value) =
    bindO (spec_ActivePage.F N f) fun r1 =>
    bif decide (r1 < (0 : Int)) then
      some (([] : List (Bool × Int × Int × Int)), false)
    else
      bindO (spec_l1In.F N (setting, ((0 : Int), (3 : Int)))) fun r2 =>
      bif !r2 then
        some (([] : List (Bool × Int × Int × Int)), false)
      else
        bindO (spec_l1In.F N (value, ((0 : Int), (9999 : Int)))) fun r3 =>
        bif !r3 then
          some (([] : List (Bool × Int × Int × Int)), false)
        else
          bindO (spec_FreeRecord.F N (f, r1)) fun r4 =>
          bif inRange r1 (List.length f.1) then
          bif inRange (0 : Int) (List.length (nth ([] : List Int) f.1 r1)) then
          bif decide (r4 < (6 : Int)) then
            bindO (spec_l14Record.F N (r1, (r4, (setting, (value, nth (0 : Int) (nth ([] : List Int) f.1 r1) (0 : Int)))))) fun r5 =>
            some (r5, true)
          else
            bif (nth (0 : Int) (nth ([] : List Int) f.1 r1) (0 : Int)) == (60000 : Int) then
              some (([] : List (Bool × Int × Int × Int)), false)
            else
              bif inRange (IntKind.wrap .i64 ((1 : Int) - r1)) (List.length f.2) then
              bif (nth (0 : Int) f.2 (IntKind.wrap .i64 ((1 : Int) - r1))) == (1000 : Int) then
                some (([] : List (Bool × Int × Int × Int)), false)
              else
                spec_SettingOps.L1 N N setting value r1 (nth (0 : Int) (nth ([] : List Int) f.1 r1) (0 : Int)) (0 : Int) (0 : Int) f.1 f.2 ([(true, (IntKind.wrap .i64 ((1 : Int) - r1), ((0 : Int), (0 : Int))))] : List (Bool × Int × Int × Int))
              else none
          else none
          else none := by kernel_rfl

def spec_CutSetting.c1 : XCode := .seq (.seq (.region false [mv 35 13, mv 36 3, o2 37 (.bin .lss) 35 36]) (.cond (.slot 37) (.skip) (.exit 0))) (.seq (.block 1 (.seq (.region true [ow 41 (.load true 2) [.slot 12] [2] [], mv 42 10, mv 43 13, o2 44 (.indexAddr (.pair (.bool) (.pair (.int .i64) (.pair (.int .i64) (.int .i64))))) 42 43, o1 45 (.load true 4) 44, ow 46 (.callH false ⟨104, [.val true 2, .val true 4], no 6, [.val true 2, .val false 1], ims 3, true⟩) [.slot 41, .slot 45] [100] [100], mv 40 46, o1 47 (.extract 0) 40, o1 48 (.extract 1) 40, ow 14 (.alloc 3 [.nil, .nil]) [] [3] [3], on (.store 2) [.slot 14, .slot 47] [3] [3], mv 15 48]) (.seq (.seq (.region false [mv 49 15, o1 50 .not 49]) (.cond (.slot 50) (.seq (.region false [op 51 (.build [.nil, .nil] []) [], on (.store 2) [.slot 8, .slot 51] [1] [1], op 9 .move [.const (.one (.bool false))]]) (.ret)) (.skip))) (.region false [ow 52 (.load true 2) [.slot 14] [3] [], on (.store 2) [.slot 12, .slot 52] [2] [2]])))) (.region false [mv 38 13, op 39 (.bin .add) [.slot 38, .const (.one (.int .i64 (1 : Int)))], mv 13 39]))
def spec_CutSetting.c2 : XCode := .seq (.region false [ow 53 (.load true 2) [.slot 12] [2] [], on (.store 2) [.slot 8, .slot 53] [1] [1], op 9 .move [.const (.one (.bool true))]]) (.ret)
def spec_CutSetting.x : XFunc := { nslots := 54, nobj := 4, pars := [.val true 2, .val false 1, .val false 1, .val false 1], rowsIn := [none, none, none, none, none], rets := [.var 8 true 2, .tmp 9 false 1], outs := [.imm, .imm, .imm], fresh := true, arg := .pair (.pair (.list (.list (.int .i64))) (.list (.int .i64))) (.pair (.int .i64) (.pair (.int .i64) (.int .i64))), ret := .pair (.pair (.list (.hnd (.int .i64))) (.list (.int .i64))) (.bool), body := .seq (.region false [ow 4 (.box 0) [.slot 0] [0] [0], ow 8 (.alloc 1 [.nil, .nil]) [] [1] [1], op 9 .move [.const (.one (.bool false))]]) (.seq (.region false [ow 17 (.load true 2) [.slot 4] [0] [], mv 18 1, mv 19 2, op 20 (.call ⟨101, [.val true 2, .val false 1, .val false 1], no 4, [.val false 1, .val false 1], ims 2, true⟩) [.slot 17, .slot 18, .slot 19], mv 16 20, o1 21 (.extract 0) 16, o1 22 (.extract 1) 16, mv 10 21, mv 11 22]) (.seq (.seq (.region false [mv 23 11, o1 24 .not 23, ⟨some 25, .move, [.slot 24], [], [], none, true, .none⟩, ⟨some 26, .move, [.slot 3], [], [], some (25, false), false, .none⟩, ⟨some 27, .move, [.slot 10], [], [], some (25, false), false, .none⟩, ⟨some 28, .len, [.slot 27], [], [], some (25, false), false, .none⟩, ⟨some 29, .call ⟨1, vs 3, no 3, [.val false 1], ims 1, true⟩, [.slot 26, .const (.one (.int .i64 (0 : Int))), .slot 28], [], [], some (25, false), false, .none⟩, ⟨some 30, .not, [.slot 29], [], [], some (25, false), false, .none⟩, op 31 .pick [.slot 25, .const (.one (.bool true)), .slot 30]]) (.cond (.slot 31) (.seq (.region false [op 32 (.build [.nil, .nil] []) [], on (.store 2) [.slot 8, .slot 32] [1] [1], op 9 .move [.const (.one (.bool false))]]) (.ret)) (.skip))) (.seq (.region false [ow 33 (.load true 2) [.slot 4] [0] [], ow 34 (.callH false ⟨103, [.val true 2], no 2, [.val true 2], ims 2, true⟩) [.slot 33] [100] [100], ow 12 (.alloc 2 [.nil, .nil]) [] [2] [2], on (.store 2) [.slot 12, .slot 34] [2] [2]]) (.seq (.seq (.region false [op 13 .move [.const (.one (.int .i64 (0 : Int)))]]) (.block 0 (.loop [.keep [3, 8, 10, 12, 13], .drop 0, .drop 3, .norm] (spec_CutSetting.c1)))) (spec_CutSetting.c2))))), hp := true }
def spec_CutSetting.env (N : Nat) : Env := envOf (tbl [(104, spec_DoFlash.fs N), (101, spec_SettingOps.fs N), (103, spec_l14Copy.fs N), (1, spec_l1In.fs N)] noFS)
def spec_CutSetting.H (N : Nat) (x : ((List (List Int)) × List Int) × Int × Int × Int) (D : List HRow) : Option ((((List Hnd) × List Int) × Bool) × List HRow) := XFunc.runH spec_CutSetting.x (spec_CutSetting.env N) N x D
def spec_CutSetting.fs (N : Nat) : FS := { arg := .pair (.pair (.list (.list (.int .i64))) (.list (.int .i64))) (.pair (.int .i64) (.pair (.int .i64) (.int .i64))), ret := .pair (.pair (.list (.hnd (.int .i64))) (.list (.int .i64))) (.bool), fresh := true, F := fun _ => none, hp := true, H := spec_CutSetting.H N }
def spec_CutSetting.k2 (N : Nat) : Ex → S → Option ((((List Hnd) × List Int) × Bool) × List HRow) := seqK (fun s => XCode.runK (spec_CutSetting.env N) N (spec_CutSetting.c2) s (XFunc.endKH spec_CutSetting.x)) (XFunc.endKH spec_CutSetting.x)
def spec_CutSetting.k1 (N : Nat) : Ex → S → Option ((((List Hnd) × List Int) × Bool) × List HRow) := blockK 0 (spec_CutSetting.k2 N)
def spec_CutSetting.L1 (N : Nat) (n1 : Nat) (n_ : Int) (ops : List (Bool × Int × Int × Int)) (i : Int) (o20 : List Hnd) (o21 : List Int) (D : List HRow) : Option ((((List Hnd) × List Int) × Bool) × List HRow) := loopK [.keep [3, 8, 10, 12, 13], .drop 0, .drop 3, .norm] (fun s k => XCode.runK (spec_CutSetting.env N) N spec_CutSetting.c1 s k) n1
  { t := [.junk, .junk, .junk, .one (.int .i64 n_), .junk, .junk, .junk, .junk, .one (.ptr 1 0 0), .junk, .one (.sl true (.pair (.bool) (.pair (.int .i64) (.pair (.int .i64) (.int .i64)))) ops), .junk, .one (.ptr 2 0 0), .one (.int .i64 i), .junk, .junk, .junk, .junk, .junk, .junk, .junk, .junk, .junk, .junk, .junk, .junk, .junk, .junk, .junk, .junk, .junk, .junk, .junk, .junk, .junk, .junk, .junk, .junk, .junk, .junk, .junk, .junk, .junk, .junk, .junk, .junk, .junk, .junk, .junk, .junk, .junk, .junk, .junk, .junk], h := [.absent 0, .box 0 false [.nil, .nil], .box 0 false [.sl true (.hnd (.int .i64)) o20, .sl true (.int .i64) o21], .absent 0], d := D }
  (spec_CutSetting.k1 N)

theorem spec_CutSetting.L1_eq (N : Nat) (n1 : Nat) (n_ : Int) (ops : List (Bool × Int × Int × Int)) (i : Int) (o20 : List Hnd) (o21 : List Int) (D : List HRow) : spec_CutSetting.L1 N (n1 + 1) n_ ops i o20 o21 D =
    bif decide (i < n_) then
      bif inRange i (List.length ops) then
      bif List.all o20 (Ty.unok D (.hnd (.int .i64))) then
      bindO (spec_DoFlash.H N ((List.map (Ty.unden D (.hnd (.int .i64))) o20, o21), ((nth (false, ((0 : Int), ((0 : Int), (0 : Int)))) ops i).1, (((nth (false, ((0 : Int), ((0 : Int), (0 : Int)))) ops i).2).1, (((nth (false, ((0 : Int), ((0 : Int), (0 : Int)))) ops i).2).2)))) (hhide D)) fun r4 =>
      bif !r4.1.2 then
        some (((([] : List Hnd), ([] : List Int)), false), hmerge D r4.2)
      else
        spec_CutSetting.L1 N n1 n_ ops (IntKind.wrap .i64 (i + (1 : Int))) r4.1.1.1 r4.1.1.2 (hmerge D r4.2)
      else none
      else none
    else
      some (((o20, o21), true), D) := by kernel_rfl
theorem spec_CutSetting.H_eq (N : Nat) (f : (List (List Int)) × List Int) (setting : Int) (value : Int) (n_ : Int) (D : List HRow) : spec_CutSetting.H N (f, setting, value, n_) D =
    bindO (spec_SettingOps.F N (f, (setting, value))) fun r1 =>
    bif !r1.2 then
      some (((([] : List Hnd), ([] : List Int)), false), D)
    else
      bindO (spec_l1In.F N (n_, ((0 : Int), (List.length r1.1 : Int)))) fun r2 =>
      bif !r2 then
        some (((([] : List Hnd), ([] : List Int)), false), D)
      else
        bindO (spec_l14Copy.H N f (hhide D)) fun r3 =>
        spec_CutSetting.L1 N N n_ r1.1 (0 : Int) r3.1.1 r3.1.2 (hmerge D r3.2) := by kernel_rfl

def impl_recordOps.c1 : XCode := .seq (.region false [o2 23 (.bin .lss) 22 21]) (.seq (.cond (.slot 23) (.skip) (.exit 0)) (.seq (.block 1 (.seq (.region false [mv 24 22, ow 25 (.indexAddr (.int .i64)) [.slot 20, .slot 22] [0] [], ow 26 (.load false 1) [.slot 25] [0] [], mv 12 24, mv 13 26]) (.region false [mv 27 11, mv 28 0, mv 29 1, op 30 (.bin .mul) [.const (.one (.int .i64 (3 : Int))), .slot 29], op 31 (.bin .add) [.const (.one (.int .i64 (1 : Int))), .slot 30], mv 32 12, o2 33 (.bin .add) 31 32, mv 34 13, op 35 (.build [.bool false, .int .i64 (0 : Int), .int .i64 (0 : Int), .int .i64 (0 : Int)] [(1, 1), (2, 1), (3, 1)]) [.slot 28, .slot 33, .slot 34], ow 36 (.buildSlice false 1 7 (.pair (.bool) (.pair (.int .i64) (.pair (.int .i64) (.int .i64)))) 1 [(0, 4)] [.bool false, .int .i64 (0 : Int), .int .i64 (0 : Int), .int .i64 (0 : Int)]) [.slot 35] [1] [1], ow 37 (.append false 2 7 (.pair (.bool) (.pair (.int .i64) (.pair (.int .i64) (.int .i64))))) [.slot 27, .slot 36] [1, 2] [2], mv 11 37]))) (.region false [op 38 (.bin .add) [.slot 22, .const (.one (.int .i64 (1 : Int)))], mv 22 38])))
def impl_recordOps.c2 : XCode := .seq (.region false [mv 39 11, mv 10 39]) (.ret)
def impl_recordOps.x : XFunc := { nslots := 40, nobj := 3, pars := [.val false 1, .val false 1, .val false 1, .val false 1, .val false 1], rowsIn := [none, none, none, none, none], rets := [.tmp 10 false 1], outs := [.own 7], fresh := true, arg := .pair (.int .i64) (.pair (.int .i64) (.pair (.int .i64) (.pair (.int .i64) (.int .i64)))), ret := .list (.pair (.bool) (.pair (.int .i64) (.pair (.int .i64) (.int .i64)))), body := .seq (.region false [op 10 .move [.const (.one (.nil))]]) (.seq (.region false [op 11 .move [.const (.one (.nil))]]) (.seq (.seq (.region false [mv 14 2, mv 15 3, mv 16 2, mv 17 3, mv 18 4, op 19 (.call ⟨4, vs 3, no 3, [.val false 1], ims 1, true⟩) [.slot 16, .slot 17, .slot 18], ow 20 (.buildSlice false 0 2 (.int .i64) 3 [(0, 1), (1, 1), (2, 1)] [.int .i64 (0 : Int)]) [.slot 14, .slot 15, .slot 19] [0] [0], ow 21 .len [.slot 20] [0] [], op 22 .move [.const (.one (.int .i64 (0 : Int)))]]) (.block 0 (.loop [.mkrow (.slot 11) 2 7 (.pair (.bool) (.pair (.int .i64) (.pair (.int .i64) (.int .i64)))), .keep [0, 1, 11, 20, 21, 22], .drop 1, .norm] (impl_recordOps.c1)))) (impl_recordOps.c2))) }
def impl_recordOps.env (N : Nat) : Env := envOf (tbl [(4, impl_CheckOf.fs N)] noFS)
def impl_recordOps.F (N : Nat) (x : Int × Int × Int × Int × Int) : Option (List (Bool × Int × Int × Int)) := XFunc.run impl_recordOps.x (impl_recordOps.env N) N x
def impl_recordOps.fs (N : Nat) : FS := { arg := .pair (.int .i64) (.pair (.int .i64) (.pair (.int .i64) (.pair (.int .i64) (.int .i64)))), ret := .list (.pair (.bool) (.pair (.int .i64) (.pair (.int .i64) (.int .i64)))), fresh := true, F := impl_recordOps.F N }
def impl_recordOps.k2 (N : Nat) : Ex → S → Option (List (Bool × Int × Int × Int)) := seqK (fun s => XCode.runK (impl_recordOps.env N) N (impl_recordOps.c2) s (XFunc.endK impl_recordOps.x)) (XFunc.endK impl_recordOps.x)
def impl_recordOps.k1 (N : Nat) : Ex → S → Option (List (Bool × Int × Int × Int)) := blockK 0 (impl_recordOps.k2 N)
def impl_recordOps.L1 (N : Nat) (n1 : Nat) (page : Int) (record : Int) (t21 : Int) (t22 : Int) (o0 : List Int) (o2 : List (Bool × Int × Int × Int)) : Option (List (Bool × Int × Int × Int)) := loopK [.mkrow (.slot 11) 2 7 (.pair (.bool) (.pair (.int .i64) (.pair (.int .i64) (.int .i64)))), .keep [0, 1, 11, 20, 21, 22], .drop 1, .norm] (fun s k => XCode.runK (impl_recordOps.env N) N impl_recordOps.c1 s k) n1
  { t := [.one (.int .i64 page), .one (.int .i64 record), .junk, .junk, .junk, .junk, .junk, .junk, .junk, .junk, .junk, .one (.ref 2 0 .all), .junk, .junk, .junk, .junk, .junk, .junk, .junk, .junk, .one (.ref 0 0 .all), .one (.int .i64 t21), .one (.int .i64 t22), .junk, .junk, .junk, .junk, .junk, .junk, .junk, .junk, .junk, .junk, .junk, .junk, .junk, .junk, .junk, .junk, .junk], h := [.row 0 false true 2 (.int .i64) o0, .absent 0, .row 0 false true 7 (.pair (.bool) (.pair (.int .i64) (.pair (.int .i64) (.int .i64)))) o2] }
  (impl_recordOps.k1 N)

theorem impl_recordOps.L1_eq (N : Nat) (n1 : Nat) (page : Int) (record : Int) (t21 : Int) (t22 : Int) (o0 : List Int) (o2 : List (Bool × Int × Int × Int)) : impl_recordOps.L1 N (n1 + 1) page record t21 t22 o0 o2 =
    bif decide (t22 < t21) then
      bif inRange t22 (List.length o0) then
      bif decide (List.length o2 + List.length ([(false, (page, (IntKind.wrap .i64 ((IntKind.wrap .i64 ((1 : Int) + (IntKind.wrap .i64 ((3 : Int) * record)))) + t22), List.getD o0 (Int.toNat t22) (0 : Int))))] : List (Bool × Int × Int × Int)) ≤ maxN) then
      impl_recordOps.L1 N n1 page record t21 (IntKind.wrap .i64 (t22 + (1 : Int))) o0 (o2 ++ ([(false, (page, (IntKind.wrap .i64 ((IntKind.wrap .i64 ((1 : Int) + (IntKind.wrap .i64 ((3 : Int) * record)))) + t22), List.getD o0 (Int.toNat t22) (0 : Int))))] : List (Bool × Int × Int × Int)))
      else none
      else none
    else
      some o2 := by kernel_rfl
theorem impl_recordOps.F_eq (N : Nat) (page : Int) (record : Int) (setting : Int) (value : Int) (header : Int) : impl_recordOps.F N (page, record, setting, value, header) =
    bindO (impl_CheckOf.F N (setting, (value, header))) fun r1 =>
    impl_recordOps.L1 N N page record (List.length ([setting, value, r1] : List Int) : Int) (0 : Int) ([setting, value, r1] : List Int) ([] : List (Bool × Int × Int × Int)) := by kernel_rfl

def impl_SettingOps.c1 : XCode := .seq (.region false [op 61 (.bin .lss) [.slot 60, .const (.one (.int .i64 (4 : Int)))]]) (.seq (.cond (.slot 61) (.skip) (.exit 0)) (.seq (.block 1 (.seq (.region false [mv 62 60, mv 14 62]) (.seq (.region false [ow 64 (.load true 2) [.slot 3] [0] [], mv 65 14, o2 66 (.call ⟨112, [.val true 2, .val false 1], no 3, [.val false 1, .val false 1], ims 2, true⟩) 64 65, mv 63 66, o1 67 (.extract 0) 63, o1 68 (.extract 1) 63, mv 15 67, mv 16 68]) (.seq (.seq (.region false [mv 69 14, mv 70 1, o2 71 (.bin .eql) 69 70]) (.cond (.slot 71) (.region false [mv 72 2, mv 15 72, op 16 .move [.const (.one (.bool true))]]) (.skip))) (.seq (.region false [mv 73 16]) (.cond (.slot 73) (.seq (.region false [mv 74 12, mv 75 11, mv 76 13, mv 77 14, mv 78 15, mv 79 9, op 80 (.bin .add) [.slot 79, .const (.one (.int .i64 (1 : Int)))], op 81 (.call ⟨111, vs 5, no 5, [.val false 1], ims 1, true⟩) [.slot 75, .slot 76, .slot 77, .slot 78, .slot 80], ow 82 (.append false 2 7 (.pair (.bool) (.pair (.int .i64) (.pair (.int .i64) (.int .i64))))) [.slot 74, .slot 81] [2] [2], mv 12 82]) (.region false [mv 83 13, op 84 (.bin .add) [.slot 83, .const (.one (.int .i64 (1 : Int)))], mv 13 84])) (.skip))))))) (.region false [op 85 (.bin .add) [.slot 60, .const (.one (.int .i64 (1 : Int)))], mv 60 85])))
def impl_SettingOps.c2 : XCode := .seq (.region false [mv 86 12, mv 87 11, mv 88 9, op 89 (.bin .add) [.slot 88, .const (.one (.int .i64 (1 : Int)))], o2 90 (.build [.bool false, .int .i64 (0 : Int), .int .i64 (0 : Int), .int .i64 (0 : Int)] [(1, 1), (3, 1)]) 87 89, ow 91 (.buildSlice false 3 7 (.pair (.bool) (.pair (.int .i64) (.pair (.int .i64) (.int .i64)))) 1 [(0, 4)] [.bool false, .int .i64 (0 : Int), .int .i64 (0 : Int), .int .i64 (0 : Int)]) [.slot 90] [3] [3], ow 92 (.append false 2 7 (.pair (.bool) (.pair (.int .i64) (.pair (.int .i64) (.int .i64))))) [.slot 86, .slot 91] [2, 3] [2], mv 6 92, op 7 .move [.const (.one (.bool true))]]) (.ret)
def impl_SettingOps.x : XFunc := { nslots := 93, nobj := 4, pars := [.val true 2, .val false 1, .val false 1], rowsIn := [none, none, none, none], rets := [.tmp 6 false 1, .tmp 7 false 1], outs := [.own 7, .imm], fresh := true, arg := .pair (.pair (.list (.list (.int .i64))) (.list (.int .i64))) (.pair (.int .i64) (.int .i64)), ret := .pair (.list (.pair (.bool) (.pair (.int .i64) (.pair (.int .i64) (.int .i64))))) (.bool), body := .seq (.region false [ow 3 (.box 0) [.slot 0] [0] [0], op 6 .move [.const (.one (.nil))], op 7 .move [.const (.one (.bool false))]]) (.seq (.region false [ow 17 (.load true 2) [.slot 3] [0] [], o1 18 (.call ⟨109, [.val true 2], no 2, [.val false 1], ims 1, true⟩) 17, mv 8 18]) (.seq (.seq (.region false [mv 19 8, op 20 (.bin .lss) [.slot 19, .const (.one (.int .i64 (0 : Int)))], ⟨some 21, .move, [.slot 20], [], [], none, true, .none⟩, ⟨some 22, .move, [.slot 1], [], [], some (21, false), false, .none⟩, ⟨some 23, .move, [.slot 2], [], [], some (21, false), false, .none⟩, ⟨some 24, .call ⟨3, vs 2, no 2, [.val false 1], ims 1, true⟩, [.slot 22, .slot 23], [], [], some (21, false), false, .none⟩, ⟨some 25, .not, [.slot 24], [], [], some (21, false), false, .none⟩, op 26 .pick [.slot 21, .const (.one (.bool true)), .slot 25]]) (.cond (.slot 26) (.seq (.region false [op 6 .move [.const (.one (.nil))], op 7 .move [.const (.one (.bool false))]]) (.ret)) (.skip))) (.seq (.region false [o1 27 (.fieldAddr 0) 3, ow 28 (.load false 1) [.slot 27] [0] [], mv 29 8, o2 30 (.indexAddr (.list (.int .i64))) 28 29, o1 31 (.load false 1) 30, op 32 (.indexAddr (.int .i64)) [.slot 31, .const (.one (.int .i64 (0 : Int)))], o1 33 (.load false 1) 32, mv 9 33]) (.seq (.seq (.region false [ow 34 (.load true 2) [.slot 3] [0] [], mv 35 8, o2 36 (.call ⟨110, [.val true 2, .val false 1], no 3, [.val false 1], ims 1, true⟩) 34 35, mv 10 36]) (.seq (.region false [mv 37 10, op 38 (.bin .lss) [.slot 37, .const (.one (.int .i64 (6 : Int)))]]) (.cond (.slot 38) (.seq (.region false [mv 39 8, mv 40 10, mv 41 1, mv 42 2, mv 43 9, ow 44 (.call ⟨111, vs 5, no 5, [.val false 1], [.own 1 7], true⟩) [.slot 39, .slot 40, .slot 41, .slot 42, .slot 43] [1] [1], mv 6 44, op 7 .move [.const (.one (.bool true))]]) (.ret)) (.skip)))) (.seq (.region false [mv 45 8, op 46 (.bin .sub) [.const (.one (.int .i64 (1 : Int))), .slot 45], mv 11 46]) (.seq (.seq (.region false [mv 47 9, op 48 (.bin .geq) [.slot 47, .const (.one (.int .i64 (60000 : Int)))], ⟨some 49, .move, [.slot 48], [], [], none, true, .none⟩, ⟨some 50, .fieldAddr 1, [.slot 3], [], [], some (49, false), false, .none⟩, ⟨some 51, .load false 1, [.slot 50], [0], [], some (49, false), false, .none⟩, ⟨some 52, .move, [.slot 11], [], [], some (49, false), false, .none⟩, ⟨some 53, .indexAddr (.int .i64), [.slot 51, .slot 52], [], [], some (49, false), false, .none⟩, ⟨some 54, .load false 1, [.slot 53], [], [], some (49, false), false, .none⟩, ⟨some 55, .bin .geq, [.slot 54, .const (.one (.int .i64 (1000 : Int)))], [], [], some (49, false), false, .none⟩, op 56 .pick [.slot 49, .const (.one (.bool true)), .slot 55]]) (.cond (.slot 56) (.seq (.region false [op 6 .move [.const (.one (.nil))], op 7 .move [.const (.one (.bool false))]]) (.ret)) (.skip))) (.seq (.region false [mv 57 11, op 58 (.build [.bool false, .int .i64 (0 : Int), .int .i64 (0 : Int), .int .i64 (0 : Int)] [(0, 1), (1, 1)]) [.const (.one (.bool true)), .slot 57], ow 59 (.buildSlice false 2 7 (.pair (.bool) (.pair (.int .i64) (.pair (.int .i64) (.int .i64)))) 1 [(0, 4)] [.bool false, .int .i64 (0 : Int), .int .i64 (0 : Int), .int .i64 (0 : Int)]) [.slot 58] [2] [2], mv 12 59]) (.seq (.region false [op 13 .move [.const (.one (.int .i64 (0 : Int)))]]) (.seq (.seq (.region false [op 60 .move [.const (.one (.int .i64 (0 : Int)))]]) (.block 0 (.loop [.keep [1, 2, 3, 9, 11, 12, 13, 60], .drop 1, .drop 3, .norm] (impl_SettingOps.c1)))) (impl_SettingOps.c2)))))))))) }
def impl_SettingOps.env (N : Nat) : Env := envOf (tbl [(109, impl_ActivePage.fs N), (110, impl_FreeRecord.fs N), (112, impl_ReadSetting.fs N), (3, impl_isSetting.fs N), (111, impl_recordOps.fs N)] noFS)
def impl_SettingOps.F (N : Nat) (x : ((List (List Int)) × List Int) × Int × Int) : Option ((List (Bool × Int × Int × Int)) × Bool) := XFunc.run impl_SettingOps.x (impl_SettingOps.env N) N x
def impl_SettingOps.fs (N : Nat) : FS := { arg := .pair (.pair (.list (.list (.int .i64))) (.list (.int .i64))) (.pair (.int .i64) (.int .i64)), ret := .pair (.list (.pair (.bool) (.pair (.int .i64) (.pair (.int .i64) (.int .i64))))) (.bool), fresh := true, F := impl_SettingOps.F N }
def impl_SettingOps.k2 (N : Nat) : Ex → S → Option ((List (Bool × Int × Int × Int)) × Bool) := seqK (fun s => XCode.runK (impl_SettingOps.env N) N (impl_SettingOps.c2) s (XFunc.endK impl_SettingOps.x)) (XFunc.endK impl_SettingOps.x)
def impl_SettingOps.k1 (N : Nat) : Ex → S → Option ((List (Bool × Int × Int × Int)) × Bool) := blockK 0 (impl_SettingOps.k2 N)
def impl_SettingOps.L1 (N : Nat) (n1 : Nat) (setting : Int) (value : Int) (header : Int) (other : Int) (n_ : Int) (t60 : Int) (o00 : List (List Int)) (o01 : List Int) (o2 : List (Bool × Int × Int × Int)) : Option ((List (Bool × Int × Int × Int)) × Bool) := loopK [.keep [1, 2, 3, 9, 11, 12, 13, 60], .drop 1, .drop 3, .norm] (fun s k => XCode.runK (impl_SettingOps.env N) N impl_SettingOps.c1 s k) n1
  { t := [.junk, .one (.int .i64 setting), .one (.int .i64 value), .one (.ptr 0 0 0), .junk, .junk, .junk, .junk, .junk, .one (.int .i64 header), .junk, .one (.int .i64 other), .one (.ref 2 0 .all), .one (.int .i64 n_), .junk, .junk, .junk, .junk, .junk, .junk, .junk, .junk, .junk, .junk, .junk, .junk, .junk, .junk, .junk, .junk, .junk, .junk, .junk, .junk, .junk, .junk, .junk, .junk, .junk, .junk, .junk, .junk, .junk, .junk, .junk, .junk, .junk, .junk, .junk, .junk, .junk, .junk, .junk, .junk, .junk, .junk, .junk, .junk, .junk, .junk, .one (.int .i64 t60), .junk, .junk, .junk, .junk, .junk, .junk, .junk, .junk, .junk, .junk, .junk, .junk, .junk, .junk, .junk, .junk, .junk, .junk, .junk, .junk, .junk, .junk, .junk, .junk, .junk, .junk, .junk, .junk, .junk, .junk, .junk, .junk], h := [.box 0 false [.sl false (.list (.int .i64)) o00, .sl false (.int .i64) o01], .absent 0, .row 0 false true 7 (.pair (.bool) (.pair (.int .i64) (.pair (.int .i64) (.int .i64)))) o2, .absent 0] }
  (impl_SettingOps.k1 N)

theorem impl_SettingOps.L1_eq (N : Nat) (n1 : Nat) (setting : Int) (value : Int) (header : Int) (other : Int) (n_ : Int) (t60 : Int) (o00 : List (List Int)) (o01 : List Int) (o2 : List (Bool × Int × Int × Int)) : impl_SettingOps.L1 N (n1 + 1) setting value header other n_ t60 o00 o01 o2 =
    bif decide (t60 < (4 : Int)) then
      bindO (impl_ReadSetting.F N ((o00, o01), t60)) fun r5 =>
      bif t60 == setting then
        bindO (impl_recordOps.F N (other, (n_, (t60, (value, IntKind.wrap .i64 (header + (1 : Int))))))) fun r6 =>
        bif decide (List.length o2 + List.length r6 ≤ maxN) then
        impl_SettingOps.L1 N n1 setting value header other (IntKind.wrap .i64 (n_ + (1 : Int))) (IntKind.wrap .i64 (t60 + (1 : Int))) o00 o01 (o2 ++ r6)
        else none
      else
        bif r5.2 then
          bindO (impl_recordOps.F N (other, (n_, (t60, (r5.1, IntKind.wrap .i64 (header + (1 : Int))))))) fun r7 =>
          bif decide (List.length o2 + List.length r7 ≤ maxN) then
          impl_SettingOps.L1 N n1 setting value header other (IntKind.wrap .i64 (n_ + (1 : Int))) (IntKind.wrap .i64 (t60 + (1 : Int))) o00 o01 (o2 ++ r7)
          else none
        else
          impl_SettingOps.L1 N n1 setting value header other n_ (IntKind.wrap .i64 (t60 + (1 : Int))) o00 o01 o2
    else
      bif decide (List.length o2 + List.length ([(false, (other, ((0 : Int), IntKind.wrap .i64 (header + (1 : Int)))))] : List (Bool × Int × Int × Int)) ≤ maxN) then
      some (o2 ++ ([(false, (other, ((0 : Int), IntKind.wrap .i64 (header + (1 : Int)))))] : List (Bool × Int × Int × Int)), true)
      else none := by kernel_rfl
theorem impl_SettingOps.F_eq (N : Nat) (f : (List (List Int)) × List Int) (setting : Int) (value : Int) : impl_SettingOps.F N (f, setting, value) =
    bindO (impl_ActivePage.F N f) fun r1 =>
    bif decide (r1 < (0 : Int)) then
      some (([] : List (Bool × Int × Int × Int)), false)
    else
      bindO (impl_isSetting.F N (setting, value)) fun r2 =>
      bif !r2 then
        some (([] : List (Bool × Int × Int × Int)), false)
      else
        bif inRange r1 (List.length f.1) then
        bif inRange (0 : Int) (List.length (nth ([] : List Int) f.1 r1)) then
        bindO (impl_FreeRecord.F N (f, r1)) fun r3 =>
        bif decide (r3 < (6 : Int)) then
          bindO (impl_recordOps.F N (r1, (r3, (setting, (value, nth (0 : Int) (nth ([] : List Int) f.1 r1) (0 : Int)))))) fun r4 =>
          some (r4, true)
        else
          bif decide ((nth (0 : Int) (nth ([] : List Int) f.1 r1) (0 : Int)) ≥ (60000 : Int)) then
            some (([] : List (Bool × Int × Int × Int)), false)
          else
            bif inRange (IntKind.wrap .i64 ((1 : Int) - r1)) (List.length f.2) then
            bif decide ((nth (0 : Int) f.2 (IntKind.wrap .i64 ((1 : Int) - r1))) ≥ (1000 : Int)) then
              some (([] : List (Bool × Int × Int × Int)), false)
            else
              impl_SettingOps.L1 N N setting value (nth (0 : Int) (nth ([] : List Int) f.1 r1) (0 : Int)) (IntKind.wrap .i64 ((1 : Int) - r1)) (0 : Int) (0 : Int) f.1 f.2 ([(true, (IntKind.wrap .i64 ((1 : Int) - r1), ((0 : Int), (0 : Int))))] : List (Bool × Int × Int × Int))
            else none
        else none
        else none := by kernel_rfl

def impl_doOps.c1 : XCode := .seq (.region false [o2 16 (.bin .lss) 15 14]) (.seq (.cond (.slot 16) (.skip) (.exit 0)) (.seq (.block 1 (.seq (.region false [o2 17 (.indexAddr (.pair (.bool) (.pair (.int .i64) (.pair (.int .i64) (.int .i64))))) 13 15, o1 18 (.load true 4) 17, ow 8 (.alloc 3 [.bool false, .int .i64 (0 : Int), .int .i64 (0 : Int), .int .i64 (0 : Int)]) [] [3] [3], on (.store 4) [.slot 8, .slot 18] [3] [3]]) (.seq (.region false [ow 20 (.load true 2) [.slot 6] [2] [], ow 21 (.load true 4) [.slot 8] [3] [], ow 22 (.callH false ⟨116, [.val true 2, .val true 4], no 6, [.val true 2, .val false 1], [.imm, .own 6 2, .imm], true⟩) [.slot 20, .slot 21] [5, 6, 100] [6, 100], mv 19 22, o1 23 (.extract 0) 19, o1 24 (.extract 1) 19, ow 9 (.alloc 4 [.nil, .nil]) [] [4] [4], on (.store 2) [.slot 9, .slot 23] [4] [4], mv 10 24]) (.seq (.seq (.region false [mv 25 10, o1 26 .not 25]) (.cond (.slot 26) (.seq (.region false [op 27 (.build [.nil, .nil] []) [], on (.store 2) [.slot 4, .slot 27] [1] [1], op 5 .move [.const (.one (.bool false))]]) (.ret)) (.skip))) (.region false [ow 28 (.load true 2) [.slot 9] [4] [], on (.store 2) [.slot 6, .slot 28] [2] [2]]))))) (.region false [op 29 (.bin .add) [.slot 15, .const (.one (.int .i64 (1 : Int)))], mv 15 29])))
def impl_doOps.c2 : XCode := .seq (.region false [ow 30 (.load true 2) [.slot 6] [2] [], on (.store 2) [.slot 4, .slot 30] [1] [1], op 5 .move [.const (.one (.bool true))]]) (.ret)
def impl_doOps.x : XFunc := { nslots := 31, nobj := 7, pars := [.val true 2, .val false 1], rowsIn := [none, none, none], rets := [.var 4 true 2, .tmp 5 false 1], outs := [.imm, .own 2, .imm], fresh := true, arg := .pair (.pair (.list (.list (.int .i64))) (.list (.int .i64))) (.list (.pair (.bool) (.pair (.int .i64) (.pair (.int .i64) (.int .i64))))), ret := .pair (.pair (.list (.hnd (.int .i64))) (.list (.int .i64))) (.bool), body := .seq (.region false [ow 2 (.box 0) [.slot 0] [0] [0], ow 4 (.alloc 1 [.nil, .nil]) [] [1] [1], op 5 .move [.const (.one (.bool false))]]) (.seq (.region false [ow 11 (.load true 2) [.slot 2] [0] [], ow 12 (.callH false ⟨115, [.val true 2], no 2, [.val true 2], [.imm, .own 5 2], true⟩) [.slot 11] [5, 100] [5, 100], ow 6 (.alloc 2 [.nil, .nil]) [] [2] [2], on (.store 2) [.slot 6, .slot 12] [2] [2]]) (.seq (.seq (.region false [mv 13 1, o1 14 .len 13, op 15 .move [.const (.one (.int .i64 (0 : Int)))]]) (.block 0 (.loop [.rename 6 5, .keep [4, 6, 13, 14, 15], .drop 0, .drop 3, .drop 4, .drop 6, .norm] (impl_doOps.c1)))) (impl_doOps.c2))), hp := true }
def impl_doOps.env (N : Nat) : Env := envOf (tbl [(116, impl_DoFlash.fs N), (115, impl_copyFlash.fs N)] noFS)
def impl_doOps.H (N : Nat) (x : ((List (List Int)) × List Int) × List (Bool × Int × Int × Int)) (D : List HRow) : Option ((((List Hnd) × List Int) × Bool) × List HRow) := XFunc.runH impl_doOps.x (impl_doOps.env N) N x D
def impl_doOps.fs (N : Nat) : FS := { arg := .pair (.pair (.list (.list (.int .i64))) (.list (.int .i64))) (.list (.pair (.bool) (.pair (.int .i64) (.pair (.int .i64) (.int .i64))))), ret := .pair (.pair (.list (.hnd (.int .i64))) (.list (.int .i64))) (.bool), fresh := true, F := fun _ => none, hp := true, H := impl_doOps.H N }
def impl_doOps.k2 (N : Nat) : Ex → S → Option ((((List Hnd) × List Int) × Bool) × List HRow) := seqK (fun s => XCode.runK (impl_doOps.env N) N (impl_doOps.c2) s (XFunc.endKH impl_doOps.x)) (XFunc.endKH impl_doOps.x)
def impl_doOps.k1 (N : Nat) : Ex → S → Option ((((List Hnd) × List Int) × Bool) × List HRow) := blockK 0 (impl_doOps.k2 N)
def impl_doOps.L1 (N : Nat) (n1 : Nat) (t13 : List (Bool × Int × Int × Int)) (t14 : Int) (t15 : Int) (o20 : List Hnd) (o5 : List Int) (D : List HRow) : Option ((((List Hnd) × List Int) × Bool) × List HRow) := loopK [.rename 6 5, .keep [4, 6, 13, 14, 15], .drop 0, .drop 3, .drop 4, .drop 6, .norm] (fun s k => XCode.runK (impl_doOps.env N) N impl_doOps.c1 s k) n1
  { t := [.junk, .junk, .junk, .junk, .one (.ptr 1 0 0), .junk, .one (.ptr 2 0 0), .junk, .junk, .junk, .junk, .junk, .junk, .one (.sl false (.pair (.bool) (.pair (.int .i64) (.pair (.int .i64) (.int .i64)))) t13), .one (.int .i64 t14), .one (.int .i64 t15), .junk, .junk, .junk, .junk, .junk, .junk, .junk, .junk, .junk, .junk, .junk, .junk, .junk, .junk, .junk], h := [.absent 0, .box 0 false [.nil, .nil], .box 0 false [.sl true (.hnd (.int .i64)) o20, .ref 5 0 .all], .absent 0, .absent 0, .row 0 false true 2 (.int .i64) o5, .absent 0], d := D }
  (impl_doOps.k1 N)

theorem impl_doOps.L1_eq (N : Nat) (n1 : Nat) (t13 : List (Bool × Int × Int × Int)) (t14 : Int) (t15 : Int) (o20 : List Hnd) (o5 : List Int) (D : List HRow) : impl_doOps.L1 N (n1 + 1) t13 t14 t15 o20 o5 D =
    bif decide (t15 < t14) then
      bif inRange t15 (List.length t13) then
      bif List.all o20 (Ty.unok D (.hnd (.int .i64))) then
      bindO (impl_DoFlash.H N ((List.map (Ty.unden D (.hnd (.int .i64))) o20, o5), ((nth (false, ((0 : Int), ((0 : Int), (0 : Int)))) t13 t15).1, (((nth (false, ((0 : Int), ((0 : Int), (0 : Int)))) t13 t15).2).1, (((nth (false, ((0 : Int), ((0 : Int), (0 : Int)))) t13 t15).2).2)))) (hhide D)) fun r2 =>
      bif !r2.1.2 then
        some (((([] : List Hnd), ([] : List Int)), false), hmerge D r2.2)
      else
        impl_doOps.L1 N n1 t13 t14 (IntKind.wrap .i64 (t15 + (1 : Int))) r2.1.1.1 r2.1.1.2 (hmerge D r2.2)
      else none
      else none
    else
      some (((o20, o5), true), D) := by kernel_rfl
theorem impl_doOps.H_eq (N : Nat) (f : (List (List Int)) × List Int) (ops : List (Bool × Int × Int × Int)) (D : List HRow) : impl_doOps.H N (f, ops) D =
    bindO (impl_copyFlash.H N f (hhide D)) fun r1 =>
    impl_doOps.L1 N N ops (List.length ops : Int) (0 : Int) r1.1.1 r1.1.2 (hmerge D r1.2) := by kernel_rfl

def impl_CutSetting.x : XFunc := { nslots := 39, nobj := 3, pars := [.val true 2, .val false 1, .val false 1, .val false 1], rowsIn := [none, none, none, none, none], rets := [.var 8 true 2, .tmp 9 false 1], outs := [.imm, .own 2, .imm], fresh := true, arg := .pair (.pair (.list (.list (.int .i64))) (.list (.int .i64))) (.pair (.int .i64) (.pair (.int .i64) (.int .i64))), ret := .pair (.pair (.list (.hnd (.int .i64))) (.list (.int .i64))) (.bool), body := .seq (.region false [ow 4 (.box 0) [.slot 0] [0] [0], ow 8 (.alloc 1 [.nil, .nil]) [] [1] [1], op 9 .move [.const (.one (.bool false))]]) (.seq (.region false [ow 13 (.load true 2) [.slot 4] [0] [], mv 14 1, mv 15 2, op 16 (.call ⟨113, [.val true 2, .val false 1, .val false 1], no 4, [.val false 1, .val false 1], ims 2, true⟩) [.slot 13, .slot 14, .slot 15], mv 12 16, o1 17 (.extract 0) 12, o1 18 (.extract 1) 12, mv 10 17, mv 11 18]) (.seq (.seq (.region false [mv 19 11, o1 20 .not 19, ⟨some 21, .move, [.slot 20], [], [], none, true, .none⟩, ⟨some 22, .move, [.slot 3], [], [], some (21, false), false, .none⟩, ⟨some 23, .bin .lss, [.slot 22, .const (.one (.int .i64 (0 : Int)))], [], [], some (21, false), false, .none⟩, op 24 .pick [.slot 21, .const (.one (.bool true)), .slot 23], ⟨some 25, .move, [.slot 24], [], [], none, true, .none⟩, ⟨some 26, .move, [.slot 3], [], [], some (25, false), false, .none⟩, ⟨some 27, .move, [.slot 10], [], [], some (25, false), false, .none⟩, ⟨some 28, .len, [.slot 27], [], [], some (25, false), false, .none⟩, ⟨some 29, .bin .gtr, [.slot 26, .slot 28], [], [], some (25, false), false, .none⟩, op 30 .pick [.slot 25, .const (.one (.bool true)), .slot 29]]) (.cond (.slot 30) (.seq (.region false [op 31 (.build [.nil, .nil] []) [], on (.store 2) [.slot 8, .slot 31] [1] [1], op 9 .move [.const (.one (.bool false))]]) (.ret)) (.skip))) (.seq (.region true [ow 32 (.load true 2) [.slot 4] [0] [], mv 33 10, mv 34 3, o2 35 (.slice (.pair (.bool) (.pair (.int .i64) (.pair (.int .i64) (.int .i64)))) false true) 33 34, ow 36 (.callH false ⟨117, [.val true 2, .val false 1], no 3, [.val true 2, .val false 1], [.imm, .own 2 2, .imm], true⟩) [.slot 32, .slot 35] [2, 100] [2, 100], o1 37 (.extract 0) 36, o1 38 (.extract 1) 36, on (.store 2) [.slot 8, .slot 37] [1] [1], mv 9 38]) (.ret)))), hp := true }
def impl_CutSetting.env (N : Nat) : Env := envOf (tbl [(113, impl_SettingOps.fs N), (117, impl_doOps.fs N)] noFS)
def impl_CutSetting.H (N : Nat) (x : ((List (List Int)) × List Int) × Int × Int × Int) (D : List HRow) : Option ((((List Hnd) × List Int) × Bool) × List HRow) := XFunc.runH impl_CutSetting.x (impl_CutSetting.env N) N x D
def impl_CutSetting.fs (N : Nat) : FS := { arg := .pair (.pair (.list (.list (.int .i64))) (.list (.int .i64))) (.pair (.int .i64) (.pair (.int .i64) (.int .i64))), ret := .pair (.pair (.list (.hnd (.int .i64))) (.list (.int .i64))) (.bool), fresh := true, F := fun _ => none, hp := true, H := impl_CutSetting.H N }

theorem impl_CutSetting.H_eq (N : Nat) (f : (List (List Int)) × List Int) (setting : Int) (value : Int) (n_ : Int) (D : List HRow) : impl_CutSetting.H N (f, setting, value, n_) D =
    bindO (impl_SettingOps.F N (f, (setting, value))) fun r1 =>
    bif !r1.2 then
      some (((([] : List Hnd), ([] : List Int)), false), D)
    else
      bif decide (n_ < (0 : Int)) then
        some (((([] : List Hnd), ([] : List Int)), false), D)
      else
        bif decide (n_ > (List.length r1.1 : Int)) then
          some (((([] : List Hnd), ([] : List Int)), false), D)
        else
          bif decide (0 ≤ n_) && decide (n_ ≤ (List.length r1.1 : Int)) then
          bindO (impl_doOps.H N (f, List.take (Int.toNat n_) r1.1) (hhide D)) fun r2 =>
          some (r2.1, hmerge D r2.2)
          else none := by kernel_rfl

def impl_WriteSetting.x : XFunc := { nslots := 25, nobj := 3, pars := [.val true 2, .val false 1, .val false 1], rowsIn := [none, none, none, none], rets := [.var 6 true 2, .tmp 7 false 1], outs := [.imm, .own 2, .imm], fresh := true, arg := .pair (.pair (.list (.list (.int .i64))) (.list (.int .i64))) (.pair (.int .i64) (.int .i64)), ret := .pair (.pair (.list (.hnd (.int .i64))) (.list (.int .i64))) (.bool), body := .seq (.region false [ow 3 (.box 0) [.slot 0] [0] [0], ow 6 (.alloc 1 [.nil, .nil]) [] [1] [1], op 7 .move [.const (.one (.bool false))]]) (.seq (.region false [ow 11 (.load true 2) [.slot 3] [0] [], mv 12 1, mv 13 2, op 14 (.call ⟨113, [.val true 2, .val false 1, .val false 1], no 4, [.val false 1, .val false 1], ims 2, true⟩) [.slot 11, .slot 12, .slot 13], mv 10 14, o1 15 (.extract 0) 10, o1 16 (.extract 1) 10, mv 8 15, mv 9 16]) (.seq (.seq (.region false [mv 17 9, o1 18 .not 17]) (.cond (.slot 18) (.seq (.region false [op 19 (.build [.nil, .nil] []) [], on (.store 2) [.slot 6, .slot 19] [1] [1], op 7 .move [.const (.one (.bool false))]]) (.ret)) (.skip))) (.seq (.region false [ow 20 (.load true 2) [.slot 3] [0] [], mv 21 8, ow 22 (.callH false ⟨117, [.val true 2, .val false 1], no 3, [.val true 2, .val false 1], [.imm, .own 2 2, .imm], true⟩) [.slot 20, .slot 21] [2, 100] [2, 100], o1 23 (.extract 0) 22, o1 24 (.extract 1) 22, on (.store 2) [.slot 6, .slot 23] [1] [1], mv 7 24]) (.ret)))), hp := true }
def impl_WriteSetting.env (N : Nat) : Env := envOf (tbl [(113, impl_SettingOps.fs N), (117, impl_doOps.fs N)] noFS)
def impl_WriteSetting.H (N : Nat) (x : ((List (List Int)) × List Int) × Int × Int) (D : List HRow) : Option ((((List Hnd) × List Int) × Bool) × List HRow) := XFunc.runH impl_WriteSetting.x (impl_WriteSetting.env N) N x D
def impl_WriteSetting.fs (N : Nat) : FS := { arg := .pair (.pair (.list (.list (.int .i64))) (.list (.int .i64))) (.pair (.int .i64) (.int .i64)), ret := .pair (.pair (.list (.hnd (.int .i64))) (.list (.int .i64))) (.bool), fresh := true, F := fun _ => none, hp := true, H := impl_WriteSetting.H N }

theorem impl_WriteSetting.H_eq (N : Nat) (f : (List (List Int)) × List Int) (setting : Int) (value : Int) (D : List HRow) : impl_WriteSetting.H N (f, setting, value) D =
    bindO (impl_SettingOps.F N (f, (setting, value))) fun r1 =>
    bif !r1.2 then
      some (((([] : List Hnd), ([] : List Int)), false), D)
    else
      bindO (impl_doOps.H N (f, r1.1) (hhide D)) fun r2 =>
      some (r2.1, hmerge D r2.2) := by kernel_rfl

def spec_l1Once.x : XFunc := { nslots := 9, nobj := 1, pars := [.box 0 3, .val false 1], rowsIn := [none, none, none, none], rets := [.tmp 4 false 1], outs := [.imm, .imm, .imm, .imm], fresh := false, arg := .pair (.pair (.list (.int .u8)) (.pair (.int .i64) (.int .i64))) (.int .i64), ret := .pair (.bool) (.pair (.list (.int .u8)) (.pair (.int .i64) (.int .i64))), body := .seq (.region false [op 4 .move [.const (.one (.bool false))]]) (.seq (.region false [mv 5 0, mv 6 1, ow 7 (.call ⟨33, [.box 0 3, .val false 1], no 4, [.val false 1], ims 4, false⟩) [.slot 5, .slot 6] [0] [0], op 8 (.bin .eql) [.slot 7, .const (.one (.int .i64 (0 : Int)))], mv 4 8]) (.ret)) }
def spec_l1Once.env (N : Nat) : Env := envOf (tbl [(33, spec_l1Below.fs N)] noFS)
def spec_l1Once.F (N : Nat) (x : ((List Int) × Int × Int) × Int) : Option (Bool × (List Int) × Int × Int) := XFunc.run spec_l1Once.x (spec_l1Once.env N) N x
def spec_l1Once.fs (N : Nat) : FS := { arg := .pair (.pair (.list (.int .u8)) (.pair (.int .i64) (.int .i64))) (.int .i64), ret := .pair (.bool) (.pair (.list (.int .u8)) (.pair (.int .i64) (.int .i64))), fresh := false, F := spec_l1Once.F N }

theorem spec_l1Once.F_eq (N : Nat) (c : (List Int) × Int × Int) (n_ : Int) : spec_l1Once.F N (c, n_) =
    bindO (spec_l1Below.F N (c, n_)) fun r1 =>
    some (r1.1 == (0 : Int), r1.2) := by kernel_rfl

def spec_l14Draw.c1 : XCode := .seq (.seq (.region false [mv 17 6, op 18 (.bin .gtr) [.slot 17, .const (.one (.int .i64 (0 : Int)))]]) (.cond (.slot 18) (.skip) (.exit 0))) (.seq (.block 1 (.seq (.region false [mv 21 0, ow 22 (.call ⟨33, [.box 0 3, .val false 1], no 4, [.val false 1], ims 4, false⟩) [.slot 21, .const (.one (.int .i64 (4 : Int)))] [0] [0], mv 7 22]) (.seq (.region false [mv 23 0, ow 24 (.call ⟨33, [.box 0 3, .val false 1], no 4, [.val false 1], ims 4, false⟩) [.slot 23, .const (.one (.int .i64 (10000 : Int)))] [0] [0], mv 8 24]) (.seq (.region false [ow 26 (.load true 2) [.slot 5] [2] [], mv 27 7, mv 28 8, ow 29 (.call ⟨101, [.val true 2, .val false 1, .val false 1], no 4, [.val false 1, .val false 1], ims 2, true⟩) [.slot 26, .slot 27, .slot 28] [100] [], mv 25 29, o1 30 (.extract 0) 25, o1 31 (.extract 1) 25, mv 9 30, mv 10 31]) (.seq (.region false [mv 32 9, o1 33 .len 32, mv 11 33]) (.seq (.seq (.region false [mv 34 1, ⟨some 35, .move, [.slot 34], [], [], none, true, .none⟩, ⟨some 36, .move, [.slot 0], [], [], some (35, true), false, .none⟩, ⟨some 37, .call ⟨102, [.box 0 3, .val false 1], no 4, [.val false 1], ims 4, false⟩, [.slot 36, .const (.one (.int .i64 (4 : Int)))], [0], [0], some (35, true), false, .none⟩, op 38 .pick [.slot 35, .slot 37, .const (.one (.bool false))]]) (.cond (.slot 38) (.region false [mv 39 0, mv 40 9, o1 41 .len 40, op 42 (.bin .add) [.slot 41, .const (.one (.int .i64 (1 : Int)))], ow 43 (.call ⟨33, [.box 0 3, .val false 1], no 4, [.val false 1], ims 4, false⟩) [.slot 39, .slot 42] [0] [0], mv 11 43]) (.skip))) (.seq (.region false [ow 45 (.load true 2) [.slot 5] [2] [], mv 46 7, mv 47 8, mv 48 11, ow 49 (.callH false ⟨105, [.val true 2, .val false 1, .val false 1, .val false 1], no 5, [.val true 2, .val false 1], ims 3, true⟩) [.slot 45, .slot 46, .slot 47, .slot 48] [100] [100], mv 44 49, o1 50 (.extract 0) 44, o1 51 (.extract 1) 44, ow 12 (.alloc 3 [.nil, .nil]) [] [3] [3], on (.store 2) [.slot 12, .slot 50] [3] [3], mv 13 51]) (.seq (.region false [mv 52 13]) (.cond (.slot 52) (.region false [ow 53 (.load true 2) [.slot 12] [3] [], on (.store 2) [.slot 5, .slot 53] [2] [2]]) (.skip)))))))))) (.region false [mv 19 6, op 20 (.bin .sub) [.slot 19, .const (.one (.int .i64 (1 : Int)))], mv 6 20]))
def spec_l14Draw.c2 : XCode := .seq (.region false [ow 54 (.load true 2) [.slot 5] [2] [], on (.store 2) [.slot 4, .slot 54] [1] [1]]) (.ret)
def spec_l14Draw.x : XFunc := { nslots := 55, nobj := 4, pars := [.box 0 3, .val false 1], rowsIn := [none, none, none, none], rets := [.var 4 true 2], outs := [.imm, .imm, .imm, .imm, .imm], fresh := false, arg := .pair (.pair (.list (.int .u8)) (.pair (.int .i64) (.int .i64))) (.bool), ret := .pair (.pair (.list (.hnd (.int .i64))) (.list (.int .i64))) (.pair (.list (.int .u8)) (.pair (.int .i64) (.int .i64))), body := .seq (.region false [ow 4 (.alloc 1 [.nil, .nil]) [] [1] [1]]) (.seq (.region false [ow 14 (.callH false ⟨95, [], [], [.val true 2], ims 2, true⟩) [] [100] [100], ow 5 (.alloc 2 [.nil, .nil]) [] [2] [2], on (.store 2) [.slot 5, .slot 14] [2] [2]]) (.seq (.seq (.region false [mv 15 0, ow 16 (.call ⟨33, [.box 0 3, .val false 1], no 4, [.val false 1], ims 4, false⟩) [.slot 15, .const (.one (.int .i64 (14 : Int)))] [0] [0], mv 6 16]) (.block 0 (.loop [.keep [0, 1, 4, 5, 6], .drop 3, .norm] (spec_l14Draw.c1)))) (spec_l14Draw.c2))), hp := true }
def spec_l14Draw.env (N : Nat) : Env := envOf (tbl [(105, spec_CutSetting.fs N), (95, spec_NewFlash.fs N), (101, spec_SettingOps.fs N), (33, spec_l1Below.fs N), (102, spec_l1Once.fs N)] noFS)
def spec_l14Draw.H (N : Nat) (x : ((List Int) × Int × Int) × Bool) (D : List HRow) : Option ((((List Hnd) × List Int) × (List Int) × Int × Int) × List HRow) := XFunc.runH spec_l14Draw.x (spec_l14Draw.env N) N x D
def spec_l14Draw.fs (N : Nat) : FS := { arg := .pair (.pair (.list (.int .u8)) (.pair (.int .i64) (.int .i64))) (.bool), ret := .pair (.pair (.list (.hnd (.int .i64))) (.list (.int .i64))) (.pair (.list (.int .u8)) (.pair (.int .i64) (.int .i64))), fresh := false, F := fun _ => none, hp := true, H := spec_l14Draw.H N }
def spec_l14Draw.k2 (N : Nat) : Ex → S → Option ((((List Hnd) × List Int) × (List Int) × Int × Int) × List HRow) := seqK (fun s => XCode.runK (spec_l14Draw.env N) N (spec_l14Draw.c2) s (XFunc.endKH spec_l14Draw.x)) (XFunc.endKH spec_l14Draw.x)
def spec_l14Draw.k1 (N : Nat) : Ex → S → Option ((((List Hnd) × List Int) × (List Int) × Int × Int) × List HRow) := blockK 0 (spec_l14Draw.k2 N)
def spec_l14Draw.L1 (N : Nat) (n1 : Nat) (cuts : Bool) (n_ : Int) (c0 : List Int) (c1 : Int) (c2 : Int) (o20 : List Hnd) (o21 : List Int) (D : List HRow) : Option ((((List Hnd) × List Int) × (List Int) × Int × Int) × List HRow) := loopK [.keep [0, 1, 4, 5, 6], .drop 3, .norm] (fun s k => XCode.runK (spec_l14Draw.env N) N spec_l14Draw.c1 s k) n1
  { t := [.one (.ptr 0 0 0), .one (.bool cuts), .junk, .junk, .one (.ptr 1 0 0), .one (.ptr 2 0 0), .one (.int .i64 n_), .junk, .junk, .junk, .junk, .junk, .junk, .junk, .junk, .junk, .junk, .junk, .junk, .junk, .junk, .junk, .junk, .junk, .junk, .junk, .junk, .junk, .junk, .junk, .junk, .junk, .junk, .junk, .junk, .junk, .junk, .junk, .junk, .junk, .junk, .junk, .junk, .junk, .junk, .junk, .junk, .junk, .junk, .junk, .junk, .junk, .junk, .junk, .junk], h := [.box 0 true [.sl false (.int .u8) c0, .int .i64 c1, .int .i64 c2], .box 0 false [.nil, .nil], .box 0 false [.sl true (.hnd (.int .i64)) o20, .sl true (.int .i64) o21], .absent 0], d := D }
  (spec_l14Draw.k1 N)

theorem spec_l14Draw.L1_eq (N : Nat) (n1 : Nat) (cuts : Bool) (n_ : Int) (c0 : List Int) (c1 : Int) (c2 : Int) (o20 : List Hnd) (o21 : List Int) (D : List HRow) : spec_l14Draw.L1 N (n1 + 1) cuts n_ c0 c1 c2 o20 o21 D =
    bif decide (n_ > (0 : Int)) then
      bindO (spec_l1Below.F N ((c0, (c1, c2)), (4 : Int))) fun r3 =>
      bindO (spec_l1Below.F N (r3.2, (10000 : Int))) fun r4 =>
      bif List.all o20 (Ty.unok D (.hnd (.int .i64))) then
      bindO (spec_SettingOps.F N ((List.map (Ty.unden D (.hnd (.int .i64))) o20, o21), (r3.1, r4.1))) fun r5 =>
      bif cuts then
        bindO (spec_l1Once.F N (r4.2, (4 : Int))) fun r6 =>
        bif r6.1 then
          bindO (spec_l1Below.F N (r6.2, IntKind.wrap .i64 ((List.length r5.1 : Int) + (1 : Int)))) fun r7 =>
          bif List.all o20 (Ty.unok D (.hnd (.int .i64))) then
          bindO (spec_CutSetting.H N ((List.map (Ty.unden D (.hnd (.int .i64))) o20, o21), (r3.1, (r4.1, r7.1))) (hhide D)) fun r8 =>
          bif r8.1.2 then
            spec_l14Draw.L1 N n1 cuts (IntKind.wrap .i64 (n_ - (1 : Int))) r7.2.1 r7.2.2.1 r7.2.2.2 r8.1.1.1 r8.1.1.2 (hmerge D r8.2)
          else
            spec_l14Draw.L1 N n1 cuts (IntKind.wrap .i64 (n_ - (1 : Int))) r7.2.1 r7.2.2.1 r7.2.2.2 o20 o21 (hmerge D r8.2)
          else none
        else
          bif List.all o20 (Ty.unok D (.hnd (.int .i64))) then
          bindO (spec_CutSetting.H N ((List.map (Ty.unden D (.hnd (.int .i64))) o20, o21), (r3.1, (r4.1, (List.length r5.1 : Int)))) (hhide D)) fun r9 =>
          bif r9.1.2 then
            spec_l14Draw.L1 N n1 cuts (IntKind.wrap .i64 (n_ - (1 : Int))) r6.2.1 r6.2.2.1 r6.2.2.2 r9.1.1.1 r9.1.1.2 (hmerge D r9.2)
          else
            spec_l14Draw.L1 N n1 cuts (IntKind.wrap .i64 (n_ - (1 : Int))) r6.2.1 r6.2.2.1 r6.2.2.2 o20 o21 (hmerge D r9.2)
          else none
      else
        bif List.all o20 (Ty.unok D (.hnd (.int .i64))) then
        bindO (spec_CutSetting.H N ((List.map (Ty.unden D (.hnd (.int .i64))) o20, o21), (r3.1, (r4.1, (List.length r5.1 : Int)))) (hhide D)) fun r10 =>
        bif r10.1.2 then
          spec_l14Draw.L1 N n1 cuts (IntKind.wrap .i64 (n_ - (1 : Int))) r4.2.1 r4.2.2.1 r4.2.2.2 r10.1.1.1 r10.1.1.2 (hmerge D r10.2)
        else
          spec_l14Draw.L1 N n1 cuts (IntKind.wrap .i64 (n_ - (1 : Int))) r4.2.1 r4.2.2.1 r4.2.2.2 o20 o21 (hmerge D r10.2)
        else none
      else none
    else
      some (((o20, o21), (c0, (c1, c2))), D) := by kernel_rfl
theorem spec_l14Draw.H_eq (N : Nat) (c : (List Int) × Int × Int) (cuts : Bool) (D : List HRow) : spec_l14Draw.H N (c, cuts) D =
    bindO (spec_NewFlash.H N () (hhide D)) fun r1 =>
    bindO (spec_l1Below.F N (c, (14 : Int))) fun r2 =>
    spec_l14Draw.L1 N N cuts r2.1 r2.2.1 r2.2.2.1 r2.2.2.2 r1.1.1 r1.1.2 (hmerge D r1.2) := by kernel_rfl

def spec_MakeFlash.x : XFunc := { nslots := 9, nobj := 2, pars := [.val false 1, .val false 1], rowsIn := [none, none], rets := [.var 4 true 2], outs := [.imm, .imm], fresh := false, arg := .pair (.list (.int .u8)) (.bool), ret := .pair (.list (.hnd (.int .i64))) (.list (.int .i64)), body := .seq (.region false [ow 4 (.alloc 0 [.nil, .nil]) [] [0] [0]]) (.seq (.region false [mv 5 0, ow 6 (.call ⟨237, vs 2, no 2, [.box 1 3], ims 3, false⟩) [.slot 5, .const (.one (.int .i64 (13 : Int)))] [1] [1], mv 7 1, ow 8 (.callH false ⟨106, [.box 1 3, .val false 1], no 4, [.val true 2], ims 5, false⟩) [.slot 6, .slot 7] [1, 100] [1, 100], on (.store 2) [.slot 4, .slot 8] [0] [0]]) (.ret)), hp := true }
def spec_MakeFlash.env (N : Nat) : Env := envOf (tbl [(106, spec_l14Draw.fs N), (237, spec_l24New.fs N)] noFS)
def spec_MakeFlash.H (N : Nat) (x : (List Int) × Bool) (D : List HRow) : Option (((List Hnd) × List Int) × List HRow) := XFunc.runH spec_MakeFlash.x (spec_MakeFlash.env N) N x D
def spec_MakeFlash.fs (N : Nat) : FS := { arg := .pair (.list (.int .u8)) (.bool), ret := .pair (.list (.hnd (.int .i64))) (.list (.int .i64)), fresh := false, F := fun _ => none, hp := true, H := spec_MakeFlash.H N }

theorem spec_MakeFlash.H_eq (N : Nat) (code : List Int) (cuts : Bool) (D : List HRow) : spec_MakeFlash.H N (code, cuts) D =
    bindO (spec_l24New.F N (code, (13 : Int))) fun r1 =>
    bindO (spec_l14Draw.H N (r1, cuts) (hhide D)) fun r2 =>
    some (r2.1.1, hmerge D r2.2) := by kernel_rfl

def laws_FnCuts.c1 : XCode := .seq (.seq (.region false [mv 59 11, op 60 (.bin .lss) [.slot 59, .const (.one (.int .i64 (4 : Int)))]]) (.cond (.slot 60) (.skip) (.exit 0))) (.seq (.block 1 (.seq (.region false [ow 64 (.load true 2) [.slot 3] [0] [], mv 65 11, ow 66 (.call ⟨112, [.val true 2, .val false 1], no 3, [.val false 1, .val false 1], ims 2, true⟩) [.slot 64, .slot 65] [100] [], mv 63 66, o1 67 (.extract 0) 63, o1 68 (.extract 1) 63, mv 12 67, mv 13 68]) (.seq (.region false [ow 70 (.load true 2) [.slot 9] [1] [], mv 71 11, ow 72 (.call ⟨112, [.val true 2, .val false 1], no 3, [.val false 1, .val false 1], ims 2, true⟩) [.slot 70, .slot 71] [100] [], mv 69 72, o1 73 (.extract 0) 69, o1 74 (.extract 1) 69, mv 14 73, mv 15 74]) (.seq (.region false [mv 75 12, mv 76 14, o2 77 (.bin .eql) 75 76, ⟨some 78, .move, [.slot 77], [], [], none, true, .none⟩, ⟨some 79, .move, [.slot 13], [], [], some (78, true), false, .none⟩, ⟨some 80, .move, [.slot 15], [], [], some (78, true), false, .none⟩, ⟨some 81, .eqBool false, [.slot 79, .slot 80], [], [], some (78, true), false, .none⟩, op 82 .pick [.slot 78, .slot 81, .const (.one (.bool false))], mv 16 82]) (.seq (.region false [mv 83 16, o1 84 .not 83, ⟨some 85, .move, [.slot 84], [], [], none, true, .none⟩, ⟨some 86, .move, [.slot 11], [], [], some (85, true), false, .none⟩, ⟨some 87, .move, [.slot 4], [], [], some (85, true), false, .none⟩, ⟨some 88, .bin .eql, [.slot 86, .slot 87], [], [], some (85, true), false, .none⟩, ⟨some 89, .move, [.slot 88], [], [], some (85, true), true, .none⟩, ⟨some 90, .move, [.slot 15], [], [], some (89, true), false, .none⟩, ⟨some 91, .pick, [.slot 89, .slot 90, .const (.one (.bool false))], [], [], some (85, true), false, .none⟩, ⟨some 92, .move, [.slot 91], [], [], some (85, true), true, .none⟩, ⟨some 93, .move, [.slot 14], [], [], some (92, true), false, .none⟩, ⟨some 94, .move, [.slot 5], [], [], some (92, true), false, .none⟩, ⟨some 95, .bin .eql, [.slot 93, .slot 94], [], [], some (92, true), false, .none⟩, ⟨some 96, .pick, [.slot 92, .slot 95, .const (.one (.bool false))], [], [], some (85, true), false, .none⟩, ⟨some 97, .not, [.slot 96], [], [], some (85, true), false, .none⟩, op 98 .pick [.slot 85, .slot 97, .const (.one (.bool false))]]) (.cond (.slot 98) (.seq (.region false [op 2 .move [.const (.one (.bool false))]]) (.ret)) (.skip))))))) (.region false [mv 61 11, op 62 (.bin .add) [.slot 61, .const (.one (.int .i64 (1 : Int)))], mv 11 62]))
def laws_FnCuts.c2 : XCode := .seq (.region false [mv 99 0, op 100 (.call ⟨81, vs 3, no 3, [.val false 1], ims 1, true⟩) [.slot 99, .const (.one (.int .i64 (123 : Int))), .const (.one (.int .i64 (10000 : Int)))], mv 17 100]) (.seq (.region false [ow 102 (.load true 2) [.slot 9] [1] [], mv 103 4, mv 104 17, ow 105 (.callH false ⟨119, [.val true 2, .val false 1, .val false 1], no 4, [.val true 2, .val false 1], ims 3, true⟩) [.slot 102, .slot 103, .slot 104] [100] [100], mv 101 105, o1 106 (.extract 0) 101, o1 107 (.extract 1) 101, ow 18 (.alloc 2 [.nil, .nil]) [] [2] [2], on (.store 2) [.slot 18, .slot 106] [2] [2], mv 19 107]) (.seq (.region false [ow 109 (.load true 2) [.slot 18] [2] [], mv 110 4, ow 111 (.call ⟨112, [.val true 2, .val false 1], no 3, [.val false 1, .val false 1], ims 2, true⟩) [.slot 109, .slot 110] [100] [], mv 108 111, o1 112 (.extract 0) 108, o1 113 (.extract 1) 108, mv 20 112, mv 21 113]) (.seq (.region false [mv 114 19, ⟨some 115, .move, [.slot 114], [], [], none, true, .none⟩, ⟨some 116, .move, [.slot 21], [], [], some (115, true), false, .none⟩, op 117 .pick [.slot 115, .slot 116, .const (.one (.bool false))], ⟨some 118, .move, [.slot 117], [], [], none, true, .none⟩, ⟨some 119, .move, [.slot 20], [], [], some (118, true), false, .none⟩, ⟨some 120, .move, [.slot 17], [], [], some (118, true), false, .none⟩, ⟨some 121, .bin .eql, [.slot 119, .slot 120], [], [], some (118, true), false, .none⟩, op 122 .pick [.slot 118, .slot 121, .const (.one (.bool false))], mv 2 122]) (.ret))))
def laws_FnCuts.x : XFunc := { nslots := 123, nobj := 3, pars := [.val false 1], rowsIn := [none], rets := [.tmp 2 false 1], outs := [.imm], fresh := true, arg := .list (.int .u8), ret := .bool, body := .seq (.region false [op 2 .move [.const (.one (.bool false))]]) (.seq (.seq (.region false [mv 22 0, o1 23 (.call ⟨31, vs 1, no 1, [.val false 1], ims 1, true⟩) 22]) (.cond (.slot 23) (.seq (.region false [op 2 .move [.const (.one (.bool true))]]) (.ret)) (.skip))) (.seq (.region false [mv 24 0, ow 25 (.callH false ⟨107, vs 2, no 2, [.val true 2], ims 2, false⟩) [.slot 24, .const (.one (.bool true))] [100] [100], ow 3 (.alloc 0 [.nil, .nil]) [] [0] [0], on (.store 2) [.slot 3, .slot 25] [0] [0]]) (.seq (.region false [mv 26 0, op 27 (.call ⟨81, vs 3, no 3, [.val false 1], ims 1, true⟩) [.slot 26, .const (.one (.int .i64 (120 : Int))), .const (.one (.int .i64 (4 : Int)))], mv 4 27]) (.seq (.region false [mv 28 0, op 29 (.call ⟨81, vs 3, no 3, [.val false 1], ims 1, true⟩) [.slot 28, .const (.one (.int .i64 (121 : Int))), .const (.one (.int .i64 (10000 : Int)))], mv 5 29]) (.seq (.region false [ow 31 (.load true 2) [.slot 3] [0] [], mv 32 4, mv 33 5, ow 34 (.call ⟨113, [.val true 2, .val false 1, .val false 1], no 4, [.val false 1, .val false 1], ims 2, true⟩) [.slot 31, .slot 32, .slot 33] [100] [], mv 30 34, o1 35 (.extract 0) 30, o1 36 (.extract 1) 30, mv 6 35, mv 7 36]) (.seq (.seq (.region false [mv 37 7, o1 38 .not 37]) (.cond (.slot 38) (.seq (.region false [op 2 .move [.const (.one (.bool false))]]) (.ret)) (.skip))) (.seq (.region false [mv 39 0, mv 40 6, o1 41 .len 40, op 42 (.bin .add) [.slot 41, .const (.one (.int .i64 (1 : Int)))], op 43 (.call ⟨81, vs 3, no 3, [.val false 1], ims 1, true⟩) [.slot 39, .const (.one (.int .i64 (122 : Int))), .slot 42], mv 8 43]) (.seq (.region false [ow 45 (.load true 2) [.slot 3] [0] [], mv 46 4, mv 47 5, mv 48 8, ow 49 (.callH false ⟨118, [.val true 2, .val false 1, .val false 1, .val false 1], no 5, [.val true 2, .val false 1], ims 3, true⟩) [.slot 45, .slot 46, .slot 47, .slot 48] [100] [100], mv 44 49, o1 50 (.extract 0) 44, o1 51 (.extract 1) 44, ow 9 (.alloc 1 [.nil, .nil]) [] [1] [1], on (.store 2) [.slot 9, .slot 50] [1] [1], mv 10 51]) (.seq (.seq (.region false [mv 52 10, o1 53 .not 52, ⟨some 54, .move, [.slot 53], [], [], none, true, .none⟩, ⟨some 55, .load true 2, [.slot 9], [1], [], some (54, false), false, .none⟩, ⟨some 56, .call ⟨108, [.val true 2], no 2, [.val false 1], ims 1, true⟩, [.slot 55], [100], [], some (54, false), false, .none⟩, ⟨some 57, .not, [.slot 56], [], [], some (54, false), false, .none⟩, op 58 .pick [.slot 54, .const (.one (.bool true)), .slot 57]]) (.cond (.slot 58) (.seq (.region false [op 2 .move [.const (.one (.bool false))]]) (.ret)) (.skip))) (.seq (.seq (.region false [op 11 .move [.const (.one (.int .i64 (0 : Int)))]]) (.block 0 (.loop [.keep [0, 3, 4, 5, 9, 11], .drop 2, .norm] (laws_FnCuts.c1)))) (laws_FnCuts.c2))))))))))) }
def laws_FnCuts.env (N : Nat) : Env := envOf (tbl [(118, impl_CutSetting.fs N), (108, impl_IsFlash.fs N), (112, impl_ReadSetting.fs N), (113, impl_SettingOps.fs N), (119, impl_WriteSetting.fs N), (31, laws_big.fs N), (107, spec_MakeFlash.fs N), (81, spec_MakeNumber.fs N)] noFS)
def laws_FnCuts.F (N : Nat) (x : List Int) : Option Bool := XFunc.run laws_FnCuts.x (laws_FnCuts.env N) N x
def laws_FnCuts.fs (N : Nat) : FS := { arg := .list (.int .u8), ret := .bool, fresh := true, F := laws_FnCuts.F N }
def laws_FnCuts.k2 (N : Nat) : Ex → S → Option Bool := seqK (fun s => XCode.runK (laws_FnCuts.env N) N (laws_FnCuts.c2) s (XFunc.endK laws_FnCuts.x)) (XFunc.endK laws_FnCuts.x)
def laws_FnCuts.k1 (N : Nat) : Ex → S → Option Bool := blockK 0 (laws_FnCuts.k2 N)
def laws_FnCuts.L1 (N : Nat) (n1 : Nat) (code : List Int) (s_ : Int) (v : Int) (i : Int) (o00 : List Hnd) (o01 : List Int) (o10 : List Hnd) (o11 : List Int) (D : List HRow) : Option Bool := loopK [.keep [0, 3, 4, 5, 9, 11], .drop 2, .norm] (fun s k => XCode.runK (laws_FnCuts.env N) N laws_FnCuts.c1 s k) n1
  { t := [.one (.sl false (.int .u8) code), .junk, .junk, .one (.ptr 0 0 0), .one (.int .i64 s_), .one (.int .i64 v), .junk, .junk, .junk, .one (.ptr 1 0 0), .junk, .one (.int .i64 i), .junk, .junk, .junk, .junk, .junk, .junk, .junk, .junk, .junk, .junk, .junk, .junk, .junk, .junk, .junk, .junk, .junk, .junk, .junk, .junk, .junk, .junk, .junk, .junk, .junk, .junk, .junk, .junk, .junk, .junk, .junk, .junk, .junk, .junk, .junk, .junk, .junk, .junk, .junk, .junk, .junk, .junk, .junk, .junk, .junk, .junk, .junk, .junk, .junk, .junk, .junk, .junk, .junk, .junk, .junk, .junk, .junk, .junk, .junk, .junk, .junk, .junk, .junk, .junk, .junk, .junk, .junk, .junk, .junk, .junk, .junk, .junk, .junk, .junk, .junk, .junk, .junk, .junk, .junk, .junk, .junk, .junk, .junk, .junk, .junk, .junk, .junk, .junk, .junk, .junk, .junk, .junk, .junk, .junk, .junk, .junk, .junk, .junk, .junk, .junk, .junk, .junk, .junk, .junk, .junk, .junk, .junk, .junk, .junk, .junk, .junk], h := [.box 0 false [.sl false (.hnd (.int .i64)) o00, .sl false (.int .i64) o01], .box 0 false [.sl true (.hnd (.int .i64)) o10, .sl true (.int .i64) o11], .absent 0], d := D }
  (laws_FnCuts.k1 N)

theorem laws_FnCuts.L1_eq (N : Nat) (n1 : Nat) (code : List Int) (s_ : Int) (v : Int) (i : Int) (o00 : List Hnd) (o01 : List Int) (o10 : List Hnd) (o11 : List Int) (D : List HRow) : laws_FnCuts.L1 N (n1 + 1) code s_ v i o00 o01 o10 o11 D =
    bif decide (i < (4 : Int)) then
      bif List.all o00 (Ty.unok D (.hnd (.int .i64))) then
      bindO (impl_ReadSetting.F N ((List.map (Ty.unden D (.hnd (.int .i64))) o00, o01), i)) fun r9 =>
      bif List.all o10 (Ty.unok D (.hnd (.int .i64))) then
      bindO (impl_ReadSetting.F N ((List.map (Ty.unden D (.hnd (.int .i64))) o10, o11), i)) fun r10 =>
      bif r9.1 == r10.1 then
        bif !(r9.2 == r10.2) then
          bif i == s_ then
            bif r10.2 then
              bif !(r10.1 == v) then
                some false
              else
                laws_FnCuts.L1 N n1 code s_ v (IntKind.wrap .i64 (i + (1 : Int))) o00 o01 o10 o11 D
            else
              some false
          else
            some false
        else
          laws_FnCuts.L1 N n1 code s_ v (IntKind.wrap .i64 (i + (1 : Int))) o00 o01 o10 o11 D
      else
        bif i == s_ then
          bif r10.2 then
            bif !(r10.1 == v) then
              some false
            else
              laws_FnCuts.L1 N n1 code s_ v (IntKind.wrap .i64 (i + (1 : Int))) o00 o01 o10 o11 D
          else
            some false
        else
          some false
      else none
      else none
    else
      bindO (spec_MakeNumber.F N (code, ((123 : Int), (10000 : Int)))) fun r11 =>
      bif List.all o10 (Ty.unok D (.hnd (.int .i64))) then
      bindO (impl_WriteSetting.H N ((List.map (Ty.unden D (.hnd (.int .i64))) o10, o11), (s_, r11)) (hhide D)) fun r12 =>
      bif List.all r12.1.1.1 (Ty.unok (hmerge D r12.2) (.hnd (.int .i64))) then
      bindO (impl_ReadSetting.F N ((List.map (Ty.unden (hmerge D r12.2) (.hnd (.int .i64))) r12.1.1.1, r12.1.1.2), s_)) fun r13 =>
      bif r12.1.2 then
        bif r13.2 then
          some (r13.1 == r11)
        else
          some false
      else
        some false
      else none
      else none := by kernel_rfl
theorem laws_FnCuts.F_eq (N : Nat) (code : List Int) : laws_FnCuts.F N code =
    bindO (laws_big.F N code) fun r1 =>
    bif r1 then
      some true
    else
      bindO (spec_MakeFlash.H N (code, true) (hhide ([] : List HRow))) fun r2 =>
      bindO (spec_MakeNumber.F N (code, ((120 : Int), (4 : Int)))) fun r3 =>
      bindO (spec_MakeNumber.F N (code, ((121 : Int), (10000 : Int)))) fun r4 =>
      bif List.all r2.1.1 (Ty.unok (hmerge ([] : List HRow) r2.2) (.hnd (.int .i64))) then
      bindO (impl_SettingOps.F N ((List.map (Ty.unden (hmerge ([] : List HRow) r2.2) (.hnd (.int .i64))) r2.1.1, r2.1.2), (r3, r4))) fun r5 =>
      bif !r5.2 then
        some false
      else
        bindO (spec_MakeNumber.F N (code, ((122 : Int), IntKind.wrap .i64 ((List.length r5.1 : Int) + (1 : Int))))) fun r6 =>
        bif List.all r2.1.1 (Ty.unok (hmerge ([] : List HRow) r2.2) (.hnd (.int .i64))) then
        bindO (impl_CutSetting.H N ((List.map (Ty.unden (hmerge ([] : List HRow) r2.2) (.hnd (.int .i64))) r2.1.1, r2.1.2), (r3, (r4, r6))) (hhide (hmerge ([] : List HRow) r2.2))) fun r7 =>
        bif !r7.1.2 then
          some false
        else
          bif List.all r7.1.1.1 (Ty.unok (hmerge (hmerge ([] : List HRow) r2.2) r7.2) (.hnd (.int .i64))) then
          bindO (impl_IsFlash.F N (List.map (Ty.unden (hmerge (hmerge ([] : List HRow) r2.2) r7.2) (.hnd (.int .i64))) r7.1.1.1, r7.1.1.2)) fun r8 =>
          bif !r8 then
            some false
          else
            laws_FnCuts.L1 N N code r3 r4 (0 : Int) r2.1.1 r2.1.2 r7.1.1.1 r7.1.1.2 (hmerge (hmerge ([] : List HRow) r2.2) r7.2)
          else none
        else none
      else none := by kernel_rfl

end Go.Kb
