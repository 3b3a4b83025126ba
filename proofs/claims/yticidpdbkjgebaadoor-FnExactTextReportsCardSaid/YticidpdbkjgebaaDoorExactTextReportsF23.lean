/- The texts of functions, printed by a program, and the equations of their runs. -/
import Derived.Test.YticidpdbkjgebaaDoorExactTextReportsF22
import Derived.Test.YticidpdbkjgebaaDoorExactTextReportsF9
import Derived.KernelRfl
namespace Go.Kb
def spec_TextReports.c1 : XCode := .seq (.seq (.region false [mv 9 5, mv 10 0, o1 11 .strLen 10, o2 12 (.bin .lss) 9 11, ⟨some 13, .move, [.slot 12], [], [], none, true, .none⟩, ⟨some 14, .move, [.slot 0], [], [], some (13, true), false, .none⟩, ⟨some 15, .strLen, [.slot 14], [], [], some (13, true), false, .none⟩, ⟨some 16, .bin .leq, [.slot 15, .const (.one (.int .i64 (60 : Int)))], [], [], some (13, true), false, .none⟩, op 17 .pick [.slot 13, .slot 16, .const (.one (.bool false))]]) (.cond (.slot 17) (.skip) (.exit 0))) (.seq (.block 1 (.seq (.region false [mv 21 0, mv 22 5, o2 23 .strIndex 21 22, o1 24 (.call ⟨376, vs 1, no 1, [.val false 1, .val false 1], ims 2, true⟩) 23, mv 20 24, o1 25 (.extract 0) 20, o1 26 (.extract 1) 20, mv 6 25, mv 7 26]) (.seq (.seq (.region false [mv 27 6, op 28 (.bin .eql) [.slot 27, .const (.one (.int .i64 (0 : Int)))]]) (.cond (.slot 28) (.seq (.region false [ow 29 (.buildSlice false 1 12 (.pair (.int .i64) (.list (.int .i64))) 0 [] [.int .i64 (0 : Int), .nil]) [] [1] [1], mv 2 29, op 3 .move [.const (.one (.bool false))]]) (.ret)) (.skip))) (.region false [mv 30 4, mv 31 7, mv 32 6, o1 33 (.buildSlice true 2 2 (.int .i64) 1 [(0, 1)] [.int .i64 (0 : Int)]) 32, o2 34 (.build [.int .i64 (0 : Int), .nil] [(0, 1), (1, 1)]) 31 33, op 35 (.buildSlice true 3 2 (.int .i64) 0 [] [.int .i64 (0 : Int)]) [], o1 36 (.build [.int .i64 (0 : Int), .nil] [(1, 1)]) 35, ow 37 (.buildSlice false 4 12 (.pair (.int .i64) (.list (.int .i64))) 2 [(0, 2), (2, 2)] [.int .i64 (0 : Int), .nil]) [.slot 34, .slot 36] [4] [4], ow 38 (.append false 0 12 (.pair (.int .i64) (.list (.int .i64)))) [.slot 30, .slot 37] [0, 4] [0], mv 4 38])))) (.region false [mv 18 5, op 19 (.bin .add) [.slot 18, .const (.one (.int .i64 (1 : Int)))], mv 5 19]))
def spec_TextReports.c2 : XCode := .seq (.seq (.region false [mv 39 0, o1 40 .strLen 39, op 41 (.bin .gtr) [.slot 40, .const (.one (.int .i64 (60 : Int)))]]) (.cond (.slot 41) (.seq (.region false [ow 42 (.buildSlice false 5 12 (.pair (.int .i64) (.list (.int .i64))) 0 [] [.int .i64 (0 : Int), .nil]) [] [5] [5], mv 2 42, op 3 .move [.const (.one (.bool false))]]) (.ret)) (.skip))) (.seq (.region false [mv 43 4, mv 2 43, op 3 .move [.const (.one (.bool true))]]) (.ret))
def spec_TextReports.x : XFunc := { nslots := 44, nobj := 6, pars := [.val false 1], rowsIn := [none], rets := [.tmp 2 false 1, .tmp 3 false 1], outs := [.own 12, .imm], fresh := true, arg := .str, ret := .pair (.list (.pair (.int .i64) (.list (.int .i64)))) (.bool), body := .seq (.region false [op 2 .move [.const (.one (.nil))], op 3 .move [.const (.one (.bool false))]]) (.seq (.region false [ow 8 (.buildSlice false 0 12 (.pair (.int .i64) (.list (.int .i64))) 0 [] [.int .i64 (0 : Int), .nil]) [] [0] [0], mv 4 8]) (.seq (.seq (.region false [op 5 .move [.const (.one (.int .i64 (0 : Int)))]]) (.block 0 (.loop [.keep [0, 4, 5], .drop 1, .drop 2, .drop 3, .drop 4, .drop 5, .norm] (spec_TextReports.c1)))) (spec_TextReports.c2))) }
def spec_TextReports.env (N : Nat) : Env := envOf (tbl [(376, spec_KeyOf.fs N)] noFS)
def spec_TextReports.F (N : Nat) (x : List UInt8) : Option ((List (Int × List Int)) × Bool) := XFunc.run spec_TextReports.x (spec_TextReports.env N) N x
def spec_TextReports.fs (N : Nat) : FS := { arg := .str, ret := .pair (.list (.pair (.int .i64) (.list (.int .i64)))) (.bool), fresh := true, F := spec_TextReports.F N }
def spec_TextReports.k2 (N : Nat) : Ex → S → Option ((List (Int × List Int)) × Bool) := seqK (fun s => XCode.runK (spec_TextReports.env N) N (spec_TextReports.c2) s (XFunc.endK spec_TextReports.x)) (XFunc.endK spec_TextReports.x)
def spec_TextReports.k1 (N : Nat) : Ex → S → Option ((List (Int × List Int)) × Bool) := blockK 0 (spec_TextReports.k2 N)
def spec_TextReports.L1 (N : Nat) (n1 : Nat) (s_ : List UInt8) (i : Int) (o0 : List (Int × List Int)) : Option ((List (Int × List Int)) × Bool) := loopK [.keep [0, 4, 5], .drop 1, .drop 2, .drop 3, .drop 4, .drop 5, .norm] (fun s k => XCode.runK (spec_TextReports.env N) N spec_TextReports.c1 s k) n1
  { t := [.one (.str s_), .junk, .junk, .junk, .one (.ref 0 0 .all), .one (.int .i64 i), .junk, .junk, .junk, .junk, .junk, .junk, .junk, .junk, .junk, .junk, .junk, .junk, .junk, .junk, .junk, .junk, .junk, .junk, .junk, .junk, .junk, .junk, .junk, .junk, .junk, .junk, .junk, .junk, .junk, .junk, .junk, .junk, .junk, .junk, .junk, .junk, .junk, .junk], h := [.row 0 false true 12 (.pair (.int .i64) (.list (.int .i64))) o0, .absent 0, .absent 0, .absent 0, .absent 0, .absent 0] }
  (spec_TextReports.k1 N)

theorem spec_TextReports.L1_eq (N : Nat) (n1 : Nat) (s_ : List UInt8) (i : Int) (o0 : List (Int × List Int)) : spec_TextReports.L1 N (n1 + 1) s_ i o0 =
    bif decide (i < (List.length s_ : Int)) then
      bif decide ((List.length s_ : Int) ≤ (60 : Int)) then
        bif inRange i (List.length s_) then
        bindO (spec_KeyOf.F N (UInt8.toNat (nth (0 : UInt8) s_ i) : Int)) fun r1 =>
        bif r1.1 == (0 : Int) then
          some (([] : List (Int × List Int)), false)
        else
          bif decide (List.length o0 + List.length ([(r1.2, ([r1.1] : List Int)), ((0 : Int), ([] : List Int))] : List (Int × List Int)) ≤ maxN) then
          spec_TextReports.L1 N n1 s_ (IntKind.wrap .i64 (i + (1 : Int))) (o0 ++ ([(r1.2, ([r1.1] : List Int)), ((0 : Int), ([] : List Int))] : List (Int × List Int)))
          else none
        else none
      else
        bif decide ((List.length s_ : Int) > (60 : Int)) then
          some (([] : List (Int × List Int)), false)
        else
          some (o0, true)
    else
      bif decide ((List.length s_ : Int) > (60 : Int)) then
        some (([] : List (Int × List Int)), false)
      else
        some (o0, true) := by kernel_rfl
theorem spec_TextReports.F_eq (N : Nat) (s_ : List UInt8) : spec_TextReports.F N s_ =
    spec_TextReports.L1 N N s_ (0 : Int) ([] : List (Int × List Int)) := by kernel_rfl

def impl_TextReportsh.c1 : XCode := .seq (.seq (.region false [mv 11 5, mv 12 0, o1 13 .strLen 12, o2 14 (.bin .lss) 11 13]) (.cond (.slot 14) (.skip) (.exit 0))) (.seq (.block 1 (.seq (.region false [mv 18 0, mv 19 5, o2 20 .strIndex 18 19, o1 21 (.call ⟨377, vs 1, no 1, [.val false 1, .val false 1], ims 2, true⟩) 20, mv 17 21, o1 22 (.extract 0) 17, o1 23 (.extract 1) 17, mv 6 22, mv 7 23]) (.seq (.seq (.region false [mv 24 6, op 25 (.bin .eql) [.slot 24, .const (.one (.int .i64 (0 : Int)))]]) (.cond (.slot 25) (.seq (.region false [op 2 .move [.const (.one (.nil))], op 3 .move [.const (.one (.bool false))]]) (.ret)) (.skip))) (.region false [mv 26 4, mv 27 7, mv 28 6, ⟨some 29, .buildSlice false 0 2 (.int .i64) 1 [(0, 1)] [.int .i64 (0 : Int)], [.slot 28], [0, 100], [0], none, false, .pub 0⟩, o2 30 (.build [.int .i64 (0 : Int), .nil] [(0, 1), (1, 1)]) 27 29, op 31 (.build [.int .i64 (0 : Int), .nil] []) [], ow 32 (.buildSlice false 1 12 (.pair (.int .i64) (.hnd (.int .i64))) 2 [(0, 2), (2, 2)] [.int .i64 (0 : Int), .nil]) [.slot 30, .slot 31] [1] [1], ow 33 (.append false 2 12 (.pair (.int .i64) (.hnd (.int .i64)))) [.slot 26, .slot 32] [1, 2] [2], mv 4 33])))) (.region false [mv 15 5, op 16 (.bin .add) [.slot 15, .const (.one (.int .i64 (1 : Int)))], mv 5 16]))
def impl_TextReportsh.c2 : XCode := .seq (.region false [mv 34 4, mv 2 34, op 3 .move [.const (.one (.bool true))]]) (.ret)
def impl_TextReportsh.x : XFunc := { nslots := 35, nobj := 3, pars := [.val false 1], rowsIn := [none], rets := [.tmp 2 false 1, .tmp 3 false 1], outs := [.own 12, .imm], fresh := true, arg := .str, ret := .pair (.list (.pair (.int .i64) (.hnd (.int .i64)))) (.bool), body := .seq (.region false [op 2 .move [.const (.one (.nil))], op 3 .move [.const (.one (.bool false))]]) (.seq (.seq (.region false [mv 8 0, o1 9 .strLen 8, op 10 (.bin .gtr) [.slot 9, .const (.one (.int .i64 (60 : Int)))]]) (.cond (.slot 10) (.seq (.region false [op 2 .move [.const (.one (.nil))], op 3 .move [.const (.one (.bool false))]]) (.ret)) (.skip))) (.seq (.region false [op 4 .move [.const (.one (.nil))]]) (.seq (.seq (.region false [op 5 .move [.const (.one (.int .i64 (0 : Int)))]]) (.block 0 (.loop [.mkrow (.slot 4) 2 12 (.pair (.int .i64) (.hnd (.int .i64))), .keep [0, 4, 5], .drop 0, .drop 1, .norm] (impl_TextReportsh.c1)))) (impl_TextReportsh.c2)))), hp := true }
def impl_TextReportsh.env (N : Nat) : Env := envOf (tbl [(377, impl_KeyOf.fs N)] noFS)
def impl_TextReportsh.H (N : Nat) (x : List UInt8) (D : List HRow) : Option (((List (Int × Hnd)) × Bool) × List HRow) := XFunc.runH impl_TextReportsh.x (impl_TextReportsh.env N) N x D
def impl_TextReportsh.fs (N : Nat) : FS := { arg := .str, ret := .pair (.list (.pair (.int .i64) (.hnd (.int .i64)))) (.bool), fresh := true, F := fun _ => none, hp := true, H := impl_TextReportsh.H N }
def impl_TextReportsh.k2 (N : Nat) : Ex → S → Option (((List (Int × Hnd)) × Bool) × List HRow) := seqK (fun s => XCode.runK (impl_TextReportsh.env N) N (impl_TextReportsh.c2) s (XFunc.endKH impl_TextReportsh.x)) (XFunc.endKH impl_TextReportsh.x)
def impl_TextReportsh.k1 (N : Nat) : Ex → S → Option (((List (Int × Hnd)) × Bool) × List HRow) := blockK 0 (impl_TextReportsh.k2 N)
def impl_TextReportsh.L1 (N : Nat) (n1 : Nat) (s_ : List UInt8) (i : Int) (o2 : List (Int × Hnd)) (D : List HRow) : Option (((List (Int × Hnd)) × Bool) × List HRow) := loopK [.mkrow (.slot 4) 2 12 (.pair (.int .i64) (.hnd (.int .i64))), .keep [0, 4, 5], .drop 0, .drop 1, .norm] (fun s k => XCode.runK (impl_TextReportsh.env N) N impl_TextReportsh.c1 s k) n1
  { t := [.one (.str s_), .junk, .junk, .junk, .one (.ref 2 0 .all), .one (.int .i64 i), .junk, .junk, .junk, .junk, .junk, .junk, .junk, .junk, .junk, .junk, .junk, .junk, .junk, .junk, .junk, .junk, .junk, .junk, .junk, .junk, .junk, .junk, .junk, .junk, .junk, .junk, .junk, .junk, .junk], h := [.absent 0, .absent 0, .row 0 false true 12 (.pair (.int .i64) (.hnd (.int .i64))) o2], d := D }
  (impl_TextReportsh.k1 N)

theorem impl_TextReportsh.L1_eq (N : Nat) (n1 : Nat) (s_ : List UInt8) (i : Int) (o2 : List (Int × Hnd)) (D : List HRow) : impl_TextReportsh.L1 N (n1 + 1) s_ i o2 D =
    bif decide (i < (List.length s_ : Int)) then
      bif inRange i (List.length s_) then
      bindO (impl_KeyOf.F N (UInt8.toNat (nth (0 : UInt8) s_ i) : Int)) fun r1 =>
      bif r1.1 == (0 : Int) then
        some ((([] : List (Int × Hnd)), false), D)
      else
        bif decide (List.length o2 + List.length ([(r1.2, (some (List.length D, 0, List.length ([r1.1] : List Int)) : Hnd)), ((0 : Int), (none : Hnd))] : List (Int × Hnd)) ≤ maxN) then
        impl_TextReportsh.L1 N n1 s_ (IntKind.wrap .i64 (i + (1 : Int))) (o2 ++ ([(r1.2, (some (List.length D, 0, List.length ([r1.1] : List Int)) : Hnd)), ((0 : Int), (none : Hnd))] : List (Int × Hnd))) (D ++ [HRow.row 2 (.int .i64) ([r1.1] : List Int)])
        else none
      else none
    else
      some ((o2, true), D) := by kernel_rfl
theorem impl_TextReportsh.H_eq (N : Nat) (s_ : List UInt8) (D : List HRow) : impl_TextReportsh.H N s_ D =
    bif decide ((List.length s_ : Int) > (60 : Int)) then
      some ((([] : List (Int × Hnd)), false), D)
    else
      impl_TextReportsh.L1 N N s_ (0 : Int) ([] : List (Int × Hnd)) D := by kernel_rfl

def laws_FnExactTextReports.x : XFunc := { nslots := 66, nobj := 1, pars := [.val false 1], rowsIn := [none], rets := [.tmp 2 false 1], outs := [.imm], fresh := true, arg := .str, ret := .bool, body := .seq (.region false [op 2 .move [.const (.one (.bool false))]]) (.seq (.seq (.region false [mv 11 0, o1 12 .strLen 11, op 13 (.bin .gtr) [.slot 12, .const (.one (.int .i64 (1048576 : Int)))]]) (.cond (.slot 13) (.seq (.region false [op 2 .move [.const (.one (.bool true))]]) (.ret)) (.skip))) (.seq (.region false [mv 15 0, o1 16 (.call ⟨396, vs 1, no 1, [.val false 1, .val false 1], ims 2, true⟩) 15, mv 14 16, o1 17 (.extract 0) 14, o1 18 (.extract 1) 14, mv 3 17, mv 4 18]) (.seq (.region false [mv 20 0, ow 21 (.callH false ⟨397, vs 1, no 1, [.val false 1, .val false 1], [.own 0 12, .imm], true⟩) [.slot 20] [0, 100] [0, 100], mv 19 21, o1 22 (.extract 0) 19, o1 23 (.extract 1) 19, mv 5 22, mv 6 23]) (.seq (.seq (.region false [mv 24 5, mv 25 3, ow 26 (.call ⟨280, vs 2, no 2, [.val false 1], ims 1, true⟩) [.slot 24, .slot 25] [0, 100] [], o1 27 .not 26, ⟨some 28, .move, [.slot 27], [], [], none, true, .none⟩, ⟨some 29, .move, [.slot 6], [], [], some (28, false), false, .none⟩, ⟨some 30, .move, [.slot 4], [], [], some (28, false), false, .none⟩, ⟨some 31, .eqBool true, [.slot 29, .slot 30], [], [], some (28, false), false, .none⟩, op 32 .pick [.slot 28, .const (.one (.bool true)), .slot 31]]) (.cond (.slot 32) (.seq (.region false [op 2 .move [.const (.one (.bool false))]]) (.ret)) (.skip))) (.seq (.region false [op 7 .move [.const (.one (.int .i64 (1 : Int)))]]) (.seq (.region false [mv 33 5, mv 34 7, ow 35 (.callH true ⟨337, vs 2, [some (0, 12), none], [.val false 1], [.imm, .back 0], false⟩) [.slot 33, .slot 34] [0, 100] [0, 100], mv 7 35]) (.seq (.region false [op 8 .move [.const (.one (.int .i64 (1 : Int)))]]) (.seq (.region false [mv 36 5, mv 37 8, ow 38 (.call ⟨340, vs 2, no 2, [.val false 1], ims 1, true⟩) [.slot 36, .slot 37] [0, 100] [], mv 8 38]) (.seq (.seq (.region false [mv 39 8, op 40 (.bin .lss) [.slot 39, .const (.one (.int .i64 (0 : Int)))]]) (.cond (.slot 40) (.seq (.region false [op 2 .move [.const (.one (.bool false))]]) (.ret)) (.skip))) (.seq (.seq (.region false [mv 41 8, mv 42 7, o2 43 (.bin .neq) 41 42]) (.cond (.slot 43) (.seq (.region false [op 2 .move [.const (.one (.bool false))]]) (.ret)) (.skip))) (.seq (.region false [mv 45 0, ow 46 (.callH false ⟨397, vs 1, no 1, [.val false 1, .val false 1], ims 2, true⟩) [.slot 45] [100] [100], mv 44 46, o1 47 (.extract 0) 44, o1 48 (.extract 1) 44, mv 9 47, mv 10 48]) (.seq (.seq (.region false [mv 49 9, mv 50 3, ow 51 (.call ⟨280, vs 2, no 2, [.val false 1], ims 1, true⟩) [.slot 49, .slot 50] [100] [], o1 52 .not 51, ⟨some 53, .move, [.slot 52], [], [], none, true, .none⟩, ⟨some 54, .move, [.slot 10], [], [], some (53, false), false, .none⟩, ⟨some 55, .move, [.slot 4], [], [], some (53, false), false, .none⟩, ⟨some 56, .eqBool true, [.slot 54, .slot 55], [], [], some (53, false), false, .none⟩, op 57 .pick [.slot 53, .const (.one (.bool true)), .slot 56]]) (.cond (.slot 57) (.seq (.region false [op 2 .move [.const (.one (.bool false))]]) (.ret)) (.skip))) (.seq (.region false [op 8 .move [.const (.one (.int .i64 (1 : Int)))]]) (.seq (.region false [mv 58 5, mv 59 8, ow 60 (.call ⟨340, vs 2, no 2, [.val false 1], ims 1, true⟩) [.slot 58, .slot 59] [0, 100] [], mv 8 60]) (.seq (.seq (.region false [mv 61 8, op 62 (.bin .lss) [.slot 61, .const (.one (.int .i64 (0 : Int)))]]) (.cond (.slot 62) (.seq (.region false [op 2 .move [.const (.one (.bool false))]]) (.ret)) (.skip))) (.seq (.seq (.region false [mv 63 8, mv 64 7, o2 65 (.bin .neq) 63 64]) (.cond (.slot 65) (.seq (.region false [op 2 .move [.const (.one (.bool false))]]) (.ret)) (.skip))) (.seq (.region false [op 2 .move [.const (.one (.bool true))]]) (.ret)))))))))))))))))) }
def laws_FnExactTextReports.env (N : Nat) : Env := envOf (tbl [(397, impl_TextReportsh.fs N), (280, laws_eqReportS.fs N), (340, laws_heldReportS.fs N), (337, laws_markReportS.fs N), (396, spec_TextReports.fs N)] noFS)
def laws_FnExactTextReports.F (N : Nat) (x : List UInt8) : Option Bool := XFunc.run laws_FnExactTextReports.x (laws_FnExactTextReports.env N) N x
def laws_FnExactTextReports.fs (N : Nat) : FS := { arg := .str, ret := .bool, fresh := true, F := laws_FnExactTextReports.F N }

theorem laws_FnExactTextReports.F_eq (N : Nat) (aS : List UInt8) : laws_FnExactTextReports.F N aS =
    bif decide ((List.length aS : Int) > (1048576 : Int)) then
      some true
    else
      bindO (spec_TextReports.F N aS) fun r1 =>
      bindO (impl_TextReportsh.H N aS (hhide ([] : List HRow))) fun r2 =>
      bif List.all r2.1.1 (Ty.unok (hmerge ([] : List HRow) r2.2) (.pair (.int .i64) (.hnd (.int .i64)))) then
      bindO (laws_eqReportS.F N (List.map (Ty.unden (hmerge ([] : List HRow) r2.2) (.pair (.int .i64) (.hnd (.int .i64)))) r2.1.1, r1.1)) fun r3 =>
      bif !r3 then
        some false
      else
        bif r2.1.2 != r1.2 then
          some false
        else
          bindO (laws_markReportS.H N (r2.1.1, (1 : Int)) (hmerge ([] : List HRow) r2.2)) fun r4 =>
          bif List.all r4.1.2 (Ty.unok r4.2 (.pair (.int .i64) (.hnd (.int .i64)))) then
          bindO (laws_heldReportS.F N (List.map (Ty.unden r4.2 (.pair (.int .i64) (.hnd (.int .i64)))) r4.1.2, (1 : Int))) fun r5 =>
          bif decide (r5 < (0 : Int)) then
            some false
          else
            bif r5 != r4.1.1 then
              some false
            else
              bindO (impl_TextReportsh.H N aS (hhide r4.2)) fun r6 =>
              bif List.all r6.1.1 (Ty.unok (hmerge r4.2 r6.2) (.pair (.int .i64) (.hnd (.int .i64)))) then
              bindO (laws_eqReportS.F N (List.map (Ty.unden (hmerge r4.2 r6.2) (.pair (.int .i64) (.hnd (.int .i64)))) r6.1.1, r1.1)) fun r7 =>
              bif !r7 then
                some false
              else
                bif r6.1.2 != r1.2 then
                  some false
                else
                  bif List.all r4.1.2 (Ty.unok (hmerge r4.2 r6.2) (.pair (.int .i64) (.hnd (.int .i64)))) then
                  bindO (laws_heldReportS.F N (List.map (Ty.unden (hmerge r4.2 r6.2) (.pair (.int .i64) (.hnd (.int .i64)))) r4.1.2, (1 : Int))) fun r8 =>
                  bif decide (r8 < (0 : Int)) then
                    some false
                  else
                    bif r8 != r4.1.1 then
                      some false
                    else
                      some true
                  else none
              else none
          else none
      else none := by kernel_rfl

end Go.Kb
