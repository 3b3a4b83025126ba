/- The texts of functions, printed by a program, and the equations of their runs. -/
import Derived.Test.YtipjdpnpahhndaaDoorCharactersF1
import Derived.Test.YtipjdpnpahhndaaDoorCharactersF2
import Derived.Test.YtipjdpnpahhndaaDoorCharactersF3
import Derived.Test.YtipjdpnpahhndaaDoorCharactersF4
import Derived.Test.YtipjdpnpahhndaaDoorCharactersF5
import Derived.Test.YtipjdpnpahhndaaDoorCharactersF6
import Derived.Test.YtipjdpnpahhndaaDoorCharactersF7
import Derived.Test.YtipjdpnpahhndaaDoorCharactersF8
import Derived.Test.YtipjdpnpahhndaaDoorCharactersF9
import Derived.Test.YtipjdpnpahhndaaDoorCharactersF10
import Derived.Test.YtipjdpnpahhndaaDoorCharactersF11
import Derived.Test.YtipjdpnpahhndaaDoorKd
import Derived.KernelRfl
namespace Go.Kb
def spec_l1Pick.x : XFunc := { nslots := 12, nobj := 1, pars := [.box 0 3, .val false 1], rowsIn := [none, none, none, none], rets := [.tmp 4 false 1], outs := [.imm, .imm, .imm, .imm], fresh := false, arg := .pair (.pair (.list (.int .u8)) (.pair (.int .i64) (.int .i64))) (.list (.str)), ret := .pair (.str) (.pair (.list (.int .u8)) (.pair (.int .i64) (.int .i64))), body := .seq (.region false [op 4 .move [.const (.one (.str ([] : List UInt8)))]]) (.seq (.region false [mv 5 1, mv 6 0, mv 7 1, o1 8 .len 7, ow 9 (.call ⟨33, [.box 0 3, .val false 1], no 4, [.val false 1], ims 4, false⟩) [.slot 6, .slot 8] [0] [0], o2 10 (.indexAddr (.str)) 5 9, o1 11 (.load false 1) 10, mv 4 11]) (.ret)) }
def spec_l1Pick.env (N : Nat) : Env := envOf (tbl [(33, spec_l1Below.fs N)] noFS)
def spec_l1Pick.F (N : Nat) (x : ((List Int) × Int × Int) × List (List UInt8)) : Option ((List UInt8) × (List Int) × Int × Int) := XFunc.run spec_l1Pick.x (spec_l1Pick.env N) N x
def spec_l1Pick.fs (N : Nat) : FS := { arg := .pair (.pair (.list (.int .u8)) (.pair (.int .i64) (.int .i64))) (.list (.str)), ret := .pair (.str) (.pair (.list (.int .u8)) (.pair (.int .i64) (.int .i64))), fresh := false, F := spec_l1Pick.F N }

theorem spec_l1Pick.F_eq (N : Nat) (c : (List Int) × Int × Int) (list : List (List UInt8)) : spec_l1Pick.F N (c, list) =
    bindO (spec_l1Below.F N (c, (List.length list : Int))) fun r1 =>
    bif inRange r1.1 (List.length list) then
    some (nth ([] : List UInt8) list r1.1, r1.2)
    else none := by kernel_rfl

def spec_l12Text.c1 : XCode := .seq (.seq (.region false [mv 11 6, op 12 (.bin .gtr) [.slot 11, .const (.one (.int .i64 (0 : Int)))]]) (.cond (.slot 12) (.skip) (.exit 0))) (.seq (.block 1 (.region false [mv 15 5, mv 16 0, op 17 (.buildSlice true 1 16 (.str) 17 [(0, 1), (1, 1), (2, 1), (3, 1), (4, 1), (5, 1), (6, 1), (7, 1), (8, 1), (9, 1), (10, 1), (11, 1), (12, 1), (13, 1), (14, 1), (15, 1), (16, 1)] [.str ([] : List UInt8)]) [.const (.one (.str ([97] : List UInt8))), .const (.one (.str ([98] : List UInt8))), .const (.one (.str ([90] : List UInt8))), .const (.one (.str ([122] : List UInt8))), .const (.one (.str ([49] : List UInt8))), .const (.one (.str ([48] : List UInt8))), .const (.one (.str ([33] : List UInt8))), .const (.one (.str ([41] : List UInt8))), .const (.one (.str ([32] : List UInt8))), .const (.one (.str ([45] : List UInt8))), .const (.one (.str ([95] : List UInt8))), .const (.one (.str ([61] : List UInt8))), .const (.one (.str ([43] : List UInt8))), .const (.one (.str ([10] : List UInt8))), .const (.one (.str ([9] : List UInt8))), .const (.one (.str ([113] : List UInt8))), .const (.one (.str ([81] : List UInt8)))], ow 18 (.call ⟨414, [.box 0 3, .val false 1], no 4, [.val false 1], ims 4, false⟩) [.slot 16, .slot 17] [0] [0], o2 19 (.bin .add) 15 18, mv 5 19])) (.region false [mv 13 6, op 14 (.bin .sub) [.slot 13, .const (.one (.int .i64 (1 : Int)))], mv 6 14]))
def spec_l12Text.c2 : XCode := .seq (.region false [mv 20 5, mv 4 20]) (.ret)
def spec_l12Text.x : XFunc := { nslots := 21, nobj := 2, pars := [.box 0 3, .val false 1], rowsIn := [none, none, none, none], rets := [.tmp 4 false 1], outs := [.imm, .imm, .imm, .imm], fresh := false, arg := .pair (.pair (.list (.int .u8)) (.pair (.int .i64) (.int .i64))) (.int .i64), ret := .pair (.str) (.pair (.list (.int .u8)) (.pair (.int .i64) (.int .i64))), body := .seq (.region false [op 4 .move [.const (.one (.str ([] : List UInt8)))]]) (.seq (.region false [op 5 .move [.const (.one (.str ([] : List UInt8)))]]) (.seq (.seq (.region false [mv 7 0, mv 8 1, op 9 (.bin .add) [.slot 8, .const (.one (.int .i64 (1 : Int)))], ow 10 (.call ⟨33, [.box 0 3, .val false 1], no 4, [.val false 1], ims 4, false⟩) [.slot 7, .slot 9] [0] [0], mv 6 10]) (.block 0 (.loop [.keep [0, 5, 6], .drop 1, .norm] (spec_l12Text.c1)))) (spec_l12Text.c2))) }
def spec_l12Text.env (N : Nat) : Env := envOf (tbl [(33, spec_l1Below.fs N), (414, spec_l1Pick.fs N)] noFS)
def spec_l12Text.F (N : Nat) (x : ((List Int) × Int × Int) × Int) : Option ((List UInt8) × (List Int) × Int × Int) := XFunc.run spec_l12Text.x (spec_l12Text.env N) N x
def spec_l12Text.fs (N : Nat) : FS := { arg := .pair (.pair (.list (.int .u8)) (.pair (.int .i64) (.int .i64))) (.int .i64), ret := .pair (.str) (.pair (.list (.int .u8)) (.pair (.int .i64) (.int .i64))), fresh := false, F := spec_l12Text.F N }
def spec_l12Text.k2 (N : Nat) : Ex → S → Option ((List UInt8) × (List Int) × Int × Int) := seqK (fun s => XCode.runK (spec_l12Text.env N) N (spec_l12Text.c2) s (XFunc.endK spec_l12Text.x)) (XFunc.endK spec_l12Text.x)
def spec_l12Text.k1 (N : Nat) : Ex → S → Option ((List UInt8) × (List Int) × Int × Int) := blockK 0 (spec_l12Text.k2 N)
def spec_l12Text.L1 (N : Nat) (n1 : Nat) (s_ : List UInt8) (n_ : Int) (c0 : List Int) (c1 : Int) (c2 : Int) : Option ((List UInt8) × (List Int) × Int × Int) := loopK [.keep [0, 5, 6], .drop 1, .norm] (fun s k => XCode.runK (spec_l12Text.env N) N spec_l12Text.c1 s k) n1
  { t := [.one (.ptr 0 0 0), .junk, .junk, .junk, .junk, .one (.str s_), .one (.int .i64 n_), .junk, .junk, .junk, .junk, .junk, .junk, .junk, .junk, .junk, .junk, .junk, .junk, .junk, .junk], h := [.box 0 true [.sl false (.int .u8) c0, .int .i64 c1, .int .i64 c2], .absent 0] }
  (spec_l12Text.k1 N)

theorem spec_l12Text.L1_eq (N : Nat) (n1 : Nat) (s_ : List UInt8) (n_ : Int) (c0 : List Int) (c1 : Int) (c2 : Int) : spec_l12Text.L1 N (n1 + 1) s_ n_ c0 c1 c2 =
    bif decide (n_ > (0 : Int)) then
      bindO (spec_l1Pick.F N ((c0, (c1, c2)), ([([97] : List UInt8), ([98] : List UInt8), ([90] : List UInt8), ([122] : List UInt8), ([49] : List UInt8), ([48] : List UInt8), ([33] : List UInt8), ([41] : List UInt8), ([32] : List UInt8), ([45] : List UInt8), ([95] : List UInt8), ([61] : List UInt8), ([43] : List UInt8), ([10] : List UInt8), ([9] : List UInt8), ([113] : List UInt8), ([81] : List UInt8)] : List (List UInt8)))) fun r2 =>
      bif decide (List.length s_ + List.length r2.1 ≤ maxN) then
      spec_l12Text.L1 N n1 (s_ ++ r2.1) (IntKind.wrap .i64 (n_ - (1 : Int))) r2.2.1 r2.2.2.1 r2.2.2.2
      else none
    else
      some (s_, (c0, (c1, c2))) := by kernel_rfl
theorem spec_l12Text.F_eq (N : Nat) (c : (List Int) × Int × Int) (most : Int) : spec_l12Text.F N (c, most) =
    bindO (spec_l1Below.F N (c, IntKind.wrap .i64 (most + (1 : Int)))) fun r1 =>
    spec_l12Text.L1 N N ([] : List UInt8) r1.1 r1.2.1 r1.2.2.1 r1.2.2.2 := by kernel_rfl

def spec_MakeText.x : XFunc := { nslots := 9, nobj := 1, pars := [.val false 1, .val false 1], rowsIn := [none, none], rets := [.tmp 4 false 1], outs := [.imm], fresh := true, arg := .pair (.list (.int .u8)) (.int .i64), ret := .str, body := .seq (.region false [op 4 .move [.const (.one (.str ([] : List UInt8)))]]) (.seq (.region false [mv 5 0, ow 6 (.call ⟨237, vs 2, no 2, [.box 0 3], ims 3, false⟩) [.slot 5, .const (.one (.int .i64 (12 : Int)))] [0] [0], mv 7 1, ow 8 (.call ⟨415, [.box 0 3, .val false 1], no 4, [.val false 1], ims 4, false⟩) [.slot 6, .slot 7] [0] [0], mv 4 8]) (.ret)) }
def spec_MakeText.env (N : Nat) : Env := envOf (tbl [(415, spec_l12Text.fs N), (237, spec_l24New.fs N)] noFS)
def spec_MakeText.F (N : Nat) (x : (List Int) × Int) : Option (List UInt8) := XFunc.run spec_MakeText.x (spec_MakeText.env N) N x
def spec_MakeText.fs (N : Nat) : FS := { arg := .pair (.list (.int .u8)) (.int .i64), ret := .str, fresh := true, F := spec_MakeText.F N }

theorem spec_MakeText.F_eq (N : Nat) (code : List Int) (most : Int) : spec_MakeText.F N (code, most) =
    bindO (spec_l24New.F N (code, (12 : Int))) fun r1 =>
    bindO (spec_l12Text.F N (r1, most)) fun r2 =>
    some r2.1 := by kernel_rfl

def impl_TextReports.c1 : XCode := .seq (.seq (.region false [mv 11 5, mv 12 0, o1 13 .strLen 12, o2 14 (.bin .lss) 11 13]) (.cond (.slot 14) (.skip) (.exit 0))) (.seq (.block 1 (.seq (.region false [mv 18 0, mv 19 5, o2 20 .strIndex 18 19, o1 21 (.call ⟨377, vs 1, no 1, [.val false 1, .val false 1], ims 2, true⟩) 20, mv 17 21, o1 22 (.extract 0) 17, o1 23 (.extract 1) 17, mv 6 22, mv 7 23]) (.seq (.seq (.region false [mv 24 6, op 25 (.bin .eql) [.slot 24, .const (.one (.int .i64 (0 : Int)))]]) (.cond (.slot 25) (.seq (.region false [op 2 .move [.const (.one (.nil))], op 3 .move [.const (.one (.bool false))]]) (.ret)) (.skip))) (.region false [mv 26 4, mv 27 7, mv 28 6, o1 29 (.buildSlice true 0 2 (.int .i64) 1 [(0, 1)] [.int .i64 (0 : Int)]) 28, o2 30 (.build [.int .i64 (0 : Int), .nil] [(0, 1), (1, 1)]) 27 29, op 31 (.build [.int .i64 (0 : Int), .nil] []) [], ow 32 (.buildSlice false 1 12 (.pair (.int .i64) (.list (.int .i64))) 2 [(0, 2), (2, 2)] [.int .i64 (0 : Int), .nil]) [.slot 30, .slot 31] [1] [1], ow 33 (.append false 2 12 (.pair (.int .i64) (.list (.int .i64)))) [.slot 26, .slot 32] [1, 2] [2], mv 4 33])))) (.region false [mv 15 5, op 16 (.bin .add) [.slot 15, .const (.one (.int .i64 (1 : Int)))], mv 5 16]))
def impl_TextReports.c2 : XCode := .seq (.region false [mv 34 4, mv 2 34, op 3 .move [.const (.one (.bool true))]]) (.ret)
def impl_TextReports.x : XFunc := { nslots := 35, nobj := 3, pars := [.val false 1], rowsIn := [none], rets := [.tmp 2 false 1, .tmp 3 false 1], outs := [.own 12, .imm], fresh := true, arg := .str, ret := .pair (.list (.pair (.int .i64) (.list (.int .i64)))) (.bool), body := .seq (.region false [op 2 .move [.const (.one (.nil))], op 3 .move [.const (.one (.bool false))]]) (.seq (.seq (.region false [mv 8 0, o1 9 .strLen 8, op 10 (.bin .gtr) [.slot 9, .const (.one (.int .i64 (60 : Int)))]]) (.cond (.slot 10) (.seq (.region false [op 2 .move [.const (.one (.nil))], op 3 .move [.const (.one (.bool false))]]) (.ret)) (.skip))) (.seq (.region false [op 4 .move [.const (.one (.nil))]]) (.seq (.seq (.region false [op 5 .move [.const (.one (.int .i64 (0 : Int)))]]) (.block 0 (.loop [.mkrow (.slot 4) 2 12 (.pair (.int .i64) (.list (.int .i64))), .keep [0, 4, 5], .drop 0, .drop 1, .norm] (impl_TextReports.c1)))) (impl_TextReports.c2)))) }
def impl_TextReports.env (N : Nat) : Env := envOf (tbl [(377, impl_KeyOf.fs N)] noFS)
def impl_TextReports.F (N : Nat) (x : List UInt8) : Option ((List (Int × List Int)) × Bool) := XFunc.run impl_TextReports.x (impl_TextReports.env N) N x
def impl_TextReports.fs (N : Nat) : FS := { arg := .str, ret := .pair (.list (.pair (.int .i64) (.list (.int .i64)))) (.bool), fresh := true, F := impl_TextReports.F N }
def impl_TextReports.k2 (N : Nat) : Ex → S → Option ((List (Int × List Int)) × Bool) := seqK (fun s => XCode.runK (impl_TextReports.env N) N (impl_TextReports.c2) s (XFunc.endK impl_TextReports.x)) (XFunc.endK impl_TextReports.x)
def impl_TextReports.k1 (N : Nat) : Ex → S → Option ((List (Int × List Int)) × Bool) := blockK 0 (impl_TextReports.k2 N)
def impl_TextReports.L1 (N : Nat) (n1 : Nat) (s_ : List UInt8) (i : Int) (o2 : List (Int × List Int)) : Option ((List (Int × List Int)) × Bool) := loopK [.mkrow (.slot 4) 2 12 (.pair (.int .i64) (.list (.int .i64))), .keep [0, 4, 5], .drop 0, .drop 1, .norm] (fun s k => XCode.runK (impl_TextReports.env N) N impl_TextReports.c1 s k) n1
  { t := [.one (.str s_), .junk, .junk, .junk, .one (.ref 2 0 .all), .one (.int .i64 i), .junk, .junk, .junk, .junk, .junk, .junk, .junk, .junk, .junk, .junk, .junk, .junk, .junk, .junk, .junk, .junk, .junk, .junk, .junk, .junk, .junk, .junk, .junk, .junk, .junk, .junk, .junk, .junk, .junk], h := [.absent 0, .absent 0, .row 0 false true 12 (.pair (.int .i64) (.list (.int .i64))) o2] }
  (impl_TextReports.k1 N)

theorem impl_TextReports.L1_eq (N : Nat) (n1 : Nat) (s_ : List UInt8) (i : Int) (o2 : List (Int × List Int)) : impl_TextReports.L1 N (n1 + 1) s_ i o2 =
    bif decide (i < (List.length s_ : Int)) then
      bif inRange i (List.length s_) then
      bindO (impl_KeyOf.F N (UInt8.toNat (nth (0 : UInt8) s_ i) : Int)) fun r1 =>
      bif r1.1 == (0 : Int) then
        some (([] : List (Int × List Int)), false)
      else
        bif decide (List.length o2 + List.length ([(r1.2, ([r1.1] : List Int)), ((0 : Int), ([] : List Int))] : List (Int × List Int)) ≤ maxN) then
        impl_TextReports.L1 N n1 s_ (IntKind.wrap .i64 (i + (1 : Int))) (o2 ++ ([(r1.2, ([r1.1] : List Int)), ((0 : Int), ([] : List Int))] : List (Int × List Int)))
        else none
      else none
    else
      some (o2, true) := by kernel_rfl
theorem impl_TextReports.F_eq (N : Nat) (s_ : List UInt8) : impl_TextReports.F N s_ =
    bif decide ((List.length s_ : Int) > (60 : Int)) then
      some (([] : List (Int × List Int)), false)
    else
      impl_TextReports.L1 N N s_ (0 : Int) ([] : List (Int × List Int)) := by kernel_rfl

def impl_isMods.x : XFunc := { nslots := 9, nobj := 0, pars := [.val false 1], rowsIn := [none], rets := [.tmp 2 false 1], outs := [.imm], fresh := true, arg := .int .i64, ret := .bool, body := .seq (.region false [op 2 .move [.const (.one (.bool false))]]) (.seq (.region false [mv 3 0, op 4 (.bin .geq) [.slot 3, .const (.one (.int .i64 (1 : Int)))], ⟨some 5, .move, [.slot 4], [], [], none, true⟩, ⟨some 6, .move, [.slot 0], [], [], some (5, true), false⟩, ⟨some 7, .bin .leq, [.slot 6, .const (.one (.int .i64 (15 : Int)))], [], [], some (5, true), false⟩, op 8 .pick [.slot 5, .slot 7, .const (.one (.bool false))], mv 2 8]) (.ret)) }
def impl_isMods.env (_ : Nat) : Env := envOf (tbl [] noFS)
def impl_isMods.F (N : Nat) (x : Int) : Option Bool := XFunc.run impl_isMods.x (impl_isMods.env N) N x
def impl_isMods.fs (N : Nat) : FS := { arg := .int .i64, ret := .bool, fresh := true, F := impl_isMods.F N }

theorem impl_isMods.F_eq (N : Nat) (n_ : Int) : impl_isMods.F N n_ =
    bif decide (n_ ≥ (1 : Int)) then
      some (decide (n_ ≤ (15 : Int)))
    else
      some false := by kernel_rfl

def impl_isUpper.x : XFunc := { nslots := 9, nobj := 0, pars := [.val false 1], rowsIn := [none], rets := [.tmp 2 false 1], outs := [.imm], fresh := true, arg := .int .i64, ret := .bool, body := .seq (.region false [op 2 .move [.const (.one (.bool false))]]) (.seq (.region false [mv 3 0, op 4 (.bin .geq) [.slot 3, .const (.one (.int .i64 (1 : Int)))], ⟨some 5, .move, [.slot 4], [], [], none, true⟩, ⟨some 6, .move, [.slot 0], [], [], some (5, true), false⟩, ⟨some 7, .bin .leq, [.slot 6, .const (.one (.int .i64 (3 : Int)))], [], [], some (5, true), false⟩, op 8 .pick [.slot 5, .slot 7, .const (.one (.bool false))], mv 2 8]) (.ret)) }
def impl_isUpper.env (_ : Nat) : Env := envOf (tbl [] noFS)
def impl_isUpper.F (N : Nat) (x : Int) : Option Bool := XFunc.run impl_isUpper.x (impl_isUpper.env N) N x
def impl_isUpper.fs (N : Nat) : FS := { arg := .int .i64, ret := .bool, fresh := true, F := impl_isUpper.F N }

def impl_IsAction.x : XFunc := { nslots := 158, nobj := 1, pars := [.val true 4], rowsIn := [none, none, none, none], rets := [.tmp 2 false 1], outs := [.imm], fresh := true, arg := .pair (.int .i64) (.pair (.int .i64) (.pair (.int .i64) (.int .i64))), ret := .bool, body := .seq (.region false [ow 1 (.box 0) [.slot 0] [0] [0], op 2 .move [.const (.one (.bool false))]]) (.seq (.seq (.region false [o1 3 (.fieldAddr 0) 1, ow 4 (.load false 1) [.slot 3] [0] []]) (.block 0 (.seq (.seq (.region false [op 6 (.bin .eql) [.slot 4, .const (.one (.int .i64 (0 : Int)))], mv 5 6]) (.cond (.slot 5) (.skip) (.seq (.region false [op 7 (.bin .eql) [.slot 4, .const (.one (.int .i64 (1 : Int)))], mv 5 7]) (.cond (.slot 5) (.skip) (.region false [op 8 (.bin .eql) [.slot 4, .const (.one (.int .i64 (10 : Int)))], mv 5 8]))))) (.cond (.slot 5) (.seq (.region false [o1 9 (.fieldAddr 1) 1, ow 10 (.load false 1) [.slot 9] [0] [], op 11 (.bin .eql) [.slot 10, .const (.one (.int .i64 (0 : Int)))], ⟨some 12, .move, [.slot 11], [], [], none, true⟩, ⟨some 13, .fieldAddr 2, [.slot 1], [], [], some (12, true), false⟩, ⟨some 14, .load false 1, [.slot 13], [0], [], some (12, true), false⟩, ⟨some 15, .bin .eql, [.slot 14, .const (.one (.int .i64 (0 : Int)))], [], [], some (12, true), false⟩, op 16 .pick [.slot 12, .slot 15, .const (.one (.bool false))], ⟨some 17, .move, [.slot 16], [], [], none, true⟩, ⟨some 18, .fieldAddr 3, [.slot 1], [], [], some (17, true), false⟩, ⟨some 19, .load false 1, [.slot 18], [0], [], some (17, true), false⟩, ⟨some 20, .bin .eql, [.slot 19, .const (.one (.int .i64 (0 : Int)))], [], [], some (17, true), false⟩, op 21 .pick [.slot 17, .slot 20, .const (.one (.bool false))], mv 2 21]) (.ret)) (.seq (.region false [op 23 (.bin .eql) [.slot 4, .const (.one (.int .i64 (2 : Int)))], mv 22 23]) (.cond (.slot 22) (.seq (.region false [o1 24 (.fieldAddr 3) 1, ow 25 (.load false 1) [.slot 24] [0] [], op 26 (.bin .eql) [.slot 25, .const (.one (.int .i64 (0 : Int)))], ⟨some 27, .move, [.slot 26], [], [], none, true⟩, ⟨some 28, .fieldAddr 1, [.slot 1], [], [], some (27, true), false⟩, ⟨some 29, .load false 1, [.slot 28], [0], [], some (27, true), false⟩, ⟨some 30, .bin .eql, [.slot 29, .const (.one (.int .i64 (0 : Int)))], [], [], some (27, true), false⟩, ⟨some 31, .move, [.slot 30], [], [], some (27, true), true⟩, ⟨some 32, .fieldAddr 1, [.slot 1], [], [], some (31, false), false⟩, ⟨some 33, .load false 1, [.slot 32], [0], [], some (31, false), false⟩, ⟨some 34, .call ⟨153, vs 1, no 1, [.val false 1], ims 1, true⟩, [.slot 33], [], [], some (31, false), false⟩, ⟨some 35, .pick, [.slot 31, .const (.one (.bool true)), .slot 34], [], [], some (27, true), false⟩, op 36 .pick [.slot 27, .slot 35, .const (.one (.bool false))], ⟨some 37, .move, [.slot 36], [], [], none, true⟩, ⟨some 38, .fieldAddr 2, [.slot 1], [], [], some (37, true), false⟩, ⟨some 39, .load false 1, [.slot 38], [0], [], some (37, true), false⟩, ⟨some 40, .bin .eql, [.slot 39, .const (.one (.int .i64 (0 : Int)))], [], [], some (37, true), false⟩, ⟨some 41, .move, [.slot 40], [], [], some (37, true), true⟩, ⟨some 42, .fieldAddr 2, [.slot 1], [], [], some (41, false), false⟩, ⟨some 43, .load false 1, [.slot 42], [0], [], some (41, false), false⟩, ⟨some 44, .call ⟨154, vs 1, no 1, [.val false 1], ims 1, true⟩, [.slot 43], [], [], some (41, false), false⟩, ⟨some 45, .pick, [.slot 41, .const (.one (.bool true)), .slot 44], [], [], some (37, true), false⟩, op 46 .pick [.slot 37, .slot 45, .const (.one (.bool false))], ⟨some 47, .move, [.slot 46], [], [], none, true⟩, ⟨some 48, .fieldAddr 1, [.slot 1], [], [], some (47, true), false⟩, ⟨some 49, .load false 1, [.slot 48], [0], [], some (47, true), false⟩, ⟨some 50, .bin .neq, [.slot 49, .const (.one (.int .i64 (0 : Int)))], [], [], some (47, true), false⟩, ⟨some 51, .move, [.slot 50], [], [], some (47, true), true⟩, ⟨some 52, .fieldAddr 2, [.slot 1], [], [], some (51, false), false⟩, ⟨some 53, .load false 1, [.slot 52], [0], [], some (51, false), false⟩, ⟨some 54, .bin .neq, [.slot 53, .const (.one (.int .i64 (0 : Int)))], [], [], some (51, false), false⟩, ⟨some 55, .pick, [.slot 51, .const (.one (.bool true)), .slot 54], [], [], some (47, true), false⟩, op 56 .pick [.slot 47, .slot 55, .const (.one (.bool false))], mv 2 56]) (.ret)) (.seq (.seq (.region false [op 58 (.bin .eql) [.slot 4, .const (.one (.int .i64 (3 : Int)))], mv 57 58]) (.cond (.slot 57) (.skip) (.region false [op 59 (.bin .eql) [.slot 4, .const (.one (.int .i64 (4 : Int)))], mv 57 59]))) (.cond (.slot 57) (.seq (.region false [o1 60 (.fieldAddr 1) 1, ow 61 (.load false 1) [.slot 60] [0] [], op 62 (.bin .eql) [.slot 61, .const (.one (.int .i64 (0 : Int)))], ⟨some 63, .move, [.slot 62], [], [], none, true⟩, ⟨some 64, .fieldAddr 2, [.slot 1], [], [], some (63, true), false⟩, ⟨some 65, .load false 1, [.slot 64], [0], [], some (63, true), false⟩, ⟨some 66, .bin .eql, [.slot 65, .const (.one (.int .i64 (0 : Int)))], [], [], some (63, true), false⟩, op 67 .pick [.slot 63, .slot 66, .const (.one (.bool false))], ⟨some 68, .move, [.slot 67], [], [], none, true⟩, ⟨some 69, .fieldAddr 3, [.slot 1], [], [], some (68, true), false⟩, ⟨some 70, .load false 1, [.slot 69], [0], [], some (68, true), false⟩, ⟨some 71, .call ⟨155, vs 1, no 1, [.val false 1], ims 1, true⟩, [.slot 70], [], [], some (68, true), false⟩, op 72 .pick [.slot 68, .slot 71, .const (.one (.bool false))], mv 2 72]) (.ret)) (.seq (.region false [op 74 (.bin .eql) [.slot 4, .const (.one (.int .i64 (5 : Int)))], mv 73 74]) (.cond (.slot 73) (.seq (.region false [o1 75 (.fieldAddr 1) 1, ow 76 (.load false 1) [.slot 75] [0] [], op 77 (.bin .eql) [.slot 76, .const (.one (.int .i64 (0 : Int)))], ⟨some 78, .move, [.slot 77], [], [], none, true⟩, ⟨some 79, .fieldAddr 2, [.slot 1], [], [], some (78, true), false⟩, ⟨some 80, .load false 1, [.slot 79], [0], [], some (78, true), false⟩, ⟨some 81, .bin .eql, [.slot 80, .const (.one (.int .i64 (0 : Int)))], [], [], some (78, true), false⟩, op 82 .pick [.slot 78, .slot 81, .const (.one (.bool false))], ⟨some 83, .move, [.slot 82], [], [], none, true⟩, ⟨some 84, .fieldAddr 3, [.slot 1], [], [], some (83, true), false⟩, ⟨some 85, .load false 1, [.slot 84], [0], [], some (83, true), false⟩, ⟨some 86, .bin .geq, [.slot 85, .const (.one (.int .i64 (0 : Int)))], [], [], some (83, true), false⟩, op 87 .pick [.slot 83, .slot 86, .const (.one (.bool false))], ⟨some 88, .move, [.slot 87], [], [], none, true⟩, ⟨some 89, .fieldAddr 3, [.slot 1], [], [], some (88, true), false⟩, ⟨some 90, .load false 1, [.slot 89], [0], [], some (88, true), false⟩, ⟨some 91, .bin .leq, [.slot 90, .const (.one (.int .i64 (3 : Int)))], [], [], some (88, true), false⟩, op 92 .pick [.slot 88, .slot 91, .const (.one (.bool false))], mv 2 92]) (.ret)) (.seq (.region false [op 94 (.bin .eql) [.slot 4, .const (.one (.int .i64 (9 : Int)))], mv 93 94]) (.cond (.slot 93) (.seq (.region false [o1 95 (.fieldAddr 1) 1, ow 96 (.load false 1) [.slot 95] [0] [], op 97 (.bin .eql) [.slot 96, .const (.one (.int .i64 (0 : Int)))], ⟨some 98, .move, [.slot 97], [], [], none, true⟩, ⟨some 99, .fieldAddr 2, [.slot 1], [], [], some (98, true), false⟩, ⟨some 100, .load false 1, [.slot 99], [0], [], some (98, true), false⟩, ⟨some 101, .bin .eql, [.slot 100, .const (.one (.int .i64 (0 : Int)))], [], [], some (98, true), false⟩, op 102 .pick [.slot 98, .slot 101, .const (.one (.bool false))], ⟨some 103, .move, [.slot 102], [], [], none, true⟩, ⟨some 104, .fieldAddr 3, [.slot 1], [], [], some (103, true), false⟩, ⟨some 105, .load false 1, [.slot 104], [0], [], some (103, true), false⟩, ⟨some 106, .bin .geq, [.slot 105, .const (.one (.int .i64 (0 : Int)))], [], [], some (103, true), false⟩, op 107 .pick [.slot 103, .slot 106, .const (.one (.bool false))], ⟨some 108, .move, [.slot 107], [], [], none, true⟩, ⟨some 109, .fieldAddr 3, [.slot 1], [], [], some (108, true), false⟩, ⟨some 110, .load false 1, [.slot 109], [0], [], some (108, true), false⟩, ⟨some 111, .bin .leq, [.slot 110, .const (.one (.int .i64 (3 : Int)))], [], [], some (108, true), false⟩, op 112 .pick [.slot 108, .slot 111, .const (.one (.bool false))], mv 2 112]) (.ret)) (.seq (.region false [op 114 (.bin .eql) [.slot 4, .const (.one (.int .i64 (6 : Int)))], mv 113 114]) (.cond (.slot 113) (.seq (.region false [o1 115 (.fieldAddr 1) 1, ow 116 (.load false 1) [.slot 115] [0] [], o1 117 (.call ⟨153, vs 1, no 1, [.val false 1], ims 1, true⟩) 116, ⟨some 118, .move, [.slot 117], [], [], none, true⟩, ⟨some 119, .fieldAddr 2, [.slot 1], [], [], some (118, true), false⟩, ⟨some 120, .load false 1, [.slot 119], [0], [], some (118, true), false⟩, ⟨some 121, .call ⟨154, vs 1, no 1, [.val false 1], ims 1, true⟩, [.slot 120], [], [], some (118, true), false⟩, op 122 .pick [.slot 118, .slot 121, .const (.one (.bool false))], ⟨some 123, .move, [.slot 122], [], [], none, true⟩, ⟨some 124, .fieldAddr 3, [.slot 1], [], [], some (123, true), false⟩, ⟨some 125, .load false 1, [.slot 124], [0], [], some (123, true), false⟩, ⟨some 126, .bin .eql, [.slot 125, .const (.one (.int .i64 (0 : Int)))], [], [], some (123, true), false⟩, op 127 .pick [.slot 123, .slot 126, .const (.one (.bool false))], mv 2 127]) (.ret)) (.seq (.region false [op 129 (.bin .eql) [.slot 4, .const (.one (.int .i64 (7 : Int)))], mv 128 129]) (.cond (.slot 128) (.seq (.region false [o1 130 (.fieldAddr 1) 1, ow 131 (.load false 1) [.slot 130] [0] [], o1 132 (.call ⟨153, vs 1, no 1, [.val false 1], ims 1, true⟩) 131, ⟨some 133, .move, [.slot 132], [], [], none, true⟩, ⟨some 134, .fieldAddr 2, [.slot 1], [], [], some (133, true), false⟩, ⟨some 135, .load false 1, [.slot 134], [0], [], some (133, true), false⟩, ⟨some 136, .bin .eql, [.slot 135, .const (.one (.int .i64 (0 : Int)))], [], [], some (133, true), false⟩, op 137 .pick [.slot 133, .slot 136, .const (.one (.bool false))], ⟨some 138, .move, [.slot 137], [], [], none, true⟩, ⟨some 139, .fieldAddr 3, [.slot 1], [], [], some (138, true), false⟩, ⟨some 140, .load false 1, [.slot 139], [0], [], some (138, true), false⟩, ⟨some 141, .call ⟨155, vs 1, no 1, [.val false 1], ims 1, true⟩, [.slot 140], [], [], some (138, true), false⟩, op 142 .pick [.slot 138, .slot 141, .const (.one (.bool false))], mv 2 142]) (.ret)) (.seq (.region false [op 144 (.bin .eql) [.slot 4, .const (.one (.int .i64 (8 : Int)))], mv 143 144]) (.cond (.slot 143) (.seq (.region false [o1 145 (.fieldAddr 1) 1, ow 146 (.load false 1) [.slot 145] [0] [], op 147 (.bin .eql) [.slot 146, .const (.one (.int .i64 (0 : Int)))], ⟨some 148, .move, [.slot 147], [], [], none, true⟩, ⟨some 149, .fieldAddr 2, [.slot 1], [], [], some (148, true), false⟩, ⟨some 150, .load false 1, [.slot 149], [0], [], some (148, true), false⟩, ⟨some 151, .call ⟨154, vs 1, no 1, [.val false 1], ims 1, true⟩, [.slot 150], [], [], some (148, true), false⟩, op 152 .pick [.slot 148, .slot 151, .const (.one (.bool false))], ⟨some 153, .move, [.slot 152], [], [], none, true⟩, ⟨some 154, .fieldAddr 3, [.slot 1], [], [], some (153, true), false⟩, ⟨some 155, .load false 1, [.slot 154], [0], [], some (153, true), false⟩, ⟨some 156, .bin .eql, [.slot 155, .const (.one (.int .i64 (0 : Int)))], [], [], some (153, true), false⟩, op 157 .pick [.slot 153, .slot 156, .const (.one (.bool false))], mv 2 157]) (.ret)) (.skip))))))))))))))))))) (.seq (.region false [op 2 .move [.const (.one (.bool false))]]) (.ret))) }
def impl_IsAction.env (N : Nat) : Env := envOf (tbl [(153, impl_isCode.fs N), (154, impl_isMods.fs N), (155, impl_isUpper.fs N)] noFS)
def impl_IsAction.F (N : Nat) (x : Int × Int × Int × Int) : Option Bool := XFunc.run impl_IsAction.x (impl_IsAction.env N) N x
def impl_IsAction.fs (N : Nat) : FS := { arg := .pair (.int .i64) (.pair (.int .i64) (.pair (.int .i64) (.int .i64))), ret := .bool, fresh := true, F := impl_IsAction.F N }

theorem impl_IsAction.F_eq (N : Nat) (a : Int × Int × Int × Int) : impl_IsAction.F N a =
    bif a.1 == (0 : Int) then
      bif a.1 == (0 : Int) then
        bif a.2.1 == (0 : Int) then
          bif a.2.2.1 == (0 : Int) then
            some (a.2.2.2 == (0 : Int))
          else
            some false
        else
          some false
      else
        bif a.1 == (2 : Int) then
          bif a.2.2.2 == (0 : Int) then
            bif a.2.1 == (0 : Int) then
              bif a.2.2.1 == (0 : Int) then
                bif a.2.1 != (0 : Int) then
                  some true
                else
                  some (a.2.2.1 != (0 : Int))
              else
                bindO (impl_isMods.F N a.2.2.1) fun r1 =>
                bif r1 then
                  bif a.2.1 != (0 : Int) then
                    some true
                  else
                    some (a.2.2.1 != (0 : Int))
                else
                  some false
            else
              bindO (impl_isCode.F N a.2.1) fun r2 =>
              bif r2 then
                bif a.2.2.1 == (0 : Int) then
                  bif a.2.1 != (0 : Int) then
                    some true
                  else
                    some (a.2.2.1 != (0 : Int))
                else
                  bindO (impl_isMods.F N a.2.2.1) fun r3 =>
                  bif r3 then
                    bif a.2.1 != (0 : Int) then
                      some true
                    else
                      some (a.2.2.1 != (0 : Int))
                  else
                    some false
              else
                some false
          else
            some false
        else
          bif a.1 == (3 : Int) then
            bif a.1 == (3 : Int) then
              bif a.2.1 == (0 : Int) then
                bif a.2.2.1 == (0 : Int) then
                  bindO (impl_isUpper.F N a.2.2.2) fun r4 =>
                  some r4
                else
                  some false
              else
                some false
            else
              bif a.1 == (5 : Int) then
                bif a.2.1 == (0 : Int) then
                  bif a.2.2.1 == (0 : Int) then
                    bif decide (a.2.2.2 ≥ (0 : Int)) then
                      some (decide (a.2.2.2 ≤ (3 : Int)))
                    else
                      some false
                  else
                    some false
                else
                  some false
              else
                bif a.1 == (9 : Int) then
                  bif a.2.1 == (0 : Int) then
                    bif a.2.2.1 == (0 : Int) then
                      bif decide (a.2.2.2 ≥ (0 : Int)) then
                        some (decide (a.2.2.2 ≤ (3 : Int)))
                      else
                        some false
                    else
                      some false
                  else
                    some false
                else
                  bif a.1 == (6 : Int) then
                    bindO (impl_isCode.F N a.2.1) fun r5 =>
                    bif r5 then
                      bindO (impl_isMods.F N a.2.2.1) fun r6 =>
                      bif r6 then
                        some (a.2.2.2 == (0 : Int))
                      else
                        some false
                    else
                      some false
                  else
                    bif a.1 == (7 : Int) then
                      bindO (impl_isCode.F N a.2.1) fun r7 =>
                      bif r7 then
                        bif a.2.2.1 == (0 : Int) then
                          bindO (impl_isUpper.F N a.2.2.2) fun r8 =>
                          some r8
                        else
                          some false
                      else
                        some false
                    else
                      bif a.1 == (8 : Int) then
                        bif a.2.1 == (0 : Int) then
                          bindO (impl_isMods.F N a.2.2.1) fun r9 =>
                          bif r9 then
                            some (a.2.2.2 == (0 : Int))
                          else
                            some false
                        else
                          some false
                      else
                        some false
          else
            bif a.1 == (4 : Int) then
              bif a.2.1 == (0 : Int) then
                bif a.2.2.1 == (0 : Int) then
                  bindO (impl_isUpper.F N a.2.2.2) fun r10 =>
                  some r10
                else
                  some false
              else
                some false
            else
              bif a.1 == (5 : Int) then
                bif a.2.1 == (0 : Int) then
                  bif a.2.2.1 == (0 : Int) then
                    bif decide (a.2.2.2 ≥ (0 : Int)) then
                      some (decide (a.2.2.2 ≤ (3 : Int)))
                    else
                      some false
                  else
                    some false
                else
                  some false
              else
                bif a.1 == (9 : Int) then
                  bif a.2.1 == (0 : Int) then
                    bif a.2.2.1 == (0 : Int) then
                      bif decide (a.2.2.2 ≥ (0 : Int)) then
                        some (decide (a.2.2.2 ≤ (3 : Int)))
                      else
                        some false
                    else
                      some false
                  else
                    some false
                else
                  bif a.1 == (6 : Int) then
                    bindO (impl_isCode.F N a.2.1) fun r11 =>
                    bif r11 then
                      bindO (impl_isMods.F N a.2.2.1) fun r12 =>
                      bif r12 then
                        some (a.2.2.2 == (0 : Int))
                      else
                        some false
                    else
                      some false
                  else
                    bif a.1 == (7 : Int) then
                      bindO (impl_isCode.F N a.2.1) fun r13 =>
                      bif r13 then
                        bif a.2.2.1 == (0 : Int) then
                          bindO (impl_isUpper.F N a.2.2.2) fun r14 =>
                          some r14
                        else
                          some false
                      else
                        some false
                    else
                      bif a.1 == (8 : Int) then
                        bif a.2.1 == (0 : Int) then
                          bindO (impl_isMods.F N a.2.2.1) fun r15 =>
                          bif r15 then
                            some (a.2.2.2 == (0 : Int))
                          else
                            some false
                        else
                          some false
                      else
                        some false
    else
      bif a.1 == (1 : Int) then
        bif a.1 == (1 : Int) then
          bif a.2.1 == (0 : Int) then
            bif a.2.2.1 == (0 : Int) then
              some (a.2.2.2 == (0 : Int))
            else
              some false
          else
            some false
        else
          bif a.1 == (2 : Int) then
            bif a.2.2.2 == (0 : Int) then
              bif a.2.1 == (0 : Int) then
                bif a.2.2.1 == (0 : Int) then
                  bif a.2.1 != (0 : Int) then
                    some true
                  else
                    some (a.2.2.1 != (0 : Int))
                else
                  bindO (impl_isMods.F N a.2.2.1) fun r16 =>
                  bif r16 then
                    bif a.2.1 != (0 : Int) then
                      some true
                    else
                      some (a.2.2.1 != (0 : Int))
                  else
                    some false
              else
                bindO (impl_isCode.F N a.2.1) fun r17 =>
                bif r17 then
                  bif a.2.2.1 == (0 : Int) then
                    bif a.2.1 != (0 : Int) then
                      some true
                    else
                      some (a.2.2.1 != (0 : Int))
                  else
                    bindO (impl_isMods.F N a.2.2.1) fun r18 =>
                    bif r18 then
                      bif a.2.1 != (0 : Int) then
                        some true
                      else
                        some (a.2.2.1 != (0 : Int))
                    else
                      some false
                else
                  some false
            else
              some false
          else
            bif a.1 == (3 : Int) then
              bif a.1 == (3 : Int) then
                bif a.2.1 == (0 : Int) then
                  bif a.2.2.1 == (0 : Int) then
                    bindO (impl_isUpper.F N a.2.2.2) fun r19 =>
                    some r19
                  else
                    some false
                else
                  some false
              else
                bif a.1 == (5 : Int) then
                  bif a.2.1 == (0 : Int) then
                    bif a.2.2.1 == (0 : Int) then
                      bif decide (a.2.2.2 ≥ (0 : Int)) then
                        some (decide (a.2.2.2 ≤ (3 : Int)))
                      else
                        some false
                    else
                      some false
                  else
                    some false
                else
                  bif a.1 == (9 : Int) then
                    bif a.2.1 == (0 : Int) then
                      bif a.2.2.1 == (0 : Int) then
                        bif decide (a.2.2.2 ≥ (0 : Int)) then
                          some (decide (a.2.2.2 ≤ (3 : Int)))
                        else
                          some false
                      else
                        some false
                    else
                      some false
                  else
                    bif a.1 == (6 : Int) then
                      bindO (impl_isCode.F N a.2.1) fun r20 =>
                      bif r20 then
                        bindO (impl_isMods.F N a.2.2.1) fun r21 =>
                        bif r21 then
                          some (a.2.2.2 == (0 : Int))
                        else
                          some false
                      else
                        some false
                    else
                      bif a.1 == (7 : Int) then
                        bindO (impl_isCode.F N a.2.1) fun r22 =>
                        bif r22 then
                          bif a.2.2.1 == (0 : Int) then
                            bindO (impl_isUpper.F N a.2.2.2) fun r23 =>
                            some r23
                          else
                            some false
                        else
                          some false
                      else
                        bif a.1 == (8 : Int) then
                          bif a.2.1 == (0 : Int) then
                            bindO (impl_isMods.F N a.2.2.1) fun r24 =>
                            bif r24 then
                              some (a.2.2.2 == (0 : Int))
                            else
                              some false
                          else
                            some false
                        else
                          some false
            else
              bif a.1 == (4 : Int) then
                bif a.2.1 == (0 : Int) then
                  bif a.2.2.1 == (0 : Int) then
                    bindO (impl_isUpper.F N a.2.2.2) fun r25 =>
                    some r25
                  else
                    some false
                else
                  some false
              else
                bif a.1 == (5 : Int) then
                  bif a.2.1 == (0 : Int) then
                    bif a.2.2.1 == (0 : Int) then
                      bif decide (a.2.2.2 ≥ (0 : Int)) then
                        some (decide (a.2.2.2 ≤ (3 : Int)))
                      else
                        some false
                    else
                      some false
                  else
                    some false
                else
                  bif a.1 == (9 : Int) then
                    bif a.2.1 == (0 : Int) then
                      bif a.2.2.1 == (0 : Int) then
                        bif decide (a.2.2.2 ≥ (0 : Int)) then
                          some (decide (a.2.2.2 ≤ (3 : Int)))
                        else
                          some false
                      else
                        some false
                    else
                      some false
                  else
                    bif a.1 == (6 : Int) then
                      bindO (impl_isCode.F N a.2.1) fun r26 =>
                      bif r26 then
                        bindO (impl_isMods.F N a.2.2.1) fun r27 =>
                        bif r27 then
                          some (a.2.2.2 == (0 : Int))
                        else
                          some false
                      else
                        some false
                    else
                      bif a.1 == (7 : Int) then
                        bindO (impl_isCode.F N a.2.1) fun r28 =>
                        bif r28 then
                          bif a.2.2.1 == (0 : Int) then
                            bindO (impl_isUpper.F N a.2.2.2) fun r29 =>
                            some r29
                          else
                            some false
                        else
                          some false
                      else
                        bif a.1 == (8 : Int) then
                          bif a.2.1 == (0 : Int) then
                            bindO (impl_isMods.F N a.2.2.1) fun r30 =>
                            bif r30 then
                              some (a.2.2.2 == (0 : Int))
                            else
                              some false
                          else
                            some false
                        else
                          some false
      else
        bif a.1 == (10 : Int) then
          bif a.2.1 == (0 : Int) then
            bif a.2.2.1 == (0 : Int) then
              some (a.2.2.2 == (0 : Int))
            else
              some false
          else
            some false
        else
          bif a.1 == (2 : Int) then
            bif a.2.2.2 == (0 : Int) then
              bif a.2.1 == (0 : Int) then
                bif a.2.2.1 == (0 : Int) then
                  bif a.2.1 != (0 : Int) then
                    some true
                  else
                    some (a.2.2.1 != (0 : Int))
                else
                  bindO (impl_isMods.F N a.2.2.1) fun r31 =>
                  bif r31 then
                    bif a.2.1 != (0 : Int) then
                      some true
                    else
                      some (a.2.2.1 != (0 : Int))
                  else
                    some false
              else
                bindO (impl_isCode.F N a.2.1) fun r32 =>
                bif r32 then
                  bif a.2.2.1 == (0 : Int) then
                    bif a.2.1 != (0 : Int) then
                      some true
                    else
                      some (a.2.2.1 != (0 : Int))
                  else
                    bindO (impl_isMods.F N a.2.2.1) fun r33 =>
                    bif r33 then
                      bif a.2.1 != (0 : Int) then
                        some true
                      else
                        some (a.2.2.1 != (0 : Int))
                    else
                      some false
                else
                  some false
            else
              some false
          else
            bif a.1 == (3 : Int) then
              bif a.1 == (3 : Int) then
                bif a.2.1 == (0 : Int) then
                  bif a.2.2.1 == (0 : Int) then
                    bindO (impl_isUpper.F N a.2.2.2) fun r34 =>
                    some r34
                  else
                    some false
                else
                  some false
              else
                bif a.1 == (5 : Int) then
                  bif a.2.1 == (0 : Int) then
                    bif a.2.2.1 == (0 : Int) then
                      bif decide (a.2.2.2 ≥ (0 : Int)) then
                        some (decide (a.2.2.2 ≤ (3 : Int)))
                      else
                        some false
                    else
                      some false
                  else
                    some false
                else
                  bif a.1 == (9 : Int) then
                    bif a.2.1 == (0 : Int) then
                      bif a.2.2.1 == (0 : Int) then
                        bif decide (a.2.2.2 ≥ (0 : Int)) then
                          some (decide (a.2.2.2 ≤ (3 : Int)))
                        else
                          some false
                      else
                        some false
                    else
                      some false
                  else
                    bif a.1 == (6 : Int) then
                      bindO (impl_isCode.F N a.2.1) fun r35 =>
                      bif r35 then
                        bindO (impl_isMods.F N a.2.2.1) fun r36 =>
                        bif r36 then
                          some (a.2.2.2 == (0 : Int))
                        else
                          some false
                      else
                        some false
                    else
                      bif a.1 == (7 : Int) then
                        bindO (impl_isCode.F N a.2.1) fun r37 =>
                        bif r37 then
                          bif a.2.2.1 == (0 : Int) then
                            bindO (impl_isUpper.F N a.2.2.2) fun r38 =>
                            some r38
                          else
                            some false
                        else
                          some false
                      else
                        bif a.1 == (8 : Int) then
                          bif a.2.1 == (0 : Int) then
                            bindO (impl_isMods.F N a.2.2.1) fun r39 =>
                            bif r39 then
                              some (a.2.2.2 == (0 : Int))
                            else
                              some false
                          else
                            some false
                        else
                          some false
            else
              bif a.1 == (4 : Int) then
                bif a.2.1 == (0 : Int) then
                  bif a.2.2.1 == (0 : Int) then
                    bindO (impl_isUpper.F N a.2.2.2) fun r40 =>
                    some r40
                  else
                    some false
                else
                  some false
              else
                bif a.1 == (5 : Int) then
                  bif a.2.1 == (0 : Int) then
                    bif a.2.2.1 == (0 : Int) then
                      bif decide (a.2.2.2 ≥ (0 : Int)) then
                        some (decide (a.2.2.2 ≤ (3 : Int)))
                      else
                        some false
                    else
                      some false
                  else
                    some false
                else
                  bif a.1 == (9 : Int) then
                    bif a.2.1 == (0 : Int) then
                      bif a.2.2.1 == (0 : Int) then
                        bif decide (a.2.2.2 ≥ (0 : Int)) then
                          some (decide (a.2.2.2 ≤ (3 : Int)))
                        else
                          some false
                      else
                        some false
                    else
                      some false
                  else
                    bif a.1 == (6 : Int) then
                      bindO (impl_isCode.F N a.2.1) fun r41 =>
                      bif r41 then
                        bindO (impl_isMods.F N a.2.2.1) fun r42 =>
                        bif r42 then
                          some (a.2.2.2 == (0 : Int))
                        else
                          some false
                      else
                        some false
                    else
                      bif a.1 == (7 : Int) then
                        bindO (impl_isCode.F N a.2.1) fun r43 =>
                        bif r43 then
                          bif a.2.2.1 == (0 : Int) then
                            bindO (impl_isUpper.F N a.2.2.2) fun r44 =>
                            some r44
                          else
                            some false
                        else
                          some false
                      else
                        bif a.1 == (8 : Int) then
                          bif a.2.1 == (0 : Int) then
                            bindO (impl_isMods.F N a.2.2.1) fun r45 =>
                            bif r45 then
                              some (a.2.2.2 == (0 : Int))
                            else
                              some false
                          else
                            some false
                        else
                          some false := by kernel_rfl

def impl_IsHeld.c1 : XCode := .seq (.region false [o2 9 (.bin .lss) 8 7]) (.seq (.cond (.slot 9) (.skip) (.exit 0)) (.seq (.block 1 (.seq (.region false [o2 10 (.indexAddr (.pair (.int .i64) (.pair (.int .i64) (.pair (.int .i64) (.pair (.int .i64) (.int .i64)))))) 6 8, o1 11 (.load true 5) 10, ow 5 (.alloc 0 [.int .i64 (0 : Int), .int .i64 (0 : Int), .int .i64 (0 : Int), .int .i64 (0 : Int), .int .i64 (0 : Int)]) [] [0] [0], on (.store 5) [.slot 5, .slot 11] [0] [0]]) (.seq (.seq (.region false [o1 12 (.fieldAddr 0) 5, ow 13 (.load false 1) [.slot 12] [0] [], op 14 (.bin .lss) [.slot 13, .const (.one (.int .i64 (0 : Int)))], ⟨some 15, .move, [.slot 14], [], [], none, true⟩, ⟨some 16, .fieldAddr 0, [.slot 5], [], [], some (15, false), false⟩, ⟨some 17, .load false 1, [.slot 16], [0], [], some (15, false), false⟩, ⟨some 18, .bin .gtr, [.slot 17, .const (.one (.int .i64 (31 : Int)))], [], [], some (15, false), false⟩, op 19 .pick [.slot 15, .const (.one (.bool true)), .slot 18], ⟨some 20, .move, [.slot 19], [], [], none, true⟩, ⟨some 21, .move, [.slot 3], [], [], some (20, false), false⟩, ⟨some 22, .fieldAddr 0, [.slot 5], [], [], some (20, false), false⟩, ⟨some 23, .load false 1, [.slot 22], [0], [], some (20, false), false⟩, ⟨some 24, .call ⟨65, vs 2, no 2, [.val false 1], ims 1, true⟩, [.slot 21, .slot 23], [], [], some (20, false), false⟩, ⟨some 25, .bin .eql, [.slot 24, .const (.one (.int .i64 (1 : Int)))], [], [], some (20, false), false⟩, op 26 .pick [.slot 20, .const (.one (.bool true)), .slot 25], ⟨some 27, .move, [.slot 26], [], [], none, true⟩, ⟨some 28, .fieldAddr 1, [.slot 5], [], [], some (27, false), false⟩, ⟨some 29, .load true 4, [.slot 28], [0], [], some (27, false), false⟩, ⟨some 30, .call ⟨156, [.val true 4], no 4, [.val false 1], ims 1, true⟩, [.slot 29], [], [], some (27, false), false⟩, ⟨some 31, .not, [.slot 30], [], [], some (27, false), false⟩, op 32 .pick [.slot 27, .const (.one (.bool true)), .slot 31]]) (.cond (.slot 32) (.seq (.region false [op 2 .move [.const (.one (.bool false))]]) (.ret)) (.skip))) (.seq (.seq (.region false [o1 33 (.fieldAddr 1) 5, o1 34 (.fieldAddr 0) 33, ow 35 (.load false 1) [.slot 34] [0] []]) (.block 2 (.seq (.seq (.region false [op 37 (.bin .eql) [.slot 35, .const (.one (.int .i64 (1 : Int)))], mv 36 37]) (.cond (.slot 36) (.skip) (.seq (.region false [op 38 (.bin .eql) [.slot 35, .const (.one (.int .i64 (6 : Int)))], mv 36 38]) (.cond (.slot 36) (.skip) (.region false [op 39 (.bin .eql) [.slot 35, .const (.one (.int .i64 (7 : Int)))], mv 36 39]))))) (.cond (.slot 36) (.seq (.region false [op 2 .move [.const (.one (.bool false))]]) (.ret)) (.skip))))) (.region false [mv 40 3, o1 41 (.fieldAddr 0) 5, ow 42 (.load false 1) [.slot 41] [0] [], op 43 (.bin .shl) [.const (.one (.int .i64 (1 : Int))), .slot 42], o2 44 (.bin .or) 40 43, mv 3 44]))))) (.region false [op 45 (.bin .add) [.slot 8, .const (.one (.int .i64 (1 : Int)))], mv 8 45])))
def impl_IsHeld.c2 : XCode := .seq (.region false [op 2 .move [.const (.one (.bool true))]]) (.ret)
def impl_IsHeld.x : XFunc := { nslots := 46, nobj := 1, pars := [.val false 1], rowsIn := [none], rets := [.tmp 2 false 1], outs := [.imm], fresh := true, arg := .list (.pair (.int .i64) (.pair (.int .i64) (.pair (.int .i64) (.pair (.int .i64) (.int .i64))))), ret := .bool, body := .seq (.region false [op 2 .move [.const (.one (.bool false))]]) (.seq (.region false [op 3 .move [.const (.one (.int .i64 (0 : Int)))]]) (.seq (.seq (.region false [mv 6 0, o1 7 .len 6, op 8 .move [.const (.one (.int .i64 (0 : Int)))]]) (.block 0 (.loop [.keep [3, 6, 7, 8], .drop 0, .norm] (impl_IsHeld.c1)))) (impl_IsHeld.c2))) }
def impl_IsHeld.env (N : Nat) : Env := envOf (tbl [(156, impl_IsAction.fs N), (65, impl_bit.fs N)] noFS)
def impl_IsHeld.F (N : Nat) (x : List (Int × Int × Int × Int × Int)) : Option Bool := XFunc.run impl_IsHeld.x (impl_IsHeld.env N) N x
def impl_IsHeld.fs (N : Nat) : FS := { arg := .list (.pair (.int .i64) (.pair (.int .i64) (.pair (.int .i64) (.pair (.int .i64) (.int .i64))))), ret := .bool, fresh := true, F := impl_IsHeld.F N }
def impl_IsHeld.k2 (N : Nat) : Ex → S → Option Bool := seqK (fun s => XCode.runK (impl_IsHeld.env N) N (impl_IsHeld.c2) s (XFunc.endK impl_IsHeld.x)) (XFunc.endK impl_IsHeld.x)
def impl_IsHeld.k1 (N : Nat) : Ex → S → Option Bool := blockK 0 (impl_IsHeld.k2 N)
def impl_IsHeld.L1 (N : Nat) (n1 : Nat) (seen : Int) (t6 : List (Int × Int × Int × Int × Int)) (t7 : Int) (t8 : Int) : Option Bool := loopK [.keep [3, 6, 7, 8], .drop 0, .norm] (fun s k => XCode.runK (impl_IsHeld.env N) N impl_IsHeld.c1 s k) n1
  { t := [.junk, .junk, .junk, .one (.int .i64 seen), .junk, .junk, .one (.sl false (.pair (.int .i64) (.pair (.int .i64) (.pair (.int .i64) (.pair (.int .i64) (.int .i64))))) t6), .one (.int .i64 t7), .one (.int .i64 t8), .junk, .junk, .junk, .junk, .junk, .junk, .junk, .junk, .junk, .junk, .junk, .junk, .junk, .junk, .junk, .junk, .junk, .junk, .junk, .junk, .junk, .junk, .junk, .junk, .junk, .junk, .junk, .junk, .junk, .junk, .junk, .junk, .junk, .junk, .junk, .junk, .junk], h := [.absent 0] }
  (impl_IsHeld.k1 N)

theorem impl_IsHeld.L1_eq (N : Nat) (n1 : Nat) (seen : Int) (t6 : List (Int × Int × Int × Int × Int)) (t7 : Int) (t8 : Int) : impl_IsHeld.L1 N (n1 + 1) seen t6 t7 t8 =
    bif decide (t8 < t7) then
      bif inRange t8 (List.length t6) then
      bif decide (((nth ((0 : Int), ((0 : Int), ((0 : Int), ((0 : Int), (0 : Int))))) t6 t8).1) < (0 : Int)) then
        some false
      else
        bif decide (((nth ((0 : Int), ((0 : Int), ((0 : Int), ((0 : Int), (0 : Int))))) t6 t8).1) > (31 : Int)) then
          some false
        else
          bindO (impl_bit.F N (seen, (nth ((0 : Int), ((0 : Int), ((0 : Int), ((0 : Int), (0 : Int))))) t6 t8).1)) fun r1 =>
          bif r1 == (1 : Int) then
            some false
          else
            bindO (impl_IsAction.F N (((nth ((0 : Int), ((0 : Int), ((0 : Int), ((0 : Int), (0 : Int))))) t6 t8).2).1, ((((nth ((0 : Int), ((0 : Int), ((0 : Int), ((0 : Int), (0 : Int))))) t6 t8).2).2).1, ((((nth ((0 : Int), ((0 : Int), ((0 : Int), ((0 : Int), (0 : Int))))) t6 t8).2).2).2)))) fun r2 =>
            bif !r2 then
              some false
            else
              bif (((nth ((0 : Int), ((0 : Int), ((0 : Int), ((0 : Int), (0 : Int))))) t6 t8).2).1) == (1 : Int) then
                bif (((nth ((0 : Int), ((0 : Int), ((0 : Int), ((0 : Int), (0 : Int))))) t6 t8).2).1) == (1 : Int) then
                  some false
                else
                  bif decide (0 ≤ (nth ((0 : Int), ((0 : Int), ((0 : Int), ((0 : Int), (0 : Int))))) t6 t8).1) then
                  impl_IsHeld.L1 N n1 (bitOr .i64 seen (shiftL .i64 (1 : Int) ((nth ((0 : Int), ((0 : Int), ((0 : Int), ((0 : Int), (0 : Int))))) t6 t8).1))) t6 t7 (IntKind.wrap .i64 (t8 + (1 : Int)))
                  else none
              else
                bif (((nth ((0 : Int), ((0 : Int), ((0 : Int), ((0 : Int), (0 : Int))))) t6 t8).2).1) == (6 : Int) then
                  bif (((nth ((0 : Int), ((0 : Int), ((0 : Int), ((0 : Int), (0 : Int))))) t6 t8).2).1) == (6 : Int) then
                    some false
                  else
                    bif decide (0 ≤ (nth ((0 : Int), ((0 : Int), ((0 : Int), ((0 : Int), (0 : Int))))) t6 t8).1) then
                    impl_IsHeld.L1 N n1 (bitOr .i64 seen (shiftL .i64 (1 : Int) ((nth ((0 : Int), ((0 : Int), ((0 : Int), ((0 : Int), (0 : Int))))) t6 t8).1))) t6 t7 (IntKind.wrap .i64 (t8 + (1 : Int)))
                    else none
                else
                  bif (((nth ((0 : Int), ((0 : Int), ((0 : Int), ((0 : Int), (0 : Int))))) t6 t8).2).1) == (7 : Int) then
                    some false
                  else
                    bif decide (0 ≤ (nth ((0 : Int), ((0 : Int), ((0 : Int), ((0 : Int), (0 : Int))))) t6 t8).1) then
                    impl_IsHeld.L1 N n1 (bitOr .i64 seen (shiftL .i64 (1 : Int) ((nth ((0 : Int), ((0 : Int), ((0 : Int), ((0 : Int), (0 : Int))))) t6 t8).1))) t6 t7 (IntKind.wrap .i64 (t8 + (1 : Int)))
                    else none
      else none
    else
      some true := by kernel_rfl
theorem impl_IsHeld.F_eq (N : Nat) (l_ : List (Int × Int × Int × Int × Int)) : impl_IsHeld.F N l_ =
    impl_IsHeld.L1 N N (0 : Int) l_ (List.length l_ : Int) (0 : Int) := by kernel_rfl

def impl_pairAt.c1 : XCode := .seq (.region false [o2 10 (.bin .lss) 9 8]) (.seq (.cond (.slot 10) (.skip) (.exit 0)) (.seq (.block 1 (.seq (.region false [mv 11 9, o2 12 (.indexAddr (.pair (.int .i64) (.int .i64))) 7 9, o1 13 (.load true 2) 12, ow 6 (.alloc 1 [.int .i64 (0 : Int), .int .i64 (0 : Int)]) [] [1] [1], mv 5 11, on (.store 2) [.slot 6, .slot 13] [1] [1]]) (.seq (.region false [ow 14 (.load true 2) [.slot 6] [1] [], ow 15 (.load true 2) [.slot 3] [0] [], o2 16 (.eqAgg false (.pair (.int .i64) (.int .i64))) 14 15]) (.cond (.slot 16) (.seq (.region false [mv 17 5, mv 4 17]) (.ret)) (.skip))))) (.region false [op 18 (.bin .add) [.slot 9, .const (.one (.int .i64 (1 : Int)))], mv 9 18])))
def impl_pairAt.c2 : XCode := .seq (.region false [op 4 .move [.const (.one (.int .i64 (-1 : Int)))]]) (.ret)
def impl_pairAt.x : XFunc := { nslots := 19, nobj := 2, pars := [.val false 1, .val true 2], rowsIn := [none, none, none], rets := [.tmp 4 false 1], outs := [.imm], fresh := true, arg := .pair (.list (.pair (.int .i64) (.int .i64))) (.pair (.int .i64) (.int .i64)), ret := .int .i64, body := .seq (.region false [ow 3 (.box 0) [.slot 1] [0] [0], op 4 .move [.const (.one (.int .i64 (0 : Int)))]]) (.seq (.seq (.region false [mv 7 0, o1 8 .len 7, op 9 .move [.const (.one (.int .i64 (0 : Int)))]]) (.block 0 (.loop [.keep [3, 7, 8, 9], .drop 1, .norm] (impl_pairAt.c1)))) (impl_pairAt.c2)) }
def impl_pairAt.env (_ : Nat) : Env := envOf (tbl [] noFS)
def impl_pairAt.F (N : Nat) (x : (List (Int × Int)) × Int × Int) : Option Int := XFunc.run impl_pairAt.x (impl_pairAt.env N) N x
def impl_pairAt.fs (N : Nat) : FS := { arg := .pair (.list (.pair (.int .i64) (.int .i64))) (.pair (.int .i64) (.int .i64)), ret := .int .i64, fresh := true, F := impl_pairAt.F N }
def impl_pairAt.k2 (N : Nat) : Ex → S → Option Int := seqK (fun s => XCode.runK (impl_pairAt.env N) N (impl_pairAt.c2) s (XFunc.endK impl_pairAt.x)) (XFunc.endK impl_pairAt.x)
def impl_pairAt.k1 (N : Nat) : Ex → S → Option Int := blockK 0 (impl_pairAt.k2 N)
def impl_pairAt.L1 (N : Nat) (n1 : Nat) (t7 : List (Int × Int)) (t8 : Int) (t9 : Int) (o00 : Int) (o01 : Int) : Option Int := loopK [.keep [3, 7, 8, 9], .drop 1, .norm] (fun s k => XCode.runK (impl_pairAt.env N) N impl_pairAt.c1 s k) n1
  { t := [.junk, .junk, .junk, .one (.ptr 0 0 0), .junk, .junk, .junk, .one (.sl false (.pair (.int .i64) (.int .i64)) t7), .one (.int .i64 t8), .one (.int .i64 t9), .junk, .junk, .junk, .junk, .junk, .junk, .junk, .junk, .junk], h := [.box 0 false [.int .i64 o00, .int .i64 o01], .absent 0] }
  (impl_pairAt.k1 N)

theorem impl_pairAt.L1_eq (N : Nat) (n1 : Nat) (t7 : List (Int × Int)) (t8 : Int) (t9 : Int) (o00 : Int) (o01 : Int) : impl_pairAt.L1 N (n1 + 1) t7 t8 t9 o00 o01 =
    bif decide (t9 < t8) then
      bif inRange t9 (List.length t7) then
      bif (((nth ((0 : Int), (0 : Int)) t7 t9).1) == o00) && (((nth ((0 : Int), (0 : Int)) t7 t9).2) == o01) then
        some t9
      else
        impl_pairAt.L1 N n1 t7 t8 (IntKind.wrap .i64 (t9 + (1 : Int))) o00 o01
      else none
    else
      some (-1 : Int) := by kernel_rfl
theorem impl_pairAt.F_eq (N : Nat) (l_ : List (Int × Int)) (p : Int × Int) : impl_pairAt.F N (l_, p) =
    impl_pairAt.L1 N N l_ (List.length l_ : Int) (0 : Int) p.1 p.2 := by kernel_rfl

def impl_IsMacro.c1 : XCode := .seq (.region false [o2 14 (.bin .lss) 13 12]) (.seq (.cond (.slot 14) (.skip) (.exit 0)) (.seq (.block 1 (.seq (.region false [o2 15 (.indexAddr (.pair (.int .i64) (.pair (.int .i64) (.int .i64)))) 11 13, o1 16 (.load true 3) 15, ow 5 (.alloc 0 [.int .i64 (0 : Int), .int .i64 (0 : Int), .int .i64 (0 : Int)]) [] [0] [0], on (.store 3) [.slot 5, .slot 16] [0] [0]]) (.seq (.region false [o1 17 (.fieldAddr 1) 5, ow 18 (.load false 1) [.slot 17] [0] [], o1 19 (.fieldAddr 2) 5, ow 20 (.load false 1) [.slot 19] [0] [], o2 21 (.build [.int .i64 (0 : Int), .int .i64 (0 : Int)] [(0, 1), (1, 1)]) 18 20, ow 6 (.alloc 1 [.int .i64 (0 : Int), .int .i64 (0 : Int)]) [] [1] [1], on (.store 2) [.slot 6, .slot 21] [1] [1]]) (.seq (.region false [mv 22 3, ow 23 (.load true 2) [.slot 6] [1] [], ow 24 (.call ⟨165, [.val false 1, .val true 2], no 3, [.val false 1], ims 1, true⟩) [.slot 22, .slot 23] [3] [], mv 7 24]) (.seq (.seq (.region false [o1 25 (.fieldAddr 1) 5, ow 26 (.load false 1) [.slot 25] [0] [], o1 27 (.fieldAddr 2) 5, ow 28 (.load false 1) [.slot 27] [0] [], op 29 (.build [.int .i64 (0 : Int), .int .i64 (0 : Int), .int .i64 (0 : Int), .int .i64 (0 : Int)] [(0, 1), (1, 1), (2, 1)]) [.const (.one (.int .i64 (2 : Int))), .slot 26, .slot 28], o1 30 (.call ⟨156, [.val true 4], no 4, [.val false 1], ims 1, true⟩) 29, o1 31 .not 30]) (.cond (.slot 31) (.seq (.region false [op 2 .move [.const (.one (.bool false))]]) (.ret)) (.skip))) (.seq (.region false [o1 32 (.fieldAddr 0) 5, ow 33 (.load false 1) [.slot 32] [0] []]) (.block 2 (.seq (.seq (.region false [op 35 (.bin .eql) [.slot 33, .const (.one (.int .i64 (0 : Int)))], mv 34 35]) (.cond (.slot 34) (.skip) (.region false [op 36 (.bin .eql) [.slot 33, .const (.one (.int .i64 (1 : Int)))], mv 34 36]))) (.cond (.slot 34) (.seq (.seq (.region false [mv 37 7, op 38 (.bin .geq) [.slot 37, .const (.one (.int .i64 (0 : Int)))]]) (.cond (.slot 38) (.seq (.region false [op 2 .move [.const (.one (.bool false))]]) (.ret)) (.skip))) (.seq (.region false [o1 39 (.fieldAddr 0) 5, ow 40 (.load false 1) [.slot 39] [0] [], op 41 (.bin .eql) [.slot 40, .const (.one (.int .i64 (1 : Int)))]]) (.cond (.slot 41) (.region false [mv 42 3, ow 43 (.load true 2) [.slot 6] [1] [], ow 44 (.buildSlice false 2 14 (.pair (.int .i64) (.int .i64)) 1 [(0, 2)] [.int .i64 (0 : Int), .int .i64 (0 : Int)]) [.slot 43] [2] [2], ow 45 (.append false 3 14 (.pair (.int .i64) (.int .i64))) [.slot 42, .slot 44] [2, 3] [3], mv 3 45]) (.skip)))) (.seq (.region false [op 47 (.bin .eql) [.slot 33, .const (.one (.int .i64 (2 : Int)))], mv 46 47]) (.cond (.slot 46) (.seq (.seq (.region false [mv 48 7, op 49 (.bin .lss) [.slot 48, .const (.one (.int .i64 (0 : Int)))]]) (.cond (.slot 49) (.seq (.region false [op 2 .move [.const (.one (.bool false))]]) (.ret)) (.skip))) (.region true [mv 50 3, mv 51 7, ow 52 (.slice (.pair (.int .i64) (.int .i64)) false true) [.slot 50, .slot 51] [3] [], mv 53 3, mv 54 7, op 55 (.bin .add) [.slot 54, .const (.one (.int .i64 (1 : Int)))], ow 56 (.slice (.pair (.int .i64) (.int .i64)) true false) [.slot 53, .slot 55] [3] [], ow 57 (.appendDel 3 14 (.pair (.int .i64) (.int .i64))) [.slot 52, .slot 56] [3] [3], mv 3 57])) (.seq (.region false [op 2 .move [.const (.one (.bool false))]]) (.ret))))))))))))) (.region false [op 58 (.bin .add) [.slot 13, .const (.one (.int .i64 (1 : Int)))], mv 13 58])))
def impl_IsMacro.c2 : XCode := .seq (.region false [mv 59 3, ow 60 .len [.slot 59] [3] [], op 61 (.bin .eql) [.slot 60, .const (.one (.int .i64 (0 : Int)))], mv 2 61]) (.ret)
def impl_IsMacro.x : XFunc := { nslots := 62, nobj := 4, pars := [.val false 1], rowsIn := [none], rets := [.tmp 2 false 1], outs := [.imm], fresh := true, arg := .list (.pair (.int .i64) (.pair (.int .i64) (.int .i64))), ret := .bool, body := .seq (.region false [op 2 .move [.const (.one (.bool false))]]) (.seq (.seq (.region false [mv 8 0, o1 9 .len 8, op 10 (.bin .gtr) [.slot 9, .const (.one (.int .i64 (8 : Int)))]]) (.cond (.slot 10) (.seq (.region false [op 2 .move [.const (.one (.bool false))]]) (.ret)) (.skip))) (.seq (.region false [op 3 .move [.const (.one (.nil))]]) (.seq (.seq (.region false [mv 11 0, o1 12 .len 11, op 13 .move [.const (.one (.int .i64 (0 : Int)))]]) (.block 0 (.loop [.mkrow (.slot 3) 3 14 (.pair (.int .i64) (.int .i64)), .keep [3, 11, 12, 13], .drop 0, .drop 1, .drop 2, .norm] (impl_IsMacro.c1)))) (impl_IsMacro.c2)))) }
def impl_IsMacro.env (N : Nat) : Env := envOf (tbl [(156, impl_IsAction.fs N), (165, impl_pairAt.fs N)] noFS)
def impl_IsMacro.F (N : Nat) (x : List (Int × Int × Int)) : Option Bool := XFunc.run impl_IsMacro.x (impl_IsMacro.env N) N x
def impl_IsMacro.fs (N : Nat) : FS := { arg := .list (.pair (.int .i64) (.pair (.int .i64) (.int .i64))), ret := .bool, fresh := true, F := impl_IsMacro.F N }
def impl_IsMacro.k2 (N : Nat) : Ex → S → Option Bool := seqK (fun s => XCode.runK (impl_IsMacro.env N) N (impl_IsMacro.c2) s (XFunc.endK impl_IsMacro.x)) (XFunc.endK impl_IsMacro.x)
def impl_IsMacro.k1 (N : Nat) : Ex → S → Option Bool := blockK 0 (impl_IsMacro.k2 N)
def impl_IsMacro.L1 (N : Nat) (n1 : Nat) (t11 : List (Int × Int × Int)) (t12 : Int) (t13 : Int) (o3 : List (Int × Int)) : Option Bool := loopK [.mkrow (.slot 3) 3 14 (.pair (.int .i64) (.int .i64)), .keep [3, 11, 12, 13], .drop 0, .drop 1, .drop 2, .norm] (fun s k => XCode.runK (impl_IsMacro.env N) N impl_IsMacro.c1 s k) n1
  { t := [.junk, .junk, .junk, .one (.ref 3 0 .all), .junk, .junk, .junk, .junk, .junk, .junk, .junk, .one (.sl false (.pair (.int .i64) (.pair (.int .i64) (.int .i64))) t11), .one (.int .i64 t12), .one (.int .i64 t13), .junk, .junk, .junk, .junk, .junk, .junk, .junk, .junk, .junk, .junk, .junk, .junk, .junk, .junk, .junk, .junk, .junk, .junk, .junk, .junk, .junk, .junk, .junk, .junk, .junk, .junk, .junk, .junk, .junk, .junk, .junk, .junk, .junk, .junk, .junk, .junk, .junk, .junk, .junk, .junk, .junk, .junk, .junk, .junk, .junk, .junk, .junk, .junk], h := [.absent 0, .absent 0, .absent 0, .row 0 false true 14 (.pair (.int .i64) (.int .i64)) o3] }
  (impl_IsMacro.k1 N)

theorem impl_IsMacro.L1_eq (N : Nat) (n1 : Nat) (t11 : List (Int × Int × Int)) (t12 : Int) (t13 : Int) (o3 : List (Int × Int)) : impl_IsMacro.L1 N (n1 + 1) t11 t12 t13 o3 =
    bif decide (t13 < t12) then
      bif inRange t13 (List.length t11) then
      bindO (impl_pairAt.F N (o3, ((nth ((0 : Int), ((0 : Int), (0 : Int))) t11 t13).2))) fun r1 =>
      bindO (impl_IsAction.F N ((2 : Int), (((nth ((0 : Int), ((0 : Int), (0 : Int))) t11 t13).2).1, (((nth ((0 : Int), ((0 : Int), (0 : Int))) t11 t13).2).2, (0 : Int))))) fun r2 =>
      bif !r2 then
        some false
      else
        bif ((nth ((0 : Int), ((0 : Int), (0 : Int))) t11 t13).1) == (0 : Int) then
          bif ((nth ((0 : Int), ((0 : Int), (0 : Int))) t11 t13).1) == (0 : Int) then
            bif decide (r1 ≥ (0 : Int)) then
              some false
            else
              bif ((nth ((0 : Int), ((0 : Int), (0 : Int))) t11 t13).1) == (1 : Int) then
                bif decide (List.length o3 + List.length ([((nth ((0 : Int), ((0 : Int), (0 : Int))) t11 t13).2)] : List (Int × Int)) ≤ maxN) then
                impl_IsMacro.L1 N n1 t11 t12 (IntKind.wrap .i64 (t13 + (1 : Int))) (o3 ++ ([((nth ((0 : Int), ((0 : Int), (0 : Int))) t11 t13).2)] : List (Int × Int)))
                else none
              else
                impl_IsMacro.L1 N n1 t11 t12 (IntKind.wrap .i64 (t13 + (1 : Int))) o3
          else
            bif ((nth ((0 : Int), ((0 : Int), (0 : Int))) t11 t13).1) == (2 : Int) then
              bif decide (r1 < (0 : Int)) then
                some false
              else
                bif decide (0 ≤ r1) && decide (r1 ≤ (List.length o3 : Int)) then
                bif decide (0 ≤ IntKind.wrap .i64 (r1 + (1 : Int))) && decide (IntKind.wrap .i64 (r1 + (1 : Int)) ≤ (List.length o3 : Int)) then
                bif decide ((Int.toNat r1) ≤ (Int.toNat (IntKind.wrap .i64 (r1 + (1 : Int))))) && decide (List.length o3 ≤ maxN) then
                impl_IsMacro.L1 N n1 t11 t12 (IntKind.wrap .i64 (t13 + (1 : Int))) (List.take (Int.toNat r1) o3 ++ List.drop (Int.toNat (IntKind.wrap .i64 (r1 + (1 : Int)))) o3)
                else none
                else none
                else none
            else
              some false
        else
          bif ((nth ((0 : Int), ((0 : Int), (0 : Int))) t11 t13).1) == (1 : Int) then
            bif decide (r1 ≥ (0 : Int)) then
              some false
            else
              bif ((nth ((0 : Int), ((0 : Int), (0 : Int))) t11 t13).1) == (1 : Int) then
                bif decide (List.length o3 + List.length ([((nth ((0 : Int), ((0 : Int), (0 : Int))) t11 t13).2)] : List (Int × Int)) ≤ maxN) then
                impl_IsMacro.L1 N n1 t11 t12 (IntKind.wrap .i64 (t13 + (1 : Int))) (o3 ++ ([((nth ((0 : Int), ((0 : Int), (0 : Int))) t11 t13).2)] : List (Int × Int)))
                else none
              else
                impl_IsMacro.L1 N n1 t11 t12 (IntKind.wrap .i64 (t13 + (1 : Int))) o3
          else
            bif ((nth ((0 : Int), ((0 : Int), (0 : Int))) t11 t13).1) == (2 : Int) then
              bif decide (r1 < (0 : Int)) then
                some false
              else
                bif decide (0 ≤ r1) && decide (r1 ≤ (List.length o3 : Int)) then
                bif decide (0 ≤ IntKind.wrap .i64 (r1 + (1 : Int))) && decide (IntKind.wrap .i64 (r1 + (1 : Int)) ≤ (List.length o3 : Int)) then
                bif decide ((Int.toNat r1) ≤ (Int.toNat (IntKind.wrap .i64 (r1 + (1 : Int))))) && decide (List.length o3 ≤ maxN) then
                impl_IsMacro.L1 N n1 t11 t12 (IntKind.wrap .i64 (t13 + (1 : Int))) (List.take (Int.toNat r1) o3 ++ List.drop (Int.toNat (IntKind.wrap .i64 (r1 + (1 : Int)))) o3)
                else none
                else none
                else none
            else
              some false
      else none
    else
      some ((List.length o3 : Int) == (0 : Int)) := by kernel_rfl
theorem impl_IsMacro.F_eq (N : Nat) (l_ : List (Int × Int × Int)) : impl_IsMacro.F N l_ =
    bif decide ((List.length l_ : Int) > (8 : Int)) then
      some false
    else
      impl_IsMacro.L1 N N l_ (List.length l_ : Int) (0 : Int) ([] : List (Int × Int)) := by kernel_rfl

def impl_codesOf.c1 : XCode := .seq (.region false [o2 14 (.bin .lss) 13 12]) (.seq (.cond (.slot 14) (.skip) (.exit 0)) (.seq (.block 1 (.seq (.region false [ow 15 (.indexAddr (.int .i64)) [.slot 11, .slot 13] [0] [], ow 16 (.load false 1) [.slot 15] [0] [], mv 6 16]) (.seq (.region false [mv 17 6, op 18 (.bin .neq) [.slot 17, .const (.one (.int .i64 (0 : Int)))], ⟨some 19, .move, [.slot 18], [], [], none, true⟩, ⟨some 20, .move, [.slot 4], [], [], some (19, true), false⟩, ⟨some 21, .move, [.slot 6], [], [], some (19, true), false⟩, ⟨some 22, .call ⟨202, vs 2, no 2, [.val false 1], ims 1, true⟩, [.slot 20, .slot 21], [2], [], some (19, true), false⟩, ⟨some 23, .not, [.slot 22], [], [], some (19, true), false⟩, op 24 .pick [.slot 19, .slot 23, .const (.one (.bool false))]]) (.cond (.slot 24) (.region false [mv 25 4, mv 26 6, ow 27 (.buildSlice false 1 2 (.int .i64) 1 [(0, 1)] [.int .i64 (0 : Int)]) [.slot 26] [1] [1], ow 28 (.append false 2 2 (.int .i64)) [.slot 25, .slot 27] [1, 2] [2], mv 4 28]) (.skip))))) (.region false [op 29 (.bin .add) [.slot 13, .const (.one (.int .i64 (1 : Int)))], mv 13 29])))
def impl_codesOf.c2 : XCode := .seq (.region false [mv 30 4, mv 2 30]) (.ret)
def impl_codesOf.x : XFunc := { nslots := 31, nobj := 3, pars := [.val false 1], rowsIn := [none], rets := [.tmp 2 false 1], outs := [.own 2], fresh := true, arg := .list (.int .i64), ret := .list (.int .i64), body := .seq (.region false [op 2 .move [.const (.one (.nil))]]) (.seq (.region false [mv 7 0, ow 8 (.call ⟨114, vs 1, no 1, [.val false 1], [.own 0 2], true⟩) [.slot 7] [0] [0], mv 3 8]) (.seq (.region false [mv 9 3, ow 10 (.call ⟨201, vs 1, [some (0, 2)], [], [.back 0], true⟩) [.slot 9] [0] [0]]) (.seq (.region false [op 4 .move [.const (.one (.nil))]]) (.seq (.seq (.region false [mv 11 3, ow 12 .len [.slot 11] [0] [], op 13 .move [.const (.one (.int .i64 (0 : Int)))]]) (.block 0 (.loop [.mkrow (.slot 4) 2 2 (.int .i64), .keep [4, 11, 12, 13], .drop 1, .norm] (impl_codesOf.c1)))) (impl_codesOf.c2))))) }
def impl_codesOf.env (N : Nat) : Env := envOf (tbl [(201, ext_sort_Ints.fs N), (114, impl_copyInts.fs N), (202, impl_hasInt.fs N)] noFS)
def impl_codesOf.F (N : Nat) (x : List Int) : Option (List Int) := XFunc.run impl_codesOf.x (impl_codesOf.env N) N x
def impl_codesOf.fs (N : Nat) : FS := { arg := .list (.int .i64), ret := .list (.int .i64), fresh := true, F := impl_codesOf.F N }
def impl_codesOf.k2 (N : Nat) : Ex → S → Option (List Int) := seqK (fun s => XCode.runK (impl_codesOf.env N) N (impl_codesOf.c2) s (XFunc.endK impl_codesOf.x)) (XFunc.endK impl_codesOf.x)
def impl_codesOf.k1 (N : Nat) : Ex → S → Option (List Int) := blockK 0 (impl_codesOf.k2 N)
def impl_codesOf.L1 (N : Nat) (n1 : Nat) (t12 : Int) (t13 : Int) (o0 : List Int) (o2 : List Int) : Option (List Int) := loopK [.mkrow (.slot 4) 2 2 (.int .i64), .keep [4, 11, 12, 13], .drop 1, .norm] (fun s k => XCode.runK (impl_codesOf.env N) N impl_codesOf.c1 s k) n1
  { t := [.junk, .junk, .junk, .junk, .one (.ref 2 0 .all), .junk, .junk, .junk, .junk, .junk, .junk, .one (.ref 0 0 .all), .one (.int .i64 t12), .one (.int .i64 t13), .junk, .junk, .junk, .junk, .junk, .junk, .junk, .junk, .junk, .junk, .junk, .junk, .junk, .junk, .junk, .junk, .junk], h := [.row 0 false true 2 (.int .i64) o0, .absent 0, .row 0 false true 2 (.int .i64) o2] }
  (impl_codesOf.k1 N)

theorem impl_codesOf.L1_eq (N : Nat) (n1 : Nat) (t12 : Int) (t13 : Int) (o0 : List Int) (o2 : List Int) : impl_codesOf.L1 N (n1 + 1) t12 t13 o0 o2 =
    bif decide (t13 < t12) then
      bif inRange t13 (List.length o0) then
      bif (List.getD o0 (Int.toNat t13) (0 : Int)) != (0 : Int) then
        bindO (impl_hasInt.F N (o2, List.getD o0 (Int.toNat t13) (0 : Int))) fun r3 =>
        bif !r3 then
          bif decide (List.length o2 + List.length ([List.getD o0 (Int.toNat t13) (0 : Int)] : List Int) ≤ maxN) then
          impl_codesOf.L1 N n1 t12 (IntKind.wrap .i64 (t13 + (1 : Int))) o0 (o2 ++ ([List.getD o0 (Int.toNat t13) (0 : Int)] : List Int))
          else none
        else
          impl_codesOf.L1 N n1 t12 (IntKind.wrap .i64 (t13 + (1 : Int))) o0 o2
      else
        impl_codesOf.L1 N n1 t12 (IntKind.wrap .i64 (t13 + (1 : Int))) o0 o2
      else none
    else
      some o2 := by kernel_rfl
theorem impl_codesOf.F_eq (N : Nat) (l_ : List Int) : impl_codesOf.F N l_ =
    bindO (impl_copyInts.F N l_) fun r1 =>
    bindO (ext_sort_Ints.F N r1) fun r2 =>
    impl_codesOf.L1 N N (List.length r2 : Int) (0 : Int) r2 ([] : List Int) := by kernel_rfl

def impl_ReportOf.c1 : XCode := .seq (.region false [o2 14 (.bin .lss) 13 12]) (.seq (.cond (.slot 14) (.skip) (.exit 0)) (.seq (.block 1 (.seq (.region false [o2 15 (.indexAddr (.pair (.int .i64) (.pair (.int .i64) (.pair (.int .i64) (.pair (.int .i64) (.int .i64)))))) 11 13, o1 16 (.load true 5) 15, ow 6 (.alloc 2 [.int .i64 (0 : Int), .int .i64 (0 : Int), .int .i64 (0 : Int), .int .i64 (0 : Int), .int .i64 (0 : Int)]) [] [2] [2], on (.store 5) [.slot 6, .slot 16] [2] [2]]) (.seq (.seq (.region false [o1 17 (.fieldAddr 1) 6, o1 18 (.fieldAddr 0) 17, ow 19 (.load false 1) [.slot 18] [2] [], op 20 (.bin .eql) [.slot 19, .const (.one (.int .i64 (2 : Int)))], ⟨some 21, .move, [.slot 20], [], [], none, true⟩, ⟨some 22, .fieldAddr 1, [.slot 6], [], [], some (21, false), false⟩, ⟨some 23, .fieldAddr 0, [.slot 22], [], [], some (21, false), false⟩, ⟨some 24, .load false 1, [.slot 23], [2], [], some (21, false), false⟩, ⟨some 25, .bin .eql, [.slot 24, .const (.one (.int .i64 (8 : Int)))], [], [], some (21, false), false⟩, op 26 .pick [.slot 21, .const (.one (.bool true)), .slot 25]]) (.cond (.slot 26) (.region false [o1 27 (.fieldAddr 0) 3, ow 28 (.load false 1) [.slot 27] [1] [], o1 29 (.fieldAddr 1) 6, o1 30 (.fieldAddr 2) 29, ow 31 (.load false 1) [.slot 30] [2] [], o2 32 (.bin .or) 28 31, o1 33 (.fieldAddr 0) 3, on (.store 1) [.slot 33, .slot 32] [1] [1]]) (.skip))) (.region false [mv 34 4, o1 35 (.fieldAddr 1) 6, o1 36 (.fieldAddr 1) 35, ow 37 (.load false 1) [.slot 36] [2] [], ow 38 (.buildSlice false 3 2 (.int .i64) 1 [(0, 1)] [.int .i64 (0 : Int)]) [.slot 37] [3] [3], ow 39 (.append false 4 2 (.int .i64)) [.slot 34, .slot 38] [3, 4] [4], mv 4 39])))) (.region false [op 40 (.bin .add) [.slot 13, .const (.one (.int .i64 (1 : Int)))], mv 13 40])))
def impl_ReportOf.c2 : XCode := .seq (.region false [mv 41 4, ow 42 (.call ⟨203, vs 1, no 1, [.val false 1], ims 1, true⟩) [.slot 41] [4] [], o1 43 (.fieldAddr 1) 3, on (.store 1) [.slot 43, .slot 42] [1] [1]]) (.seq (.region false [ow 44 (.load true 2) [.slot 3] [1] [], on (.store 2) [.slot 2, .slot 44] [0] [0]]) (.ret))
def impl_ReportOf.x : XFunc := { nslots := 45, nobj := 5, pars := [.val false 1], rowsIn := [none], rets := [.var 2 true 2], outs := [.imm, .imm], fresh := true, arg := .list (.pair (.int .i64) (.pair (.int .i64) (.pair (.int .i64) (.pair (.int .i64) (.int .i64))))), ret := .pair (.int .i64) (.list (.int .i64)), body := .seq (.region false [ow 2 (.alloc 0 [.int .i64 (0 : Int), .nil]) [] [0] [0]]) (.seq (.seq (.region false [mv 7 0, o1 8 (.call ⟨164, vs 1, no 1, [.val false 1], ims 1, true⟩) 7, o1 9 .not 8]) (.cond (.slot 9) (.seq (.region false [op 10 (.build [.int .i64 (0 : Int), .nil] []) [], on (.store 2) [.slot 2, .slot 10] [0] [0]]) (.ret)) (.skip))) (.seq (.region false [ow 3 (.alloc 1 [.int .i64 (0 : Int), .nil]) [] [1] [1]]) (.seq (.region false [op 4 .move [.const (.one (.nil))]]) (.seq (.seq (.region false [mv 11 0, o1 12 .len 11, op 13 .move [.const (.one (.int .i64 (0 : Int)))]]) (.block 0 (.loop [.mkrow (.slot 4) 4 2 (.int .i64), .keep [2, 3, 4, 11, 12, 13], .drop 2, .drop 3, .norm] (impl_ReportOf.c1)))) (impl_ReportOf.c2))))) }
def impl_ReportOf.env (N : Nat) : Env := envOf (tbl [(164, impl_IsHeld.fs N), (203, impl_codesOf.fs N)] noFS)
def impl_ReportOf.F (N : Nat) (x : List (Int × Int × Int × Int × Int)) : Option (Int × List Int) := XFunc.run impl_ReportOf.x (impl_ReportOf.env N) N x
def impl_ReportOf.fs (N : Nat) : FS := { arg := .list (.pair (.int .i64) (.pair (.int .i64) (.pair (.int .i64) (.pair (.int .i64) (.int .i64))))), ret := .pair (.int .i64) (.list (.int .i64)), fresh := true, F := impl_ReportOf.F N }
def impl_ReportOf.k2 (N : Nat) : Ex → S → Option (Int × List Int) := seqK (fun s => XCode.runK (impl_ReportOf.env N) N (impl_ReportOf.c2) s (XFunc.endK impl_ReportOf.x)) (XFunc.endK impl_ReportOf.x)
def impl_ReportOf.k1 (N : Nat) : Ex → S → Option (Int × List Int) := blockK 0 (impl_ReportOf.k2 N)
def impl_ReportOf.L1 (N : Nat) (n1 : Nat) (t11 : List (Int × Int × Int × Int × Int)) (t12 : Int) (t13 : Int) (o10 : Int) (o4 : List Int) : Option (Int × List Int) := loopK [.mkrow (.slot 4) 4 2 (.int .i64), .keep [2, 3, 4, 11, 12, 13], .drop 2, .drop 3, .norm] (fun s k => XCode.runK (impl_ReportOf.env N) N impl_ReportOf.c1 s k) n1
  { t := [.junk, .junk, .one (.ptr 0 0 0), .one (.ptr 1 0 0), .one (.ref 4 0 .all), .junk, .junk, .junk, .junk, .junk, .junk, .one (.sl false (.pair (.int .i64) (.pair (.int .i64) (.pair (.int .i64) (.pair (.int .i64) (.int .i64))))) t11), .one (.int .i64 t12), .one (.int .i64 t13), .junk, .junk, .junk, .junk, .junk, .junk, .junk, .junk, .junk, .junk, .junk, .junk, .junk, .junk, .junk, .junk, .junk, .junk, .junk, .junk, .junk, .junk, .junk, .junk, .junk, .junk, .junk, .junk, .junk, .junk, .junk], h := [.box 0 false [.int .i64 (0 : Int), .nil], .box 0 false [.int .i64 o10, .nil], .absent 0, .absent 0, .row 0 false true 2 (.int .i64) o4] }
  (impl_ReportOf.k1 N)

theorem impl_ReportOf.L1_eq (N : Nat) (n1 : Nat) (t11 : List (Int × Int × Int × Int × Int)) (t12 : Int) (t13 : Int) (o10 : Int) (o4 : List Int) : impl_ReportOf.L1 N (n1 + 1) t11 t12 t13 o10 o4 =
    bif decide (t13 < t12) then
      bif inRange t13 (List.length t11) then
      bif (((nth ((0 : Int), ((0 : Int), ((0 : Int), ((0 : Int), (0 : Int))))) t11 t13).2).1) == (2 : Int) then
        bif decide (List.length o4 + List.length ([(((nth ((0 : Int), ((0 : Int), ((0 : Int), ((0 : Int), (0 : Int))))) t11 t13).2).2).1] : List Int) ≤ maxN) then
        impl_ReportOf.L1 N n1 t11 t12 (IntKind.wrap .i64 (t13 + (1 : Int))) (bitOr .i64 o10 (((((nth ((0 : Int), ((0 : Int), ((0 : Int), ((0 : Int), (0 : Int))))) t11 t13).2).2).2).1)) (o4 ++ ([(((nth ((0 : Int), ((0 : Int), ((0 : Int), ((0 : Int), (0 : Int))))) t11 t13).2).2).1] : List Int))
        else none
      else
        bif (((nth ((0 : Int), ((0 : Int), ((0 : Int), ((0 : Int), (0 : Int))))) t11 t13).2).1) == (8 : Int) then
          bif decide (List.length o4 + List.length ([(((nth ((0 : Int), ((0 : Int), ((0 : Int), ((0 : Int), (0 : Int))))) t11 t13).2).2).1] : List Int) ≤ maxN) then
          impl_ReportOf.L1 N n1 t11 t12 (IntKind.wrap .i64 (t13 + (1 : Int))) (bitOr .i64 o10 (((((nth ((0 : Int), ((0 : Int), ((0 : Int), ((0 : Int), (0 : Int))))) t11 t13).2).2).2).1)) (o4 ++ ([(((nth ((0 : Int), ((0 : Int), ((0 : Int), ((0 : Int), (0 : Int))))) t11 t13).2).2).1] : List Int))
          else none
        else
          bif decide (List.length o4 + List.length ([(((nth ((0 : Int), ((0 : Int), ((0 : Int), ((0 : Int), (0 : Int))))) t11 t13).2).2).1] : List Int) ≤ maxN) then
          impl_ReportOf.L1 N n1 t11 t12 (IntKind.wrap .i64 (t13 + (1 : Int))) o10 (o4 ++ ([(((nth ((0 : Int), ((0 : Int), ((0 : Int), ((0 : Int), (0 : Int))))) t11 t13).2).2).1] : List Int))
          else none
      else none
    else
      bindO (impl_codesOf.F N o4) fun r2 =>
      some (o10, r2) := by kernel_rfl
theorem impl_ReportOf.F_eq (N : Nat) (l_ : List (Int × Int × Int × Int × Int)) : impl_ReportOf.F N l_ =
    bindO (impl_IsHeld.F N l_) fun r1 =>
    bif !r1 then
      some ((0 : Int), ([] : List Int))
    else
      impl_ReportOf.L1 N N l_ (List.length l_ : Int) (0 : Int) (0 : Int) ([] : List Int) := by kernel_rfl

def impl_withPairs.c1 : XCode := .seq (.region false [o2 18 (.bin .lss) 17 16]) (.seq (.cond (.slot 18) (.skip) (.exit 0)) (.seq (.block 1 (.seq (.region false [o2 19 (.indexAddr (.pair (.int .i64) (.int .i64))) 15 17, o1 20 (.load true 2) 19, ow 8 (.alloc 3 [.int .i64 (0 : Int), .int .i64 (0 : Int)]) [] [3] [3], on (.store 2) [.slot 8, .slot 20] [3] [3]]) (.seq (.region false [o1 21 (.fieldAddr 0) 5, ow 22 (.load false 1) [.slot 21] [2] [], o1 23 (.fieldAddr 1) 8, ow 24 (.load false 1) [.slot 23] [3] [], o2 25 (.bin .or) 22 24, o1 26 (.fieldAddr 0) 5, on (.store 1) [.slot 26, .slot 25] [2] [2]]) (.region false [mv 27 6, o1 28 (.fieldAddr 0) 8, ow 29 (.load false 1) [.slot 28] [3] [], ow 30 (.buildSlice false 4 2 (.int .i64) 1 [(0, 1)] [.int .i64 (0 : Int)]) [.slot 29] [4] [4], ow 31 (.append false 5 2 (.int .i64)) [.slot 27, .slot 30] [4, 5] [5], mv 6 31])))) (.region false [op 32 (.bin .add) [.slot 17, .const (.one (.int .i64 (1 : Int)))], mv 17 32])))
def impl_withPairs.c2 : XCode := .seq (.region false [mv 33 6, ow 34 (.call ⟨203, vs 1, no 1, [.val false 1], ims 1, true⟩) [.slot 33] [5] [], o1 35 (.fieldAddr 1) 5, on (.store 1) [.slot 35, .slot 34] [2] [2]]) (.seq (.region false [ow 36 (.load true 2) [.slot 5] [2] [], on (.store 2) [.slot 4, .slot 36] [1] [1]]) (.ret))
def impl_withPairs.x : XFunc := { nslots := 37, nobj := 6, pars := [.val true 2, .val false 1], rowsIn := [none, none, none], rets := [.var 4 true 2], outs := [.imm, .imm], fresh := true, arg := .pair (.pair (.int .i64) (.list (.int .i64))) (.list (.pair (.int .i64) (.int .i64))), ret := .pair (.int .i64) (.list (.int .i64)), body := .seq (.region false [ow 2 (.box 0) [.slot 0] [0] [0], ow 4 (.alloc 1 [.int .i64 (0 : Int), .nil]) [] [1] [1]]) (.seq (.region false [o1 9 (.fieldAddr 0) 2, ow 10 (.load false 1) [.slot 9] [0] [], o1 11 (.build [.int .i64 (0 : Int), .nil] [(0, 1)]) 10, ow 5 (.alloc 2 [.int .i64 (0 : Int), .nil]) [] [2] [2], on (.store 2) [.slot 5, .slot 11] [2] [2]]) (.seq (.region false [o1 12 (.fieldAddr 1) 2, ow 13 (.load false 1) [.slot 12] [0] [], ow 14 (.call ⟨114, vs 1, no 1, [.val false 1], [.own 5 2], true⟩) [.slot 13] [5] [5], mv 6 14]) (.seq (.seq (.region false [mv 15 1, o1 16 .len 15, op 17 .move [.const (.one (.int .i64 (0 : Int)))]]) (.block 0 (.loop [.keep [4, 5, 6, 15, 16, 17], .drop 0, .drop 3, .drop 4, .norm] (impl_withPairs.c1)))) (impl_withPairs.c2)))) }
def impl_withPairs.env (N : Nat) : Env := envOf (tbl [(203, impl_codesOf.fs N), (114, impl_copyInts.fs N)] noFS)
def impl_withPairs.F (N : Nat) (x : (Int × List Int) × List (Int × Int)) : Option (Int × List Int) := XFunc.run impl_withPairs.x (impl_withPairs.env N) N x
def impl_withPairs.fs (N : Nat) : FS := { arg := .pair (.pair (.int .i64) (.list (.int .i64))) (.list (.pair (.int .i64) (.int .i64))), ret := .pair (.int .i64) (.list (.int .i64)), fresh := true, F := impl_withPairs.F N }
def impl_withPairs.k2 (N : Nat) : Ex → S → Option (Int × List Int) := seqK (fun s => XCode.runK (impl_withPairs.env N) N (impl_withPairs.c2) s (XFunc.endK impl_withPairs.x)) (XFunc.endK impl_withPairs.x)
def impl_withPairs.k1 (N : Nat) : Ex → S → Option (Int × List Int) := blockK 0 (impl_withPairs.k2 N)
def impl_withPairs.L1 (N : Nat) (n1 : Nat) (t15 : List (Int × Int)) (t16 : Int) (t17 : Int) (o20 : Int) (o5 : List Int) : Option (Int × List Int) := loopK [.keep [4, 5, 6, 15, 16, 17], .drop 0, .drop 3, .drop 4, .norm] (fun s k => XCode.runK (impl_withPairs.env N) N impl_withPairs.c1 s k) n1
  { t := [.junk, .junk, .junk, .junk, .one (.ptr 1 0 0), .one (.ptr 2 0 0), .one (.ref 5 0 .all), .junk, .junk, .junk, .junk, .junk, .junk, .junk, .junk, .one (.sl false (.pair (.int .i64) (.int .i64)) t15), .one (.int .i64 t16), .one (.int .i64 t17), .junk, .junk, .junk, .junk, .junk, .junk, .junk, .junk, .junk, .junk, .junk, .junk, .junk, .junk, .junk, .junk, .junk, .junk, .junk], h := [.absent 0, .box 0 false [.int .i64 (0 : Int), .nil], .box 0 false [.int .i64 o20, .nil], .absent 0, .absent 0, .row 0 false true 2 (.int .i64) o5] }
  (impl_withPairs.k1 N)

theorem impl_withPairs.L1_eq (N : Nat) (n1 : Nat) (t15 : List (Int × Int)) (t16 : Int) (t17 : Int) (o20 : Int) (o5 : List Int) : impl_withPairs.L1 N (n1 + 1) t15 t16 t17 o20 o5 =
    bif decide (t17 < t16) then
      bif inRange t17 (List.length t15) then
      bif decide (List.length o5 + List.length ([(nth ((0 : Int), (0 : Int)) t15 t17).1] : List Int) ≤ maxN) then
      impl_withPairs.L1 N n1 t15 t16 (IntKind.wrap .i64 (t17 + (1 : Int))) (bitOr .i64 o20 ((nth ((0 : Int), (0 : Int)) t15 t17).2)) (o5 ++ ([(nth ((0 : Int), (0 : Int)) t15 t17).1] : List Int))
      else none
      else none
    else
      bindO (impl_codesOf.F N o5) fun r2 =>
      some (o20, r2) := by kernel_rfl
theorem impl_withPairs.F_eq (N : Nat) (r_ : Int × List Int) (l_ : List (Int × Int)) : impl_withPairs.F N (r_, l_) =
    bindO (impl_copyInts.F N r_.2) fun r1 =>
    impl_withPairs.L1 N N l_ (List.length l_ : Int) (0 : Int) r_.1 r1 := by kernel_rfl

def impl_MacroReports.c1 : XCode := .seq (.region false [o2 25 (.bin .lss) 24 23]) (.seq (.cond (.slot 25) (.skip) (.exit 0)) (.seq (.block 1 (.seq (.region false [o2 26 (.indexAddr (.pair (.int .i64) (.pair (.int .i64) (.int .i64)))) 22 24, o1 27 (.load true 3) 26, ow 9 (.alloc 1 [.int .i64 (0 : Int), .int .i64 (0 : Int), .int .i64 (0 : Int)]) [] [1] [1], on (.store 3) [.slot 9, .slot 27] [1] [1]]) (.seq (.region false [o1 28 (.fieldAddr 1) 9, ow 29 (.load false 1) [.slot 28] [1] [], o1 30 (.fieldAddr 2) 9, ow 31 (.load false 1) [.slot 30] [1] [], o2 32 (.build [.int .i64 (0 : Int), .int .i64 (0 : Int)] [(0, 1), (1, 1)]) 29 31, ow 10 (.alloc 2 [.int .i64 (0 : Int), .int .i64 (0 : Int)]) [] [2] [2], on (.store 2) [.slot 10, .slot 32] [2] [2]]) (.seq (.seq (.region false [o1 33 (.fieldAddr 0) 9, ow 34 (.load false 1) [.slot 33] [1] []]) (.block 2 (.seq (.region false [op 36 (.bin .eql) [.slot 34, .const (.one (.int .i64 (0 : Int)))], mv 35 36]) (.cond (.slot 35) (.region true [mv 37 6, ow 38 (.load true 2) [.slot 5] [0] [], mv 39 7, ow 40 (.append false 3 14 (.pair (.int .i64) (.int .i64))) [.const (.one (.nil)), .slot 39] [3, 9] [3], ow 41 (.load true 2) [.slot 10] [2] [], ow 42 (.buildSlice false 4 14 (.pair (.int .i64) (.int .i64)) 1 [(0, 2)] [.int .i64 (0 : Int), .int .i64 (0 : Int)]) [.slot 41] [4] [4], ow 43 (.append false 3 14 (.pair (.int .i64) (.int .i64))) [.slot 40, .slot 42] [3, 4] [3], ow 44 (.call ⟨217, [.val true 2, .val false 1], no 3, [.val true 2], ims 2, true⟩) [.slot 38, .slot 43] [3] [], ow 45 (.buildSlice false 5 12 (.pair (.int .i64) (.list (.int .i64))) 1 [(0, 2)] [.int .i64 (0 : Int), .nil]) [.slot 44] [5] [5], ow 46 (.append false 6 12 (.pair (.int .i64) (.list (.int .i64)))) [.slot 37, .slot 45] [5, 6] [6], mv 6 46]) (.seq (.region false [op 48 (.bin .eql) [.slot 34, .const (.one (.int .i64 (1 : Int)))], mv 47 48]) (.cond (.slot 47) (.region false [mv 49 7, ow 50 (.load true 2) [.slot 10] [2] [], ow 51 (.buildSlice false 8 14 (.pair (.int .i64) (.int .i64)) 1 [(0, 2)] [.int .i64 (0 : Int), .int .i64 (0 : Int)]) [.slot 50] [8] [8], ow 52 (.append false 9 14 (.pair (.int .i64) (.int .i64))) [.slot 49, .slot 51] [8, 9] [9], mv 7 52]) (.seq (.region false [op 54 (.bin .eql) [.slot 34, .const (.one (.int .i64 (2 : Int)))], mv 53 54]) (.cond (.slot 53) (.seq (.region false [mv 55 7, ow 56 (.load true 2) [.slot 10] [2] [], ow 57 (.call ⟨165, [.val false 1, .val true 2], no 3, [.val false 1], ims 1, true⟩) [.slot 55, .slot 56] [9] [], mv 11 57]) (.region true [mv 58 7, mv 59 11, ow 60 (.slice (.pair (.int .i64) (.int .i64)) false true) [.slot 58, .slot 59] [9] [], mv 61 7, mv 62 11, op 63 (.bin .add) [.slot 62, .const (.one (.int .i64 (1 : Int)))], ow 64 (.slice (.pair (.int .i64) (.int .i64)) true false) [.slot 61, .slot 63] [9] [], ow 65 (.appendDel 9 14 (.pair (.int .i64) (.int .i64))) [.slot 60, .slot 64] [9] [9], mv 7 65])) (.skip))))))))) (.region false [mv 66 6, ow 67 (.load true 2) [.slot 5] [0] [], mv 68 7, ow 69 (.call ⟨217, [.val true 2, .val false 1], no 3, [.val true 2], ims 2, true⟩) [.slot 67, .slot 68] [9] [], ow 70 (.buildSlice false 7 12 (.pair (.int .i64) (.list (.int .i64))) 1 [(0, 2)] [.int .i64 (0 : Int), .nil]) [.slot 69] [7] [7], ow 71 (.append false 6 12 (.pair (.int .i64) (.list (.int .i64)))) [.slot 66, .slot 70] [6, 7] [6], mv 6 71]))))) (.region false [op 72 (.bin .add) [.slot 24, .const (.one (.int .i64 (1 : Int)))], mv 24 72])))
def impl_MacroReports.c2 : XCode := .seq (.region false [mv 73 6, mv 4 73]) (.ret)
def impl_MacroReports.x : XFunc := { nslots := 74, nobj := 10, pars := [.val false 1, .val false 1], rowsIn := [none, none], rets := [.tmp 4 false 1], outs := [.own 12], fresh := true, arg := .pair (.list (.pair (.int .i64) (.pair (.int .i64) (.pair (.int .i64) (.pair (.int .i64) (.int .i64)))))) (.list (.pair (.int .i64) (.pair (.int .i64) (.int .i64)))), ret := .list (.pair (.int .i64) (.list (.int .i64))), body := .seq (.region false [op 4 .move [.const (.one (.nil))]]) (.seq (.seq (.region false [mv 12 0, o1 13 (.call ⟨164, vs 1, no 1, [.val false 1], ims 1, true⟩) 12, o1 14 .not 13, ⟨some 15, .move, [.slot 14], [], [], none, true⟩, ⟨some 16, .move, [.slot 1], [], [], some (15, false), false⟩, ⟨some 17, .call ⟨166, vs 1, no 1, [.val false 1], ims 1, true⟩, [.slot 16], [], [], some (15, false), false⟩, ⟨some 18, .not, [.slot 17], [], [], some (15, false), false⟩, op 19 .pick [.slot 15, .const (.one (.bool true)), .slot 18]]) (.cond (.slot 19) (.seq (.region false [op 4 .move [.const (.one (.nil))]]) (.ret)) (.skip))) (.seq (.region false [mv 20 0, o1 21 (.call ⟨204, vs 1, no 1, [.val true 2], ims 2, true⟩) 20, ow 5 (.alloc 0 [.int .i64 (0 : Int), .nil]) [] [0] [0], on (.store 2) [.slot 5, .slot 21] [0] [0]]) (.seq (.region false [op 6 .move [.const (.one (.nil))]]) (.seq (.region false [op 7 .move [.const (.one (.nil))]]) (.seq (.seq (.region false [mv 22 1, o1 23 .len 22, op 24 .move [.const (.one (.int .i64 (0 : Int)))]]) (.block 0 (.loop [.mkrow (.slot 6) 6 12 (.pair (.int .i64) (.list (.int .i64))), .mkrow (.slot 7) 9 14 (.pair (.int .i64) (.int .i64)), .keep [5, 6, 7, 22, 23, 24], .drop 1, .drop 2, .drop 3, .drop 4, .drop 5, .drop 7, .drop 8, .norm] (impl_MacroReports.c1)))) (impl_MacroReports.c2)))))) }
def impl_MacroReports.env (N : Nat) : Env := envOf (tbl [(164, impl_IsHeld.fs N), (166, impl_IsMacro.fs N), (204, impl_ReportOf.fs N), (165, impl_pairAt.fs N), (217, impl_withPairs.fs N)] noFS)
def impl_MacroReports.F (N : Nat) (x : (List (Int × Int × Int × Int × Int)) × List (Int × Int × Int)) : Option (List (Int × List Int)) := XFunc.run impl_MacroReports.x (impl_MacroReports.env N) N x
def impl_MacroReports.fs (N : Nat) : FS := { arg := .pair (.list (.pair (.int .i64) (.pair (.int .i64) (.pair (.int .i64) (.pair (.int .i64) (.int .i64)))))) (.list (.pair (.int .i64) (.pair (.int .i64) (.int .i64)))), ret := .list (.pair (.int .i64) (.list (.int .i64))), fresh := true, F := impl_MacroReports.F N }
def impl_MacroReports.k2 (N : Nat) : Ex → S → Option (List (Int × List Int)) := seqK (fun s => XCode.runK (impl_MacroReports.env N) N (impl_MacroReports.c2) s (XFunc.endK impl_MacroReports.x)) (XFunc.endK impl_MacroReports.x)
def impl_MacroReports.k1 (N : Nat) : Ex → S → Option (List (Int × List Int)) := blockK 0 (impl_MacroReports.k2 N)
def impl_MacroReports.L1 (N : Nat) (n1 : Nat) (t22 : List (Int × Int × Int)) (t23 : Int) (t24 : Int) (o00 : Int) (o01 : List Int) (o6 : List (Int × List Int)) (o9 : List (Int × Int)) : Option (List (Int × List Int)) := loopK [.mkrow (.slot 6) 6 12 (.pair (.int .i64) (.list (.int .i64))), .mkrow (.slot 7) 9 14 (.pair (.int .i64) (.int .i64)), .keep [5, 6, 7, 22, 23, 24], .drop 1, .drop 2, .drop 3, .drop 4, .drop 5, .drop 7, .drop 8, .norm] (fun s k => XCode.runK (impl_MacroReports.env N) N impl_MacroReports.c1 s k) n1
  { t := [.junk, .junk, .junk, .junk, .junk, .one (.ptr 0 0 0), .one (.ref 6 0 .all), .one (.ref 9 0 .all), .junk, .junk, .junk, .junk, .junk, .junk, .junk, .junk, .junk, .junk, .junk, .junk, .junk, .junk, .one (.sl false (.pair (.int .i64) (.pair (.int .i64) (.int .i64))) t22), .one (.int .i64 t23), .one (.int .i64 t24), .junk, .junk, .junk, .junk, .junk, .junk, .junk, .junk, .junk, .junk, .junk, .junk, .junk, .junk, .junk, .junk, .junk, .junk, .junk, .junk, .junk, .junk, .junk, .junk, .junk, .junk, .junk, .junk, .junk, .junk, .junk, .junk, .junk, .junk, .junk, .junk, .junk, .junk, .junk, .junk, .junk, .junk, .junk, .junk, .junk, .junk, .junk, .junk, .junk], h := [.box 0 false [.int .i64 o00, .sl true (.int .i64) o01], .absent 0, .absent 0, .absent 0, .absent 0, .absent 0, .row 0 false true 12 (.pair (.int .i64) (.list (.int .i64))) o6, .absent 0, .absent 0, .row 0 false true 14 (.pair (.int .i64) (.int .i64)) o9] }
  (impl_MacroReports.k1 N)

theorem impl_MacroReports.L1_eq (N : Nat) (n1 : Nat) (t22 : List (Int × Int × Int)) (t23 : Int) (t24 : Int) (o00 : Int) (o01 : List Int) (o6 : List (Int × List Int)) (o9 : List (Int × Int)) : impl_MacroReports.L1 N (n1 + 1) t22 t23 t24 o00 o01 o6 o9 =
    bif decide (t24 < t23) then
      bif inRange t24 (List.length t22) then
      bif ((nth ((0 : Int), ((0 : Int), (0 : Int))) t22 t24).1) == (0 : Int) then
        bif decide (List.length o9 ≤ maxN) then
        bif decide (List.length o9 + List.length ([((nth ((0 : Int), ((0 : Int), (0 : Int))) t22 t24).2)] : List (Int × Int)) ≤ maxN) then
        bindO (impl_withPairs.F N ((o00, o01), o9 ++ ([((nth ((0 : Int), ((0 : Int), (0 : Int))) t22 t24).2)] : List (Int × Int)))) fun r4 =>
        bif decide (List.length o6 + List.length ([r4] : List (Int × List Int)) ≤ maxN) then
        bindO (impl_withPairs.F N ((o00, o01), o9)) fun r5 =>
        bif decide (List.length (o6 ++ ([r4] : List (Int × List Int))) + List.length ([r5] : List (Int × List Int)) ≤ maxN) then
        impl_MacroReports.L1 N n1 t22 t23 (IntKind.wrap .i64 (t24 + (1 : Int))) o00 o01 ((o6 ++ ([r4] : List (Int × List Int))) ++ ([r5] : List (Int × List Int))) o9
        else none
        else none
        else none
        else none
      else
        bif ((nth ((0 : Int), ((0 : Int), (0 : Int))) t22 t24).1) == (1 : Int) then
          bif decide (List.length o9 + List.length ([((nth ((0 : Int), ((0 : Int), (0 : Int))) t22 t24).2)] : List (Int × Int)) ≤ maxN) then
          bindO (impl_withPairs.F N ((o00, o01), o9 ++ ([((nth ((0 : Int), ((0 : Int), (0 : Int))) t22 t24).2)] : List (Int × Int)))) fun r6 =>
          bif decide (List.length o6 + List.length ([r6] : List (Int × List Int)) ≤ maxN) then
          impl_MacroReports.L1 N n1 t22 t23 (IntKind.wrap .i64 (t24 + (1 : Int))) o00 o01 (o6 ++ ([r6] : List (Int × List Int))) (o9 ++ ([((nth ((0 : Int), ((0 : Int), (0 : Int))) t22 t24).2)] : List (Int × Int)))
          else none
          else none
        else
          bif ((nth ((0 : Int), ((0 : Int), (0 : Int))) t22 t24).1) == (2 : Int) then
            bindO (impl_pairAt.F N (o9, ((nth ((0 : Int), ((0 : Int), (0 : Int))) t22 t24).2))) fun r7 =>
            bif decide (0 ≤ r7) && decide (r7 ≤ (List.length o9 : Int)) then
            bif decide (0 ≤ IntKind.wrap .i64 (r7 + (1 : Int))) && decide (IntKind.wrap .i64 (r7 + (1 : Int)) ≤ (List.length o9 : Int)) then
            bif decide ((Int.toNat r7) ≤ (Int.toNat (IntKind.wrap .i64 (r7 + (1 : Int))))) && decide (List.length o9 ≤ maxN) then
            bindO (impl_withPairs.F N ((o00, o01), List.take (Int.toNat r7) o9 ++ List.drop (Int.toNat (IntKind.wrap .i64 (r7 + (1 : Int)))) o9)) fun r8 =>
            bif decide (List.length o6 + List.length ([r8] : List (Int × List Int)) ≤ maxN) then
            impl_MacroReports.L1 N n1 t22 t23 (IntKind.wrap .i64 (t24 + (1 : Int))) o00 o01 (o6 ++ ([r8] : List (Int × List Int))) (List.take (Int.toNat r7) o9 ++ List.drop (Int.toNat (IntKind.wrap .i64 (r7 + (1 : Int)))) o9)
            else none
            else none
            else none
            else none
          else
            bindO (impl_withPairs.F N ((o00, o01), o9)) fun r9 =>
            bif decide (List.length o6 + List.length ([r9] : List (Int × List Int)) ≤ maxN) then
            impl_MacroReports.L1 N n1 t22 t23 (IntKind.wrap .i64 (t24 + (1 : Int))) o00 o01 (o6 ++ ([r9] : List (Int × List Int))) o9
            else none
      else none
    else
      some o6 := by kernel_rfl
theorem impl_MacroReports.F_eq (N : Nat) (l_ : List (Int × Int × Int × Int × Int)) (steps : List (Int × Int × Int)) : impl_MacroReports.F N (l_, steps) =
    bindO (impl_IsHeld.F N l_) fun r1 =>
    bif !r1 then
      some ([] : List (Int × List Int))
    else
      bindO (impl_IsMacro.F N steps) fun r2 =>
      bif !r2 then
        some ([] : List (Int × List Int))
      else
        bindO (impl_ReportOf.F N l_) fun r3 =>
        impl_MacroReports.L1 N N steps (List.length steps : Int) (0 : Int) r3.1 r3.2 ([] : List (Int × List Int)) ([] : List (Int × Int)) := by kernel_rfl

def laws_FnCharacters.c1 : XCode := .seq (.seq (.region false [mv 54 9, mv 55 3, o1 56 .strLen 55, o2 57 (.bin .lss) 54 56]) (.cond (.slot 57) (.skip) (.exit 0))) (.seq (.block 1 (.seq (.region false [mv 61 3, mv 62 9, o2 63 .strIndex 61 62, o1 64 (.call ⟨377, vs 1, no 1, [.val false 1, .val false 1], ims 2, true⟩) 63, mv 60 64, o1 65 (.extract 0) 60, o1 66 (.extract 1) 60, mv 10 65, mv 11 66]) (.seq (.region true [mv 67 10, mv 68 11, o2 69 (.call ⟨374, vs 2, no 2, [.val false 1], ims 1, true⟩) 67 68, mv 70 3, mv 71 9, mv 72 9, op 73 (.bin .add) [.slot 72, .const (.one (.int .i64 (1 : Int)))], op 74 (.strSlice true true) [.slot 70, .slot 71, .slot 73], o2 75 (.bin .neq) 69 74]) (.cond (.slot 75) (.seq (.region false [op 2 .move [.const (.one (.bool false))]]) (.ret)) (.skip))))) (.region false [mv 58 9, op 59 (.bin .add) [.slot 58, .const (.one (.int .i64 (1 : Int)))], mv 9 59]))
def laws_FnCharacters.c2 : XCode := .seq (.region false [op 2 .move [.const (.one (.bool true))]]) (.ret)
def laws_FnCharacters.x : XFunc := { nslots := 76, nobj := 1, pars := [.val false 1], rowsIn := [none], rets := [.tmp 2 false 1], outs := [.imm], fresh := true, arg := .list (.int .u8), ret := .bool, body := .seq (.region false [op 2 .move [.const (.one (.bool false))]]) (.seq (.seq (.region false [mv 12 0, o1 13 (.call ⟨31, vs 1, no 1, [.val false 1], ims 1, true⟩) 12]) (.cond (.slot 13) (.seq (.region false [op 2 .move [.const (.one (.bool true))]]) (.ret)) (.skip))) (.seq (.region false [mv 14 0, op 15 (.call ⟨416, vs 2, no 2, [.val false 1], ims 1, true⟩) [.slot 14, .const (.one (.int .i64 (8 : Int)))], mv 3 15]) (.seq (.region false [mv 17 3, o1 18 (.call ⟨397, vs 1, no 1, [.val false 1, .val false 1], ims 2, true⟩) 17, mv 16 18, o1 19 (.extract 0) 16, o1 20 (.extract 1) 16, mv 4 19, mv 5 20]) (.seq (.region false [mv 22 3, o1 23 (.call ⟨388, vs 1, no 1, [.val false 1, .val false 1], ims 2, true⟩) 22, mv 21 23, o1 24 (.extract 0) 21, o1 25 (.extract 1) 21, mv 6 24, mv 7 25]) (.seq (.region false [ow 26 (.buildSlice false 0 15 (.pair (.int .i64) (.pair (.int .i64) (.pair (.int .i64) (.pair (.int .i64) (.int .i64))))) 0 [] [.int .i64 (0 : Int), .int .i64 (0 : Int), .int .i64 (0 : Int), .int .i64 (0 : Int), .int .i64 (0 : Int)]) [] [0] [0], mv 27 6, ow 28 (.call ⟨218, vs 2, no 2, [.val false 1], ims 1, true⟩) [.slot 26, .slot 27] [0] [], mv 8 28]) (.seq (.seq (.region false [mv 29 5, o1 30 .not 29, ⟨some 31, .move, [.slot 30], [], [], none, true⟩, ⟨some 32, .move, [.slot 7], [], [], some (31, false), false⟩, ⟨some 33, .not, [.slot 32], [], [], some (31, false), false⟩, op 34 .pick [.slot 31, .const (.one (.bool true)), .slot 33], ⟨some 35, .move, [.slot 34], [], [], none, true⟩, ⟨some 36, .move, [.slot 6], [], [], some (35, false), false⟩, ⟨some 37, .call ⟨166, vs 1, no 1, [.val false 1], ims 1, true⟩, [.slot 36], [], [], some (35, false), false⟩, ⟨some 38, .not, [.slot 37], [], [], some (35, false), false⟩, op 39 .pick [.slot 35, .const (.one (.bool true)), .slot 38], ⟨some 40, .move, [.slot 39], [], [], none, true⟩, ⟨some 41, .build [.int .i64 (0 : Int), .nil] [], [], [], [], some (40, false), false⟩, ⟨some 42, .move, [.slot 4], [], [], some (40, false), false⟩, ⟨some 43, .call ⟨403, [.val true 2, .val false 1], no 3, [.val false 1], ims 1, true⟩, [.slot 41, .slot 42], [], [], some (40, false), false⟩, ⟨some 44, .move, [.slot 3], [], [], some (40, false), false⟩, ⟨some 45, .bin .neq, [.slot 43, .slot 44], [], [], some (40, false), false⟩, op 46 .pick [.slot 40, .const (.one (.bool true)), .slot 45], ⟨some 47, .move, [.slot 46], [], [], none, true⟩, ⟨some 48, .build [.int .i64 (0 : Int), .nil] [], [], [], [], some (47, false), false⟩, ⟨some 49, .move, [.slot 8], [], [], some (47, false), false⟩, ⟨some 50, .call ⟨403, [.val true 2, .val false 1], no 3, [.val false 1], ims 1, true⟩, [.slot 48, .slot 49], [], [], some (47, false), false⟩, ⟨some 51, .move, [.slot 3], [], [], some (47, false), false⟩, ⟨some 52, .bin .neq, [.slot 50, .slot 51], [], [], some (47, false), false⟩, op 53 .pick [.slot 47, .const (.one (.bool true)), .slot 52]]) (.cond (.slot 53) (.seq (.region false [op 2 .move [.const (.one (.bool false))]]) (.ret)) (.skip))) (.seq (.seq (.region false [op 9 .move [.const (.one (.int .i64 (0 : Int)))]]) (.block 0 (.loop [.keep [3, 9], .drop 0, .norm] (laws_FnCharacters.c1)))) (laws_FnCharacters.c2)))))))) }
def laws_FnCharacters.env (N : Nat) : Env := envOf (tbl [(374, impl_CharOf.fs N), (166, impl_IsMacro.fs N), (377, impl_KeyOf.fs N), (218, impl_MacroReports.fs N), (388, impl_TextMacro.fs N), (397, impl_TextReports.fs N), (403, impl_TypedText.fs N), (31, laws_big.fs N), (416, spec_MakeText.fs N)] noFS)
def laws_FnCharacters.F (N : Nat) (x : List Int) : Option Bool := XFunc.run laws_FnCharacters.x (laws_FnCharacters.env N) N x
def laws_FnCharacters.fs (N : Nat) : FS := { arg := .list (.int .u8), ret := .bool, fresh := true, F := laws_FnCharacters.F N }
def laws_FnCharacters.k2 (N : Nat) : Ex → S → Option Bool := seqK (fun s => XCode.runK (laws_FnCharacters.env N) N (laws_FnCharacters.c2) s (XFunc.endK laws_FnCharacters.x)) (XFunc.endK laws_FnCharacters.x)
def laws_FnCharacters.k1 (N : Nat) : Ex → S → Option Bool := blockK 0 (laws_FnCharacters.k2 N)
def laws_FnCharacters.L1 (N : Nat) (n1 : Nat) (s_ : List UInt8) (i : Int) : Option Bool := loopK [.keep [3, 9], .drop 0, .norm] (fun s k => XCode.runK (laws_FnCharacters.env N) N laws_FnCharacters.c1 s k) n1
  { t := [.junk, .junk, .junk, .one (.str s_), .junk, .junk, .junk, .junk, .junk, .one (.int .i64 i), .junk, .junk, .junk, .junk, .junk, .junk, .junk, .junk, .junk, .junk, .junk, .junk, .junk, .junk, .junk, .junk, .junk, .junk, .junk, .junk, .junk, .junk, .junk, .junk, .junk, .junk, .junk, .junk, .junk, .junk, .junk, .junk, .junk, .junk, .junk, .junk, .junk, .junk, .junk, .junk, .junk, .junk, .junk, .junk, .junk, .junk, .junk, .junk, .junk, .junk, .junk, .junk, .junk, .junk, .junk, .junk, .junk, .junk, .junk, .junk, .junk, .junk, .junk, .junk, .junk, .junk], h := [.absent 0] }
  (laws_FnCharacters.k1 N)

theorem laws_FnCharacters.L1_eq (N : Nat) (n1 : Nat) (s_ : List UInt8) (i : Int) : laws_FnCharacters.L1 N (n1 + 1) s_ i =
    bif decide (i < (List.length s_ : Int)) then
      bif inRange i (List.length s_) then
      bindO (impl_KeyOf.F N (UInt8.toNat (nth (0 : UInt8) s_ i) : Int)) fun r9 =>
      bindO (impl_CharOf.F N r9) fun r10 =>
      bif bounds i (IntKind.wrap .i64 (i + (1 : Int))) (List.length s_) then
      bif !(r10 == (List.drop (Int.toNat i) (List.take (Int.toNat (IntKind.wrap .i64 (i + (1 : Int)))) s_))) then
        some false
      else
        laws_FnCharacters.L1 N n1 s_ (IntKind.wrap .i64 (i + (1 : Int)))
      else none
      else none
    else
      some true := by kernel_rfl
theorem laws_FnCharacters.F_eq (N : Nat) (code : List Int) : laws_FnCharacters.F N code =
    bindO (laws_big.F N code) fun r1 =>
    bif r1 then
      some true
    else
      bindO (spec_MakeText.F N (code, (8 : Int))) fun r2 =>
      bindO (impl_TextReports.F N r2) fun r3 =>
      bindO (impl_TextMacro.F N r2) fun r4 =>
      bindO (impl_MacroReports.F N (([] : List (Int × Int × Int × Int × Int)), r4.1)) fun r5 =>
      bif !r3.2 then
        some false
      else
        bif !r4.2 then
          some false
        else
          bindO (impl_IsMacro.F N r4.1) fun r6 =>
          bif !r6 then
            some false
          else
            bindO (impl_TypedText.F N (((0 : Int), ([] : List Int)), r3.1)) fun r7 =>
            bif !(r7 == r2) then
              some false
            else
              bindO (impl_TypedText.F N (((0 : Int), ([] : List Int)), r5)) fun r8 =>
              bif !(r8 == r2) then
                some false
              else
                laws_FnCharacters.L1 N N r2 (0 : Int) := by kernel_rfl

end Go.Kb
