/- The texts of functions, printed by a program, and the equations of their runs. -/
import Derived.Test.YtipjdpnpahhndaaDoorPipeF1
import Derived.Test.YtipjdpnpahhndaaDoorPipeF2
import Derived.Test.YtipjdpnpahhndaaDoorPipeF3
import Derived.Test.YtipjdpnpahhndaaDoorPipeF4
import Derived.Test.YtipjdpnpahhndaaDoorPipeF5
import Derived.Test.YtipjdpnpahhndaaDoorPipeF6
import Derived.Test.YtipjdpnpahhndaaDoorPipeF7
import Derived.Test.YtipjdpnpahhndaaDoorPipeF8
import Derived.Test.YtipjdpnpahhndaaDoorPipeF9
import Derived.KernelRfl
namespace Go.Kb
def spec_l1Once.x : XFunc := { nslots := 9, nobj := 1, pars := [.box 0 3, .val false 1], rowsIn := [none, none, none, none], rets := [.tmp 4 false 1], outs := [.imm, .imm, .imm, .imm], fresh := false, arg := .pair (.pair (.list (.int .u8)) (.pair (.int .i64) (.int .i64))) (.int .i64), ret := .pair (.bool) (.pair (.list (.int .u8)) (.pair (.int .i64) (.int .i64))), body := .seq (.region false [op 4 .move [.const (.one (.bool false))]]) (.seq (.region false [mv 5 0, mv 6 1, ow 7 (.call ⟨33, [.box 0 3, .val false 1], no 4, [.val false 1], ims 4, false⟩) [.slot 5, .slot 6] [0] [0], op 8 (.bin .eql) [.slot 7, .const (.one (.int .i64 (0 : Int)))], mv 4 8]) (.ret)) }
def spec_l1Once.env (N : Nat) : Env := envOf (tbl [(33, spec_l1Below.fs N)] noFS)
def spec_l1Once.F (N : Nat) (x : ((List Int) × Int × Int) × Int) : Option (Bool × (List Int) × Int × Int) := XFunc.run spec_l1Once.x (spec_l1Once.env N) N x
def spec_l1Once.fs (N : Nat) : FS := { arg := .pair (.pair (.list (.int .u8)) (.pair (.int .i64) (.int .i64))) (.int .i64), ret := .pair (.bool) (.pair (.list (.int .u8)) (.pair (.int .i64) (.int .i64))), fresh := false, F := spec_l1Once.F N }

theorem spec_l1Once.F_eq (N : Nat) (c : (List Int) × Int × Int) (n_ : Int) : spec_l1Once.F N (c, n_) =
    bindO (spec_l1Below.F N (c, n_)) fun r1 =>
    some (r1.1 == (0 : Int), r1.2) := by kernel_rfl

def spec_l13Reports.c1 : XCode := .seq (.seq (.region false [mv 35 10, op 36 (.bin .lss) [.slot 35, .const (.one (.int .i64 (4 : Int)))]]) (.cond (.slot 36) (.skip) (.exit 2))) (.seq (.block 3 (.seq (.region false [mv 39 6, mv 40 10, o2 41 (.bin .shr) 39 40, op 42 (.bin .and) [.slot 41, .const (.one (.int .i64 (1 : Int)))], op 43 (.bin .eql) [.slot 42, .const (.one (.int .i64 (1 : Int)))]]) (.cond (.slot 43) (.region false [o1 44 (.fieldAddr 1) 9, ow 45 (.load false 1) [.slot 44] [4] [], mv 46 10, op 47 (.bin .add) [.slot 46, .const (.one (.int .i64 (1 : Int)))], ow 48 (.buildSlice false 5 2 (.int .i64) 1 [(0, 1)] [.int .i64 (0 : Int)]) [.slot 47] [5] [5], ow 49 (.append false 3 2 (.int .i64)) [.slot 45, .slot 48] [3, 5] [3], o1 50 (.fieldAddr 1) 9, on (.store 1) [.slot 50, .slot 49] [4] [4]]) (.skip)))) (.region false [mv 37 10, op 38 (.bin .add) [.slot 37, .const (.one (.int .i64 (1 : Int)))], mv 10 38]))
def spec_l13Reports.c2 : XCode := .adj [.freeze 3] (.region false [mv 51 5, ow 52 (.load true 2) [.slot 9] [4] [], ow 53 (.buildSlice false 6 12 (.pair (.int .i64) (.list (.int .i64))) 1 [(0, 2)] [.int .i64 (0 : Int), .nil]) [.slot 52] [6] [6], ow 54 (.append false 1 12 (.pair (.int .i64) (.list (.int .i64)))) [.slot 51, .slot 53] [1, 6] [1], mv 5 54])
def spec_l13Reports.c3 : XCode := .region false [mv 18 8, op 19 (.bin .sub) [.slot 18, .const (.one (.int .i64 (1 : Int)))], mv 8 19]
def spec_l13Reports.c4 : XCode := .seq (.seq (.region false [mv 16 8, op 17 (.bin .gtr) [.slot 16, .const (.one (.int .i64 (0 : Int)))]]) (.cond (.slot 17) (.skip) (.exit 0))) (.seq (.block 1 (.seq (.region false [mv 20 6, mv 21 0, ow 22 (.call ⟨33, [.box 0 3, .val false 1], no 4, [.val false 1], ims 4, false⟩) [.slot 21, .const (.one (.int .i64 (4 : Int)))] [0] [0], op 23 (.bin .shl) [.const (.one (.int .i64 (1 : Int))), .slot 22], o2 24 (.bin .xor) 20 23, mv 6 24]) (.seq (.seq (.region false [mv 25 0, ow 26 (.call ⟨102, [.box 0 3, .val false 1], no 4, [.val false 1], ims 4, false⟩) [.slot 25, .const (.one (.int .i64 (4 : Int)))] [0] [0]]) (.cond (.slot 26) (.region false [mv 27 7, mv 28 0, op 29 (.buildSlice true 2 2 (.int .i64) 3 [(0, 1), (1, 1), (2, 1)] [.int .i64 (0 : Int)]) [.const (.one (.int .i64 (1 : Int))), .const (.one (.int .i64 (2 : Int))), .const (.one (.int .i64 (3 : Int)))], ow 30 (.call ⟨46, [.box 0 3, .val false 1], no 4, [.val false 1], ims 4, false⟩) [.slot 28, .slot 29] [0] [0], o2 31 (.bin .xor) 27 30, mv 7 31]) (.skip))) (.seq (.region false [mv 32 7, ow 33 (.buildSlice false 3 2 (.int .i64) 0 [] [.int .i64 (0 : Int)]) [] [3] [3], o2 34 (.build [.int .i64 (0 : Int), .nil] [(0, 1), (1, 1)]) 32 33, ow 9 (.alloc 4 [.int .i64 (0 : Int), .nil]) [] [4] [4], on (.store 2) [.slot 9, .slot 34] [4] [4]]) (.seq (.seq (.region false [op 10 .move [.const (.one (.int .i64 (0 : Int)))]]) (.block 2 (.loop [.keep [0, 5, 6, 7, 8, 9, 10], .drop 2, .drop 5, .drop 6, .norm] (spec_l13Reports.c1)))) (spec_l13Reports.c2)))))) (spec_l13Reports.c3))
def spec_l13Reports.c5 : XCode := .seq (.region false [mv 55 5, mv 4 55]) (.ret)
def spec_l13Reports.x : XFunc := { nslots := 56, nobj := 7, pars := [.box 0 3, .val false 1], rowsIn := [none, none, none, none], rets := [.tmp 4 false 1], outs := [.own 12, .imm, .imm, .imm], fresh := false, arg := .pair (.pair (.list (.int .u8)) (.pair (.int .i64) (.int .i64))) (.int .i64), ret := .pair (.list (.pair (.int .i64) (.list (.int .i64)))) (.pair (.list (.int .u8)) (.pair (.int .i64) (.int .i64))), body := .seq (.region false [op 4 .move [.const (.one (.nil))]]) (.seq (.region false [ow 11 (.buildSlice false 1 12 (.pair (.int .i64) (.list (.int .i64))) 0 [] [.int .i64 (0 : Int), .nil]) [] [1] [1], mv 5 11]) (.seq (.region false [op 6 .move [.const (.one (.int .i64 (0 : Int)))]]) (.seq (.region false [op 7 .move [.const (.one (.int .i64 (0 : Int)))]]) (.seq (.seq (.region false [mv 12 0, mv 13 1, op 14 (.bin .add) [.slot 13, .const (.one (.int .i64 (1 : Int)))], ow 15 (.call ⟨33, [.box 0 3, .val false 1], no 4, [.val false 1], ims 4, false⟩) [.slot 12, .slot 14] [0] [0], mv 8 15]) (.block 0 (.loop [.keep [0, 5, 6, 7, 8], .drop 2, .drop 3, .drop 4, .drop 5, .drop 6, .norm] (spec_l13Reports.c4)))) (spec_l13Reports.c5))))) }
def spec_l13Reports.env (N : Nat) : Env := envOf (tbl [(33, spec_l1Below.fs N), (102, spec_l1Once.fs N), (46, spec_l1PickInt.fs N)] noFS)
def spec_l13Reports.F (N : Nat) (x : ((List Int) × Int × Int) × Int) : Option ((List (Int × List Int)) × (List Int) × Int × Int) := XFunc.run spec_l13Reports.x (spec_l13Reports.env N) N x
def spec_l13Reports.fs (N : Nat) : FS := { arg := .pair (.pair (.list (.int .u8)) (.pair (.int .i64) (.int .i64))) (.int .i64), ret := .pair (.list (.pair (.int .i64) (.list (.int .i64)))) (.pair (.list (.int .u8)) (.pair (.int .i64) (.int .i64))), fresh := false, F := spec_l13Reports.F N }
def spec_l13Reports.k2 (N : Nat) : Ex → S → Option ((List (Int × List Int)) × (List Int) × Int × Int) := seqK (fun s => XCode.runK (spec_l13Reports.env N) N (spec_l13Reports.c5) s (XFunc.endK spec_l13Reports.x)) (XFunc.endK spec_l13Reports.x)
def spec_l13Reports.k1 (N : Nat) : Ex → S → Option ((List (Int × List Int)) × (List Int) × Int × Int) := blockK 0 (spec_l13Reports.k2 N)
def spec_l13Reports.k7 (N : Nat) (n1 : Nat) : Ex → S → Option ((List (Int × List Int)) × (List Int) × Int × Int) := seqK (fun s => bindO (S.ghosts s [.keep [0, 5, 6, 7, 8], .drop 2, .drop 3, .drop 4, .drop 5, .drop 6, .norm]) fun s1 => loopK [.keep [0, 5, 6, 7, 8], .drop 2, .drop 3, .drop 4, .drop 5, .drop 6, .norm] (fun s k => XCode.runK (spec_l13Reports.env N) N spec_l13Reports.c4 s k) n1 s1 (spec_l13Reports.k1 N)) (spec_l13Reports.k1 N)
def spec_l13Reports.k6 (N : Nat) (n1 : Nat) : Ex → S → Option ((List (Int × List Int)) × (List Int) × Int × Int) := seqK (fun s => XCode.runK (spec_l13Reports.env N) N (spec_l13Reports.c3) s (spec_l13Reports.k7 N n1)) (spec_l13Reports.k7 N n1)
def spec_l13Reports.k5 (N : Nat) (n1 : Nat) : Ex → S → Option ((List (Int × List Int)) × (List Int) × Int × Int) := blockK 1 (spec_l13Reports.k6 N n1)
def spec_l13Reports.k4 (N : Nat) (n1 : Nat) : Ex → S → Option ((List (Int × List Int)) × (List Int) × Int × Int) := seqK (fun s => XCode.runK (spec_l13Reports.env N) N (spec_l13Reports.c2) s (spec_l13Reports.k5 N n1)) (spec_l13Reports.k5 N n1)
def spec_l13Reports.k3 (N : Nat) (n1 : Nat) : Ex → S → Option ((List (Int × List Int)) × (List Int) × Int × Int) := blockK 2 (spec_l13Reports.k4 N n1)
def spec_l13Reports.L1 (N : Nat) (n1 : Nat) (on : Int) (mods : Int) (n_ : Int) (c0 : List Int) (c1 : Int) (c2 : Int) (o1 : List (Int × List Int)) : Option ((List (Int × List Int)) × (List Int) × Int × Int) := loopK [.keep [0, 5, 6, 7, 8], .drop 2, .drop 3, .drop 4, .drop 5, .drop 6, .norm] (fun s k => XCode.runK (spec_l13Reports.env N) N spec_l13Reports.c4 s k) n1
  { t := [.one (.ptr 0 0 0), .junk, .junk, .junk, .junk, .one (.ref 1 0 .all), .one (.int .i64 on), .one (.int .i64 mods), .one (.int .i64 n_), .junk, .junk, .junk, .junk, .junk, .junk, .junk, .junk, .junk, .junk, .junk, .junk, .junk, .junk, .junk, .junk, .junk, .junk, .junk, .junk, .junk, .junk, .junk, .junk, .junk, .junk, .junk, .junk, .junk, .junk, .junk, .junk, .junk, .junk, .junk, .junk, .junk, .junk, .junk, .junk, .junk, .junk, .junk, .junk, .junk, .junk, .junk], h := [.box 0 true [.sl false (.int .u8) c0, .int .i64 c1, .int .i64 c2], .row 0 false true 12 (.pair (.int .i64) (.list (.int .i64))) o1, .absent 0, .absent 0, .absent 0, .absent 0, .absent 0] }
  (spec_l13Reports.k1 N)
def spec_l13Reports.L2 (N : Nat) (n1 : Nat) (n2 : Nat) (on : Int) (mods : Int) (n_ : Int) (k_ : Int) (c0 : List Int) (c1 : Int) (c2 : Int) (o1 : List (Int × List Int)) (o3 : List Int) (o40 : Int) : Option ((List (Int × List Int)) × (List Int) × Int × Int) := loopK [.keep [0, 5, 6, 7, 8, 9, 10], .drop 2, .drop 5, .drop 6, .norm] (fun s k => XCode.runK (spec_l13Reports.env N) N spec_l13Reports.c1 s k) n2
  { t := [.one (.ptr 0 0 0), .junk, .junk, .junk, .junk, .one (.ref 1 0 .all), .one (.int .i64 on), .one (.int .i64 mods), .one (.int .i64 n_), .one (.ptr 4 0 0), .one (.int .i64 k_), .junk, .junk, .junk, .junk, .junk, .junk, .junk, .junk, .junk, .junk, .junk, .junk, .junk, .junk, .junk, .junk, .junk, .junk, .junk, .junk, .junk, .junk, .junk, .junk, .junk, .junk, .junk, .junk, .junk, .junk, .junk, .junk, .junk, .junk, .junk, .junk, .junk, .junk, .junk, .junk, .junk, .junk, .junk, .junk, .junk], h := [.box 0 true [.sl false (.int .u8) c0, .int .i64 c1, .int .i64 c2], .row 0 false true 12 (.pair (.int .i64) (.list (.int .i64))) o1, .absent 0, .row 0 false true 2 (.int .i64) o3, .box 0 false [.int .i64 o40, .ref 3 0 .all], .absent 0, .absent 0] }
  (spec_l13Reports.k3 N n1)

theorem spec_l13Reports.L1_eq (N : Nat) (n1 : Nat) (on : Int) (mods : Int) (n_ : Int) (c0 : List Int) (c1 : Int) (c2 : Int) (o1 : List (Int × List Int)) : spec_l13Reports.L1 N (n1 + 1) on mods n_ c0 c1 c2 o1 =
    bif decide (n_ > (0 : Int)) then
      bindO (spec_l1Below.F N ((c0, (c1, c2)), (4 : Int))) fun r2 =>
      bif decide (0 ≤ r2.1) then
      bindO (spec_l1Once.F N (r2.2, (4 : Int))) fun r3 =>
      bif r3.1 then
        bindO (spec_l1PickInt.F N (r3.2, ([(1 : Int), (2 : Int), (3 : Int)] : List Int))) fun r4 =>
        spec_l13Reports.L2 N n1 N (bitXor .i64 on (shiftL .i64 (1 : Int) r2.1)) (bitXor .i64 mods r4.1) n_ (0 : Int) r4.2.1 r4.2.2.1 r4.2.2.2 o1 ([] : List Int) (bitXor .i64 mods r4.1)
      else
        spec_l13Reports.L2 N n1 N (bitXor .i64 on (shiftL .i64 (1 : Int) r2.1)) mods n_ (0 : Int) r3.2.1 r3.2.2.1 r3.2.2.2 o1 ([] : List Int) mods
      else none
    else
      some (o1, (c0, (c1, c2))) := by kernel_rfl
theorem spec_l13Reports.L2_eq (N : Nat) (n1 : Nat) (n2 : Nat) (on : Int) (mods : Int) (n_ : Int) (k_ : Int) (c0 : List Int) (c1 : Int) (c2 : Int) (o1 : List (Int × List Int)) (o3 : List Int) (o40 : Int) : spec_l13Reports.L2 N n1 (n2 + 1) on mods n_ k_ c0 c1 c2 o1 o3 o40 =
    bif decide (k_ < (4 : Int)) then
      bif decide (0 ≤ k_) then
      bif (bitAnd .i64 (shiftR .i64 on k_) (1 : Int)) == (1 : Int) then
        bif decide (List.length o3 + List.length ([IntKind.wrap .i64 (k_ + (1 : Int))] : List Int) ≤ maxN) then
        spec_l13Reports.L2 N n1 n2 on mods n_ (IntKind.wrap .i64 (k_ + (1 : Int))) c0 c1 c2 o1 (o3 ++ ([IntKind.wrap .i64 (k_ + (1 : Int))] : List Int)) o40
        else none
      else
        spec_l13Reports.L2 N n1 n2 on mods n_ (IntKind.wrap .i64 (k_ + (1 : Int))) c0 c1 c2 o1 o3 o40
      else none
    else
      bif decide (List.length o1 + List.length ([(o40, o3)] : List (Int × List Int)) ≤ maxN) then
      spec_l13Reports.L1 N n1 on mods (IntKind.wrap .i64 (n_ - (1 : Int))) c0 c1 c2 (o1 ++ ([(o40, o3)] : List (Int × List Int)))
      else none := by kernel_rfl
theorem spec_l13Reports.F_eq (N : Nat) (c : (List Int) × Int × Int) (most : Int) : spec_l13Reports.F N (c, most) =
    bindO (spec_l1Below.F N (c, IntKind.wrap .i64 (most + (1 : Int)))) fun r1 =>
    spec_l13Reports.L1 N N (0 : Int) (0 : Int) r1.1 r1.2.1 r1.2.2.1 r1.2.2.2 ([] : List (Int × List Int)) := by kernel_rfl

def impl_TypedText.c1 : XCode := .seq (.region false [o2 21 (.bin .lss) 20 19]) (.seq (.cond (.slot 21) (.skip) (.exit 2)) (.seq (.block 3 (.seq (.region false [o2 22 (.indexAddr (.int .i64)) 18 20, o1 23 (.load false 1) 22, mv 9 23]) (.region false [mv 24 5, mv 25 9, o1 26 (.fieldAddr 0) 7, ow 27 (.load false 1) [.slot 26] [1] [], o2 28 (.call ⟨374, vs 2, no 2, [.val false 1], ims 1, true⟩) 25 27, o2 29 (.bin .add) 24 28, mv 5 29]))) (.region false [op 30 (.bin .add) [.slot 20, .const (.one (.int .i64 (1 : Int)))], mv 20 30])))
def impl_TypedText.c2 : XCode := .region false [ow 31 (.load true 2) [.slot 7] [1] [], on (.store 2) [.slot 2, .slot 31] [0] [0]]
def impl_TypedText.c3 : XCode := .region false [op 32 (.bin .add) [.slot 12, .const (.one (.int .i64 (1 : Int)))], mv 12 32]
def impl_TypedText.c4 : XCode := .seq (.region false [o2 13 (.bin .lss) 12 11]) (.seq (.cond (.slot 13) (.skip) (.exit 0)) (.seq (.block 1 (.seq (.region false [o2 14 (.indexAddr (.pair (.int .i64) (.list (.int .i64)))) 10 12, o1 15 (.load true 2) 14, ow 7 (.alloc 1 [.int .i64 (0 : Int), .nil]) [] [1] [1], on (.store 2) [.slot 7, .slot 15] [1] [1]]) (.seq (.seq (.region false [ow 16 (.load true 2) [.slot 2] [0] [], ow 17 (.load true 2) [.slot 7] [1] [], o2 18 (.call ⟨264, [.val true 2, .val true 2], no 4, [.val false 1], ims 1, true⟩) 16 17, o1 19 .len 18, op 20 .move [.const (.one (.int .i64 (0 : Int)))]]) (.block 2 (.loop [.keep [2, 5, 7, 10, 11, 12, 18, 19, 20], .norm] (impl_TypedText.c1)))) (impl_TypedText.c2)))) (impl_TypedText.c3)))
def impl_TypedText.c5 : XCode := .seq (.region false [mv 33 5, mv 4 33]) (.ret)
def impl_TypedText.x : XFunc := { nslots := 34, nobj := 2, pars := [.val true 2, .val false 1], rowsIn := [none, none, none], rets := [.tmp 4 false 1], outs := [.imm], fresh := true, arg := .pair (.pair (.int .i64) (.list (.int .i64))) (.list (.pair (.int .i64) (.list (.int .i64)))), ret := .str, body := .seq (.region false [ow 2 (.box 0) [.slot 0] [0] [0], op 4 .move [.const (.one (.str ([] : List UInt8)))]]) (.seq (.region false [op 5 .move [.const (.one (.str ([] : List UInt8)))]]) (.seq (.seq (.region false [mv 10 1, o1 11 .len 10, op 12 .move [.const (.one (.int .i64 (0 : Int)))]]) (.block 0 (.loop [.keep [2, 5, 10, 11, 12], .drop 1, .norm] (impl_TypedText.c4)))) (impl_TypedText.c5))) }
def impl_TypedText.env (N : Nat) : Env := envOf (tbl [(374, impl_CharOf.fs N), (264, impl_NewKeys.fs N)] noFS)
def impl_TypedText.F (N : Nat) (x : (Int × List Int) × List (Int × List Int)) : Option (List UInt8) := XFunc.run impl_TypedText.x (impl_TypedText.env N) N x
def impl_TypedText.fs (N : Nat) : FS := { arg := .pair (.pair (.int .i64) (.list (.int .i64))) (.list (.pair (.int .i64) (.list (.int .i64)))), ret := .str, fresh := true, F := impl_TypedText.F N }
def impl_TypedText.k2 (N : Nat) : Ex → S → Option (List UInt8) := seqK (fun s => XCode.runK (impl_TypedText.env N) N (impl_TypedText.c5) s (XFunc.endK impl_TypedText.x)) (XFunc.endK impl_TypedText.x)
def impl_TypedText.k1 (N : Nat) : Ex → S → Option (List UInt8) := blockK 0 (impl_TypedText.k2 N)
def impl_TypedText.k7 (N : Nat) (n1 : Nat) : Ex → S → Option (List UInt8) := seqK (fun s => bindO (S.ghosts s [.keep [2, 5, 10, 11, 12], .drop 1, .norm]) fun s1 => loopK [.keep [2, 5, 10, 11, 12], .drop 1, .norm] (fun s k => XCode.runK (impl_TypedText.env N) N impl_TypedText.c4 s k) n1 s1 (impl_TypedText.k1 N)) (impl_TypedText.k1 N)
def impl_TypedText.k6 (N : Nat) (n1 : Nat) : Ex → S → Option (List UInt8) := seqK (fun s => XCode.runK (impl_TypedText.env N) N (impl_TypedText.c3) s (impl_TypedText.k7 N n1)) (impl_TypedText.k7 N n1)
def impl_TypedText.k5 (N : Nat) (n1 : Nat) : Ex → S → Option (List UInt8) := blockK 1 (impl_TypedText.k6 N n1)
def impl_TypedText.k4 (N : Nat) (n1 : Nat) : Ex → S → Option (List UInt8) := seqK (fun s => XCode.runK (impl_TypedText.env N) N (impl_TypedText.c2) s (impl_TypedText.k5 N n1)) (impl_TypedText.k5 N n1)
def impl_TypedText.k3 (N : Nat) (n1 : Nat) : Ex → S → Option (List UInt8) := blockK 2 (impl_TypedText.k4 N n1)
def impl_TypedText.L1 (N : Nat) (n1 : Nat) (out : List UInt8) (t10 : List (Int × List Int)) (t11 : Int) (t12 : Int) (o00 : Int) (o01 : List Int) : Option (List UInt8) := loopK [.keep [2, 5, 10, 11, 12], .drop 1, .norm] (fun s k => XCode.runK (impl_TypedText.env N) N impl_TypedText.c4 s k) n1
  { t := [.junk, .junk, .one (.ptr 0 0 0), .junk, .junk, .one (.str out), .junk, .junk, .junk, .junk, .one (.sl false (.pair (.int .i64) (.list (.int .i64))) t10), .one (.int .i64 t11), .one (.int .i64 t12), .junk, .junk, .junk, .junk, .junk, .junk, .junk, .junk, .junk, .junk, .junk, .junk, .junk, .junk, .junk, .junk, .junk, .junk, .junk, .junk, .junk], h := [.box 0 false [.int .i64 o00, .sl false (.int .i64) o01], .absent 0] }
  (impl_TypedText.k1 N)
def impl_TypedText.L2 (N : Nat) (n1 : Nat) (n2 : Nat) (out : List UInt8) (t10 : List (Int × List Int)) (t11 : Int) (t12 : Int) (t18 : List Int) (t19 : Int) (t20 : Int) (o00 : Int) (o01 : List Int) (o10 : Int) (o11 : List Int) : Option (List UInt8) := loopK [.keep [2, 5, 7, 10, 11, 12, 18, 19, 20], .norm] (fun s k => XCode.runK (impl_TypedText.env N) N impl_TypedText.c1 s k) n2
  { t := [.junk, .junk, .one (.ptr 0 0 0), .junk, .junk, .one (.str out), .junk, .one (.ptr 1 0 0), .junk, .junk, .one (.sl false (.pair (.int .i64) (.list (.int .i64))) t10), .one (.int .i64 t11), .one (.int .i64 t12), .junk, .junk, .junk, .junk, .junk, .one (.sl true (.int .i64) t18), .one (.int .i64 t19), .one (.int .i64 t20), .junk, .junk, .junk, .junk, .junk, .junk, .junk, .junk, .junk, .junk, .junk, .junk, .junk], h := [.box 0 false [.int .i64 o00, .sl false (.int .i64) o01], .box 0 false [.int .i64 o10, .sl false (.int .i64) o11]] }
  (impl_TypedText.k3 N n1)

theorem impl_TypedText.L1_eq (N : Nat) (n1 : Nat) (out : List UInt8) (t10 : List (Int × List Int)) (t11 : Int) (t12 : Int) (o00 : Int) (o01 : List Int) : impl_TypedText.L1 N (n1 + 1) out t10 t11 t12 o00 o01 =
    bif decide (t12 < t11) then
      bif inRange t12 (List.length t10) then
      bindO (impl_NewKeys.F N ((o00, o01), (nth ((0 : Int), ([] : List Int)) t10 t12))) fun r1 =>
      impl_TypedText.L2 N n1 N out t10 t11 t12 r1 (List.length r1 : Int) (0 : Int) o00 o01 ((nth ((0 : Int), ([] : List Int)) t10 t12).1) ((nth ((0 : Int), ([] : List Int)) t10 t12).2)
      else none
    else
      some out := by kernel_rfl
theorem impl_TypedText.L2_eq (N : Nat) (n1 : Nat) (n2 : Nat) (out : List UInt8) (t10 : List (Int × List Int)) (t11 : Int) (t12 : Int) (t18 : List Int) (t19 : Int) (t20 : Int) (o00 : Int) (o01 : List Int) (o10 : Int) (o11 : List Int) : impl_TypedText.L2 N n1 (n2 + 1) out t10 t11 t12 t18 t19 t20 o00 o01 o10 o11 =
    bif decide (t20 < t19) then
      bif inRange t20 (List.length t18) then
      bindO (impl_CharOf.F N (nth (0 : Int) t18 t20, o10)) fun r2 =>
      bif decide (List.length out + List.length r2 ≤ maxN) then
      impl_TypedText.L2 N n1 n2 (out ++ r2) t10 t11 t12 t18 t19 (IntKind.wrap .i64 (t20 + (1 : Int))) o00 o01 o10 o11
      else none
      else none
    else
      impl_TypedText.L1 N n1 out t10 t11 (IntKind.wrap .i64 (t12 + (1 : Int))) o10 o11 := by kernel_rfl
theorem impl_TypedText.F_eq (N : Nat) (last : Int × List Int) (l_ : List (Int × List Int)) : impl_TypedText.F N (last, l_) =
    impl_TypedText.L1 N N ([] : List UInt8) l_ (List.length l_ : Int) (0 : Int) last.1 last.2 := by kernel_rfl

end Go.Kb
