/- The texts of functions, printed by a program, and the equations of their runs. -/
import Derived.Test.YtipjdpnpahhndaaDoorCharactersF1
import Derived.Test.YtipjdpnpahhndaaDoorCharactersF2
import Derived.KernelRfl
namespace Go.Kb
def impl_isCode.x : XFunc := { nslots := 9, nobj := 0, pars := [.val false 1], rowsIn := [none], rets := [.tmp 2 false 1], outs := [.imm], fresh := true, arg := .int .i64, ret := .bool, body := .seq (.region false [op 2 .move [.const (.one (.bool false))]]) (.seq (.region false [mv 3 0, op 4 (.bin .geq) [.slot 3, .const (.one (.int .i64 (1 : Int)))], ⟨some 5, .move, [.slot 4], [], [], none, true⟩, ⟨some 6, .move, [.slot 0], [], [], some (5, true), false⟩, ⟨some 7, .bin .leq, [.slot 6, .const (.one (.int .i64 (56 : Int)))], [], [], some (5, true), false⟩, op 8 .pick [.slot 5, .slot 7, .const (.one (.bool false))], mv 2 8]) (.ret)) }
def impl_isCode.env (_ : Nat) : Env := envOf (tbl [] noFS)
def impl_isCode.F (N : Nat) (x : Int) : Option Bool := XFunc.run impl_isCode.x (impl_isCode.env N) N x
def impl_isCode.fs (N : Nat) : FS := { arg := .int .i64, ret := .bool, fresh := true, F := impl_isCode.F N }

theorem impl_isCode.F_eq (N : Nat) (n_ : Int) : impl_isCode.F N n_ =
    bif decide (n_ ≥ (1 : Int)) then
      some (decide (n_ ≤ (56 : Int)))
    else
      some false := by kernel_rfl

def impl_IsReport.c1 : XCode := .seq (.region false [o2 17 (.bin .lss) 16 15]) (.seq (.cond (.slot 17) (.skip) (.exit 0)) (.seq (.block 1 (.seq (.region false [mv 18 16, o2 19 (.indexAddr (.int .i64)) 14 16, o1 20 (.load false 1) 19, mv 3 18, mv 4 20]) (.seq (.region false [mv 21 4, o1 22 (.call ⟨153, vs 1, no 1, [.val false 1], ims 1, true⟩) 21, o1 23 .not 22, ⟨some 24, .move, [.slot 23], [], [], none, true⟩, ⟨some 25, .move, [.slot 3], [], [], some (24, false), false⟩, ⟨some 26, .bin .gtr, [.slot 25, .const (.one (.int .i64 (0 : Int)))], [], [], some (24, false), false⟩, ⟨some 27, .move, [.slot 26], [], [], some (24, false), true⟩, ⟨some 28, .fieldAddr 1, [.slot 1], [], [], some (27, true), false⟩, ⟨some 29, .load false 1, [.slot 28], [0], [], some (27, true), false⟩, ⟨some 30, .move, [.slot 3], [], [], some (27, true), false⟩, ⟨some 31, .bin .sub, [.slot 30, .const (.one (.int .i64 (1 : Int)))], [], [], some (27, true), false⟩, ⟨some 32, .indexAddr (.int .i64), [.slot 29, .slot 31], [], [], some (27, true), false⟩, ⟨some 33, .load false 1, [.slot 32], [], [], some (27, true), false⟩, ⟨some 34, .move, [.slot 4], [], [], some (27, true), false⟩, ⟨some 35, .bin .geq, [.slot 33, .slot 34], [], [], some (27, true), false⟩, ⟨some 36, .pick, [.slot 27, .slot 35, .const (.one (.bool false))], [], [], some (24, false), false⟩, op 37 .pick [.slot 24, .const (.one (.bool true)), .slot 36]]) (.cond (.slot 37) (.seq (.region false [op 2 .move [.const (.one (.bool false))]]) (.ret)) (.skip))))) (.region false [op 38 (.bin .add) [.slot 16, .const (.one (.int .i64 (1 : Int)))], mv 16 38])))
def impl_IsReport.c2 : XCode := .seq (.region false [op 2 .move [.const (.one (.bool true))]]) (.ret)
def impl_IsReport.x : XFunc := { nslots := 39, nobj := 1, pars := [.val true 2], rowsIn := [none, none], rets := [.tmp 2 false 1], outs := [.imm], fresh := true, arg := .pair (.int .i64) (.list (.int .i64)), ret := .bool, body := .seq (.region false [ow 1 (.box 0) [.slot 0] [0] [0], op 2 .move [.const (.one (.bool false))]]) (.seq (.seq (.region false [o1 5 (.fieldAddr 0) 1, ow 6 (.load false 1) [.slot 5] [0] [], op 7 (.bin .lss) [.slot 6, .const (.one (.int .i64 (0 : Int)))], ⟨some 8, .move, [.slot 7], [], [], none, true⟩, ⟨some 9, .fieldAddr 0, [.slot 1], [], [], some (8, false), false⟩, ⟨some 10, .load false 1, [.slot 9], [0], [], some (8, false), false⟩, ⟨some 11, .bin .gtr, [.slot 10, .const (.one (.int .i64 (15 : Int)))], [], [], some (8, false), false⟩, op 12 .pick [.slot 8, .const (.one (.bool true)), .slot 11]]) (.cond (.slot 12) (.seq (.region false [op 2 .move [.const (.one (.bool false))]]) (.ret)) (.skip))) (.seq (.seq (.region false [o1 13 (.fieldAddr 1) 1, ow 14 (.load false 1) [.slot 13] [0] [], o1 15 .len 14, op 16 .move [.const (.one (.int .i64 (0 : Int)))]]) (.block 0 (.loop [.keep [1, 14, 15, 16], .norm] (impl_IsReport.c1)))) (impl_IsReport.c2))) }
def impl_IsReport.env (N : Nat) : Env := envOf (tbl [(153, impl_isCode.fs N)] noFS)
def impl_IsReport.F (N : Nat) (x : Int × List Int) : Option Bool := XFunc.run impl_IsReport.x (impl_IsReport.env N) N x
def impl_IsReport.fs (N : Nat) : FS := { arg := .pair (.int .i64) (.list (.int .i64)), ret := .bool, fresh := true, F := impl_IsReport.F N }
def impl_IsReport.k2 (N : Nat) : Ex → S → Option Bool := seqK (fun s => XCode.runK (impl_IsReport.env N) N (impl_IsReport.c2) s (XFunc.endK impl_IsReport.x)) (XFunc.endK impl_IsReport.x)
def impl_IsReport.k1 (N : Nat) : Ex → S → Option Bool := blockK 0 (impl_IsReport.k2 N)
def impl_IsReport.L1 (N : Nat) (n1 : Nat) (t14 : List Int) (t15 : Int) (t16 : Int) (o00 : Int) (o01 : List Int) : Option Bool := loopK [.keep [1, 14, 15, 16], .norm] (fun s k => XCode.runK (impl_IsReport.env N) N impl_IsReport.c1 s k) n1
  { t := [.junk, .one (.ptr 0 0 0), .junk, .junk, .junk, .junk, .junk, .junk, .junk, .junk, .junk, .junk, .junk, .junk, .one (.sl false (.int .i64) t14), .one (.int .i64 t15), .one (.int .i64 t16), .junk, .junk, .junk, .junk, .junk, .junk, .junk, .junk, .junk, .junk, .junk, .junk, .junk, .junk, .junk, .junk, .junk, .junk, .junk, .junk, .junk, .junk], h := [.box 0 false [.int .i64 o00, .sl false (.int .i64) o01]] }
  (impl_IsReport.k1 N)

theorem impl_IsReport.L1_eq (N : Nat) (n1 : Nat) (t14 : List Int) (t15 : Int) (t16 : Int) (o00 : Int) (o01 : List Int) : impl_IsReport.L1 N (n1 + 1) t14 t15 t16 o00 o01 =
    bif decide (t16 < t15) then
      bif inRange t16 (List.length t14) then
      bindO (impl_isCode.F N (nth (0 : Int) t14 t16)) fun r1 =>
      bif !r1 then
        some false
      else
        bif decide (t16 > (0 : Int)) then
          bif inRange (IntKind.wrap .i64 (t16 - (1 : Int))) (List.length o01) then
          bif decide ((nth (0 : Int) o01 (IntKind.wrap .i64 (t16 - (1 : Int)))) ≥ (nth (0 : Int) t14 t16)) then
            some false
          else
            impl_IsReport.L1 N n1 t14 t15 (IntKind.wrap .i64 (t16 + (1 : Int))) o00 o01
          else none
        else
          impl_IsReport.L1 N n1 t14 t15 (IntKind.wrap .i64 (t16 + (1 : Int))) o00 o01
      else none
    else
      some true := by kernel_rfl
theorem impl_IsReport.F_eq (N : Nat) (r_ : Int × List Int) : impl_IsReport.F N r_ =
    bif decide (r_.1 < (0 : Int)) then
      some false
    else
      bif decide (r_.1 > (15 : Int)) then
        some false
      else
        impl_IsReport.L1 N N r_.2 (List.length r_.2 : Int) (0 : Int) r_.1 r_.2 := by kernel_rfl

def impl_hasInt.c1 : XCode := .seq (.region false [o2 10 (.bin .lss) 9 8]) (.seq (.cond (.slot 10) (.skip) (.exit 0)) (.seq (.block 1 (.seq (.region false [o2 11 (.indexAddr (.int .i64)) 7 9, o1 12 (.load false 1) 11, mv 6 12]) (.seq (.region false [mv 13 6, mv 14 1, o2 15 (.bin .eql) 13 14]) (.cond (.slot 15) (.seq (.region false [op 4 .move [.const (.one (.bool true))]]) (.ret)) (.skip))))) (.region false [op 16 (.bin .add) [.slot 9, .const (.one (.int .i64 (1 : Int)))], mv 9 16])))
def impl_hasInt.c2 : XCode := .seq (.region false [op 4 .move [.const (.one (.bool false))]]) (.ret)
def impl_hasInt.x : XFunc := { nslots := 17, nobj := 0, pars := [.val false 1, .val false 1], rowsIn := [none, none], rets := [.tmp 4 false 1], outs := [.imm], fresh := true, arg := .pair (.list (.int .i64)) (.int .i64), ret := .bool, body := .seq (.region false [op 4 .move [.const (.one (.bool false))]]) (.seq (.seq (.region false [mv 7 0, o1 8 .len 7, op 9 .move [.const (.one (.int .i64 (0 : Int)))]]) (.block 0 (.loop [.keep [1, 7, 8, 9], .norm] (impl_hasInt.c1)))) (impl_hasInt.c2)) }
def impl_hasInt.env (_ : Nat) : Env := envOf (tbl [] noFS)
def impl_hasInt.F (N : Nat) (x : (List Int) × Int) : Option Bool := XFunc.run impl_hasInt.x (impl_hasInt.env N) N x
def impl_hasInt.fs (N : Nat) : FS := { arg := .pair (.list (.int .i64)) (.int .i64), ret := .bool, fresh := true, F := impl_hasInt.F N }
def impl_hasInt.k2 (N : Nat) : Ex → S → Option Bool := seqK (fun s => XCode.runK (impl_hasInt.env N) N (impl_hasInt.c2) s (XFunc.endK impl_hasInt.x)) (XFunc.endK impl_hasInt.x)
def impl_hasInt.k1 (N : Nat) : Ex → S → Option Bool := blockK 0 (impl_hasInt.k2 N)
def impl_hasInt.L1 (N : Nat) (n1 : Nat) (n_ : Int) (t7 : List Int) (t8 : Int) (t9 : Int) : Option Bool := loopK [.keep [1, 7, 8, 9], .norm] (fun s k => XCode.runK (impl_hasInt.env N) N impl_hasInt.c1 s k) n1
  { t := [.junk, .one (.int .i64 n_), .junk, .junk, .junk, .junk, .junk, .one (.sl false (.int .i64) t7), .one (.int .i64 t8), .one (.int .i64 t9), .junk, .junk, .junk, .junk, .junk, .junk, .junk], h := [] }
  (impl_hasInt.k1 N)

theorem impl_hasInt.L1_eq (N : Nat) (n1 : Nat) (n_ : Int) (t7 : List Int) (t8 : Int) (t9 : Int) : impl_hasInt.L1 N (n1 + 1) n_ t7 t8 t9 =
    bif decide (t9 < t8) then
      bif inRange t9 (List.length t7) then
      bif (nth (0 : Int) t7 t9) == n_ then
        some true
      else
        impl_hasInt.L1 N n1 n_ t7 t8 (IntKind.wrap .i64 (t9 + (1 : Int)))
      else none
    else
      some false := by kernel_rfl
theorem impl_hasInt.F_eq (N : Nat) (l_ : List Int) (n_ : Int) : impl_hasInt.F N (l_, n_) =
    impl_hasInt.L1 N N n_ l_ (List.length l_ : Int) (0 : Int) := by kernel_rfl

def impl_NewKeys.c1 : XCode := .seq (.region false [o2 20 (.bin .lss) 19 18]) (.seq (.cond (.slot 20) (.skip) (.exit 0)) (.seq (.block 1 (.seq (.region false [o2 21 (.indexAddr (.int .i64)) 17 19, o1 22 (.load false 1) 21, mv 7 22]) (.seq (.region false [o1 23 (.fieldAddr 1) 2, ow 24 (.load false 1) [.slot 23] [0] [], mv 25 7, o2 26 (.call ⟨202, vs 2, no 2, [.val false 1], ims 1, true⟩) 24 25, o1 27 .not 26]) (.cond (.slot 27) (.region false [mv 28 5, mv 29 7, ow 30 (.buildSlice false 2 2 (.int .i64) 1 [(0, 1)] [.int .i64 (0 : Int)]) [.slot 29] [2] [2], ow 31 (.append false 3 2 (.int .i64)) [.slot 28, .slot 30] [2, 3] [3], mv 5 31]) (.skip))))) (.region false [op 32 (.bin .add) [.slot 19, .const (.one (.int .i64 (1 : Int)))], mv 19 32])))
def impl_NewKeys.c2 : XCode := .seq (.region false [mv 33 5, mv 4 33]) (.ret)
def impl_NewKeys.x : XFunc := { nslots := 34, nobj := 4, pars := [.val true 2, .val true 2], rowsIn := [none, none, none, none], rets := [.tmp 4 false 1], outs := [.own 2], fresh := true, arg := .pair (.pair (.int .i64) (.list (.int .i64))) (.pair (.int .i64) (.list (.int .i64))), ret := .list (.int .i64), body := .seq (.region false [ow 2 (.box 0) [.slot 0] [0] [0], ow 3 (.box 1) [.slot 1] [1] [1], op 4 .move [.const (.one (.nil))]]) (.seq (.seq (.region false [ow 8 (.load true 2) [.slot 2] [0] [], o1 9 (.call ⟨263, [.val true 2], no 2, [.val false 1], ims 1, true⟩) 8, o1 10 .not 9, ⟨some 11, .move, [.slot 10], [], [], none, true⟩, ⟨some 12, .load true 2, [.slot 3], [1], [], some (11, false), false⟩, ⟨some 13, .call ⟨263, [.val true 2], no 2, [.val false 1], ims 1, true⟩, [.slot 12], [], [], some (11, false), false⟩, ⟨some 14, .not, [.slot 13], [], [], some (11, false), false⟩, op 15 .pick [.slot 11, .const (.one (.bool true)), .slot 14]]) (.cond (.slot 15) (.seq (.region false [op 4 .move [.const (.one (.nil))]]) (.ret)) (.skip))) (.seq (.region false [op 5 .move [.const (.one (.nil))]]) (.seq (.seq (.region false [o1 16 (.fieldAddr 1) 3, ow 17 (.load false 1) [.slot 16] [1] [], o1 18 .len 17, op 19 .move [.const (.one (.int .i64 (0 : Int)))]]) (.block 0 (.loop [.mkrow (.slot 5) 3 2 (.int .i64), .keep [2, 5, 17, 18, 19], .drop 1, .drop 2, .norm] (impl_NewKeys.c1)))) (impl_NewKeys.c2)))) }
def impl_NewKeys.env (N : Nat) : Env := envOf (tbl [(263, impl_IsReport.fs N), (202, impl_hasInt.fs N)] noFS)
def impl_NewKeys.F (N : Nat) (x : (Int × List Int) × Int × List Int) : Option (List Int) := XFunc.run impl_NewKeys.x (impl_NewKeys.env N) N x
def impl_NewKeys.fs (N : Nat) : FS := { arg := .pair (.pair (.int .i64) (.list (.int .i64))) (.pair (.int .i64) (.list (.int .i64))), ret := .list (.int .i64), fresh := true, F := impl_NewKeys.F N }
def impl_NewKeys.k2 (N : Nat) : Ex → S → Option (List Int) := seqK (fun s => XCode.runK (impl_NewKeys.env N) N (impl_NewKeys.c2) s (XFunc.endK impl_NewKeys.x)) (XFunc.endK impl_NewKeys.x)
def impl_NewKeys.k1 (N : Nat) : Ex → S → Option (List Int) := blockK 0 (impl_NewKeys.k2 N)
def impl_NewKeys.L1 (N : Nat) (n1 : Nat) (t17 : List Int) (t18 : Int) (t19 : Int) (o00 : Int) (o01 : List Int) (o3 : List Int) : Option (List Int) := loopK [.mkrow (.slot 5) 3 2 (.int .i64), .keep [2, 5, 17, 18, 19], .drop 1, .drop 2, .norm] (fun s k => XCode.runK (impl_NewKeys.env N) N impl_NewKeys.c1 s k) n1
  { t := [.junk, .junk, .one (.ptr 0 0 0), .junk, .junk, .one (.ref 3 0 .all), .junk, .junk, .junk, .junk, .junk, .junk, .junk, .junk, .junk, .junk, .junk, .one (.sl false (.int .i64) t17), .one (.int .i64 t18), .one (.int .i64 t19), .junk, .junk, .junk, .junk, .junk, .junk, .junk, .junk, .junk, .junk, .junk, .junk, .junk, .junk], h := [.box 0 false [.int .i64 o00, .sl false (.int .i64) o01], .absent 0, .absent 0, .row 0 false true 2 (.int .i64) o3] }
  (impl_NewKeys.k1 N)

theorem impl_NewKeys.L1_eq (N : Nat) (n1 : Nat) (t17 : List Int) (t18 : Int) (t19 : Int) (o00 : Int) (o01 : List Int) (o3 : List Int) : impl_NewKeys.L1 N (n1 + 1) t17 t18 t19 o00 o01 o3 =
    bif decide (t19 < t18) then
      bif inRange t19 (List.length t17) then
      bindO (impl_hasInt.F N (o01, nth (0 : Int) t17 t19)) fun r3 =>
      bif !r3 then
        bif decide (List.length o3 + List.length ([nth (0 : Int) t17 t19] : List Int) ≤ maxN) then
        impl_NewKeys.L1 N n1 t17 t18 (IntKind.wrap .i64 (t19 + (1 : Int))) o00 o01 (o3 ++ ([nth (0 : Int) t17 t19] : List Int))
        else none
      else
        impl_NewKeys.L1 N n1 t17 t18 (IntKind.wrap .i64 (t19 + (1 : Int))) o00 o01 o3
      else none
    else
      some o3 := by kernel_rfl
theorem impl_NewKeys.F_eq (N : Nat) (last : Int × List Int) (r_ : Int × List Int) : impl_NewKeys.F N (last, r_) =
    bindO (impl_IsReport.F N last) fun r1 =>
    bif !r1 then
      some ([] : List Int)
    else
      bindO (impl_IsReport.F N r_) fun r2 =>
      bif !r2 then
        some ([] : List Int)
      else
        impl_NewKeys.L1 N N r_.2 (List.length r_.2 : Int) (0 : Int) last.1 last.2 ([] : List Int) := by kernel_rfl

end Go.Kb
