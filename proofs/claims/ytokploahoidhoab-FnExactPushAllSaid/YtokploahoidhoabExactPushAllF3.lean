/- The texts of functions, printed by a program, and the equations of their runs. -/
import Derived.Test.YtokploahoidhoabExactPushAllF1
import Derived.Test.YtokploahoidhoabExactPushAllF2
import Derived.KernelRfl
namespace Go.Kb
def laws_szIntS.x : XFunc := { nslots := 12, nobj := 0, pars := [.val false 1, .val false 1], rowsIn := [none, none], rets := [.tmp 4 false 1], outs := [.imm], fresh := true, arg := .pair (.list (.int .i64)) (.int .i64), ret := .int .i64, body := .seq (.region false [op 4 .move [.const (.one (.int .i64 (0 : Int)))]]) (.seq (.region false [mv 5 1, mv 6 0, o1 7 .len 6, o2 8 (.bin .sub) 5 7, mv 1 8]) (.seq (.seq (.region false [mv 9 1, op 10 (.bin .lss) [.slot 9, .const (.one (.int .i64 (0 : Int)))]]) (.cond (.slot 10) (.seq (.region false [op 4 .move [.const (.one (.int .i64 (-1 : Int)))]]) (.ret)) (.skip))) (.seq (.region false [mv 11 1, mv 4 11]) (.ret)))) }
def laws_szIntS.env (_ : Nat) : Env := envOf (tbl [] noFS)
def laws_szIntS.F (N : Nat) (x : (List Int) × Int) : Option Int := XFunc.run laws_szIntS.x (laws_szIntS.env N) N x
def laws_szIntS.fs (N : Nat) : FS := { arg := .pair (.list (.int .i64)) (.int .i64), ret := .int .i64, fresh := true, F := laws_szIntS.F N }

theorem laws_szIntS.F_eq (N : Nat) (a : List Int) (left : Int) : laws_szIntS.F N (a, left) =
    bif decide ((IntKind.wrap .i64 (left - (List.length a : Int))) < (0 : Int)) then
      some (-1 : Int)
    else
      some (IntKind.wrap .i64 (left - (List.length a : Int))) := by kernel_rfl

def laws_toIntS.c1 : XCode := .seq (.seq (.region false [mv 8 4, mv 9 0, o1 10 .len 9, o2 11 (.bin .lss) 8 10]) (.cond (.slot 11) (.skip) (.exit 0))) (.seq (.block 1 (.region false [mv 14 3, mv 15 4, mv 16 0, mv 17 4, o2 18 (.indexAddr (.int .i64)) 16 17, o1 19 (.load false 1) 18, ow 20 (.indexAddr (.int .i64)) [.slot 14, .slot 15] [0] [], on (.store 1) [.slot 20, .slot 19] [0] [0]])) (.region false [mv 12 4, op 13 (.bin .add) [.slot 12, .const (.one (.int .i64 (1 : Int)))], mv 4 13]))
def laws_toIntS.c2 : XCode := .seq (.region false [mv 21 3, mv 2 21]) (.ret)
def laws_toIntS.x : XFunc := { nslots := 22, nobj := 1, pars := [.val false 1], rowsIn := [none], rets := [.tmp 2 false 1], outs := [.own 2], fresh := true, arg := .list (.int .i64), ret := .list (.int .i64), body := .seq (.region false [op 2 .move [.const (.one (.nil))]]) (.seq (.region false [mv 5 0, o1 6 .len 5, ow 7 (.makeSlice 0 2 (.int .i64)) [.slot 6, .slot 6] [0] [0], mv 3 7]) (.seq (.seq (.region false [op 4 .move [.const (.one (.int .i64 (0 : Int)))]]) (.block 0 (.loop [.keep [0, 3, 4], .norm] (laws_toIntS.c1)))) (laws_toIntS.c2))) }
def laws_toIntS.env (_ : Nat) : Env := envOf (tbl [] noFS)
def laws_toIntS.F (N : Nat) (x : List Int) : Option (List Int) := XFunc.run laws_toIntS.x (laws_toIntS.env N) N x
def laws_toIntS.fs (N : Nat) : FS := { arg := .list (.int .i64), ret := .list (.int .i64), fresh := true, F := laws_toIntS.F N }
def laws_toIntS.k2 (N : Nat) : Ex → S → Option (List Int) := seqK (fun s => XCode.runK (laws_toIntS.env N) N (laws_toIntS.c2) s (XFunc.endK laws_toIntS.x)) (XFunc.endK laws_toIntS.x)
def laws_toIntS.k1 (N : Nat) : Ex → S → Option (List Int) := blockK 0 (laws_toIntS.k2 N)
def laws_toIntS.L1 (N : Nat) (n1 : Nat) (a : List Int) (i : Int) (o0 : List Int) : Option (List Int) := loopK [.keep [0, 3, 4], .norm] (fun s k => XCode.runK (laws_toIntS.env N) N laws_toIntS.c1 s k) n1
  { t := [.one (.sl false (.int .i64) a), .junk, .junk, .one (.ref 0 0 .all), .one (.int .i64 i), .junk, .junk, .junk, .junk, .junk, .junk, .junk, .junk, .junk, .junk, .junk, .junk, .junk, .junk, .junk, .junk, .junk], h := [.row 0 false true 2 (.int .i64) o0] }
  (laws_toIntS.k1 N)

theorem laws_toIntS.L1_eq (N : Nat) (n1 : Nat) (a : List Int) (i : Int) (o0 : List Int) : laws_toIntS.L1 N (n1 + 1) a i o0 =
    bif decide (i < (List.length a : Int)) then
      bif inRange i (List.length a) then
      bif inRange i (List.length o0) then
      laws_toIntS.L1 N n1 a (IntKind.wrap .i64 (i + (1 : Int))) (List.set o0 (Int.toNat i) (nth (0 : Int) a i))
      else none
      else none
    else
      some o0 := by kernel_rfl
theorem laws_toIntS.F_eq (N : Nat) (a : List Int) : laws_toIntS.F N a =
    bif decide (0 ≤ (List.length a : Int)) && decide ((List.length a : Int) ≤ (maxN : Int)) then
    laws_toIntS.L1 N N a (0 : Int) (List.replicate (Int.toNat (List.length a : Int)) (0 : Int))
    else none := by kernel_rfl

def laws_szReport.x : XFunc := { nslots := 12, nobj := 1, pars := [.val true 2, .val false 1], rowsIn := [none, none, none], rets := [.tmp 4 false 1], outs := [.imm], fresh := true, arg := .pair (.pair (.int .i64) (.list (.int .i64))) (.int .i64), ret := .int .i64, body := .seq (.region false [ow 2 (.box 0) [.slot 0] [0] [0], op 4 .move [.const (.one (.int .i64 (0 : Int)))]]) (.seq (.region false [o1 5 (.fieldAddr 1) 2, ow 6 (.load false 1) [.slot 5] [0] [], mv 7 1, o2 8 (.call ⟨251, vs 2, no 2, [.val false 1], ims 1, true⟩) 6 7, mv 1 8]) (.seq (.seq (.region false [mv 9 1, op 10 (.bin .lss) [.slot 9, .const (.one (.int .i64 (0 : Int)))]]) (.cond (.slot 10) (.seq (.region false [op 4 .move [.const (.one (.int .i64 (-1 : Int)))]]) (.ret)) (.skip))) (.seq (.region false [mv 11 1, mv 4 11]) (.ret)))) }
def laws_szReport.env (N : Nat) : Env := envOf (tbl [(251, laws_szIntS.fs N)] noFS)
def laws_szReport.F (N : Nat) (x : (Int × List Int) × Int) : Option Int := XFunc.run laws_szReport.x (laws_szReport.env N) N x
def laws_szReport.fs (N : Nat) : FS := { arg := .pair (.pair (.int .i64) (.list (.int .i64))) (.int .i64), ret := .int .i64, fresh := true, F := laws_szReport.F N }

theorem laws_szReport.F_eq (N : Nat) (a : Int × List Int) (left : Int) : laws_szReport.F N (a, left) =
    bindO (laws_szIntS.F N (a.2, left)) fun r1 =>
    bif decide (r1 < (0 : Int)) then
      some (-1 : Int)
    else
      some r1 := by kernel_rfl

def laws_toReport.x : XFunc := { nslots := 12, nobj := 4, pars := [.val true 2], rowsIn := [none, none], rets := [.var 2 true 2], outs := [.imm, .own 2], fresh := true, arg := .pair (.int .i64) (.list (.int .i64)), ret := .pair (.int .i64) (.list (.int .i64)), body := .seq (.region false [ow 1 (.box 0) [.slot 0] [0] [0], ow 2 (.alloc 1 [.int .i64 (0 : Int), .nil]) [] [1] [1]]) (.seq (.region false [ow 3 (.alloc 2 [.int .i64 (0 : Int), .nil]) [] [2] [2]]) (.seq (.region false [o1 4 (.fieldAddr 0) 1, ow 5 (.load false 1) [.slot 4] [0] [], o1 6 (.fieldAddr 0) 3, on (.store 1) [.slot 6, .slot 5] [2] [2]]) (.seq (.region false [o1 7 (.fieldAddr 1) 1, ow 8 (.load false 1) [.slot 7] [0] [], ow 9 (.call ⟨254, vs 1, no 1, [.val false 1], [.own 3 2], true⟩) [.slot 8] [3] [3], o1 10 (.fieldAddr 1) 3, on (.store 1) [.slot 10, .slot 9] [2] [2]]) (.seq (.region false [ow 11 (.load true 2) [.slot 3] [2] [], on (.store 2) [.slot 2, .slot 11] [1] [1]]) (.ret))))) }
def laws_toReport.env (N : Nat) : Env := envOf (tbl [(254, laws_toIntS.fs N)] noFS)
def laws_toReport.F (N : Nat) (x : Int × List Int) : Option (Int × List Int) := XFunc.run laws_toReport.x (laws_toReport.env N) N x
def laws_toReport.fs (N : Nat) : FS := { arg := .pair (.int .i64) (.list (.int .i64)), ret := .pair (.int .i64) (.list (.int .i64)), fresh := true, F := laws_toReport.F N }

theorem laws_toReport.F_eq (N : Nat) (a : Int × List Int) : laws_toReport.F N a =
    bindO (laws_toIntS.F N a.2) fun r1 =>
    some (a.1, r1) := by kernel_rfl

def spec_IsReport.c1 : XCode := .seq (.seq (.region false [mv 4 3, o1 5 (.fieldAddr 1) 1, ow 6 (.load false 1) [.slot 5] [0] [], o1 7 .len 6, o2 8 (.bin .lss) 4 7]) (.cond (.slot 8) (.skip) (.exit 0))) (.seq (.block 1 (.seq (.region true [o1 11 (.fieldAddr 1) 1, ow 12 (.load false 1) [.slot 11] [0] [], mv 13 3, o2 14 (.indexAddr (.int .i64)) 12 13, o1 15 (.load false 1) 14, op 16 (.call ⟨1, vs 3, no 3, [.val false 1], ims 1, true⟩) [.slot 15, .const (.one (.int .i64 (1 : Int))), .const (.one (.int .i64 (56 : Int)))], o1 17 .not 16, ⟨some 18, .move, [.slot 17], [], [], none, true, .none⟩, ⟨some 19, .move, [.slot 3], [], [], some (18, false), false, .none⟩, ⟨some 20, .bin .gtr, [.slot 19, .const (.one (.int .i64 (0 : Int)))], [], [], some (18, false), false, .none⟩, ⟨some 21, .move, [.slot 20], [], [], some (18, false), true, .none⟩, ⟨some 22, .fieldAddr 1, [.slot 1], [], [], some (21, true), false, .none⟩, ⟨some 23, .load false 1, [.slot 22], [0], [], some (21, true), false, .none⟩, ⟨some 24, .move, [.slot 3], [], [], some (21, true), false, .none⟩, ⟨some 25, .bin .sub, [.slot 24, .const (.one (.int .i64 (1 : Int)))], [], [], some (21, true), false, .none⟩, ⟨some 26, .indexAddr (.int .i64), [.slot 23, .slot 25], [], [], some (21, true), false, .none⟩, ⟨some 27, .load false 1, [.slot 26], [], [], some (21, true), false, .none⟩, ⟨some 28, .fieldAddr 1, [.slot 1], [], [], some (21, true), false, .none⟩, ⟨some 29, .load false 1, [.slot 28], [0], [], some (21, true), false, .none⟩, ⟨some 30, .move, [.slot 3], [], [], some (21, true), false, .none⟩, ⟨some 31, .indexAddr (.int .i64), [.slot 29, .slot 30], [], [], some (21, true), false, .none⟩, ⟨some 32, .load false 1, [.slot 31], [], [], some (21, true), false, .none⟩, ⟨some 33, .bin .geq, [.slot 27, .slot 32], [], [], some (21, true), false, .none⟩, ⟨some 34, .pick, [.slot 21, .slot 33, .const (.one (.bool false))], [], [], some (18, false), false, .none⟩, op 35 .pick [.slot 18, .const (.one (.bool true)), .slot 34]]) (.cond (.slot 35) (.seq (.region false [op 2 .move [.const (.one (.bool false))]]) (.ret)) (.skip)))) (.region false [mv 9 3, op 10 (.bin .add) [.slot 9, .const (.one (.int .i64 (1 : Int)))], mv 3 10]))
def spec_IsReport.c2 : XCode := .seq (.region false [o1 36 (.fieldAddr 0) 1, ow 37 (.load false 1) [.slot 36] [0] [], op 38 (.call ⟨1, vs 3, no 3, [.val false 1], ims 1, true⟩) [.slot 37, .const (.one (.int .i64 (0 : Int))), .const (.one (.int .i64 (15 : Int)))], mv 2 38]) (.ret)
def spec_IsReport.x : XFunc := { nslots := 39, nobj := 1, pars := [.val true 2], rowsIn := [none, none], rets := [.tmp 2 false 1], outs := [.imm], fresh := true, arg := .pair (.int .i64) (.list (.int .i64)), ret := .bool, body := .seq (.region false [ow 1 (.box 0) [.slot 0] [0] [0], op 2 .move [.const (.one (.bool false))]]) (.seq (.seq (.region false [op 3 .move [.const (.one (.int .i64 (0 : Int)))]]) (.block 0 (.loop [.keep [1, 3], .norm] (spec_IsReport.c1)))) (spec_IsReport.c2)) }
def spec_IsReport.env (N : Nat) : Env := envOf (tbl [(1, spec_l1In.fs N)] noFS)
def spec_IsReport.F (N : Nat) (x : Int × List Int) : Option Bool := XFunc.run spec_IsReport.x (spec_IsReport.env N) N x
def spec_IsReport.fs (N : Nat) : FS := { arg := .pair (.int .i64) (.list (.int .i64)), ret := .bool, fresh := true, F := spec_IsReport.F N }
def spec_IsReport.k2 (N : Nat) : Ex → S → Option Bool := seqK (fun s => XCode.runK (spec_IsReport.env N) N (spec_IsReport.c2) s (XFunc.endK spec_IsReport.x)) (XFunc.endK spec_IsReport.x)
def spec_IsReport.k1 (N : Nat) : Ex → S → Option Bool := blockK 0 (spec_IsReport.k2 N)
def spec_IsReport.L1 (N : Nat) (n1 : Nat) (i : Int) (o00 : Int) (o01 : List Int) : Option Bool := loopK [.keep [1, 3], .norm] (fun s k => XCode.runK (spec_IsReport.env N) N spec_IsReport.c1 s k) n1
  { t := [.junk, .one (.ptr 0 0 0), .junk, .one (.int .i64 i), .junk, .junk, .junk, .junk, .junk, .junk, .junk, .junk, .junk, .junk, .junk, .junk, .junk, .junk, .junk, .junk, .junk, .junk, .junk, .junk, .junk, .junk, .junk, .junk, .junk, .junk, .junk, .junk, .junk, .junk, .junk, .junk, .junk, .junk, .junk], h := [.box 0 false [.int .i64 o00, .sl false (.int .i64) o01]] }
  (spec_IsReport.k1 N)

theorem spec_IsReport.L1_eq (N : Nat) (n1 : Nat) (i : Int) (o00 : Int) (o01 : List Int) : spec_IsReport.L1 N (n1 + 1) i o00 o01 =
    bif decide (i < (List.length o01 : Int)) then
      bif inRange i (List.length o01) then
      bindO (spec_l1In.F N (nth (0 : Int) o01 i, ((1 : Int), (56 : Int)))) fun r1 =>
      bif !r1 then
        some false
      else
        bif decide (i > (0 : Int)) then
          bif inRange (IntKind.wrap .i64 (i - (1 : Int))) (List.length o01) then
          bif inRange i (List.length o01) then
          bif decide ((nth (0 : Int) o01 (IntKind.wrap .i64 (i - (1 : Int)))) ≥ (nth (0 : Int) o01 i)) then
            some false
          else
            spec_IsReport.L1 N n1 (IntKind.wrap .i64 (i + (1 : Int))) o00 o01
          else none
          else none
        else
          spec_IsReport.L1 N n1 (IntKind.wrap .i64 (i + (1 : Int))) o00 o01
      else none
    else
      bindO (spec_l1In.F N (o00, ((0 : Int), (15 : Int)))) fun r2 =>
      some r2 := by kernel_rfl
theorem spec_IsReport.F_eq (N : Nat) (r_ : Int × List Int) : spec_IsReport.F N r_ =
    spec_IsReport.L1 N N (0 : Int) r_.1 r_.2 := by kernel_rfl

def spec_l12Has.c1 : XCode := .seq (.seq (.region false [mv 6 5, mv 7 0, o1 8 .len 7, o2 9 (.bin .lss) 6 8]) (.cond (.slot 9) (.skip) (.exit 0))) (.seq (.block 1 (.seq (.region false [mv 12 0, mv 13 5, o2 14 (.indexAddr (.int .i64)) 12 13, o1 15 (.load false 1) 14, mv 16 1, o2 17 (.bin .eql) 15 16]) (.cond (.slot 17) (.seq (.region false [op 4 .move [.const (.one (.bool true))]]) (.ret)) (.skip)))) (.region false [mv 10 5, op 11 (.bin .add) [.slot 10, .const (.one (.int .i64 (1 : Int)))], mv 5 11]))
def spec_l12Has.c2 : XCode := .seq (.region false [op 4 .move [.const (.one (.bool false))]]) (.ret)
def spec_l12Has.x : XFunc := { nslots := 18, nobj := 0, pars := [.val false 1, .val false 1], rowsIn := [none, none], rets := [.tmp 4 false 1], outs := [.imm], fresh := true, arg := .pair (.list (.int .i64)) (.int .i64), ret := .bool, body := .seq (.region false [op 4 .move [.const (.one (.bool false))]]) (.seq (.seq (.region false [op 5 .move [.const (.one (.int .i64 (0 : Int)))]]) (.block 0 (.loop [.keep [0, 1, 5], .norm] (spec_l12Has.c1)))) (spec_l12Has.c2)) }
def spec_l12Has.env (_ : Nat) : Env := envOf (tbl [] noFS)
def spec_l12Has.F (N : Nat) (x : (List Int) × Int) : Option Bool := XFunc.run spec_l12Has.x (spec_l12Has.env N) N x
def spec_l12Has.fs (N : Nat) : FS := { arg := .pair (.list (.int .i64)) (.int .i64), ret := .bool, fresh := true, F := spec_l12Has.F N }
def spec_l12Has.k2 (N : Nat) : Ex → S → Option Bool := seqK (fun s => XCode.runK (spec_l12Has.env N) N (spec_l12Has.c2) s (XFunc.endK spec_l12Has.x)) (XFunc.endK spec_l12Has.x)
def spec_l12Has.k1 (N : Nat) : Ex → S → Option Bool := blockK 0 (spec_l12Has.k2 N)
def spec_l12Has.L1 (N : Nat) (n1 : Nat) (l_ : List Int) (n_ : Int) (i : Int) : Option Bool := loopK [.keep [0, 1, 5], .norm] (fun s k => XCode.runK (spec_l12Has.env N) N spec_l12Has.c1 s k) n1
  { t := [.one (.sl false (.int .i64) l_), .one (.int .i64 n_), .junk, .junk, .junk, .one (.int .i64 i), .junk, .junk, .junk, .junk, .junk, .junk, .junk, .junk, .junk, .junk, .junk, .junk], h := [] }
  (spec_l12Has.k1 N)

theorem spec_l12Has.L1_eq (N : Nat) (n1 : Nat) (l_ : List Int) (n_ : Int) (i : Int) : spec_l12Has.L1 N (n1 + 1) l_ n_ i =
    bif decide (i < (List.length l_ : Int)) then
      bif inRange i (List.length l_) then
      bif (nth (0 : Int) l_ i) == n_ then
        some true
      else
        spec_l12Has.L1 N n1 l_ n_ (IntKind.wrap .i64 (i + (1 : Int)))
      else none
    else
      some false := by kernel_rfl
theorem spec_l12Has.F_eq (N : Nat) (l_ : List Int) (n_ : Int) : spec_l12Has.F N (l_, n_) =
    spec_l12Has.L1 N N l_ n_ (0 : Int) := by kernel_rfl

def spec_NewKeys.c1 : XCode := .seq (.seq (.region false [mv 8 6, o1 9 (.fieldAddr 1) 3, ow 10 (.load false 1) [.slot 9] [1] [], o1 11 .len 10, o2 12 (.bin .lss) 8 11, ⟨some 13, .move, [.slot 12], [], [], none, true, .none⟩, ⟨some 14, .load true 2, [.slot 2], [0], [], some (13, true), false, .none⟩, ⟨some 15, .call ⟨260, [.val true 2], no 2, [.val false 1], ims 1, true⟩, [.slot 14], [], [], some (13, true), false, .none⟩, op 16 .pick [.slot 13, .slot 15, .const (.one (.bool false))], ⟨some 17, .move, [.slot 16], [], [], none, true, .none⟩, ⟨some 18, .load true 2, [.slot 3], [1], [], some (17, true), false, .none⟩, ⟨some 19, .call ⟨260, [.val true 2], no 2, [.val false 1], ims 1, true⟩, [.slot 18], [], [], some (17, true), false, .none⟩, op 20 .pick [.slot 17, .slot 19, .const (.one (.bool false))]]) (.cond (.slot 20) (.skip) (.exit 0))) (.seq (.block 1 (.seq (.region true [o1 23 (.fieldAddr 1) 2, ow 24 (.load false 1) [.slot 23] [0] [], o1 25 (.fieldAddr 1) 3, ow 26 (.load false 1) [.slot 25] [1] [], mv 27 6, o2 28 (.indexAddr (.int .i64)) 26 27, o1 29 (.load false 1) 28, o2 30 (.call ⟨261, vs 2, no 2, [.val false 1], ims 1, true⟩) 24 29, o1 31 .not 30]) (.cond (.slot 31) (.region false [mv 32 5, o1 33 (.fieldAddr 1) 3, ow 34 (.load false 1) [.slot 33] [1] [], mv 35 6, o2 36 (.indexAddr (.int .i64)) 34 35, o1 37 (.load false 1) 36, ow 38 (.buildSlice false 3 2 (.int .i64) 1 [(0, 1)] [.int .i64 (0 : Int)]) [.slot 37] [3] [3], ow 39 (.append false 2 2 (.int .i64)) [.slot 32, .slot 38] [2, 3] [2], mv 5 39]) (.skip)))) (.region false [mv 21 6, op 22 (.bin .add) [.slot 21, .const (.one (.int .i64 (1 : Int)))], mv 6 22]))
def spec_NewKeys.c2 : XCode := .seq (.region false [mv 40 5, mv 4 40]) (.ret)
def spec_NewKeys.x : XFunc := { nslots := 41, nobj := 4, pars := [.val true 2, .val true 2], rowsIn := [none, none, none, none], rets := [.tmp 4 false 1], outs := [.own 2], fresh := true, arg := .pair (.pair (.int .i64) (.list (.int .i64))) (.pair (.int .i64) (.list (.int .i64))), ret := .list (.int .i64), body := .seq (.region false [ow 2 (.box 0) [.slot 0] [0] [0], ow 3 (.box 1) [.slot 1] [1] [1], op 4 .move [.const (.one (.nil))]]) (.seq (.region false [ow 7 (.buildSlice false 2 2 (.int .i64) 0 [] [.int .i64 (0 : Int)]) [] [2] [2], mv 5 7]) (.seq (.seq (.region false [op 6 .move [.const (.one (.int .i64 (0 : Int)))]]) (.block 0 (.loop [.keep [2, 3, 5, 6], .drop 3, .norm] (spec_NewKeys.c1)))) (spec_NewKeys.c2))) }
def spec_NewKeys.env (N : Nat) : Env := envOf (tbl [(260, spec_IsReport.fs N), (261, spec_l12Has.fs N)] noFS)
def spec_NewKeys.F (N : Nat) (x : (Int × List Int) × Int × List Int) : Option (List Int) := XFunc.run spec_NewKeys.x (spec_NewKeys.env N) N x
def spec_NewKeys.fs (N : Nat) : FS := { arg := .pair (.pair (.int .i64) (.list (.int .i64))) (.pair (.int .i64) (.list (.int .i64))), ret := .list (.int .i64), fresh := true, F := spec_NewKeys.F N }
def spec_NewKeys.k2 (N : Nat) : Ex → S → Option (List Int) := seqK (fun s => XCode.runK (spec_NewKeys.env N) N (spec_NewKeys.c2) s (XFunc.endK spec_NewKeys.x)) (XFunc.endK spec_NewKeys.x)
def spec_NewKeys.k1 (N : Nat) : Ex → S → Option (List Int) := blockK 0 (spec_NewKeys.k2 N)
def spec_NewKeys.L1 (N : Nat) (n1 : Nat) (i : Int) (o00 : Int) (o01 : List Int) (o10 : Int) (o11 : List Int) (o2 : List Int) : Option (List Int) := loopK [.keep [2, 3, 5, 6], .drop 3, .norm] (fun s k => XCode.runK (spec_NewKeys.env N) N spec_NewKeys.c1 s k) n1
  { t := [.junk, .junk, .one (.ptr 0 0 0), .one (.ptr 1 0 0), .junk, .one (.ref 2 0 .all), .one (.int .i64 i), .junk, .junk, .junk, .junk, .junk, .junk, .junk, .junk, .junk, .junk, .junk, .junk, .junk, .junk, .junk, .junk, .junk, .junk, .junk, .junk, .junk, .junk, .junk, .junk, .junk, .junk, .junk, .junk, .junk, .junk, .junk, .junk, .junk, .junk], h := [.box 0 false [.int .i64 o00, .sl false (.int .i64) o01], .box 0 false [.int .i64 o10, .sl false (.int .i64) o11], .row 0 false true 2 (.int .i64) o2, .absent 0] }
  (spec_NewKeys.k1 N)

theorem spec_NewKeys.L1_eq (N : Nat) (n1 : Nat) (i : Int) (o00 : Int) (o01 : List Int) (o10 : Int) (o11 : List Int) (o2 : List Int) : spec_NewKeys.L1 N (n1 + 1) i o00 o01 o10 o11 o2 =
    bif decide (i < (List.length o11 : Int)) then
      bindO (spec_IsReport.F N (o00, o01)) fun r1 =>
      bif r1 then
        bindO (spec_IsReport.F N (o10, o11)) fun r2 =>
        bif r2 then
          bif inRange i (List.length o11) then
          bindO (spec_l12Has.F N (o01, nth (0 : Int) o11 i)) fun r3 =>
          bif !r3 then
            bif inRange i (List.length o11) then
            bif decide (List.length o2 + List.length ([nth (0 : Int) o11 i] : List Int) ≤ maxN) then
            spec_NewKeys.L1 N n1 (IntKind.wrap .i64 (i + (1 : Int))) o00 o01 o10 o11 (o2 ++ ([nth (0 : Int) o11 i] : List Int))
            else none
            else none
          else
            spec_NewKeys.L1 N n1 (IntKind.wrap .i64 (i + (1 : Int))) o00 o01 o10 o11 o2
          else none
        else
          some o2
      else
        some o2
    else
      some o2 := by kernel_rfl
theorem spec_NewKeys.F_eq (N : Nat) (last : Int × List Int) (r_ : Int × List Int) : spec_NewKeys.F N (last, r_) =
    spec_NewKeys.L1 N N (0 : Int) last.1 last.2 r_.1 r_.2 ([] : List Int) := by kernel_rfl

def impl_isCode.x : XFunc := { nslots := 9, nobj := 0, pars := [.val false 1], rowsIn := [none], rets := [.tmp 2 false 1], outs := [.imm], fresh := true, arg := .int .i64, ret := .bool, body := .seq (.region false [op 2 .move [.const (.one (.bool false))]]) (.seq (.region false [mv 3 0, op 4 (.bin .geq) [.slot 3, .const (.one (.int .i64 (1 : Int)))], ⟨some 5, .move, [.slot 4], [], [], none, true, .none⟩, ⟨some 6, .move, [.slot 0], [], [], some (5, true), false, .none⟩, ⟨some 7, .bin .leq, [.slot 6, .const (.one (.int .i64 (56 : Int)))], [], [], some (5, true), false, .none⟩, op 8 .pick [.slot 5, .slot 7, .const (.one (.bool false))], mv 2 8]) (.ret)) }
def impl_isCode.env (_ : Nat) : Env := envOf (tbl [] noFS)
def impl_isCode.F (N : Nat) (x : Int) : Option Bool := XFunc.run impl_isCode.x (impl_isCode.env N) N x
def impl_isCode.fs (N : Nat) : FS := { arg := .int .i64, ret := .bool, fresh := true, F := impl_isCode.F N }

theorem impl_isCode.F_eq (N : Nat) (n_ : Int) : impl_isCode.F N n_ =
    bif decide (n_ ≥ (1 : Int)) then
      some (decide (n_ ≤ (56 : Int)))
    else
      some false := by kernel_rfl

def impl_IsReport.c1 : XCode := .seq (.region false [o2 17 (.bin .lss) 16 15]) (.seq (.cond (.slot 17) (.skip) (.exit 0)) (.seq (.block 1 (.seq (.region false [mv 18 16, o2 19 (.indexAddr (.int .i64)) 14 16, o1 20 (.load false 1) 19, mv 3 18, mv 4 20]) (.seq (.region false [mv 21 4, o1 22 (.call ⟨153, vs 1, no 1, [.val false 1], ims 1, true⟩) 21, o1 23 .not 22, ⟨some 24, .move, [.slot 23], [], [], none, true, .none⟩, ⟨some 25, .move, [.slot 3], [], [], some (24, false), false, .none⟩, ⟨some 26, .bin .gtr, [.slot 25, .const (.one (.int .i64 (0 : Int)))], [], [], some (24, false), false, .none⟩, ⟨some 27, .move, [.slot 26], [], [], some (24, false), true, .none⟩, ⟨some 28, .fieldAddr 1, [.slot 1], [], [], some (27, true), false, .none⟩, ⟨some 29, .load false 1, [.slot 28], [0], [], some (27, true), false, .none⟩, ⟨some 30, .move, [.slot 3], [], [], some (27, true), false, .none⟩, ⟨some 31, .bin .sub, [.slot 30, .const (.one (.int .i64 (1 : Int)))], [], [], some (27, true), false, .none⟩, ⟨some 32, .indexAddr (.int .i64), [.slot 29, .slot 31], [], [], some (27, true), false, .none⟩, ⟨some 33, .load false 1, [.slot 32], [], [], some (27, true), false, .none⟩, ⟨some 34, .move, [.slot 4], [], [], some (27, true), false, .none⟩, ⟨some 35, .bin .geq, [.slot 33, .slot 34], [], [], some (27, true), false, .none⟩, ⟨some 36, .pick, [.slot 27, .slot 35, .const (.one (.bool false))], [], [], some (24, false), false, .none⟩, op 37 .pick [.slot 24, .const (.one (.bool true)), .slot 36]]) (.cond (.slot 37) (.seq (.region false [op 2 .move [.const (.one (.bool false))]]) (.ret)) (.skip))))) (.region false [op 38 (.bin .add) [.slot 16, .const (.one (.int .i64 (1 : Int)))], mv 16 38])))
def impl_IsReport.c2 : XCode := .seq (.region false [op 2 .move [.const (.one (.bool true))]]) (.ret)
def impl_IsReport.x : XFunc := { nslots := 39, nobj := 1, pars := [.val true 2], rowsIn := [none, none], rets := [.tmp 2 false 1], outs := [.imm], fresh := true, arg := .pair (.int .i64) (.list (.int .i64)), ret := .bool, body := .seq (.region false [ow 1 (.box 0) [.slot 0] [0] [0], op 2 .move [.const (.one (.bool false))]]) (.seq (.seq (.region false [o1 5 (.fieldAddr 0) 1, ow 6 (.load false 1) [.slot 5] [0] [], op 7 (.bin .lss) [.slot 6, .const (.one (.int .i64 (0 : Int)))], ⟨some 8, .move, [.slot 7], [], [], none, true, .none⟩, ⟨some 9, .fieldAddr 0, [.slot 1], [], [], some (8, false), false, .none⟩, ⟨some 10, .load false 1, [.slot 9], [0], [], some (8, false), false, .none⟩, ⟨some 11, .bin .gtr, [.slot 10, .const (.one (.int .i64 (15 : Int)))], [], [], some (8, false), false, .none⟩, op 12 .pick [.slot 8, .const (.one (.bool true)), .slot 11]]) (.cond (.slot 12) (.seq (.region false [op 2 .move [.const (.one (.bool false))]]) (.ret)) (.skip))) (.seq (.seq (.region false [o1 13 (.fieldAddr 1) 1, ow 14 (.load false 1) [.slot 13] [0] [], o1 15 .len 14, op 16 .move [.const (.one (.int .i64 (0 : Int)))]]) (.block 0 (.loop [.keep [1, 14, 15, 16], .norm] (impl_IsReport.c1)))) (impl_IsReport.c2))) }
def impl_IsReport.env (N : Nat) : Env := envOf (tbl [(153, impl_isCode.fs N)] noFS)
def impl_IsReport.F (N : Nat) (x : Int × List Int) : Option Bool := XFunc.run impl_IsReport.x (impl_IsReport.env N) N x
def impl_IsReport.fs (N : Nat) : FS := { arg := .pair (.int .i64) (.list (.int .i64)), ret := .bool, fresh := true, F := impl_IsReport.F N }
def impl_IsReport.k2 (N : Nat) : Ex → S → Option Bool := seqK (fun s => XCode.runK (impl_IsReport.env N) N (impl_IsReport.c2) s (XFunc.endK impl_IsReport.x)) (XFunc.endK impl_IsReport.x)
def impl_IsReport.k1 (N : Nat) : Ex → S → Option Bool := blockK 0 (impl_IsReport.k2 N)
def impl_IsReport.L1 (N : Nat) (n1 : Nat) (t14 : List Int) (t15 : Int) (t16 : Int) (o00 : Int) (o01 : List Int) : Option Bool := loopK [.keep [1, 14, 15, 16], .norm] (fun s k => XCode.runK (impl_IsReport.env N) N impl_IsReport.c1 s k) n1
  { t := [.junk, .one (.ptr 0 0 0), .junk, .junk, .junk, .junk, .junk, .junk, .junk, .junk, .junk, .junk, .junk, .junk, .one (.sl false (.int .i64) t14), .one (.int .i64 t15), .one (.int .i64 t16), .junk, .junk, .junk, .junk, .junk, .junk, .junk, .junk, .junk, .junk, .junk, .junk, .junk, .junk, .junk, .junk, .junk, .junk, .junk, .junk, .junk, .junk], h := [.box 0 false [.int .i64 o00, .sl false (.int .i64) o01]] }
  (impl_IsReport.k1 N)

theorem impl_IsReport.L1_eq (N : Nat) (n1 : Nat) (t14 : List Int) (t15 : Int) (t16 : Int) (o00 : Int) (o01 : List Int) : impl_IsReport.L1 N (n1 + 1) t14 t15 t16 o00 o01 =
    bif decide (t16 < t15) then
      bif inRange t16 (List.length t14) then
      bindO (impl_isCode.F N (nth (0 : Int) t14 t16)) fun r1 =>
      bif !r1 then
        some false
      else
        bif decide (t16 > (0 : Int)) then
          bif inRange (IntKind.wrap .i64 (t16 - (1 : Int))) (List.length o01) then
          bif decide ((nth (0 : Int) o01 (IntKind.wrap .i64 (t16 - (1 : Int)))) ≥ (nth (0 : Int) t14 t16)) then
            some false
          else
            impl_IsReport.L1 N n1 t14 t15 (IntKind.wrap .i64 (t16 + (1 : Int))) o00 o01
          else none
        else
          impl_IsReport.L1 N n1 t14 t15 (IntKind.wrap .i64 (t16 + (1 : Int))) o00 o01
      else none
    else
      some true := by kernel_rfl
theorem impl_IsReport.F_eq (N : Nat) (r_ : Int × List Int) : impl_IsReport.F N r_ =
    bif decide (r_.1 < (0 : Int)) then
      some false
    else
      bif decide (r_.1 > (15 : Int)) then
        some false
      else
        impl_IsReport.L1 N N r_.2 (List.length r_.2 : Int) (0 : Int) r_.1 r_.2 := by kernel_rfl

def impl_hasInt.c1 : XCode := .seq (.region false [o2 10 (.bin .lss) 9 8]) (.seq (.cond (.slot 10) (.skip) (.exit 0)) (.seq (.block 1 (.seq (.region false [o2 11 (.indexAddr (.int .i64)) 7 9, o1 12 (.load false 1) 11, mv 6 12]) (.seq (.region false [mv 13 6, mv 14 1, o2 15 (.bin .eql) 13 14]) (.cond (.slot 15) (.seq (.region false [op 4 .move [.const (.one (.bool true))]]) (.ret)) (.skip))))) (.region false [op 16 (.bin .add) [.slot 9, .const (.one (.int .i64 (1 : Int)))], mv 9 16])))
def impl_hasInt.c2 : XCode := .seq (.region false [op 4 .move [.const (.one (.bool false))]]) (.ret)
def impl_hasInt.x : XFunc := { nslots := 17, nobj := 0, pars := [.val false 1, .val false 1], rowsIn := [none, none], rets := [.tmp 4 false 1], outs := [.imm], fresh := true, arg := .pair (.list (.int .i64)) (.int .i64), ret := .bool, body := .seq (.region false [op 4 .move [.const (.one (.bool false))]]) (.seq (.seq (.region false [mv 7 0, o1 8 .len 7, op 9 .move [.const (.one (.int .i64 (0 : Int)))]]) (.block 0 (.loop [.keep [1, 7, 8, 9], .norm] (impl_hasInt.c1)))) (impl_hasInt.c2)) }
def impl_hasInt.env (_ : Nat) : Env := envOf (tbl [] noFS)
def impl_hasInt.F (N : Nat) (x : (List Int) × Int) : Option Bool := XFunc.run impl_hasInt.x (impl_hasInt.env N) N x
def impl_hasInt.fs (N : Nat) : FS := { arg := .pair (.list (.int .i64)) (.int .i64), ret := .bool, fresh := true, F := impl_hasInt.F N }
def impl_hasInt.k2 (N : Nat) : Ex → S → Option Bool := seqK (fun s => XCode.runK (impl_hasInt.env N) N (impl_hasInt.c2) s (XFunc.endK impl_hasInt.x)) (XFunc.endK impl_hasInt.x)
def impl_hasInt.k1 (N : Nat) : Ex → S → Option Bool := blockK 0 (impl_hasInt.k2 N)
def impl_hasInt.L1 (N : Nat) (n1 : Nat) (n_ : Int) (t7 : List Int) (t8 : Int) (t9 : Int) : Option Bool := loopK [.keep [1, 7, 8, 9], .norm] (fun s k => XCode.runK (impl_hasInt.env N) N impl_hasInt.c1 s k) n1
  { t := [.junk, .one (.int .i64 n_), .junk, .junk, .junk, .junk, .junk, .one (.sl false (.int .i64) t7), .one (.int .i64 t8), .one (.int .i64 t9), .junk, .junk, .junk, .junk, .junk, .junk, .junk], h := [] }
  (impl_hasInt.k1 N)

theorem impl_hasInt.L1_eq (N : Nat) (n1 : Nat) (n_ : Int) (t7 : List Int) (t8 : Int) (t9 : Int) : impl_hasInt.L1 N (n1 + 1) n_ t7 t8 t9 =
    bif decide (t9 < t8) then
      bif inRange t9 (List.length t7) then
      bif (nth (0 : Int) t7 t9) == n_ then
        some true
      else
        impl_hasInt.L1 N n1 n_ t7 t8 (IntKind.wrap .i64 (t9 + (1 : Int)))
      else none
    else
      some false := by kernel_rfl
theorem impl_hasInt.F_eq (N : Nat) (l_ : List Int) (n_ : Int) : impl_hasInt.F N (l_, n_) =
    impl_hasInt.L1 N N n_ l_ (List.length l_ : Int) (0 : Int) := by kernel_rfl

def impl_NewKeys.c1 : XCode := .seq (.region false [o2 20 (.bin .lss) 19 18]) (.seq (.cond (.slot 20) (.skip) (.exit 0)) (.seq (.block 1 (.seq (.region false [o2 21 (.indexAddr (.int .i64)) 17 19, o1 22 (.load false 1) 21, mv 7 22]) (.seq (.region false [o1 23 (.fieldAddr 1) 2, ow 24 (.load false 1) [.slot 23] [0] [], mv 25 7, o2 26 (.call ⟨202, vs 2, no 2, [.val false 1], ims 1, true⟩) 24 25, o1 27 .not 26]) (.cond (.slot 27) (.region false [mv 28 5, mv 29 7, ow 30 (.buildSlice false 2 2 (.int .i64) 1 [(0, 1)] [.int .i64 (0 : Int)]) [.slot 29] [2] [2], ow 31 (.append false 3 2 (.int .i64)) [.slot 28, .slot 30] [2, 3] [3], mv 5 31]) (.skip))))) (.region false [op 32 (.bin .add) [.slot 19, .const (.one (.int .i64 (1 : Int)))], mv 19 32])))
def impl_NewKeys.c2 : XCode := .seq (.region false [mv 33 5, mv 4 33]) (.ret)
def impl_NewKeys.x : XFunc := { nslots := 34, nobj := 4, pars := [.val true 2, .val true 2], rowsIn := [none, none, none, none], rets := [.tmp 4 false 1], outs := [.own 2], fresh := true, arg := .pair (.pair (.int .i64) (.list (.int .i64))) (.pair (.int .i64) (.list (.int .i64))), ret := .list (.int .i64), body := .seq (.region false [ow 2 (.box 0) [.slot 0] [0] [0], ow 3 (.box 1) [.slot 1] [1] [1], op 4 .move [.const (.one (.nil))]]) (.seq (.seq (.region false [ow 8 (.load true 2) [.slot 2] [0] [], o1 9 (.call ⟨263, [.val true 2], no 2, [.val false 1], ims 1, true⟩) 8, o1 10 .not 9, ⟨some 11, .move, [.slot 10], [], [], none, true, .none⟩, ⟨some 12, .load true 2, [.slot 3], [1], [], some (11, false), false, .none⟩, ⟨some 13, .call ⟨263, [.val true 2], no 2, [.val false 1], ims 1, true⟩, [.slot 12], [], [], some (11, false), false, .none⟩, ⟨some 14, .not, [.slot 13], [], [], some (11, false), false, .none⟩, op 15 .pick [.slot 11, .const (.one (.bool true)), .slot 14]]) (.cond (.slot 15) (.seq (.region false [op 4 .move [.const (.one (.nil))]]) (.ret)) (.skip))) (.seq (.region false [op 5 .move [.const (.one (.nil))]]) (.seq (.seq (.region false [o1 16 (.fieldAddr 1) 3, ow 17 (.load false 1) [.slot 16] [1] [], o1 18 .len 17, op 19 .move [.const (.one (.int .i64 (0 : Int)))]]) (.block 0 (.loop [.mkrow (.slot 5) 3 2 (.int .i64), .keep [2, 5, 17, 18, 19], .drop 1, .drop 2, .norm] (impl_NewKeys.c1)))) (impl_NewKeys.c2)))) }
def impl_NewKeys.env (N : Nat) : Env := envOf (tbl [(263, impl_IsReport.fs N), (202, impl_hasInt.fs N)] noFS)
def impl_NewKeys.F (N : Nat) (x : (Int × List Int) × Int × List Int) : Option (List Int) := XFunc.run impl_NewKeys.x (impl_NewKeys.env N) N x
def impl_NewKeys.fs (N : Nat) : FS := { arg := .pair (.pair (.int .i64) (.list (.int .i64))) (.pair (.int .i64) (.list (.int .i64))), ret := .list (.int .i64), fresh := true, F := impl_NewKeys.F N }
def impl_NewKeys.k2 (N : Nat) : Ex → S → Option (List Int) := seqK (fun s => XCode.runK (impl_NewKeys.env N) N (impl_NewKeys.c2) s (XFunc.endK impl_NewKeys.x)) (XFunc.endK impl_NewKeys.x)
def impl_NewKeys.k1 (N : Nat) : Ex → S → Option (List Int) := blockK 0 (impl_NewKeys.k2 N)
def impl_NewKeys.L1 (N : Nat) (n1 : Nat) (t17 : List Int) (t18 : Int) (t19 : Int) (o00 : Int) (o01 : List Int) (o3 : List Int) : Option (List Int) := loopK [.mkrow (.slot 5) 3 2 (.int .i64), .keep [2, 5, 17, 18, 19], .drop 1, .drop 2, .norm] (fun s k => XCode.runK (impl_NewKeys.env N) N impl_NewKeys.c1 s k) n1
  { t := [.junk, .junk, .one (.ptr 0 0 0), .junk, .junk, .one (.ref 3 0 .all), .junk, .junk, .junk, .junk, .junk, .junk, .junk, .junk, .junk, .junk, .junk, .one (.sl false (.int .i64) t17), .one (.int .i64 t18), .one (.int .i64 t19), .junk, .junk, .junk, .junk, .junk, .junk, .junk, .junk, .junk, .junk, .junk, .junk, .junk, .junk], h := [.box 0 false [.int .i64 o00, .sl false (.int .i64) o01], .absent 0, .absent 0, .row 0 false true 2 (.int .i64) o3] }
  (impl_NewKeys.k1 N)

theorem impl_NewKeys.L1_eq (N : Nat) (n1 : Nat) (t17 : List Int) (t18 : Int) (t19 : Int) (o00 : Int) (o01 : List Int) (o3 : List Int) : impl_NewKeys.L1 N (n1 + 1) t17 t18 t19 o00 o01 o3 =
    bif decide (t19 < t18) then
      bif inRange t19 (List.length t17) then
      bindO (impl_hasInt.F N (o01, nth (0 : Int) t17 t19)) fun r3 =>
      bif !r3 then
        bif decide (List.length o3 + List.length ([nth (0 : Int) t17 t19] : List Int) ≤ maxN) then
        impl_NewKeys.L1 N n1 t17 t18 (IntKind.wrap .i64 (t19 + (1 : Int))) o00 o01 (o3 ++ ([nth (0 : Int) t17 t19] : List Int))
        else none
      else
        impl_NewKeys.L1 N n1 t17 t18 (IntKind.wrap .i64 (t19 + (1 : Int))) o00 o01 o3
      else none
    else
      some o3 := by kernel_rfl
theorem impl_NewKeys.F_eq (N : Nat) (last : Int × List Int) (r_ : Int × List Int) : impl_NewKeys.F N (last, r_) =
    bindO (impl_IsReport.F N last) fun r1 =>
    bif !r1 then
      some ([] : List Int)
    else
      bindO (impl_IsReport.F N r_) fun r2 =>
      bif !r2 then
        some ([] : List Int)
      else
        impl_NewKeys.L1 N N r_.2 (List.length r_.2 : Int) (0 : Int) last.1 last.2 ([] : List Int) := by kernel_rfl

def laws_eqReport.x : XFunc := { nslots := 16, nobj := 2, pars := [.val true 2, .val true 2], rowsIn := [none, none, none, none], rets := [.tmp 4 false 1], outs := [.imm], fresh := true, arg := .pair (.pair (.int .i64) (.list (.int .i64))) (.pair (.int .i64) (.list (.int .i64))), ret := .bool, body := .seq (.region false [ow 2 (.box 0) [.slot 0] [0] [0], ow 3 (.box 1) [.slot 1] [1] [1], op 4 .move [.const (.one (.bool false))]]) (.seq (.seq (.region false [o1 5 (.fieldAddr 0) 2, ow 6 (.load false 1) [.slot 5] [0] [], o1 7 (.fieldAddr 0) 3, ow 8 (.load false 1) [.slot 7] [1] [], o2 9 (.bin .neq) 6 8]) (.cond (.slot 9) (.seq (.region false [op 4 .move [.const (.one (.bool false))]]) (.ret)) (.skip))) (.seq (.seq (.region false [o1 10 (.fieldAddr 1) 2, ow 11 (.load false 1) [.slot 10] [0] [], o1 12 (.fieldAddr 1) 3, ow 13 (.load false 1) [.slot 12] [1] [], o2 14 (.call ⟨239, vs 2, no 2, [.val false 1], ims 1, true⟩) 11 13, o1 15 .not 14]) (.cond (.slot 15) (.seq (.region false [op 4 .move [.const (.one (.bool false))]]) (.ret)) (.skip))) (.seq (.region false [op 4 .move [.const (.one (.bool true))]]) (.ret)))) }
def laws_eqReport.env (N : Nat) : Env := envOf (tbl [(239, laws_eqIntS.fs N)] noFS)
def laws_eqReport.F (N : Nat) (x : (Int × List Int) × Int × List Int) : Option Bool := XFunc.run laws_eqReport.x (laws_eqReport.env N) N x
def laws_eqReport.fs (N : Nat) : FS := { arg := .pair (.pair (.int .i64) (.list (.int .i64))) (.pair (.int .i64) (.list (.int .i64))), ret := .bool, fresh := true, F := laws_eqReport.F N }

theorem laws_eqReport.F_eq (N : Nat) (a : Int × List Int) (b : Int × List Int) : laws_eqReport.F N (a, b) =
    bif a.1 != b.1 then
      some false
    else
      bindO (laws_eqIntS.F N (a.2, b.2)) fun r1 =>
      bif !r1 then
        some false
      else
        some true := by kernel_rfl

def laws_markReport.x : XFunc := { nslots := 10, nobj := 2, pars := [.val true 2, .val false 1], rowsIn := [none, some (1, 2), none], rets := [.tmp 4 false 1], outs := [.imm, .back 1], fresh := false, arg := .pair (.pair (.int .i64) (.list (.int .i64))) (.int .i64), ret := .pair (.int .i64) (.list (.int .i64)), body := .seq (.region false [ow 2 (.box 0) [.slot 0] [0] [0], op 4 .move [.const (.one (.int .i64 (0 : Int)))]]) (.seq (.region false [o1 5 (.fieldAddr 1) 2, ow 6 (.load false 1) [.slot 5] [0] [], mv 7 1, ow 8 (.call ⟨242, vs 2, [some (1, 2), none], [.val false 1], [.imm, .back 1], false⟩) [.slot 6, .slot 7] [1] [1], mv 1 8]) (.seq (.region false [mv 9 1, mv 4 9]) (.ret))) }
def laws_markReport.env (N : Nat) : Env := envOf (tbl [(242, laws_markIntS.fs N)] noFS)
def laws_markReport.F (N : Nat) (x : (Int × List Int) × Int) : Option (Int × List Int) := XFunc.run laws_markReport.x (laws_markReport.env N) N x
def laws_markReport.fs (N : Nat) : FS := { arg := .pair (.pair (.int .i64) (.list (.int .i64))) (.int .i64), ret := .pair (.int .i64) (.list (.int .i64)), fresh := false, F := laws_markReport.F N }

theorem laws_markReport.F_eq (N : Nat) (a : Int × List Int) (k_ : Int) : laws_markReport.F N (a, k_) =
    bindO (laws_markIntS.F N (a.2, k_)) fun r1 =>
    some r1 := by kernel_rfl

def spec_MayDrop.c1 : XCode := .seq (.seq (.region false [mv 46 8, mv 47 7, o1 48 .len 47, o2 49 (.bin .lss) 46 48]) (.cond (.slot 49) (.skip) (.exit 0))) (.seq (.block 1 (.seq (.region true [o1 52 (.fieldAddr 1) 5, ow 53 (.load false 1) [.slot 52] [2] [], mv 54 7, mv 55 8, o2 56 (.indexAddr (.int .i64)) 54 55, o1 57 (.load false 1) 56, o2 58 (.call ⟨261, vs 2, no 2, [.val false 1], ims 1, true⟩) 53 57]) (.cond (.slot 58) (.seq (.region false [op 6 .move [.const (.one (.bool false))]]) (.ret)) (.skip)))) (.region false [mv 50 8, op 51 (.bin .add) [.slot 50, .const (.one (.int .i64 (1 : Int)))], mv 8 51]))
def spec_MayDrop.c2 : XCode := .seq (.region false [op 6 .move [.const (.one (.bool true))]]) (.ret)
def spec_MayDrop.x : XFunc := { nslots := 59, nobj := 3, pars := [.val true 2, .val true 2, .val true 2], rowsIn := [none, none, none, none, none, none], rets := [.tmp 6 false 1], outs := [.imm], fresh := true, arg := .pair (.pair (.int .i64) (.list (.int .i64))) (.pair (.pair (.int .i64) (.list (.int .i64))) (.pair (.int .i64) (.list (.int .i64)))), ret := .bool, body := .seq (.region false [ow 3 (.box 0) [.slot 0] [0] [0], ow 4 (.box 1) [.slot 1] [1] [1], ow 5 (.box 2) [.slot 2] [2] [2], op 6 .move [.const (.one (.bool false))]]) (.seq (.seq (.region false [ow 9 (.load true 2) [.slot 3] [0] [], o1 10 (.call ⟨260, [.val true 2], no 2, [.val false 1], ims 1, true⟩) 9, o1 11 .not 10, ⟨some 12, .move, [.slot 11], [], [], none, true, .none⟩, ⟨some 13, .load true 2, [.slot 4], [1], [], some (12, false), false, .none⟩, ⟨some 14, .call ⟨260, [.val true 2], no 2, [.val false 1], ims 1, true⟩, [.slot 13], [], [], some (12, false), false, .none⟩, ⟨some 15, .not, [.slot 14], [], [], some (12, false), false, .none⟩, op 16 .pick [.slot 12, .const (.one (.bool true)), .slot 15], ⟨some 17, .move, [.slot 16], [], [], none, true, .none⟩, ⟨some 18, .load true 2, [.slot 5], [2], [], some (17, false), false, .none⟩, ⟨some 19, .call ⟨260, [.val true 2], no 2, [.val false 1], ims 1, true⟩, [.slot 18], [], [], some (17, false), false, .none⟩, ⟨some 20, .not, [.slot 19], [], [], some (17, false), false, .none⟩, op 21 .pick [.slot 17, .const (.one (.bool true)), .slot 20], ⟨some 22, .move, [.slot 21], [], [], none, true, .none⟩, ⟨some 23, .load true 2, [.slot 3], [0], [], some (22, false), false, .none⟩, ⟨some 24, .load true 2, [.slot 4], [1], [], some (22, false), false, .none⟩, ⟨some 25, .call ⟨262, [.val true 2, .val true 2], no 4, [.val false 1], ims 1, true⟩, [.slot 23, .slot 24], [], [], some (22, false), false, .none⟩, ⟨some 26, .len, [.slot 25], [], [], some (22, false), false, .none⟩, ⟨some 27, .bin .gtr, [.slot 26, .const (.one (.int .i64 (0 : Int)))], [], [], some (22, false), false, .none⟩, op 28 .pick [.slot 22, .const (.one (.bool true)), .slot 27], ⟨some 29, .move, [.slot 28], [], [], none, true, .none⟩, ⟨some 30, .fieldAddr 0, [.slot 3], [], [], some (29, false), false, .none⟩, ⟨some 31, .load false 1, [.slot 30], [0], [], some (29, false), false, .none⟩, ⟨some 32, .fieldAddr 0, [.slot 4], [], [], some (29, false), false, .none⟩, ⟨some 33, .load false 1, [.slot 32], [1], [], some (29, false), false, .none⟩, ⟨some 34, .bin .xor, [.slot 31, .slot 33], [], [], some (29, false), false, .none⟩, ⟨some 35, .fieldAddr 0, [.slot 4], [], [], some (29, false), false, .none⟩, ⟨some 36, .load false 1, [.slot 35], [1], [], some (29, false), false, .none⟩, ⟨some 37, .fieldAddr 0, [.slot 5], [], [], some (29, false), false, .none⟩, ⟨some 38, .load false 1, [.slot 37], [2], [], some (29, false), false, .none⟩, ⟨some 39, .bin .xor, [.slot 36, .slot 38], [], [], some (29, false), false, .none⟩, ⟨some 40, .bin .and, [.slot 34, .slot 39], [], [], some (29, false), false, .none⟩, ⟨some 41, .bin .neq, [.slot 40, .const (.one (.int .i64 (0 : Int)))], [], [], some (29, false), false, .none⟩, op 42 .pick [.slot 29, .const (.one (.bool true)), .slot 41]]) (.cond (.slot 42) (.seq (.region false [op 6 .move [.const (.one (.bool false))]]) (.ret)) (.skip))) (.seq (.region false [ow 43 (.load true 2) [.slot 4] [1] [], ow 44 (.load true 2) [.slot 3] [0] [], o2 45 (.call ⟨262, [.val true 2, .val true 2], no 4, [.val false 1], ims 1, true⟩) 43 44, mv 7 45]) (.seq (.seq (.region false [op 8 .move [.const (.one (.int .i64 (0 : Int)))]]) (.block 0 (.loop [.keep [5, 7, 8], .drop 0, .drop 1, .norm] (spec_MayDrop.c1)))) (spec_MayDrop.c2)))) }
def spec_MayDrop.env (N : Nat) : Env := envOf (tbl [(260, spec_IsReport.fs N), (262, spec_NewKeys.fs N), (261, spec_l12Has.fs N)] noFS)
def spec_MayDrop.F (N : Nat) (x : (Int × List Int) × (Int × List Int) × Int × List Int) : Option Bool := XFunc.run spec_MayDrop.x (spec_MayDrop.env N) N x
def spec_MayDrop.fs (N : Nat) : FS := { arg := .pair (.pair (.int .i64) (.list (.int .i64))) (.pair (.pair (.int .i64) (.list (.int .i64))) (.pair (.int .i64) (.list (.int .i64)))), ret := .bool, fresh := true, F := spec_MayDrop.F N }
def spec_MayDrop.k2 (N : Nat) : Ex → S → Option Bool := seqK (fun s => XCode.runK (spec_MayDrop.env N) N (spec_MayDrop.c2) s (XFunc.endK spec_MayDrop.x)) (XFunc.endK spec_MayDrop.x)
def spec_MayDrop.k1 (N : Nat) : Ex → S → Option Bool := blockK 0 (spec_MayDrop.k2 N)
def spec_MayDrop.L1 (N : Nat) (n1 : Nat) (gone : List Int) (i : Int) (o20 : Int) (o21 : List Int) : Option Bool := loopK [.keep [5, 7, 8], .drop 0, .drop 1, .norm] (fun s k => XCode.runK (spec_MayDrop.env N) N spec_MayDrop.c1 s k) n1
  { t := [.junk, .junk, .junk, .junk, .junk, .one (.ptr 2 0 0), .junk, .one (.sl true (.int .i64) gone), .one (.int .i64 i), .junk, .junk, .junk, .junk, .junk, .junk, .junk, .junk, .junk, .junk, .junk, .junk, .junk, .junk, .junk, .junk, .junk, .junk, .junk, .junk, .junk, .junk, .junk, .junk, .junk, .junk, .junk, .junk, .junk, .junk, .junk, .junk, .junk, .junk, .junk, .junk, .junk, .junk, .junk, .junk, .junk, .junk, .junk, .junk, .junk, .junk, .junk, .junk, .junk, .junk], h := [.absent 0, .absent 0, .box 0 false [.int .i64 o20, .sl false (.int .i64) o21]] }
  (spec_MayDrop.k1 N)

theorem spec_MayDrop.L1_eq (N : Nat) (n1 : Nat) (gone : List Int) (i : Int) (o20 : Int) (o21 : List Int) : spec_MayDrop.L1 N (n1 + 1) gone i o20 o21 =
    bif decide (i < (List.length gone : Int)) then
      bif inRange i (List.length gone) then
      bindO (spec_l12Has.F N (o21, nth (0 : Int) gone i)) fun r6 =>
      bif r6 then
        some false
      else
        spec_MayDrop.L1 N n1 gone (IntKind.wrap .i64 (i + (1 : Int))) o20 o21
      else none
    else
      some true := by kernel_rfl
theorem spec_MayDrop.F_eq (N : Nat) (a : Int × List Int) (b : Int × List Int) (c : Int × List Int) : spec_MayDrop.F N (a, b, c) =
    bindO (spec_IsReport.F N a) fun r1 =>
    bif !r1 then
      some false
    else
      bindO (spec_IsReport.F N b) fun r2 =>
      bif !r2 then
        some false
      else
        bindO (spec_IsReport.F N c) fun r3 =>
        bif !r3 then
          some false
        else
          bindO (spec_NewKeys.F N (a, b)) fun r4 =>
          bif decide ((List.length r4 : Int) > (0 : Int)) then
            some false
          else
            bif (bitAnd .i64 (bitXor .i64 a.1 b.1) (bitXor .i64 b.1 c.1)) != (0 : Int) then
              some false
            else
              bindO (spec_NewKeys.F N (b, a)) fun r5 =>
              spec_MayDrop.L1 N N r5 (0 : Int) c.1 c.2 := by kernel_rfl

def impl_MayDrop.c1 : XCode := .seq (.region false [o2 48 (.bin .lss) 47 46]) (.seq (.cond (.slot 48) (.skip) (.exit 0)) (.seq (.block 1 (.seq (.region false [o2 49 (.indexAddr (.int .i64)) 45 47, o1 50 (.load false 1) 49, mv 8 50]) (.seq (.region false [o1 51 (.fieldAddr 1) 5, ow 52 (.load false 1) [.slot 51] [2] [], mv 53 8, o2 54 (.call ⟨202, vs 2, no 2, [.val false 1], ims 1, true⟩) 52 53]) (.cond (.slot 54) (.seq (.region false [op 6 .move [.const (.one (.bool false))]]) (.ret)) (.skip))))) (.region false [op 55 (.bin .add) [.slot 47, .const (.one (.int .i64 (1 : Int)))], mv 47 55])))
def impl_MayDrop.c2 : XCode := .seq (.region false [op 6 .move [.const (.one (.bool true))]]) (.ret)
def impl_MayDrop.x : XFunc := { nslots := 56, nobj := 3, pars := [.val true 2, .val true 2, .val true 2], rowsIn := [none, none, none, none, none, none], rets := [.tmp 6 false 1], outs := [.imm], fresh := true, arg := .pair (.pair (.int .i64) (.list (.int .i64))) (.pair (.pair (.int .i64) (.list (.int .i64))) (.pair (.int .i64) (.list (.int .i64)))), ret := .bool, body := .seq (.region false [ow 3 (.box 0) [.slot 0] [0] [0], ow 4 (.box 1) [.slot 1] [1] [1], ow 5 (.box 2) [.slot 2] [2] [2], op 6 .move [.const (.one (.bool false))]]) (.seq (.seq (.region false [ow 9 (.load true 2) [.slot 3] [0] [], o1 10 (.call ⟨263, [.val true 2], no 2, [.val false 1], ims 1, true⟩) 9, o1 11 .not 10, ⟨some 12, .move, [.slot 11], [], [], none, true, .none⟩, ⟨some 13, .load true 2, [.slot 4], [1], [], some (12, false), false, .none⟩, ⟨some 14, .call ⟨263, [.val true 2], no 2, [.val false 1], ims 1, true⟩, [.slot 13], [], [], some (12, false), false, .none⟩, ⟨some 15, .not, [.slot 14], [], [], some (12, false), false, .none⟩, op 16 .pick [.slot 12, .const (.one (.bool true)), .slot 15], ⟨some 17, .move, [.slot 16], [], [], none, true, .none⟩, ⟨some 18, .load true 2, [.slot 5], [2], [], some (17, false), false, .none⟩, ⟨some 19, .call ⟨263, [.val true 2], no 2, [.val false 1], ims 1, true⟩, [.slot 18], [], [], some (17, false), false, .none⟩, ⟨some 20, .not, [.slot 19], [], [], some (17, false), false, .none⟩, op 21 .pick [.slot 17, .const (.one (.bool true)), .slot 20], ⟨some 22, .move, [.slot 21], [], [], none, true, .none⟩, ⟨some 23, .fieldAddr 0, [.slot 3], [], [], some (22, false), false, .none⟩, ⟨some 24, .load false 1, [.slot 23], [0], [], some (22, false), false, .none⟩, ⟨some 25, .fieldAddr 0, [.slot 4], [], [], some (22, false), false, .none⟩, ⟨some 26, .load false 1, [.slot 25], [1], [], some (22, false), false, .none⟩, ⟨some 27, .bin .xor, [.slot 24, .slot 26], [], [], some (22, false), false, .none⟩, ⟨some 28, .fieldAddr 0, [.slot 4], [], [], some (22, false), false, .none⟩, ⟨some 29, .load false 1, [.slot 28], [1], [], some (22, false), false, .none⟩, ⟨some 30, .fieldAddr 0, [.slot 5], [], [], some (22, false), false, .none⟩, ⟨some 31, .load false 1, [.slot 30], [2], [], some (22, false), false, .none⟩, ⟨some 32, .bin .xor, [.slot 29, .slot 31], [], [], some (22, false), false, .none⟩, ⟨some 33, .bin .and, [.slot 27, .slot 32], [], [], some (22, false), false, .none⟩, ⟨some 34, .bin .neq, [.slot 33, .const (.one (.int .i64 (0 : Int)))], [], [], some (22, false), false, .none⟩, op 35 .pick [.slot 22, .const (.one (.bool true)), .slot 34], ⟨some 36, .move, [.slot 35], [], [], none, true, .none⟩, ⟨some 37, .load true 2, [.slot 3], [0], [], some (36, false), false, .none⟩, ⟨some 38, .load true 2, [.slot 4], [1], [], some (36, false), false, .none⟩, ⟨some 39, .call ⟨264, [.val true 2, .val true 2], no 4, [.val false 1], ims 1, true⟩, [.slot 37, .slot 38], [], [], some (36, false), false, .none⟩, ⟨some 40, .len, [.slot 39], [], [], some (36, false), false, .none⟩, ⟨some 41, .bin .gtr, [.slot 40, .const (.one (.int .i64 (0 : Int)))], [], [], some (36, false), false, .none⟩, op 42 .pick [.slot 36, .const (.one (.bool true)), .slot 41]]) (.cond (.slot 42) (.seq (.region false [op 6 .move [.const (.one (.bool false))]]) (.ret)) (.skip))) (.seq (.seq (.region false [ow 43 (.load true 2) [.slot 4] [1] [], ow 44 (.load true 2) [.slot 3] [0] [], o2 45 (.call ⟨264, [.val true 2, .val true 2], no 4, [.val false 1], ims 1, true⟩) 43 44, o1 46 .len 45, op 47 .move [.const (.one (.int .i64 (0 : Int)))]]) (.block 0 (.loop [.keep [5, 45, 46, 47], .drop 0, .drop 1, .norm] (impl_MayDrop.c1)))) (impl_MayDrop.c2))) }
def impl_MayDrop.env (N : Nat) : Env := envOf (tbl [(263, impl_IsReport.fs N), (264, impl_NewKeys.fs N), (202, impl_hasInt.fs N)] noFS)
def impl_MayDrop.F (N : Nat) (x : (Int × List Int) × (Int × List Int) × Int × List Int) : Option Bool := XFunc.run impl_MayDrop.x (impl_MayDrop.env N) N x
def impl_MayDrop.fs (N : Nat) : FS := { arg := .pair (.pair (.int .i64) (.list (.int .i64))) (.pair (.pair (.int .i64) (.list (.int .i64))) (.pair (.int .i64) (.list (.int .i64)))), ret := .bool, fresh := true, F := impl_MayDrop.F N }
def impl_MayDrop.k2 (N : Nat) : Ex → S → Option Bool := seqK (fun s => XCode.runK (impl_MayDrop.env N) N (impl_MayDrop.c2) s (XFunc.endK impl_MayDrop.x)) (XFunc.endK impl_MayDrop.x)
def impl_MayDrop.k1 (N : Nat) : Ex → S → Option Bool := blockK 0 (impl_MayDrop.k2 N)
def impl_MayDrop.L1 (N : Nat) (n1 : Nat) (t45 : List Int) (t46 : Int) (t47 : Int) (o20 : Int) (o21 : List Int) : Option Bool := loopK [.keep [5, 45, 46, 47], .drop 0, .drop 1, .norm] (fun s k => XCode.runK (impl_MayDrop.env N) N impl_MayDrop.c1 s k) n1
  { t := [.junk, .junk, .junk, .junk, .junk, .one (.ptr 2 0 0), .junk, .junk, .junk, .junk, .junk, .junk, .junk, .junk, .junk, .junk, .junk, .junk, .junk, .junk, .junk, .junk, .junk, .junk, .junk, .junk, .junk, .junk, .junk, .junk, .junk, .junk, .junk, .junk, .junk, .junk, .junk, .junk, .junk, .junk, .junk, .junk, .junk, .junk, .junk, .one (.sl true (.int .i64) t45), .one (.int .i64 t46), .one (.int .i64 t47), .junk, .junk, .junk, .junk, .junk, .junk, .junk, .junk], h := [.absent 0, .absent 0, .box 0 false [.int .i64 o20, .sl false (.int .i64) o21]] }
  (impl_MayDrop.k1 N)

theorem impl_MayDrop.L1_eq (N : Nat) (n1 : Nat) (t45 : List Int) (t46 : Int) (t47 : Int) (o20 : Int) (o21 : List Int) : impl_MayDrop.L1 N (n1 + 1) t45 t46 t47 o20 o21 =
    bif decide (t47 < t46) then
      bif inRange t47 (List.length t45) then
      bindO (impl_hasInt.F N (o21, nth (0 : Int) t45 t47)) fun r6 =>
      bif r6 then
        some false
      else
        impl_MayDrop.L1 N n1 t45 t46 (IntKind.wrap .i64 (t47 + (1 : Int))) o20 o21
      else none
    else
      some true := by kernel_rfl
theorem impl_MayDrop.F_eq (N : Nat) (a : Int × List Int) (b : Int × List Int) (c : Int × List Int) : impl_MayDrop.F N (a, b, c) =
    bindO (impl_IsReport.F N a) fun r1 =>
    bif !r1 then
      some false
    else
      bindO (impl_IsReport.F N b) fun r2 =>
      bif !r2 then
        some false
      else
        bindO (impl_IsReport.F N c) fun r3 =>
        bif !r3 then
          some false
        else
          bif (bitAnd .i64 (bitXor .i64 a.1 b.1) (bitXor .i64 b.1 c.1)) != (0 : Int) then
            some false
          else
            bindO (impl_NewKeys.F N (a, b)) fun r4 =>
            bif decide ((List.length r4 : Int) > (0 : Int)) then
              some false
            else
              bindO (impl_NewKeys.F N (b, a)) fun r5 =>
              impl_MayDrop.L1 N N r5 (List.length r5 : Int) (0 : Int) c.1 c.2 := by kernel_rfl

def laws_szReportS.c1 : XCode := .seq (.seq (.region false [mv 12 5, mv 13 0, o1 14 .len 13, o2 15 (.bin .lss) 12 14]) (.cond (.slot 15) (.skip) (.exit 0))) (.seq (.block 1 (.seq (.region false [mv 18 0, mv 19 5, o2 20 (.indexAddr (.pair (.int .i64) (.list (.int .i64)))) 18 19, o1 21 (.load true 2) 20, mv 22 1, o2 23 (.call ⟨258, [.val true 2, .val false 1], no 3, [.val false 1], ims 1, true⟩) 21 22, mv 1 23]) (.seq (.region false [mv 24 1, op 25 (.bin .lss) [.slot 24, .const (.one (.int .i64 (0 : Int)))]]) (.cond (.slot 25) (.seq (.region false [op 4 .move [.const (.one (.int .i64 (-1 : Int)))]]) (.ret)) (.skip))))) (.region false [mv 16 5, op 17 (.bin .add) [.slot 16, .const (.one (.int .i64 (1 : Int)))], mv 5 17]))
def laws_szReportS.c2 : XCode := .seq (.region false [mv 26 1, mv 4 26]) (.ret)
def laws_szReportS.x : XFunc := { nslots := 27, nobj := 0, pars := [.val false 1, .val false 1], rowsIn := [none, none], rets := [.tmp 4 false 1], outs := [.imm], fresh := true, arg := .pair (.list (.pair (.int .i64) (.list (.int .i64)))) (.int .i64), ret := .int .i64, body := .seq (.region false [op 4 .move [.const (.one (.int .i64 (0 : Int)))]]) (.seq (.region false [mv 6 1, mv 7 0, o1 8 .len 7, o2 9 (.bin .sub) 6 8, mv 1 9]) (.seq (.seq (.region false [mv 10 1, op 11 (.bin .lss) [.slot 10, .const (.one (.int .i64 (0 : Int)))]]) (.cond (.slot 11) (.seq (.region false [op 4 .move [.const (.one (.int .i64 (-1 : Int)))]]) (.ret)) (.skip))) (.seq (.seq (.region false [op 5 .move [.const (.one (.int .i64 (0 : Int)))]]) (.block 0 (.loop [.keep [0, 1, 5], .norm] (laws_szReportS.c1)))) (laws_szReportS.c2)))) }
def laws_szReportS.env (N : Nat) : Env := envOf (tbl [(258, laws_szReport.fs N)] noFS)
def laws_szReportS.F (N : Nat) (x : (List (Int × List Int)) × Int) : Option Int := XFunc.run laws_szReportS.x (laws_szReportS.env N) N x
def laws_szReportS.fs (N : Nat) : FS := { arg := .pair (.list (.pair (.int .i64) (.list (.int .i64)))) (.int .i64), ret := .int .i64, fresh := true, F := laws_szReportS.F N }
def laws_szReportS.k2 (N : Nat) : Ex → S → Option Int := seqK (fun s => XCode.runK (laws_szReportS.env N) N (laws_szReportS.c2) s (XFunc.endK laws_szReportS.x)) (XFunc.endK laws_szReportS.x)
def laws_szReportS.k1 (N : Nat) : Ex → S → Option Int := blockK 0 (laws_szReportS.k2 N)
def laws_szReportS.L1 (N : Nat) (n1 : Nat) (a : List (Int × List Int)) (left : Int) (i : Int) : Option Int := loopK [.keep [0, 1, 5], .norm] (fun s k => XCode.runK (laws_szReportS.env N) N laws_szReportS.c1 s k) n1
  { t := [.one (.sl false (.pair (.int .i64) (.list (.int .i64))) a), .one (.int .i64 left), .junk, .junk, .junk, .one (.int .i64 i), .junk, .junk, .junk, .junk, .junk, .junk, .junk, .junk, .junk, .junk, .junk, .junk, .junk, .junk, .junk, .junk, .junk, .junk, .junk, .junk, .junk], h := [] }
  (laws_szReportS.k1 N)

theorem laws_szReportS.L1_eq (N : Nat) (n1 : Nat) (a : List (Int × List Int)) (left : Int) (i : Int) : laws_szReportS.L1 N (n1 + 1) a left i =
    bif decide (i < (List.length a : Int)) then
      bif inRange i (List.length a) then
      bindO (laws_szReport.F N ((nth ((0 : Int), ([] : List Int)) a i), left)) fun r1 =>
      bif decide (r1 < (0 : Int)) then
        some (-1 : Int)
      else
        laws_szReportS.L1 N n1 a r1 (IntKind.wrap .i64 (i + (1 : Int)))
      else none
    else
      some left := by kernel_rfl
theorem laws_szReportS.F_eq (N : Nat) (a : List (Int × List Int)) (left : Int) : laws_szReportS.F N (a, left) =
    bif decide ((IntKind.wrap .i64 (left - (List.length a : Int))) < (0 : Int)) then
      some (-1 : Int)
    else
      laws_szReportS.L1 N N a (IntKind.wrap .i64 (left - (List.length a : Int))) (0 : Int) := by kernel_rfl

def laws_szPipe.x : XFunc := { nslots := 18, nobj := 1, pars := [.val true 3, .val false 1], rowsIn := [none, none, none, none], rets := [.tmp 4 false 1], outs := [.imm], fresh := true, arg := .pair (.pair (.pair (.int .i64) (.list (.int .i64))) (.list (.pair (.int .i64) (.list (.int .i64))))) (.int .i64), ret := .int .i64, body := .seq (.region false [ow 2 (.box 0) [.slot 0] [0] [0], op 4 .move [.const (.one (.int .i64 (0 : Int)))]]) (.seq (.region false [o1 5 (.fieldAddr 0) 2, ow 6 (.load true 2) [.slot 5] [0] [], mv 7 1, o2 8 (.call ⟨258, [.val true 2, .val false 1], no 3, [.val false 1], ims 1, true⟩) 6 7, mv 1 8]) (.seq (.seq (.region false [mv 9 1, op 10 (.bin .lss) [.slot 9, .const (.one (.int .i64 (0 : Int)))]]) (.cond (.slot 10) (.seq (.region false [op 4 .move [.const (.one (.int .i64 (-1 : Int)))]]) (.ret)) (.skip))) (.seq (.region false [o1 11 (.fieldAddr 2) 2, ow 12 (.load false 1) [.slot 11] [0] [], mv 13 1, o2 14 (.call ⟨273, vs 2, no 2, [.val false 1], ims 1, true⟩) 12 13, mv 1 14]) (.seq (.seq (.region false [mv 15 1, op 16 (.bin .lss) [.slot 15, .const (.one (.int .i64 (0 : Int)))]]) (.cond (.slot 16) (.seq (.region false [op 4 .move [.const (.one (.int .i64 (-1 : Int)))]]) (.ret)) (.skip))) (.seq (.region false [mv 17 1, mv 4 17]) (.ret)))))) }
def laws_szPipe.env (N : Nat) : Env := envOf (tbl [(258, laws_szReport.fs N), (273, laws_szReportS.fs N)] noFS)
def laws_szPipe.F (N : Nat) (x : ((Int × List Int) × List (Int × List Int)) × Int) : Option Int := XFunc.run laws_szPipe.x (laws_szPipe.env N) N x
def laws_szPipe.fs (N : Nat) : FS := { arg := .pair (.pair (.pair (.int .i64) (.list (.int .i64))) (.list (.pair (.int .i64) (.list (.int .i64))))) (.int .i64), ret := .int .i64, fresh := true, F := laws_szPipe.F N }

theorem laws_szPipe.F_eq (N : Nat) (a : (Int × List Int) × List (Int × List Int)) (left : Int) : laws_szPipe.F N (a, left) =
    bindO (laws_szReport.F N (a.1, left)) fun r1 =>
    bif decide (r1 < (0 : Int)) then
      some (-1 : Int)
    else
      bindO (laws_szReportS.F N (a.2, r1)) fun r2 =>
      bif decide (r2 < (0 : Int)) then
        some (-1 : Int)
      else
        some r2 := by kernel_rfl

def spec_SameReport.c1 : XCode := .seq (.seq (.region false [mv 20 5, o1 21 (.fieldAddr 1) 2, ow 22 (.load false 1) [.slot 21] [0] [], o1 23 .len 22, o2 24 (.bin .lss) 20 23]) (.cond (.slot 24) (.skip) (.exit 0))) (.seq (.block 1 (.seq (.region true [o1 27 (.fieldAddr 1) 2, ow 28 (.load false 1) [.slot 27] [0] [], mv 29 5, o2 30 (.indexAddr (.int .i64)) 28 29, o1 31 (.load false 1) 30, o1 32 (.fieldAddr 1) 3, ow 33 (.load false 1) [.slot 32] [1] [], mv 34 5, o2 35 (.indexAddr (.int .i64)) 33 34, o1 36 (.load false 1) 35, o2 37 (.bin .neq) 31 36]) (.cond (.slot 37) (.seq (.region false [op 4 .move [.const (.one (.bool false))]]) (.ret)) (.skip)))) (.region false [mv 25 5, op 26 (.bin .add) [.slot 25, .const (.one (.int .i64 (1 : Int)))], mv 5 26]))
def spec_SameReport.c2 : XCode := .seq (.region false [op 4 .move [.const (.one (.bool true))]]) (.ret)
def spec_SameReport.x : XFunc := { nslots := 38, nobj := 2, pars := [.val true 2, .val true 2], rowsIn := [none, none, none, none], rets := [.tmp 4 false 1], outs := [.imm], fresh := true, arg := .pair (.pair (.int .i64) (.list (.int .i64))) (.pair (.int .i64) (.list (.int .i64))), ret := .bool, body := .seq (.region false [ow 2 (.box 0) [.slot 0] [0] [0], ow 3 (.box 1) [.slot 1] [1] [1], op 4 .move [.const (.one (.bool false))]]) (.seq (.seq (.region false [o1 6 (.fieldAddr 0) 2, ow 7 (.load false 1) [.slot 6] [0] [], o1 8 (.fieldAddr 0) 3, ow 9 (.load false 1) [.slot 8] [1] [], o2 10 (.bin .neq) 7 9, ⟨some 11, .move, [.slot 10], [], [], none, true, .none⟩, ⟨some 12, .fieldAddr 1, [.slot 2], [], [], some (11, false), false, .none⟩, ⟨some 13, .load false 1, [.slot 12], [0], [], some (11, false), false, .none⟩, ⟨some 14, .len, [.slot 13], [], [], some (11, false), false, .none⟩, ⟨some 15, .fieldAddr 1, [.slot 3], [], [], some (11, false), false, .none⟩, ⟨some 16, .load false 1, [.slot 15], [1], [], some (11, false), false, .none⟩, ⟨some 17, .len, [.slot 16], [], [], some (11, false), false, .none⟩, ⟨some 18, .bin .neq, [.slot 14, .slot 17], [], [], some (11, false), false, .none⟩, op 19 .pick [.slot 11, .const (.one (.bool true)), .slot 18]]) (.cond (.slot 19) (.seq (.region false [op 4 .move [.const (.one (.bool false))]]) (.ret)) (.skip))) (.seq (.seq (.region false [op 5 .move [.const (.one (.int .i64 (0 : Int)))]]) (.block 0 (.loop [.keep [2, 3, 5], .norm] (spec_SameReport.c1)))) (spec_SameReport.c2))) }
def spec_SameReport.env (_ : Nat) : Env := envOf (tbl [] noFS)
def spec_SameReport.F (N : Nat) (x : (Int × List Int) × Int × List Int) : Option Bool := XFunc.run spec_SameReport.x (spec_SameReport.env N) N x
def spec_SameReport.fs (N : Nat) : FS := { arg := .pair (.pair (.int .i64) (.list (.int .i64))) (.pair (.int .i64) (.list (.int .i64))), ret := .bool, fresh := true, F := spec_SameReport.F N }
def spec_SameReport.k2 (N : Nat) : Ex → S → Option Bool := seqK (fun s => XCode.runK (spec_SameReport.env N) N (spec_SameReport.c2) s (XFunc.endK spec_SameReport.x)) (XFunc.endK spec_SameReport.x)
def spec_SameReport.k1 (N : Nat) : Ex → S → Option Bool := blockK 0 (spec_SameReport.k2 N)
def spec_SameReport.L1 (N : Nat) (n1 : Nat) (i : Int) (o00 : Int) (o01 : List Int) (o10 : Int) (o11 : List Int) : Option Bool := loopK [.keep [2, 3, 5], .norm] (fun s k => XCode.runK (spec_SameReport.env N) N spec_SameReport.c1 s k) n1
  { t := [.junk, .junk, .one (.ptr 0 0 0), .one (.ptr 1 0 0), .junk, .one (.int .i64 i), .junk, .junk, .junk, .junk, .junk, .junk, .junk, .junk, .junk, .junk, .junk, .junk, .junk, .junk, .junk, .junk, .junk, .junk, .junk, .junk, .junk, .junk, .junk, .junk, .junk, .junk, .junk, .junk, .junk, .junk, .junk, .junk], h := [.box 0 false [.int .i64 o00, .sl false (.int .i64) o01], .box 0 false [.int .i64 o10, .sl false (.int .i64) o11]] }
  (spec_SameReport.k1 N)

theorem spec_SameReport.L1_eq (N : Nat) (n1 : Nat) (i : Int) (o00 : Int) (o01 : List Int) (o10 : Int) (o11 : List Int) : spec_SameReport.L1 N (n1 + 1) i o00 o01 o10 o11 =
    bif decide (i < (List.length o01 : Int)) then
      bif inRange i (List.length o01) then
      bif inRange i (List.length o11) then
      bif (nth (0 : Int) o01 i) != (nth (0 : Int) o11 i) then
        some false
      else
        spec_SameReport.L1 N n1 (IntKind.wrap .i64 (i + (1 : Int))) o00 o01 o10 o11
      else none
      else none
    else
      some true := by kernel_rfl
theorem spec_SameReport.F_eq (N : Nat) (a : Int × List Int) (b : Int × List Int) : spec_SameReport.F N (a, b) =
    bif a.1 != b.1 then
      some false
    else
      bif (List.length a.2 : Int) != (List.length b.2 : Int) then
        some false
      else
        spec_SameReport.L1 N N (0 : Int) a.1 a.2 b.1 b.2 := by kernel_rfl

def spec_IsPipe.c1 : XCode := .seq (.seq (.region false [mv 7 4, o1 8 (.fieldAddr 2) 1, ow 9 (.load false 1) [.slot 8] [0] [], o1 10 .len 9, o2 11 (.bin .lss) 7 10]) (.cond (.slot 11) (.skip) (.exit 0))) (.seq (.block 1 (.seq (.seq (.region true [o1 14 (.fieldAddr 2) 1, ow 15 (.load false 1) [.slot 14] [0] [], mv 16 4, o2 17 (.indexAddr (.pair (.int .i64) (.list (.int .i64)))) 15 16, o1 18 (.load true 2) 17, o1 19 (.call ⟨260, [.val true 2], no 2, [.val false 1], ims 1, true⟩) 18, o1 20 .not 19, ⟨some 21, .move, [.slot 20], [], [], none, true, .none⟩, ⟨some 22, .load true 2, [.slot 3], [1], [], some (21, false), false, .none⟩, ⟨some 23, .fieldAddr 2, [.slot 1], [], [], some (21, false), false, .none⟩, ⟨some 24, .load false 1, [.slot 23], [0], [], some (21, false), false, .none⟩, ⟨some 25, .move, [.slot 4], [], [], some (21, false), false, .none⟩, ⟨some 26, .indexAddr (.pair (.int .i64) (.list (.int .i64))), [.slot 24, .slot 25], [], [], some (21, false), false, .none⟩, ⟨some 27, .load true 2, [.slot 26], [], [], some (21, false), false, .none⟩, ⟨some 28, .call ⟨277, [.val true 2, .val true 2], no 4, [.val false 1], ims 1, true⟩, [.slot 22, .slot 27], [], [], some (21, false), false, .none⟩, op 29 .pick [.slot 21, .const (.one (.bool true)), .slot 28]]) (.cond (.slot 29) (.seq (.region false [op 2 .move [.const (.one (.bool false))]]) (.ret)) (.skip))) (.region false [o1 30 (.fieldAddr 2) 1, ow 31 (.load false 1) [.slot 30] [0] [], mv 32 4, o2 33 (.indexAddr (.pair (.int .i64) (.list (.int .i64)))) 31 32, o1 34 (.load true 2) 33, on (.store 2) [.slot 3, .slot 34] [1] [1]]))) (.region false [mv 12 4, op 13 (.bin .add) [.slot 12, .const (.one (.int .i64 (1 : Int)))], mv 4 13]))
def spec_IsPipe.c2 : XCode := .seq (.region false [o1 35 (.fieldAddr 0) 1, ow 36 (.load true 2) [.slot 35] [0] [], o1 37 (.call ⟨260, [.val true 2], no 2, [.val false 1], ims 1, true⟩) 36, ⟨some 38, .move, [.slot 37], [], [], none, true, .none⟩, ⟨some 39, .fieldAddr 2, [.slot 1], [], [], some (38, true), false, .none⟩, ⟨some 40, .load false 1, [.slot 39], [0], [], some (38, true), false, .none⟩, ⟨some 41, .len, [.slot 40], [], [], some (38, true), false, .none⟩, ⟨some 42, .bin .leq, [.slot 41, .const (.one (.int .i64 (8 : Int)))], [], [], some (38, true), false, .none⟩, op 43 .pick [.slot 38, .slot 42, .const (.one (.bool false))], mv 2 43]) (.ret)
def spec_IsPipe.x : XFunc := { nslots := 44, nobj := 2, pars := [.val true 3], rowsIn := [none, none, none], rets := [.tmp 2 false 1], outs := [.imm], fresh := true, arg := .pair (.pair (.int .i64) (.list (.int .i64))) (.list (.pair (.int .i64) (.list (.int .i64)))), ret := .bool, body := .seq (.region false [ow 1 (.box 0) [.slot 0] [0] [0], op 2 .move [.const (.one (.bool false))]]) (.seq (.region false [o1 5 (.fieldAddr 0) 1, ow 6 (.load true 2) [.slot 5] [0] [], ow 3 (.alloc 1 [.int .i64 (0 : Int), .nil]) [] [1] [1], on (.store 2) [.slot 3, .slot 6] [1] [1]]) (.seq (.seq (.region false [op 4 .move [.const (.one (.int .i64 (0 : Int)))]]) (.block 0 (.loop [.keep [1, 3, 4], .norm] (spec_IsPipe.c1)))) (spec_IsPipe.c2))) }
def spec_IsPipe.env (N : Nat) : Env := envOf (tbl [(260, spec_IsReport.fs N), (277, spec_SameReport.fs N)] noFS)
def spec_IsPipe.F (N : Nat) (x : (Int × List Int) × List (Int × List Int)) : Option Bool := XFunc.run spec_IsPipe.x (spec_IsPipe.env N) N x
def spec_IsPipe.fs (N : Nat) : FS := { arg := .pair (.pair (.int .i64) (.list (.int .i64))) (.list (.pair (.int .i64) (.list (.int .i64)))), ret := .bool, fresh := true, F := spec_IsPipe.F N }
def spec_IsPipe.k2 (N : Nat) : Ex → S → Option Bool := seqK (fun s => XCode.runK (spec_IsPipe.env N) N (spec_IsPipe.c2) s (XFunc.endK spec_IsPipe.x)) (XFunc.endK spec_IsPipe.x)
def spec_IsPipe.k1 (N : Nat) : Ex → S → Option Bool := blockK 0 (spec_IsPipe.k2 N)
def spec_IsPipe.L1 (N : Nat) (n1 : Nat) (i : Int) (o00 : Int) (o01 : List Int) (o02 : List (Int × List Int)) (o10 : Int) (o11 : List Int) : Option Bool := loopK [.keep [1, 3, 4], .norm] (fun s k => XCode.runK (spec_IsPipe.env N) N spec_IsPipe.c1 s k) n1
  { t := [.junk, .one (.ptr 0 0 0), .junk, .one (.ptr 1 0 0), .one (.int .i64 i), .junk, .junk, .junk, .junk, .junk, .junk, .junk, .junk, .junk, .junk, .junk, .junk, .junk, .junk, .junk, .junk, .junk, .junk, .junk, .junk, .junk, .junk, .junk, .junk, .junk, .junk, .junk, .junk, .junk, .junk, .junk, .junk, .junk, .junk, .junk, .junk, .junk, .junk, .junk], h := [.box 0 false [.int .i64 o00, .sl false (.int .i64) o01, .sl false (.pair (.int .i64) (.list (.int .i64))) o02], .box 0 false [.int .i64 o10, .sl false (.int .i64) o11]] }
  (spec_IsPipe.k1 N)

theorem spec_IsPipe.L1_eq (N : Nat) (n1 : Nat) (i : Int) (o00 : Int) (o01 : List Int) (o02 : List (Int × List Int)) (o10 : Int) (o11 : List Int) : spec_IsPipe.L1 N (n1 + 1) i o00 o01 o02 o10 o11 =
    bif decide (i < (List.length o02 : Int)) then
      bif inRange i (List.length o02) then
      bindO (spec_IsReport.F N (nth ((0 : Int), ([] : List Int)) o02 i)) fun r1 =>
      bif !r1 then
        some false
      else
        bif inRange i (List.length o02) then
        bindO (spec_SameReport.F N ((o10, o11), (nth ((0 : Int), ([] : List Int)) o02 i))) fun r2 =>
        bif r2 then
          some false
        else
          bif inRange i (List.length o02) then
          spec_IsPipe.L1 N n1 (IntKind.wrap .i64 (i + (1 : Int))) o00 o01 o02 ((nth ((0 : Int), ([] : List Int)) o02 i).1) ((nth ((0 : Int), ([] : List Int)) o02 i).2)
          else none
        else none
      else none
    else
      bindO (spec_IsReport.F N (o00, o01)) fun r3 =>
      bif r3 then
        some (decide ((List.length o02 : Int) ≤ (8 : Int)))
      else
        some false := by kernel_rfl
theorem spec_IsPipe.F_eq (N : Nat) (p : (Int × List Int) × List (Int × List Int)) : spec_IsPipe.F N p =
    spec_IsPipe.L1 N N (0 : Int) p.1.1 p.1.2 p.2 p.1.1 p.1.2 := by kernel_rfl

def impl_sameInts.c1 : XCode := .seq (.region false [o2 14 (.bin .lss) 13 12]) (.seq (.cond (.slot 14) (.skip) (.exit 0)) (.seq (.block 1 (.seq (.region false [mv 15 13, mv 5 15]) (.seq (.region true [mv 16 0, mv 17 5, o2 18 (.indexAddr (.int .i64)) 16 17, o1 19 (.load false 1) 18, mv 20 1, mv 21 5, o2 22 (.indexAddr (.int .i64)) 20 21, o1 23 (.load false 1) 22, o2 24 (.bin .neq) 19 23]) (.cond (.slot 24) (.seq (.region false [op 4 .move [.const (.one (.bool false))]]) (.ret)) (.skip))))) (.region false [op 25 (.bin .add) [.slot 13, .const (.one (.int .i64 (1 : Int)))], mv 13 25])))
def impl_sameInts.c2 : XCode := .seq (.region false [op 4 .move [.const (.one (.bool true))]]) (.ret)
def impl_sameInts.x : XFunc := { nslots := 26, nobj := 0, pars := [.val false 1, .val false 1], rowsIn := [none, none], rets := [.tmp 4 false 1], outs := [.imm], fresh := true, arg := .pair (.list (.int .i64)) (.list (.int .i64)), ret := .bool, body := .seq (.region false [op 4 .move [.const (.one (.bool false))]]) (.seq (.seq (.region false [mv 6 0, o1 7 .len 6, mv 8 1, o1 9 .len 8, o2 10 (.bin .neq) 7 9]) (.cond (.slot 10) (.seq (.region false [op 4 .move [.const (.one (.bool false))]]) (.ret)) (.skip))) (.seq (.seq (.region false [mv 11 0, o1 12 .len 11, op 13 .move [.const (.one (.int .i64 (0 : Int)))]]) (.block 0 (.loop [.keep [0, 1, 12, 13], .norm] (impl_sameInts.c1)))) (impl_sameInts.c2))) }
def impl_sameInts.env (_ : Nat) : Env := envOf (tbl [] noFS)
def impl_sameInts.F (N : Nat) (x : (List Int) × List Int) : Option Bool := XFunc.run impl_sameInts.x (impl_sameInts.env N) N x
def impl_sameInts.fs (N : Nat) : FS := { arg := .pair (.list (.int .i64)) (.list (.int .i64)), ret := .bool, fresh := true, F := impl_sameInts.F N }
def impl_sameInts.k2 (N : Nat) : Ex → S → Option Bool := seqK (fun s => XCode.runK (impl_sameInts.env N) N (impl_sameInts.c2) s (XFunc.endK impl_sameInts.x)) (XFunc.endK impl_sameInts.x)
def impl_sameInts.k1 (N : Nat) : Ex → S → Option Bool := blockK 0 (impl_sameInts.k2 N)
def impl_sameInts.L1 (N : Nat) (n1 : Nat) (a : List Int) (b : List Int) (t12 : Int) (t13 : Int) : Option Bool := loopK [.keep [0, 1, 12, 13], .norm] (fun s k => XCode.runK (impl_sameInts.env N) N impl_sameInts.c1 s k) n1
  { t := [.one (.sl false (.int .i64) a), .one (.sl false (.int .i64) b), .junk, .junk, .junk, .junk, .junk, .junk, .junk, .junk, .junk, .junk, .one (.int .i64 t12), .one (.int .i64 t13), .junk, .junk, .junk, .junk, .junk, .junk, .junk, .junk, .junk, .junk, .junk, .junk], h := [] }
  (impl_sameInts.k1 N)

theorem impl_sameInts.L1_eq (N : Nat) (n1 : Nat) (a : List Int) (b : List Int) (t12 : Int) (t13 : Int) : impl_sameInts.L1 N (n1 + 1) a b t12 t13 =
    bif decide (t13 < t12) then
      bif inRange t13 (List.length a) then
      bif inRange t13 (List.length b) then
      bif (nth (0 : Int) a t13) != (nth (0 : Int) b t13) then
        some false
      else
        impl_sameInts.L1 N n1 a b t12 (IntKind.wrap .i64 (t13 + (1 : Int)))
      else none
      else none
    else
      some true := by kernel_rfl
theorem impl_sameInts.F_eq (N : Nat) (a : List Int) (b : List Int) : impl_sameInts.F N (a, b) =
    bif (List.length a : Int) != (List.length b : Int) then
      some false
    else
      impl_sameInts.L1 N N a b (List.length a : Int) (0 : Int) := by kernel_rfl

def impl_SameReport.x : XFunc := { nslots := 17, nobj := 2, pars := [.val true 2, .val true 2], rowsIn := [none, none, none, none], rets := [.tmp 4 false 1], outs := [.imm], fresh := true, arg := .pair (.pair (.int .i64) (.list (.int .i64))) (.pair (.int .i64) (.list (.int .i64))), ret := .bool, body := .seq (.region false [ow 2 (.box 0) [.slot 0] [0] [0], ow 3 (.box 1) [.slot 1] [1] [1], op 4 .move [.const (.one (.bool false))]]) (.seq (.region false [o1 5 (.fieldAddr 0) 2, ow 6 (.load false 1) [.slot 5] [0] [], o1 7 (.fieldAddr 0) 3, ow 8 (.load false 1) [.slot 7] [1] [], o2 9 (.bin .eql) 6 8, ⟨some 10, .move, [.slot 9], [], [], none, true, .none⟩, ⟨some 11, .fieldAddr 1, [.slot 2], [], [], some (10, true), false, .none⟩, ⟨some 12, .load false 1, [.slot 11], [0], [], some (10, true), false, .none⟩, ⟨some 13, .fieldAddr 1, [.slot 3], [], [], some (10, true), false, .none⟩, ⟨some 14, .load false 1, [.slot 13], [1], [], some (10, true), false, .none⟩, ⟨some 15, .call ⟨205, vs 2, no 2, [.val false 1], ims 1, true⟩, [.slot 12, .slot 14], [], [], some (10, true), false, .none⟩, op 16 .pick [.slot 10, .slot 15, .const (.one (.bool false))], mv 4 16]) (.ret)) }
def impl_SameReport.env (N : Nat) : Env := envOf (tbl [(205, impl_sameInts.fs N)] noFS)
def impl_SameReport.F (N : Nat) (x : (Int × List Int) × Int × List Int) : Option Bool := XFunc.run impl_SameReport.x (impl_SameReport.env N) N x
def impl_SameReport.fs (N : Nat) : FS := { arg := .pair (.pair (.int .i64) (.list (.int .i64))) (.pair (.int .i64) (.list (.int .i64))), ret := .bool, fresh := true, F := impl_SameReport.F N }

theorem impl_SameReport.F_eq (N : Nat) (a : Int × List Int) (b : Int × List Int) : impl_SameReport.F N (a, b) =
    bif a.1 == b.1 then
      bindO (impl_sameInts.F N (a.2, b.2)) fun r1 =>
      some r1
    else
      some false := by kernel_rfl

def impl_IsPipe.c1 : XCode := .seq (.region false [o2 22 (.bin .lss) 21 20]) (.seq (.cond (.slot 22) (.skip) (.exit 0)) (.seq (.block 1 (.seq (.region false [o2 23 (.indexAddr (.pair (.int .i64) (.list (.int .i64)))) 19 21, o1 24 (.load true 2) 23, ow 5 (.alloc 2 [.int .i64 (0 : Int), .nil]) [] [2] [2], on (.store 2) [.slot 5, .slot 24] [2] [2]]) (.seq (.seq (.region false [ow 25 (.load true 2) [.slot 5] [2] [], o1 26 (.call ⟨263, [.val true 2], no 2, [.val false 1], ims 1, true⟩) 25, o1 27 .not 26, ⟨some 28, .move, [.slot 27], [], [], none, true, .none⟩, ⟨some 29, .load true 2, [.slot 3], [1], [], some (28, false), false, .none⟩, ⟨some 30, .load true 2, [.slot 5], [2], [], some (28, false), false, .none⟩, ⟨some 31, .call ⟨206, [.val true 2, .val true 2], no 4, [.val false 1], ims 1, true⟩, [.slot 29, .slot 30], [], [], some (28, false), false, .none⟩, op 32 .pick [.slot 28, .const (.one (.bool true)), .slot 31]]) (.cond (.slot 32) (.seq (.region false [op 2 .move [.const (.one (.bool false))]]) (.ret)) (.skip))) (.region false [ow 33 (.load true 2) [.slot 5] [2] [], on (.store 2) [.slot 3, .slot 33] [1] [1]])))) (.region false [op 34 (.bin .add) [.slot 21, .const (.one (.int .i64 (1 : Int)))], mv 21 34])))
def impl_IsPipe.c2 : XCode := .seq (.region false [op 2 .move [.const (.one (.bool true))]]) (.ret)
def impl_IsPipe.x : XFunc := { nslots := 35, nobj := 3, pars := [.val true 3], rowsIn := [none, none, none], rets := [.tmp 2 false 1], outs := [.imm], fresh := true, arg := .pair (.pair (.int .i64) (.list (.int .i64))) (.list (.pair (.int .i64) (.list (.int .i64)))), ret := .bool, body := .seq (.region false [ow 1 (.box 0) [.slot 0] [0] [0], op 2 .move [.const (.one (.bool false))]]) (.seq (.seq (.region false [o1 6 (.fieldAddr 0) 1, ow 7 (.load true 2) [.slot 6] [0] [], o1 8 (.call ⟨263, [.val true 2], no 2, [.val false 1], ims 1, true⟩) 7, o1 9 .not 8, ⟨some 10, .move, [.slot 9], [], [], none, true, .none⟩, ⟨some 11, .fieldAddr 2, [.slot 1], [], [], some (10, false), false, .none⟩, ⟨some 12, .load false 1, [.slot 11], [0], [], some (10, false), false, .none⟩, ⟨some 13, .len, [.slot 12], [], [], some (10, false), false, .none⟩, ⟨some 14, .bin .gtr, [.slot 13, .const (.one (.int .i64 (8 : Int)))], [], [], some (10, false), false, .none⟩, op 15 .pick [.slot 10, .const (.one (.bool true)), .slot 14]]) (.cond (.slot 15) (.seq (.region false [op 2 .move [.const (.one (.bool false))]]) (.ret)) (.skip))) (.seq (.region false [o1 16 (.fieldAddr 0) 1, ow 17 (.load true 2) [.slot 16] [0] [], ow 3 (.alloc 1 [.int .i64 (0 : Int), .nil]) [] [1] [1], on (.store 2) [.slot 3, .slot 17] [1] [1]]) (.seq (.seq (.region false [o1 18 (.fieldAddr 2) 1, ow 19 (.load false 1) [.slot 18] [0] [], o1 20 .len 19, op 21 .move [.const (.one (.int .i64 (0 : Int)))]]) (.block 0 (.loop [.keep [3, 19, 20, 21], .drop 0, .drop 2, .norm] (impl_IsPipe.c1)))) (impl_IsPipe.c2)))) }
def impl_IsPipe.env (N : Nat) : Env := envOf (tbl [(263, impl_IsReport.fs N), (206, impl_SameReport.fs N)] noFS)
def impl_IsPipe.F (N : Nat) (x : (Int × List Int) × List (Int × List Int)) : Option Bool := XFunc.run impl_IsPipe.x (impl_IsPipe.env N) N x
def impl_IsPipe.fs (N : Nat) : FS := { arg := .pair (.pair (.int .i64) (.list (.int .i64))) (.list (.pair (.int .i64) (.list (.int .i64)))), ret := .bool, fresh := true, F := impl_IsPipe.F N }
def impl_IsPipe.k2 (N : Nat) : Ex → S → Option Bool := seqK (fun s => XCode.runK (impl_IsPipe.env N) N (impl_IsPipe.c2) s (XFunc.endK impl_IsPipe.x)) (XFunc.endK impl_IsPipe.x)
def impl_IsPipe.k1 (N : Nat) : Ex → S → Option Bool := blockK 0 (impl_IsPipe.k2 N)
def impl_IsPipe.L1 (N : Nat) (n1 : Nat) (t19 : List (Int × List Int)) (t20 : Int) (t21 : Int) (o10 : Int) (o11 : List Int) : Option Bool := loopK [.keep [3, 19, 20, 21], .drop 0, .drop 2, .norm] (fun s k => XCode.runK (impl_IsPipe.env N) N impl_IsPipe.c1 s k) n1
  { t := [.junk, .junk, .junk, .one (.ptr 1 0 0), .junk, .junk, .junk, .junk, .junk, .junk, .junk, .junk, .junk, .junk, .junk, .junk, .junk, .junk, .junk, .one (.sl false (.pair (.int .i64) (.list (.int .i64))) t19), .one (.int .i64 t20), .one (.int .i64 t21), .junk, .junk, .junk, .junk, .junk, .junk, .junk, .junk, .junk, .junk, .junk, .junk, .junk], h := [.absent 0, .box 0 false [.int .i64 o10, .sl false (.int .i64) o11], .absent 0] }
  (impl_IsPipe.k1 N)

theorem impl_IsPipe.L1_eq (N : Nat) (n1 : Nat) (t19 : List (Int × List Int)) (t20 : Int) (t21 : Int) (o10 : Int) (o11 : List Int) : impl_IsPipe.L1 N (n1 + 1) t19 t20 t21 o10 o11 =
    bif decide (t21 < t20) then
      bif inRange t21 (List.length t19) then
      bindO (impl_IsReport.F N (nth ((0 : Int), ([] : List Int)) t19 t21)) fun r2 =>
      bif !r2 then
        some false
      else
        bindO (impl_SameReport.F N ((o10, o11), (nth ((0 : Int), ([] : List Int)) t19 t21))) fun r3 =>
        bif r3 then
          some false
        else
          impl_IsPipe.L1 N n1 t19 t20 (IntKind.wrap .i64 (t21 + (1 : Int))) ((nth ((0 : Int), ([] : List Int)) t19 t21).1) ((nth ((0 : Int), ([] : List Int)) t19 t21).2)
      else none
    else
      some true := by kernel_rfl
theorem impl_IsPipe.F_eq (N : Nat) (p : (Int × List Int) × List (Int × List Int)) : impl_IsPipe.F N p =
    bindO (impl_IsReport.F N p.1) fun r1 =>
    bif !r1 then
      some false
    else
      bif decide ((List.length p.2 : Int) > (8 : Int)) then
        some false
      else
        impl_IsPipe.L1 N N p.2 (List.length p.2 : Int) (0 : Int) p.1.1 p.1.2 := by kernel_rfl

def laws_eqReportS.c1 : XCode := .seq (.seq (.region false [mv 11 5, mv 12 0, o1 13 .len 12, o2 14 (.bin .lss) 11 13]) (.cond (.slot 14) (.skip) (.exit 0))) (.seq (.block 1 (.seq (.region true [mv 17 0, mv 18 5, o2 19 (.indexAddr (.pair (.int .i64) (.list (.int .i64)))) 17 18, o1 20 (.load true 2) 19, mv 21 1, mv 22 5, o2 23 (.indexAddr (.pair (.int .i64) (.list (.int .i64)))) 21 22, o1 24 (.load true 2) 23, o2 25 (.call ⟨265, [.val true 2, .val true 2], no 4, [.val false 1], ims 1, true⟩) 20 24, o1 26 .not 25]) (.cond (.slot 26) (.seq (.region false [op 4 .move [.const (.one (.bool false))]]) (.ret)) (.skip)))) (.region false [mv 15 5, op 16 (.bin .add) [.slot 15, .const (.one (.int .i64 (1 : Int)))], mv 5 16]))
def laws_eqReportS.c2 : XCode := .seq (.region false [op 4 .move [.const (.one (.bool true))]]) (.ret)
def laws_eqReportS.x : XFunc := { nslots := 27, nobj := 0, pars := [.val false 1, .val false 1], rowsIn := [none, none], rets := [.tmp 4 false 1], outs := [.imm], fresh := true, arg := .pair (.list (.pair (.int .i64) (.list (.int .i64)))) (.list (.pair (.int .i64) (.list (.int .i64)))), ret := .bool, body := .seq (.region false [op 4 .move [.const (.one (.bool false))]]) (.seq (.seq (.region false [mv 6 0, o1 7 .len 6, mv 8 1, o1 9 .len 8, o2 10 (.bin .neq) 7 9]) (.cond (.slot 10) (.seq (.region false [op 4 .move [.const (.one (.bool false))]]) (.ret)) (.skip))) (.seq (.seq (.region false [op 5 .move [.const (.one (.int .i64 (0 : Int)))]]) (.block 0 (.loop [.keep [0, 1, 5], .norm] (laws_eqReportS.c1)))) (laws_eqReportS.c2))) }
def laws_eqReportS.env (N : Nat) : Env := envOf (tbl [(265, laws_eqReport.fs N)] noFS)
def laws_eqReportS.F (N : Nat) (x : (List (Int × List Int)) × List (Int × List Int)) : Option Bool := XFunc.run laws_eqReportS.x (laws_eqReportS.env N) N x
def laws_eqReportS.fs (N : Nat) : FS := { arg := .pair (.list (.pair (.int .i64) (.list (.int .i64)))) (.list (.pair (.int .i64) (.list (.int .i64)))), ret := .bool, fresh := true, F := laws_eqReportS.F N }
def laws_eqReportS.k2 (N : Nat) : Ex → S → Option Bool := seqK (fun s => XCode.runK (laws_eqReportS.env N) N (laws_eqReportS.c2) s (XFunc.endK laws_eqReportS.x)) (XFunc.endK laws_eqReportS.x)
def laws_eqReportS.k1 (N : Nat) : Ex → S → Option Bool := blockK 0 (laws_eqReportS.k2 N)
def laws_eqReportS.L1 (N : Nat) (n1 : Nat) (a : List (Int × List Int)) (b : List (Int × List Int)) (i : Int) : Option Bool := loopK [.keep [0, 1, 5], .norm] (fun s k => XCode.runK (laws_eqReportS.env N) N laws_eqReportS.c1 s k) n1
  { t := [.one (.sl false (.pair (.int .i64) (.list (.int .i64))) a), .one (.sl false (.pair (.int .i64) (.list (.int .i64))) b), .junk, .junk, .junk, .one (.int .i64 i), .junk, .junk, .junk, .junk, .junk, .junk, .junk, .junk, .junk, .junk, .junk, .junk, .junk, .junk, .junk, .junk, .junk, .junk, .junk, .junk, .junk], h := [] }
  (laws_eqReportS.k1 N)

theorem laws_eqReportS.L1_eq (N : Nat) (n1 : Nat) (a : List (Int × List Int)) (b : List (Int × List Int)) (i : Int) : laws_eqReportS.L1 N (n1 + 1) a b i =
    bif decide (i < (List.length a : Int)) then
      bif inRange i (List.length a) then
      bif inRange i (List.length b) then
      bindO (laws_eqReport.F N ((nth ((0 : Int), ([] : List Int)) a i), (nth ((0 : Int), ([] : List Int)) b i))) fun r1 =>
      bif !r1 then
        some false
      else
        laws_eqReportS.L1 N n1 a b (IntKind.wrap .i64 (i + (1 : Int)))
      else none
      else none
    else
      some true := by kernel_rfl
theorem laws_eqReportS.F_eq (N : Nat) (a : List (Int × List Int)) (b : List (Int × List Int)) : laws_eqReportS.F N (a, b) =
    bif (List.length a : Int) != (List.length b : Int) then
      some false
    else
      laws_eqReportS.L1 N N a b (0 : Int) := by kernel_rfl

def laws_eqPipe.x : XFunc := { nslots := 17, nobj := 2, pars := [.val true 3, .val true 3], rowsIn := [none, none, none, none, none, none], rets := [.tmp 4 false 1], outs := [.imm], fresh := true, arg := .pair (.pair (.pair (.int .i64) (.list (.int .i64))) (.list (.pair (.int .i64) (.list (.int .i64))))) (.pair (.pair (.int .i64) (.list (.int .i64))) (.list (.pair (.int .i64) (.list (.int .i64))))), ret := .bool, body := .seq (.region false [ow 2 (.box 0) [.slot 0] [0] [0], ow 3 (.box 1) [.slot 1] [1] [1], op 4 .move [.const (.one (.bool false))]]) (.seq (.seq (.region false [o1 5 (.fieldAddr 0) 2, ow 6 (.load true 2) [.slot 5] [0] [], o1 7 (.fieldAddr 0) 3, ow 8 (.load true 2) [.slot 7] [1] [], o2 9 (.call ⟨265, [.val true 2, .val true 2], no 4, [.val false 1], ims 1, true⟩) 6 8, o1 10 .not 9]) (.cond (.slot 10) (.seq (.region false [op 4 .move [.const (.one (.bool false))]]) (.ret)) (.skip))) (.seq (.seq (.region false [o1 11 (.fieldAddr 2) 2, ow 12 (.load false 1) [.slot 11] [0] [], o1 13 (.fieldAddr 2) 3, ow 14 (.load false 1) [.slot 13] [1] [], o2 15 (.call ⟨280, vs 2, no 2, [.val false 1], ims 1, true⟩) 12 14, o1 16 .not 15]) (.cond (.slot 16) (.seq (.region false [op 4 .move [.const (.one (.bool false))]]) (.ret)) (.skip))) (.seq (.region false [op 4 .move [.const (.one (.bool true))]]) (.ret)))) }
def laws_eqPipe.env (N : Nat) : Env := envOf (tbl [(265, laws_eqReport.fs N), (280, laws_eqReportS.fs N)] noFS)
def laws_eqPipe.F (N : Nat) (x : ((Int × List Int) × List (Int × List Int)) × (Int × List Int) × List (Int × List Int)) : Option Bool := XFunc.run laws_eqPipe.x (laws_eqPipe.env N) N x
def laws_eqPipe.fs (N : Nat) : FS := { arg := .pair (.pair (.pair (.int .i64) (.list (.int .i64))) (.list (.pair (.int .i64) (.list (.int .i64))))) (.pair (.pair (.int .i64) (.list (.int .i64))) (.list (.pair (.int .i64) (.list (.int .i64))))), ret := .bool, fresh := true, F := laws_eqPipe.F N }

theorem laws_eqPipe.F_eq (N : Nat) (a : (Int × List Int) × List (Int × List Int)) (b : (Int × List Int) × List (Int × List Int)) : laws_eqPipe.F N (a, b) =
    bindO (laws_eqReport.F N (a.1, b.1)) fun r1 =>
    bif !r1 then
      some false
    else
      bindO (laws_eqReportS.F N (a.2, b.2)) fun r2 =>
      bif !r2 then
        some false
      else
        some true := by kernel_rfl

end Go.Kb
