/- The texts of functions, printed by a program, and the equations of their runs. -/
import Derived.Test.YtokploahoidhoaaExactDoFlashF1
import Derived.Test.YtokploahoidhoaaExactDoFlashF2
import Derived.KernelRfl
namespace Go.Kb
def laws_szIntS.x : XFunc := { nslots := 12, nobj := 0, pars := [.val false 1, .val false 1], rowsIn := [none, none], rets := [.tmp 4 false 1], outs := [.imm], fresh := true, arg := .pair (.list (.int .i64)) (.int .i64), ret := .int .i64, body := .seq (.region false [op 4 .move [.const (.one (.int .i64 (0 : Int)))]]) (.seq (.region false [mv 5 1, mv 6 0, o1 7 .len 6, o2 8 (.bin .sub) 5 7, mv 1 8]) (.seq (.seq (.region false [mv 9 1, op 10 (.bin .lss) [.slot 9, .const (.one (.int .i64 (0 : Int)))]]) (.cond (.slot 10) (.seq (.region false [op 4 .move [.const (.one (.int .i64 (-1 : Int)))]]) (.ret)) (.skip))) (.seq (.region false [mv 11 1, mv 4 11]) (.ret)))) }
def laws_szIntS.env (_ : Nat) : Env := envOf (tbl [] noFS)
def laws_szIntS.F (N : Nat) (x : (List Int) × Int) : Option Int := XFunc.run laws_szIntS.x (laws_szIntS.env N) N x
def laws_szIntS.fs (N : Nat) : FS := { arg := .pair (.list (.int .i64)) (.int .i64), ret := .int .i64, fresh := true, F := laws_szIntS.F N }

theorem laws_szIntS.F_eq (N : Nat) (a : List Int) (left : Int) : laws_szIntS.F N (a, left) =
    bif decide ((IntKind.wrap .i64 (left - (List.length a : Int))) < (0 : Int)) then
      some (-1 : Int)
    else
      some (IntKind.wrap .i64 (left - (List.length a : Int))) := by kernel_rfl

def laws_szIntSS.c1 : XCode := .seq (.seq (.region false [mv 12 5, mv 13 0, o1 14 .len 13, o2 15 (.bin .lss) 12 14]) (.cond (.slot 15) (.skip) (.exit 0))) (.seq (.block 1 (.seq (.region false [mv 18 0, mv 19 5, o2 20 (.indexAddr (.list (.int .i64))) 18 19, o1 21 (.load false 1) 20, mv 22 1, o2 23 (.call ⟨251, vs 2, no 2, [.val false 1], ims 1, true⟩) 21 22, mv 1 23]) (.seq (.region false [mv 24 1, op 25 (.bin .lss) [.slot 24, .const (.one (.int .i64 (0 : Int)))]]) (.cond (.slot 25) (.seq (.region false [op 4 .move [.const (.one (.int .i64 (-1 : Int)))]]) (.ret)) (.skip))))) (.region false [mv 16 5, op 17 (.bin .add) [.slot 16, .const (.one (.int .i64 (1 : Int)))], mv 5 17]))
def laws_szIntSS.c2 : XCode := .seq (.region false [mv 26 1, mv 4 26]) (.ret)
def laws_szIntSS.x : XFunc := { nslots := 27, nobj := 0, pars := [.val false 1, .val false 1], rowsIn := [none, none], rets := [.tmp 4 false 1], outs := [.imm], fresh := true, arg := .pair (.list (.list (.int .i64))) (.int .i64), ret := .int .i64, body := .seq (.region false [op 4 .move [.const (.one (.int .i64 (0 : Int)))]]) (.seq (.region false [mv 6 1, mv 7 0, o1 8 .len 7, o2 9 (.bin .sub) 6 8, mv 1 9]) (.seq (.seq (.region false [mv 10 1, op 11 (.bin .lss) [.slot 10, .const (.one (.int .i64 (0 : Int)))]]) (.cond (.slot 11) (.seq (.region false [op 4 .move [.const (.one (.int .i64 (-1 : Int)))]]) (.ret)) (.skip))) (.seq (.seq (.region false [op 5 .move [.const (.one (.int .i64 (0 : Int)))]]) (.block 0 (.loop [.keep [0, 1, 5], .norm] (laws_szIntSS.c1)))) (laws_szIntSS.c2)))) }
def laws_szIntSS.env (N : Nat) : Env := envOf (tbl [(251, laws_szIntS.fs N)] noFS)
def laws_szIntSS.F (N : Nat) (x : (List (List Int)) × Int) : Option Int := XFunc.run laws_szIntSS.x (laws_szIntSS.env N) N x
def laws_szIntSS.fs (N : Nat) : FS := { arg := .pair (.list (.list (.int .i64))) (.int .i64), ret := .int .i64, fresh := true, F := laws_szIntSS.F N }
def laws_szIntSS.k2 (N : Nat) : Ex → S → Option Int := seqK (fun s => XCode.runK (laws_szIntSS.env N) N (laws_szIntSS.c2) s (XFunc.endK laws_szIntSS.x)) (XFunc.endK laws_szIntSS.x)
def laws_szIntSS.k1 (N : Nat) : Ex → S → Option Int := blockK 0 (laws_szIntSS.k2 N)
def laws_szIntSS.L1 (N : Nat) (n1 : Nat) (a : List (List Int)) (left : Int) (i : Int) : Option Int := loopK [.keep [0, 1, 5], .norm] (fun s k => XCode.runK (laws_szIntSS.env N) N laws_szIntSS.c1 s k) n1
  { t := [.one (.sl false (.list (.int .i64)) a), .one (.int .i64 left), .junk, .junk, .junk, .one (.int .i64 i), .junk, .junk, .junk, .junk, .junk, .junk, .junk, .junk, .junk, .junk, .junk, .junk, .junk, .junk, .junk, .junk, .junk, .junk, .junk, .junk, .junk], h := [] }
  (laws_szIntSS.k1 N)

theorem laws_szIntSS.L1_eq (N : Nat) (n1 : Nat) (a : List (List Int)) (left : Int) (i : Int) : laws_szIntSS.L1 N (n1 + 1) a left i =
    bif decide (i < (List.length a : Int)) then
      bif inRange i (List.length a) then
      bindO (laws_szIntS.F N (nth ([] : List Int) a i, left)) fun r1 =>
      bif decide (r1 < (0 : Int)) then
        some (-1 : Int)
      else
        laws_szIntSS.L1 N n1 a r1 (IntKind.wrap .i64 (i + (1 : Int)))
      else none
    else
      some left := by kernel_rfl
theorem laws_szIntSS.F_eq (N : Nat) (a : List (List Int)) (left : Int) : laws_szIntSS.F N (a, left) =
    bif decide ((IntKind.wrap .i64 (left - (List.length a : Int))) < (0 : Int)) then
      some (-1 : Int)
    else
      laws_szIntSS.L1 N N a (IntKind.wrap .i64 (left - (List.length a : Int))) (0 : Int) := by kernel_rfl

def laws_szFlash.x : XFunc := { nslots := 18, nobj := 1, pars := [.val true 2, .val false 1], rowsIn := [none, none, none], rets := [.tmp 4 false 1], outs := [.imm], fresh := true, arg := .pair (.pair (.list (.list (.int .i64))) (.list (.int .i64))) (.int .i64), ret := .int .i64, body := .seq (.region false [ow 2 (.box 0) [.slot 0] [0] [0], op 4 .move [.const (.one (.int .i64 (0 : Int)))]]) (.seq (.region false [o1 5 (.fieldAddr 0) 2, ow 6 (.load false 1) [.slot 5] [0] [], mv 7 1, o2 8 (.call ⟨252, vs 2, no 2, [.val false 1], ims 1, true⟩) 6 7, mv 1 8]) (.seq (.seq (.region false [mv 9 1, op 10 (.bin .lss) [.slot 9, .const (.one (.int .i64 (0 : Int)))]]) (.cond (.slot 10) (.seq (.region false [op 4 .move [.const (.one (.int .i64 (-1 : Int)))]]) (.ret)) (.skip))) (.seq (.region false [o1 11 (.fieldAddr 1) 2, ow 12 (.load false 1) [.slot 11] [0] [], mv 13 1, o2 14 (.call ⟨251, vs 2, no 2, [.val false 1], ims 1, true⟩) 12 13, mv 1 14]) (.seq (.seq (.region false [mv 15 1, op 16 (.bin .lss) [.slot 15, .const (.one (.int .i64 (0 : Int)))]]) (.cond (.slot 16) (.seq (.region false [op 4 .move [.const (.one (.int .i64 (-1 : Int)))]]) (.ret)) (.skip))) (.seq (.region false [mv 17 1, mv 4 17]) (.ret)))))) }
def laws_szFlash.env (N : Nat) : Env := envOf (tbl [(251, laws_szIntS.fs N), (252, laws_szIntSS.fs N)] noFS)
def laws_szFlash.F (N : Nat) (x : ((List (List Int)) × List Int) × Int) : Option Int := XFunc.run laws_szFlash.x (laws_szFlash.env N) N x
def laws_szFlash.fs (N : Nat) : FS := { arg := .pair (.pair (.list (.list (.int .i64))) (.list (.int .i64))) (.int .i64), ret := .int .i64, fresh := true, F := laws_szFlash.F N }

theorem laws_szFlash.F_eq (N : Nat) (a : (List (List Int)) × List Int) (left : Int) : laws_szFlash.F N (a, left) =
    bindO (laws_szIntSS.F N (a.1, left)) fun r1 =>
    bif decide (r1 < (0 : Int)) then
      some (-1 : Int)
    else
      bindO (laws_szIntS.F N (a.2, r1)) fun r2 =>
      bif decide (r2 < (0 : Int)) then
        some (-1 : Int)
      else
        some r2 := by kernel_rfl

def laws_toIntS.c1 : XCode := .seq (.seq (.region false [mv 8 4, mv 9 0, o1 10 .len 9, o2 11 (.bin .lss) 8 10]) (.cond (.slot 11) (.skip) (.exit 0))) (.seq (.block 1 (.region false [mv 14 3, mv 15 4, mv 16 0, mv 17 4, o2 18 (.indexAddr (.int .i64)) 16 17, o1 19 (.load false 1) 18, ow 20 (.indexAddr (.int .i64)) [.slot 14, .slot 15] [0] [], on (.store 1) [.slot 20, .slot 19] [0] [0]])) (.region false [mv 12 4, op 13 (.bin .add) [.slot 12, .const (.one (.int .i64 (1 : Int)))], mv 4 13]))
def laws_toIntS.c2 : XCode := .seq (.region false [mv 21 3, mv 2 21]) (.ret)
def laws_toIntS.x : XFunc := { nslots := 22, nobj := 1, pars := [.val false 1], rowsIn := [none], rets := [.tmp 2 false 1], outs := [.own 2], fresh := true, arg := .list (.int .i64), ret := .list (.int .i64), body := .seq (.region false [op 2 .move [.const (.one (.nil))]]) (.seq (.region false [mv 5 0, o1 6 .len 5, ow 7 (.makeSlice 0 2 (.int .i64)) [.slot 6, .slot 6] [0] [0], mv 3 7]) (.seq (.seq (.region false [op 4 .move [.const (.one (.int .i64 (0 : Int)))]]) (.block 0 (.loop [.keep [0, 3, 4], .norm] (laws_toIntS.c1)))) (laws_toIntS.c2))) }
def laws_toIntS.env (_ : Nat) : Env := envOf (tbl [] noFS)
def laws_toIntS.F (N : Nat) (x : List Int) : Option (List Int) := XFunc.run laws_toIntS.x (laws_toIntS.env N) N x
def laws_toIntS.fs (N : Nat) : FS := { arg := .list (.int .i64), ret := .list (.int .i64), fresh := true, F := laws_toIntS.F N }
def laws_toIntS.k2 (N : Nat) : Ex → S → Option (List Int) := seqK (fun s => XCode.runK (laws_toIntS.env N) N (laws_toIntS.c2) s (XFunc.endK laws_toIntS.x)) (XFunc.endK laws_toIntS.x)
def laws_toIntS.k1 (N : Nat) : Ex → S → Option (List Int) := blockK 0 (laws_toIntS.k2 N)
def laws_toIntS.L1 (N : Nat) (n1 : Nat) (a : List Int) (i : Int) (o0 : List Int) : Option (List Int) := loopK [.keep [0, 3, 4], .norm] (fun s k => XCode.runK (laws_toIntS.env N) N laws_toIntS.c1 s k) n1
  { t := [.one (.sl false (.int .i64) a), .junk, .junk, .one (.ref 0 0 .all), .one (.int .i64 i), .junk, .junk, .junk, .junk, .junk, .junk, .junk, .junk, .junk, .junk, .junk, .junk, .junk, .junk, .junk, .junk, .junk], h := [.row 0 false true 2 (.int .i64) o0] }
  (laws_toIntS.k1 N)

theorem laws_toIntS.L1_eq (N : Nat) (n1 : Nat) (a : List Int) (i : Int) (o0 : List Int) : laws_toIntS.L1 N (n1 + 1) a i o0 =
    bif decide (i < (List.length a : Int)) then
      bif inRange i (List.length a) then
      bif inRange i (List.length o0) then
      laws_toIntS.L1 N n1 a (IntKind.wrap .i64 (i + (1 : Int))) (List.set o0 (Int.toNat i) (nth (0 : Int) a i))
      else none
      else none
    else
      some o0 := by kernel_rfl
theorem laws_toIntS.F_eq (N : Nat) (a : List Int) : laws_toIntS.F N a =
    bif decide (0 ≤ (List.length a : Int)) && decide ((List.length a : Int) ≤ (maxN : Int)) then
    laws_toIntS.L1 N N a (0 : Int) (List.replicate (Int.toNat (List.length a : Int)) (0 : Int))
    else none := by kernel_rfl

def spec_IsFlash.c1 : XCode := .seq (.seq (.region false [mv 35 4, o1 36 (.fieldAddr 0) 1, ow 37 (.load false 1) [.slot 36] [0] [], mv 38 3, o2 39 (.indexAddr (.list (.int .i64))) 37 38, o1 40 (.load false 1) 39, o1 41 .len 40, o2 42 (.bin .lss) 35 41]) (.cond (.slot 42) (.skip) (.exit 2))) (.seq (.block 3 (.seq (.region false [o1 45 (.fieldAddr 0) 1, ow 46 (.load false 1) [.slot 45] [0] [], mv 47 3, o2 48 (.indexAddr (.list (.int .i64))) 46 47, o1 49 (.load false 1) 48, mv 50 4, o2 51 (.indexAddr (.int .i64)) 49 50, o1 52 (.load false 1) 51, op 53 (.call ⟨1, vs 3, no 3, [.val false 1], ims 1, true⟩) [.slot 52, .const (.one (.int .i64 (0 : Int))), .const (.one (.int .i64 (65535 : Int)))], o1 54 .not 53]) (.cond (.slot 54) (.seq (.region false [op 2 .move [.const (.one (.bool false))]]) (.ret)) (.skip)))) (.region false [mv 43 4, op 44 (.bin .add) [.slot 43, .const (.one (.int .i64 (1 : Int)))], mv 4 44]))
def spec_IsFlash.c2 : XCode := .region false [mv 17 3, op 18 (.bin .add) [.slot 17, .const (.one (.int .i64 (1 : Int)))], mv 3 18]
def spec_IsFlash.c3 : XCode := .seq (.seq (.region false [mv 15 3, op 16 (.bin .lss) [.slot 15, .const (.one (.int .i64 (2 : Int)))]]) (.cond (.slot 16) (.skip) (.exit 0))) (.seq (.block 1 (.seq (.seq (.region false [o1 19 (.fieldAddr 0) 1, ow 20 (.load false 1) [.slot 19] [0] [], mv 21 3, o2 22 (.indexAddr (.list (.int .i64))) 20 21, o1 23 (.load false 1) 22, o1 24 .len 23, op 25 (.bin .neq) [.slot 24, .const (.one (.int .i64 (19 : Int)))], ⟨some 26, .move, [.slot 25], [], [], none, true, .none⟩, ⟨some 27, .fieldAddr 1, [.slot 1], [], [], some (26, false), false, .none⟩, ⟨some 28, .load false 1, [.slot 27], [0], [], some (26, false), false, .none⟩, ⟨some 29, .move, [.slot 3], [], [], some (26, false), false, .none⟩, ⟨some 30, .indexAddr (.int .i64), [.slot 28, .slot 29], [], [], some (26, false), false, .none⟩, ⟨some 31, .load false 1, [.slot 30], [], [], some (26, false), false, .none⟩, ⟨some 32, .call ⟨1, vs 3, no 3, [.val false 1], ims 1, true⟩, [.slot 31, .const (.one (.int .i64 (0 : Int))), .const (.one (.int .i64 (1000 : Int)))], [], [], some (26, false), false, .none⟩, ⟨some 33, .not, [.slot 32], [], [], some (26, false), false, .none⟩, op 34 .pick [.slot 26, .const (.one (.bool true)), .slot 33]]) (.cond (.slot 34) (.seq (.region false [op 2 .move [.const (.one (.bool false))]]) (.ret)) (.skip))) (.seq (.region false [op 4 .move [.const (.one (.int .i64 (0 : Int)))]]) (.block 2 (.loop [.keep [1, 3, 4], .norm] (spec_IsFlash.c1)))))) (spec_IsFlash.c2))
def spec_IsFlash.c4 : XCode := .seq (.region false [op 2 .move [.const (.one (.bool true))]]) (.ret)
def spec_IsFlash.x : XFunc := { nslots := 55, nobj := 1, pars := [.val true 2], rowsIn := [none, none], rets := [.tmp 2 false 1], outs := [.imm], fresh := true, arg := .pair (.list (.list (.int .i64))) (.list (.int .i64)), ret := .bool, body := .seq (.region false [ow 1 (.box 0) [.slot 0] [0] [0], op 2 .move [.const (.one (.bool false))]]) (.seq (.seq (.region false [o1 5 (.fieldAddr 0) 1, ow 6 (.load false 1) [.slot 5] [0] [], o1 7 .len 6, op 8 (.bin .neq) [.slot 7, .const (.one (.int .i64 (2 : Int)))], ⟨some 9, .move, [.slot 8], [], [], none, true, .none⟩, ⟨some 10, .fieldAddr 1, [.slot 1], [], [], some (9, false), false, .none⟩, ⟨some 11, .load false 1, [.slot 10], [0], [], some (9, false), false, .none⟩, ⟨some 12, .len, [.slot 11], [], [], some (9, false), false, .none⟩, ⟨some 13, .bin .neq, [.slot 12, .const (.one (.int .i64 (2 : Int)))], [], [], some (9, false), false, .none⟩, op 14 .pick [.slot 9, .const (.one (.bool true)), .slot 13]]) (.cond (.slot 14) (.seq (.region false [op 2 .move [.const (.one (.bool false))]]) (.ret)) (.skip))) (.seq (.seq (.region false [op 3 .move [.const (.one (.int .i64 (0 : Int)))]]) (.block 0 (.loop [.keep [1, 3], .norm] (spec_IsFlash.c3)))) (spec_IsFlash.c4))) }
def spec_IsFlash.env (N : Nat) : Env := envOf (tbl [(1, spec_l1In.fs N)] noFS)
def spec_IsFlash.F (N : Nat) (x : (List (List Int)) × List Int) : Option Bool := XFunc.run spec_IsFlash.x (spec_IsFlash.env N) N x
def spec_IsFlash.fs (N : Nat) : FS := { arg := .pair (.list (.list (.int .i64))) (.list (.int .i64)), ret := .bool, fresh := true, F := spec_IsFlash.F N }
def spec_IsFlash.k2 (N : Nat) : Ex → S → Option Bool := seqK (fun s => XCode.runK (spec_IsFlash.env N) N (spec_IsFlash.c4) s (XFunc.endK spec_IsFlash.x)) (XFunc.endK spec_IsFlash.x)
def spec_IsFlash.k1 (N : Nat) : Ex → S → Option Bool := blockK 0 (spec_IsFlash.k2 N)
def spec_IsFlash.k6 (N : Nat) (n1 : Nat) : Ex → S → Option Bool := seqK (fun s => bindO (S.ghosts s [.keep [1, 3], .norm]) fun s1 => loopK [.keep [1, 3], .norm] (fun s k => XCode.runK (spec_IsFlash.env N) N spec_IsFlash.c3 s k) n1 s1 (spec_IsFlash.k1 N)) (spec_IsFlash.k1 N)
def spec_IsFlash.k5 (N : Nat) (n1 : Nat) : Ex → S → Option Bool := seqK (fun s => XCode.runK (spec_IsFlash.env N) N (spec_IsFlash.c2) s (spec_IsFlash.k6 N n1)) (spec_IsFlash.k6 N n1)
def spec_IsFlash.k4 (N : Nat) (n1 : Nat) : Ex → S → Option Bool := blockK 1 (spec_IsFlash.k5 N n1)
def spec_IsFlash.k3 (N : Nat) (n1 : Nat) : Ex → S → Option Bool := blockK 2 (spec_IsFlash.k4 N n1)
def spec_IsFlash.L1 (N : Nat) (n1 : Nat) (i : Int) (o00 : List (List Int)) (o01 : List Int) : Option Bool := loopK [.keep [1, 3], .norm] (fun s k => XCode.runK (spec_IsFlash.env N) N spec_IsFlash.c3 s k) n1
  { t := [.junk, .one (.ptr 0 0 0), .junk, .one (.int .i64 i), .junk, .junk, .junk, .junk, .junk, .junk, .junk, .junk, .junk, .junk, .junk, .junk, .junk, .junk, .junk, .junk, .junk, .junk, .junk, .junk, .junk, .junk, .junk, .junk, .junk, .junk, .junk, .junk, .junk, .junk, .junk, .junk, .junk, .junk, .junk, .junk, .junk, .junk, .junk, .junk, .junk, .junk, .junk, .junk, .junk, .junk, .junk, .junk, .junk, .junk, .junk], h := [.box 0 false [.sl false (.list (.int .i64)) o00, .sl false (.int .i64) o01]] }
  (spec_IsFlash.k1 N)
def spec_IsFlash.L2 (N : Nat) (n1 : Nat) (n2 : Nat) (i : Int) (k_ : Int) (o00 : List (List Int)) (o01 : List Int) : Option Bool := loopK [.keep [1, 3, 4], .norm] (fun s k => XCode.runK (spec_IsFlash.env N) N spec_IsFlash.c1 s k) n2
  { t := [.junk, .one (.ptr 0 0 0), .junk, .one (.int .i64 i), .one (.int .i64 k_), .junk, .junk, .junk, .junk, .junk, .junk, .junk, .junk, .junk, .junk, .junk, .junk, .junk, .junk, .junk, .junk, .junk, .junk, .junk, .junk, .junk, .junk, .junk, .junk, .junk, .junk, .junk, .junk, .junk, .junk, .junk, .junk, .junk, .junk, .junk, .junk, .junk, .junk, .junk, .junk, .junk, .junk, .junk, .junk, .junk, .junk, .junk, .junk, .junk, .junk], h := [.box 0 false [.sl false (.list (.int .i64)) o00, .sl false (.int .i64) o01]] }
  (spec_IsFlash.k3 N n1)

theorem spec_IsFlash.L1_eq (N : Nat) (n1 : Nat) (i : Int) (o00 : List (List Int)) (o01 : List Int) : spec_IsFlash.L1 N (n1 + 1) i o00 o01 =
    bif decide (i < (2 : Int)) then
      bif inRange i (List.length o00) then
      bif (List.length (nth ([] : List Int) o00 i) : Int) != (19 : Int) then
        some false
      else
        bif inRange i (List.length o01) then
        bindO (spec_l1In.F N (nth (0 : Int) o01 i, ((0 : Int), (1000 : Int)))) fun r1 =>
        bif !r1 then
          some false
        else
          spec_IsFlash.L2 N n1 N i (0 : Int) o00 o01
        else none
      else none
    else
      some true := by kernel_rfl
theorem spec_IsFlash.L2_eq (N : Nat) (n1 : Nat) (n2 : Nat) (i : Int) (k_ : Int) (o00 : List (List Int)) (o01 : List Int) : spec_IsFlash.L2 N n1 (n2 + 1) i k_ o00 o01 =
    bif inRange i (List.length o00) then
    bif decide (k_ < (List.length (nth ([] : List Int) o00 i) : Int)) then
      bif inRange i (List.length o00) then
      bif inRange k_ (List.length (nth ([] : List Int) o00 i)) then
      bindO (spec_l1In.F N (nth (0 : Int) (nth ([] : List Int) o00 i) k_, ((0 : Int), (65535 : Int)))) fun r2 =>
      bif !r2 then
        some false
      else
        spec_IsFlash.L2 N n1 n2 i (IntKind.wrap .i64 (k_ + (1 : Int))) o00 o01
      else none
      else none
    else
      spec_IsFlash.L1 N n1 (IntKind.wrap .i64 (i + (1 : Int))) o00 o01
    else none := by kernel_rfl
theorem spec_IsFlash.F_eq (N : Nat) (f : (List (List Int)) × List Int) : spec_IsFlash.F N f =
    bif (List.length f.1 : Int) != (2 : Int) then
      some false
    else
      bif (List.length f.2 : Int) != (2 : Int) then
        some false
      else
        spec_IsFlash.L1 N N (0 : Int) f.1 f.2 := by kernel_rfl

def impl_IsFlash.c1 : XCode := .seq (.region false [o2 49 (.bin .lss) 48 47]) (.seq (.cond (.slot 49) (.skip) (.exit 2)) (.seq (.block 3 (.seq (.region false [o2 50 (.indexAddr (.int .i64)) 46 48, o1 51 (.load false 1) 50, mv 5 51]) (.seq (.region false [mv 52 5, op 53 (.bin .lss) [.slot 52, .const (.one (.int .i64 (0 : Int)))], ⟨some 54, .move, [.slot 53], [], [], none, true, .none⟩, ⟨some 55, .move, [.slot 5], [], [], some (54, false), false, .none⟩, ⟨some 56, .bin .gtr, [.slot 55, .const (.one (.int .i64 (65535 : Int)))], [], [], some (54, false), false, .none⟩, op 57 .pick [.slot 54, .const (.one (.bool true)), .slot 56]]) (.cond (.slot 57) (.seq (.region false [op 2 .move [.const (.one (.bool false))]]) (.ret)) (.skip))))) (.region false [op 58 (.bin .add) [.slot 48, .const (.one (.int .i64 (1 : Int)))], mv 48 58])))
def impl_IsFlash.c2 : XCode := .region false [op 59 (.bin .add) [.slot 16, .const (.one (.int .i64 (1 : Int)))], mv 16 59]
def impl_IsFlash.c3 : XCode := .seq (.region false [op 17 (.bin .lss) [.slot 16, .const (.one (.int .i64 (2 : Int)))]]) (.seq (.cond (.slot 17) (.skip) (.exit 0)) (.seq (.block 1 (.seq (.region false [mv 18 16, mv 3 18]) (.seq (.seq (.region false [o1 19 (.fieldAddr 0) 1, ow 20 (.load false 1) [.slot 19] [0] [], mv 21 3, o2 22 (.indexAddr (.list (.int .i64))) 20 21, o1 23 (.load false 1) 22, o1 24 .len 23, op 25 (.bin .neq) [.slot 24, .const (.one (.int .i64 (19 : Int)))], ⟨some 26, .move, [.slot 25], [], [], none, true, .none⟩, ⟨some 27, .fieldAddr 1, [.slot 1], [], [], some (26, false), false, .none⟩, ⟨some 28, .load false 1, [.slot 27], [0], [], some (26, false), false, .none⟩, ⟨some 29, .move, [.slot 3], [], [], some (26, false), false, .none⟩, ⟨some 30, .indexAddr (.int .i64), [.slot 28, .slot 29], [], [], some (26, false), false, .none⟩, ⟨some 31, .load false 1, [.slot 30], [], [], some (26, false), false, .none⟩, ⟨some 32, .bin .lss, [.slot 31, .const (.one (.int .i64 (0 : Int)))], [], [], some (26, false), false, .none⟩, op 33 .pick [.slot 26, .const (.one (.bool true)), .slot 32], ⟨some 34, .move, [.slot 33], [], [], none, true, .none⟩, ⟨some 35, .fieldAddr 1, [.slot 1], [], [], some (34, false), false, .none⟩, ⟨some 36, .load false 1, [.slot 35], [0], [], some (34, false), false, .none⟩, ⟨some 37, .move, [.slot 3], [], [], some (34, false), false, .none⟩, ⟨some 38, .indexAddr (.int .i64), [.slot 36, .slot 37], [], [], some (34, false), false, .none⟩, ⟨some 39, .load false 1, [.slot 38], [], [], some (34, false), false, .none⟩, ⟨some 40, .bin .gtr, [.slot 39, .const (.one (.int .i64 (1000 : Int)))], [], [], some (34, false), false, .none⟩, op 41 .pick [.slot 34, .const (.one (.bool true)), .slot 40]]) (.cond (.slot 41) (.seq (.region false [op 2 .move [.const (.one (.bool false))]]) (.ret)) (.skip))) (.seq (.region false [o1 42 (.fieldAddr 0) 1, ow 43 (.load false 1) [.slot 42] [0] [], mv 44 3, o2 45 (.indexAddr (.list (.int .i64))) 43 44, o1 46 (.load false 1) 45, o1 47 .len 46, op 48 .move [.const (.one (.int .i64 (0 : Int)))]]) (.block 2 (.loop [.keep [1, 16, 46, 47, 48], .norm] (impl_IsFlash.c1))))))) (impl_IsFlash.c2)))
def impl_IsFlash.c4 : XCode := .seq (.region false [op 2 .move [.const (.one (.bool true))]]) (.ret)
def impl_IsFlash.x : XFunc := { nslots := 60, nobj := 1, pars := [.val true 2], rowsIn := [none, none], rets := [.tmp 2 false 1], outs := [.imm], fresh := true, arg := .pair (.list (.list (.int .i64))) (.list (.int .i64)), ret := .bool, body := .seq (.region false [ow 1 (.box 0) [.slot 0] [0] [0], op 2 .move [.const (.one (.bool false))]]) (.seq (.seq (.region false [o1 6 (.fieldAddr 0) 1, ow 7 (.load false 1) [.slot 6] [0] [], o1 8 .len 7, op 9 (.bin .neq) [.slot 8, .const (.one (.int .i64 (2 : Int)))], ⟨some 10, .move, [.slot 9], [], [], none, true, .none⟩, ⟨some 11, .fieldAddr 1, [.slot 1], [], [], some (10, false), false, .none⟩, ⟨some 12, .load false 1, [.slot 11], [0], [], some (10, false), false, .none⟩, ⟨some 13, .len, [.slot 12], [], [], some (10, false), false, .none⟩, ⟨some 14, .bin .neq, [.slot 13, .const (.one (.int .i64 (2 : Int)))], [], [], some (10, false), false, .none⟩, op 15 .pick [.slot 10, .const (.one (.bool true)), .slot 14]]) (.cond (.slot 15) (.seq (.region false [op 2 .move [.const (.one (.bool false))]]) (.ret)) (.skip))) (.seq (.seq (.region false [op 16 .move [.const (.one (.int .i64 (0 : Int)))]]) (.block 0 (.loop [.keep [1, 16], .norm] (impl_IsFlash.c3)))) (impl_IsFlash.c4))) }
def impl_IsFlash.env (_ : Nat) : Env := envOf (tbl [] noFS)
def impl_IsFlash.F (N : Nat) (x : (List (List Int)) × List Int) : Option Bool := XFunc.run impl_IsFlash.x (impl_IsFlash.env N) N x
def impl_IsFlash.fs (N : Nat) : FS := { arg := .pair (.list (.list (.int .i64))) (.list (.int .i64)), ret := .bool, fresh := true, F := impl_IsFlash.F N }
def impl_IsFlash.k2 (N : Nat) : Ex → S → Option Bool := seqK (fun s => XCode.runK (impl_IsFlash.env N) N (impl_IsFlash.c4) s (XFunc.endK impl_IsFlash.x)) (XFunc.endK impl_IsFlash.x)
def impl_IsFlash.k1 (N : Nat) : Ex → S → Option Bool := blockK 0 (impl_IsFlash.k2 N)
def impl_IsFlash.k6 (N : Nat) (n1 : Nat) : Ex → S → Option Bool := seqK (fun s => bindO (S.ghosts s [.keep [1, 16], .norm]) fun s1 => loopK [.keep [1, 16], .norm] (fun s k => XCode.runK (impl_IsFlash.env N) N impl_IsFlash.c3 s k) n1 s1 (impl_IsFlash.k1 N)) (impl_IsFlash.k1 N)
def impl_IsFlash.k5 (N : Nat) (n1 : Nat) : Ex → S → Option Bool := seqK (fun s => XCode.runK (impl_IsFlash.env N) N (impl_IsFlash.c2) s (impl_IsFlash.k6 N n1)) (impl_IsFlash.k6 N n1)
def impl_IsFlash.k4 (N : Nat) (n1 : Nat) : Ex → S → Option Bool := blockK 1 (impl_IsFlash.k5 N n1)
def impl_IsFlash.k3 (N : Nat) (n1 : Nat) : Ex → S → Option Bool := blockK 2 (impl_IsFlash.k4 N n1)
def impl_IsFlash.L1 (N : Nat) (n1 : Nat) (t16 : Int) (o00 : List (List Int)) (o01 : List Int) : Option Bool := loopK [.keep [1, 16], .norm] (fun s k => XCode.runK (impl_IsFlash.env N) N impl_IsFlash.c3 s k) n1
  { t := [.junk, .one (.ptr 0 0 0), .junk, .junk, .junk, .junk, .junk, .junk, .junk, .junk, .junk, .junk, .junk, .junk, .junk, .junk, .one (.int .i64 t16), .junk, .junk, .junk, .junk, .junk, .junk, .junk, .junk, .junk, .junk, .junk, .junk, .junk, .junk, .junk, .junk, .junk, .junk, .junk, .junk, .junk, .junk, .junk, .junk, .junk, .junk, .junk, .junk, .junk, .junk, .junk, .junk, .junk, .junk, .junk, .junk, .junk, .junk, .junk, .junk, .junk, .junk, .junk], h := [.box 0 false [.sl false (.list (.int .i64)) o00, .sl false (.int .i64) o01]] }
  (impl_IsFlash.k1 N)
def impl_IsFlash.L2 (N : Nat) (n1 : Nat) (n2 : Nat) (t16 : Int) (t46 : List Int) (t47 : Int) (t48 : Int) (o00 : List (List Int)) (o01 : List Int) : Option Bool := loopK [.keep [1, 16, 46, 47, 48], .norm] (fun s k => XCode.runK (impl_IsFlash.env N) N impl_IsFlash.c1 s k) n2
  { t := [.junk, .one (.ptr 0 0 0), .junk, .junk, .junk, .junk, .junk, .junk, .junk, .junk, .junk, .junk, .junk, .junk, .junk, .junk, .one (.int .i64 t16), .junk, .junk, .junk, .junk, .junk, .junk, .junk, .junk, .junk, .junk, .junk, .junk, .junk, .junk, .junk, .junk, .junk, .junk, .junk, .junk, .junk, .junk, .junk, .junk, .junk, .junk, .junk, .junk, .junk, .one (.sl false (.int .i64) t46), .one (.int .i64 t47), .one (.int .i64 t48), .junk, .junk, .junk, .junk, .junk, .junk, .junk, .junk, .junk, .junk, .junk], h := [.box 0 false [.sl false (.list (.int .i64)) o00, .sl false (.int .i64) o01]] }
  (impl_IsFlash.k3 N n1)

theorem impl_IsFlash.L1_eq (N : Nat) (n1 : Nat) (t16 : Int) (o00 : List (List Int)) (o01 : List Int) : impl_IsFlash.L1 N (n1 + 1) t16 o00 o01 =
    bif decide (t16 < (2 : Int)) then
      bif inRange t16 (List.length o00) then
      bif (List.length (nth ([] : List Int) o00 t16) : Int) != (19 : Int) then
        some false
      else
        bif inRange t16 (List.length o01) then
        bif decide ((nth (0 : Int) o01 t16) < (0 : Int)) then
          some false
        else
          bif inRange t16 (List.length o01) then
          bif decide ((nth (0 : Int) o01 t16) > (1000 : Int)) then
            some false
          else
            bif inRange t16 (List.length o00) then
            impl_IsFlash.L2 N n1 N t16 (nth ([] : List Int) o00 t16) (List.length (nth ([] : List Int) o00 t16) : Int) (0 : Int) o00 o01
            else none
          else none
        else none
      else none
    else
      some true := by kernel_rfl
theorem impl_IsFlash.L2_eq (N : Nat) (n1 : Nat) (n2 : Nat) (t16 : Int) (t46 : List Int) (t47 : Int) (t48 : Int) (o00 : List (List Int)) (o01 : List Int) : impl_IsFlash.L2 N n1 (n2 + 1) t16 t46 t47 t48 o00 o01 =
    bif decide (t48 < t47) then
      bif inRange t48 (List.length t46) then
      bif decide ((nth (0 : Int) t46 t48) < (0 : Int)) then
        some false
      else
        bif decide ((nth (0 : Int) t46 t48) > (65535 : Int)) then
          some false
        else
          impl_IsFlash.L2 N n1 n2 t16 t46 t47 (IntKind.wrap .i64 (t48 + (1 : Int))) o00 o01
      else none
    else
      impl_IsFlash.L1 N n1 (IntKind.wrap .i64 (t16 + (1 : Int))) o00 o01 := by kernel_rfl
theorem impl_IsFlash.F_eq (N : Nat) (f : (List (List Int)) × List Int) : impl_IsFlash.F N f =
    bif (List.length f.1 : Int) != (2 : Int) then
      some false
    else
      bif (List.length f.2 : Int) != (2 : Int) then
        some false
      else
        impl_IsFlash.L1 N N (0 : Int) f.1 f.2 := by kernel_rfl

def laws_eqIntSS.c1 : XCode := .seq (.seq (.region false [mv 11 5, mv 12 0, o1 13 .len 12, o2 14 (.bin .lss) 11 13]) (.cond (.slot 14) (.skip) (.exit 0))) (.seq (.block 1 (.seq (.region true [mv 17 0, mv 18 5, o2 19 (.indexAddr (.list (.int .i64))) 17 18, o1 20 (.load false 1) 19, mv 21 1, mv 22 5, o2 23 (.indexAddr (.list (.int .i64))) 21 22, o1 24 (.load false 1) 23, o2 25 (.call ⟨239, vs 2, no 2, [.val false 1], ims 1, true⟩) 20 24, o1 26 .not 25]) (.cond (.slot 26) (.seq (.region false [op 4 .move [.const (.one (.bool false))]]) (.ret)) (.skip)))) (.region false [mv 15 5, op 16 (.bin .add) [.slot 15, .const (.one (.int .i64 (1 : Int)))], mv 5 16]))
def laws_eqIntSS.c2 : XCode := .seq (.region false [op 4 .move [.const (.one (.bool true))]]) (.ret)
def laws_eqIntSS.x : XFunc := { nslots := 27, nobj := 0, pars := [.val false 1, .val false 1], rowsIn := [none, none], rets := [.tmp 4 false 1], outs := [.imm], fresh := true, arg := .pair (.list (.list (.int .i64))) (.list (.list (.int .i64))), ret := .bool, body := .seq (.region false [op 4 .move [.const (.one (.bool false))]]) (.seq (.seq (.region false [mv 6 0, o1 7 .len 6, mv 8 1, o1 9 .len 8, o2 10 (.bin .neq) 7 9]) (.cond (.slot 10) (.seq (.region false [op 4 .move [.const (.one (.bool false))]]) (.ret)) (.skip))) (.seq (.seq (.region false [op 5 .move [.const (.one (.int .i64 (0 : Int)))]]) (.block 0 (.loop [.keep [0, 1, 5], .norm] (laws_eqIntSS.c1)))) (laws_eqIntSS.c2))) }
def laws_eqIntSS.env (N : Nat) : Env := envOf (tbl [(239, laws_eqIntS.fs N)] noFS)
def laws_eqIntSS.F (N : Nat) (x : (List (List Int)) × List (List Int)) : Option Bool := XFunc.run laws_eqIntSS.x (laws_eqIntSS.env N) N x
def laws_eqIntSS.fs (N : Nat) : FS := { arg := .pair (.list (.list (.int .i64))) (.list (.list (.int .i64))), ret := .bool, fresh := true, F := laws_eqIntSS.F N }
def laws_eqIntSS.k2 (N : Nat) : Ex → S → Option Bool := seqK (fun s => XCode.runK (laws_eqIntSS.env N) N (laws_eqIntSS.c2) s (XFunc.endK laws_eqIntSS.x)) (XFunc.endK laws_eqIntSS.x)
def laws_eqIntSS.k1 (N : Nat) : Ex → S → Option Bool := blockK 0 (laws_eqIntSS.k2 N)
def laws_eqIntSS.L1 (N : Nat) (n1 : Nat) (a : List (List Int)) (b : List (List Int)) (i : Int) : Option Bool := loopK [.keep [0, 1, 5], .norm] (fun s k => XCode.runK (laws_eqIntSS.env N) N laws_eqIntSS.c1 s k) n1
  { t := [.one (.sl false (.list (.int .i64)) a), .one (.sl false (.list (.int .i64)) b), .junk, .junk, .junk, .one (.int .i64 i), .junk, .junk, .junk, .junk, .junk, .junk, .junk, .junk, .junk, .junk, .junk, .junk, .junk, .junk, .junk, .junk, .junk, .junk, .junk, .junk, .junk], h := [] }
  (laws_eqIntSS.k1 N)

theorem laws_eqIntSS.L1_eq (N : Nat) (n1 : Nat) (a : List (List Int)) (b : List (List Int)) (i : Int) : laws_eqIntSS.L1 N (n1 + 1) a b i =
    bif decide (i < (List.length a : Int)) then
      bif inRange i (List.length a) then
      bif inRange i (List.length b) then
      bindO (laws_eqIntS.F N (nth ([] : List Int) a i, nth ([] : List Int) b i)) fun r1 =>
      bif !r1 then
        some false
      else
        laws_eqIntSS.L1 N n1 a b (IntKind.wrap .i64 (i + (1 : Int)))
      else none
      else none
    else
      some true := by kernel_rfl
theorem laws_eqIntSS.F_eq (N : Nat) (a : List (List Int)) (b : List (List Int)) : laws_eqIntSS.F N (a, b) =
    bif (List.length a : Int) != (List.length b : Int) then
      some false
    else
      laws_eqIntSS.L1 N N a b (0 : Int) := by kernel_rfl

def laws_eqFlash.x : XFunc := { nslots := 17, nobj := 2, pars := [.val true 2, .val true 2], rowsIn := [none, none, none, none], rets := [.tmp 4 false 1], outs := [.imm], fresh := true, arg := .pair (.pair (.list (.list (.int .i64))) (.list (.int .i64))) (.pair (.list (.list (.int .i64))) (.list (.int .i64))), ret := .bool, body := .seq (.region false [ow 2 (.box 0) [.slot 0] [0] [0], ow 3 (.box 1) [.slot 1] [1] [1], op 4 .move [.const (.one (.bool false))]]) (.seq (.seq (.region false [o1 5 (.fieldAddr 0) 2, ow 6 (.load false 1) [.slot 5] [0] [], o1 7 (.fieldAddr 0) 3, ow 8 (.load false 1) [.slot 7] [1] [], o2 9 (.call ⟨240, vs 2, no 2, [.val false 1], ims 1, true⟩) 6 8, o1 10 .not 9]) (.cond (.slot 10) (.seq (.region false [op 4 .move [.const (.one (.bool false))]]) (.ret)) (.skip))) (.seq (.seq (.region false [o1 11 (.fieldAddr 1) 2, ow 12 (.load false 1) [.slot 11] [0] [], o1 13 (.fieldAddr 1) 3, ow 14 (.load false 1) [.slot 13] [1] [], o2 15 (.call ⟨239, vs 2, no 2, [.val false 1], ims 1, true⟩) 12 14, o1 16 .not 15]) (.cond (.slot 16) (.seq (.region false [op 4 .move [.const (.one (.bool false))]]) (.ret)) (.skip))) (.seq (.region false [op 4 .move [.const (.one (.bool true))]]) (.ret)))) }
def laws_eqFlash.env (N : Nat) : Env := envOf (tbl [(239, laws_eqIntS.fs N), (240, laws_eqIntSS.fs N)] noFS)
def laws_eqFlash.F (N : Nat) (x : ((List (List Int)) × List Int) × (List (List Int)) × List Int) : Option Bool := XFunc.run laws_eqFlash.x (laws_eqFlash.env N) N x
def laws_eqFlash.fs (N : Nat) : FS := { arg := .pair (.pair (.list (.list (.int .i64))) (.list (.int .i64))) (.pair (.list (.list (.int .i64))) (.list (.int .i64))), ret := .bool, fresh := true, F := laws_eqFlash.F N }

theorem laws_eqFlash.F_eq (N : Nat) (a : (List (List Int)) × List Int) (b : (List (List Int)) × List Int) : laws_eqFlash.F N (a, b) =
    bindO (laws_eqIntSS.F N (a.1, b.1)) fun r1 =>
    bif !r1 then
      some false
    else
      bindO (laws_eqIntS.F N (a.2, b.2)) fun r2 =>
      bif !r2 then
        some false
      else
        some true := by kernel_rfl

end Go.Kb
