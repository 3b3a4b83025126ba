/- The texts of functions, printed by a program, and the equations of their runs. -/
import Derived.Test.YticidpdbkjgebabGreatExactWaitUntilP0toF3
import Derived.Test.YticidpdbkjgebabGreatExactWaitUntilF4
import Derived.Test.YticidpdbkjgebabGreatExactWaitUntilP15toP90
import Derived.Test.YticidpdbkjgebabGreatExactWaitUntilP93toF8
import Derived.Test.YticidpdbkjgebabGreatExactWaitUntilF30
import Derived.KernelRfl
namespace Go.Kb
abbrev yp : Ty := .pair (.int .i64) (.pair (.int .i64) (.int .i64))
abbrev ym : Ty := .pair (.int .i64) yp
abbrev T3_33 : Ty := .pair (.int .i64) (.pair (.list (.pair (.int .i64) ym)) (.pair (.int .i64) (.bool)))
abbrev T4_33 : Ty := .pair (.pair (.int .i64) (.list (.list ym))) (.pair (.list (.list yp)) T3_33)
abbrev T5_33 : Ty := .pair yp (.pair (.list (.pair (.int .i64) (.pair (.int .i64) (.bool)))) ym)
abbrev zBk : Ty := .pair (.int .i64) (.hnd (.int .i64))
abbrev T7_33 : Ty := .pair (.pair (.int .i64) (.list (.hnd ym))) (.pair (.list (.hnd yp)) T3_33)
abbrev zBN : Ty := .pair (.int .i64) ym
abbrev T9_33 : Ty := .pair (.int .i64) (.pair (.int .i64) (.list (.int .i64)))
abbrev zCN : Ty := .pair (.int .i64) zBk
abbrev T11_33 : Ty := .pair (.int .i64) (.list (.list ym))
abbrev T12_33 : Ty := .pair (.int .i64) (.pair (.int .i64) (.bool))
abbrev zCM : Ty := .pair (.int .i64) (.int .i64)
abbrev T14_33 : Ty := .list (.list ym)
abbrev T15_33 : Ty := .list (.list yp)
abbrev D16_33 : Type := (Int × List (List (Int × Int × Int × Int))) × (List (List (Int × Int × Int))) × Int × (List (Int × Int × Int × Int × Int)) × Int × Bool
abbrev ye : Type := List (Int × Int × Int × Int)
abbrev D18_33 : Type := (Int × List Hnd) × (List Hnd) × Int × (List (Int × Int × Int × Int × Int)) × Int × Bool
abbrev yq : Type := List (Int × Int × Int)
abbrev zA0 : Type := List (Int × Int × Int × Int × Int)
abbrev D21_33 : Type := List (Int × Int × Bool)
abbrev D22_33 : Type := D18_33 × (Int × Int × Int) × D21_33 × Int × Int × Int × Int
abbrev zCB : Type := D16_33 × (Int × Int × Int) × D21_33 × Int × Int × Int × Int
abbrev D24_33 : Type := (List Hnd) × List HRow
abbrev D25_33 : Type := (List (Int × Hnd)) × List HRow
abbrev zBv : Type := List (Int × Int × Hnd)
def zAN.x : XFunc := xF 12 0 [.val false 1, .val false 1] (no 2) [.tmp 4 false 1] [.imm] true (.pair (.list ym) (.int .i64)) (.int .i64) <| .seq (rG [op 4 .move [cI 0]]) (.seq (rG [mv 5 1, mv 6 0, o1 7 .len 6, o2 8 (.bin .sub) 5 7, mv 1 8]) (.seq (.seq (rG [mv 9 1, op 10 (.bin .lss) [.slot 9, cI 0]]) (.cond (.slot 10) (.seq (rG [op 4 .move [cI (-1)]]) (.ret)) (.skip))) (.seq (rG [mv 11 1, mv 4 11]) (.ret))))
def zAN.env (_ : Nat) : Env := envOf (tbl [] noFS)
def zAN.F (N : Nat) (x : ye × Int) : Option Int := XFunc.run zAN.x (zAN.env N) N x
def zAN.fs (N : Nat) : FS := fS zAN.x true (zAN.F N)
theorem zAN.F_eq (N : Nat) (a : ye) (left : Int) : zAN.F N (a, left) =
bif decide ((IntKind.wrap .i64 (left - (a.length : Int))) < 0) then
some (-1 : Int)
else
some (IntKind.wrap .i64 (left - (a.length : Int))) := by kernel_rfl
def zl.c1 : XCode := .seq (.seq (rG [mv 12 5, mv 13 0, o1 14 .len 13, o2 15 (.bin .lss) 12 14]) (cX 15 0)) (.seq (.block 1 (.seq (rG [mv 18 0, mv 19 5, o2 20 (.indexAddr (.list ym)) 18 19, o1 21 (.load false 1) 20, mv 22 1, o2 23 (cO 422 (vs 2) 2 true) 21 22, mv 1 23]) (.seq (rG [mv 24 1, op 25 (.bin .lss) [.slot 24, cI 0]]) (.cond (.slot 25) (.seq (rG [op 4 .move [cI (-1)]]) (.ret)) (.skip))))) (rG [mv 16 5, op 17 (.bin .add) [.slot 16, cI 1], mv 5 17]))
def zl.c2 : XCode := .seq (rG [mv 26 1, mv 4 26]) (.ret)
def zl.x : XFunc := xF 27 0 [.val false 1, .val false 1] (no 2) [.tmp 4 false 1] [.imm] true (.pair T14_33 (.int .i64)) (.int .i64) <| .seq (rG [op 4 .move [cI 0]]) (.seq (rG [mv 6 1, mv 7 0, o1 8 .len 7, o2 9 (.bin .sub) 6 8, mv 1 9]) (.seq (.seq (rG [mv 10 1, op 11 (.bin .lss) [.slot 10, cI 0]]) (.cond (.slot 11) (.seq (rG [op 4 .move [cI (-1)]]) (.ret)) (.skip))) (.seq (.seq (rG [op 5 .move [cI 0]]) (.block 0 (.loop [.keep [0, 1, 5], .norm] (zl.c1)))) (zl.c2))))
def zl.env (N : Nat) : Env := envOf (tbl [(422, zAN.fs N)] noFS)
def zl.F (N : Nat) (x : (List ye) × Int) : Option Int := XFunc.run zl.x (zl.env N) N x
def zl.fs (N : Nat) : FS := fS zl.x true (zl.F N)
def zl.k2 (N : Nat) : Ex -> S -> Option Int := seqK (fun s => XCode.runK (zl.env N) N (zl.c2) s (XFunc.endK zl.x)) (XFunc.endK zl.x)
def zl.k1 (N : Nat) : Ex -> S -> Option Int := y7 0 (zl.k2 N)
def zl.L1 (N : Nat) (n1 : Nat) (a : List ye) (left : Int) (i : Int) : Option Int := loopK [.keep [0, 1, 5], .norm] (rK (zl.env N) N zl.c1) n1
 { t := jK 27 [(0, .one (.sl false (.list ym) a)), (1, .one (.int .i64 left)), (5, .one (.int .i64 i))], h := [] }
 (zl.k1 N)
theorem zl.L1_eq (N : Nat) (n1 : Nat) (a : List ye) (left : Int) (i : Int) : zl.L1 N (n1 + 1) a left i =
bif decide (i < (a.length : Int)) then
bif zG i (a.length) then
bindO (zAN.F N (nth ([] : List (Int × Int × Int × Int)) a i, left)) fun r1 =>
bif decide (r1 < 0) then
some (-1 : Int)
else
zl.L1 N n1 a r1 (IntKind.wrap .i64 (i + 1))
else none
else
some left := by kernel_rfl
theorem zl.F_eq (N : Nat) (a : List ye) (left : Int) : zl.F N (a, left) =
bif decide ((IntKind.wrap .i64 (left - (a.length : Int))) < 0) then
some (-1 : Int)
else
zl.L1 N N a (IntKind.wrap .i64 (left - (a.length : Int))) 0 := by kernel_rfl
def zAj.x : XFunc := xF 12 1 [.val true 2, .val false 1] (no 3) [.tmp 4 false 1] [.imm] true (.pair T11_33 (.int .i64)) (.int .i64) <| .seq (rG [ow 2 (.box 0) [.slot 0] [0] [0], op 4 .move [cI 0]]) (.seq (rG [fA 5 1 2, lN 6 5 0, mv 7 1, o2 8 (cO 423 (vs 2) 2 true) 6 7, mv 1 8]) (.seq (.seq (rG [mv 9 1, op 10 (.bin .lss) [.slot 9, cI 0]]) (.cond (.slot 10) (.seq (rG [op 4 .move [cI (-1)]]) (.ret)) (.skip))) (.seq (rG [mv 11 1, mv 4 11]) (.ret))))
def zAj.env (N : Nat) : Env := envOf (tbl [(423, zl.fs N)] noFS)
def zAj.F (N : Nat) (x : (Int × List ye) × Int) : Option Int := XFunc.run zAj.x (zAj.env N) N x
def zAj.fs (N : Nat) : FS := fS zAj.x true (zAj.F N)
theorem zAj.F_eq (N : Nat) (a : Int × List ye) (left : Int) : zAj.F N (a, left) =
bindO (zl.F N (a.2, left)) fun r1 =>
bif decide (r1 < 0) then
some (-1 : Int)
else
some r1 := by kernel_rfl
def zAo.x : XFunc := xF 12 0 [.val false 1, .val false 1] (no 2) [.tmp 4 false 1] [.imm] true (.pair (.list yp) (.int .i64)) (.int .i64) <| .seq (rG [op 4 .move [cI 0]]) (.seq (rG [mv 5 1, mv 6 0, o1 7 .len 6, o2 8 (.bin .sub) 5 7, mv 1 8]) (.seq (.seq (rG [mv 9 1, op 10 (.bin .lss) [.slot 9, cI 0]]) (.cond (.slot 10) (.seq (rG [op 4 .move [cI (-1)]]) (.ret)) (.skip))) (.seq (rG [mv 11 1, mv 4 11]) (.ret))))
def zAo.env (_ : Nat) : Env := envOf (tbl [] noFS)
def zAo.F (N : Nat) (x : yq × Int) : Option Int := XFunc.run zAo.x (zAo.env N) N x
def zAo.fs (N : Nat) : FS := fS zAo.x true (zAo.F N)
theorem zAo.F_eq (N : Nat) (a : yq) (left : Int) : zAo.F N (a, left) =
bif decide ((IntKind.wrap .i64 (left - (a.length : Int))) < 0) then
some (-1 : Int)
else
some (IntKind.wrap .i64 (left - (a.length : Int))) := by kernel_rfl
def yD.c1 : XCode := .seq (.seq (rG [mv 12 5, mv 13 0, o1 14 .len 13, o2 15 (.bin .lss) 12 14]) (cX 15 0)) (.seq (.block 1 (.seq (rG [mv 18 0, mv 19 5, o2 20 (.indexAddr (.list yp)) 18 19, o1 21 (.load false 1) 20, mv 22 1, o2 23 (cO 425 (vs 2) 2 true) 21 22, mv 1 23]) (.seq (rG [mv 24 1, op 25 (.bin .lss) [.slot 24, cI 0]]) (.cond (.slot 25) (.seq (rG [op 4 .move [cI (-1)]]) (.ret)) (.skip))))) (rG [mv 16 5, op 17 (.bin .add) [.slot 16, cI 1], mv 5 17]))
def yD.c2 : XCode := .seq (rG [mv 26 1, mv 4 26]) (.ret)
def yD.x : XFunc := xF 27 0 [.val false 1, .val false 1] (no 2) [.tmp 4 false 1] [.imm] true (.pair T15_33 (.int .i64)) (.int .i64) <| .seq (rG [op 4 .move [cI 0]]) (.seq (rG [mv 6 1, mv 7 0, o1 8 .len 7, o2 9 (.bin .sub) 6 8, mv 1 9]) (.seq (.seq (rG [mv 10 1, op 11 (.bin .lss) [.slot 10, cI 0]]) (.cond (.slot 11) (.seq (rG [op 4 .move [cI (-1)]]) (.ret)) (.skip))) (.seq (.seq (rG [op 5 .move [cI 0]]) (.block 0 (.loop [.keep [0, 1, 5], .norm] (yD.c1)))) (yD.c2))))
def yD.env (N : Nat) : Env := envOf (tbl [(425, zAo.fs N)] noFS)
def yD.F (N : Nat) (x : (List yq) × Int) : Option Int := XFunc.run yD.x (yD.env N) N x
def yD.fs (N : Nat) : FS := fS yD.x true (yD.F N)
def yD.k2 (N : Nat) : Ex -> S -> Option Int := seqK (fun s => XCode.runK (yD.env N) N (yD.c2) s (XFunc.endK yD.x)) (XFunc.endK yD.x)
def yD.k1 (N : Nat) : Ex -> S -> Option Int := y7 0 (yD.k2 N)
def yD.L1 (N : Nat) (n1 : Nat) (a : List yq) (left : Int) (i : Int) : Option Int := loopK [.keep [0, 1, 5], .norm] (rK (yD.env N) N yD.c1) n1
 { t := jK 27 [(0, .one (.sl false (.list yp) a)), (1, .one (.int .i64 left)), (5, .one (.int .i64 i))], h := [] }
 (yD.k1 N)
theorem yD.L1_eq (N : Nat) (n1 : Nat) (a : List yq) (left : Int) (i : Int) : yD.L1 N (n1 + 1) a left i =
bif decide (i < (a.length : Int)) then
bif zG i (a.length) then
bindO (zAo.F N (nth ([] : List (Int × Int × Int)) a i, left)) fun r1 =>
bif decide (r1 < 0) then
some (-1 : Int)
else
yD.L1 N n1 a r1 (IntKind.wrap .i64 (i + 1))
else none
else
some left := by kernel_rfl
theorem yD.F_eq (N : Nat) (a : List yq) (left : Int) : yD.F N (a, left) =
bif decide ((IntKind.wrap .i64 (left - (a.length : Int))) < 0) then
some (-1 : Int)
else
yD.L1 N N a (IntKind.wrap .i64 (left - (a.length : Int))) 0 := by kernel_rfl
def zAu.x : XFunc := xF 12 0 [.val false 1, .val false 1] (no 2) [.tmp 4 false 1] [.imm] true (.pair (.list zBN) (.int .i64)) (.int .i64) <| .seq (rG [op 4 .move [cI 0]]) (.seq (rG [mv 5 1, mv 6 0, o1 7 .len 6, o2 8 (.bin .sub) 5 7, mv 1 8]) (.seq (.seq (rG [mv 9 1, op 10 (.bin .lss) [.slot 9, cI 0]]) (.cond (.slot 10) (.seq (rG [op 4 .move [cI (-1)]]) (.ret)) (.skip))) (.seq (rG [mv 11 1, mv 4 11]) (.ret))))
def zAu.env (_ : Nat) : Env := envOf (tbl [] noFS)
def zAu.F (N : Nat) (x : zA0 × Int) : Option Int := XFunc.run zAu.x (zAu.env N) N x
def zAu.fs (N : Nat) : FS := fS zAu.x true (zAu.F N)
theorem zAu.F_eq (N : Nat) (a : zA0) (left : Int) : zAu.F N (a, left) =
bif decide ((IntKind.wrap .i64 (left - (a.length : Int))) < 0) then
some (-1 : Int)
else
some (IntKind.wrap .i64 (left - (a.length : Int))) := by kernel_rfl
def zAk.x : XFunc := xF 24 1 [.val true 7, .val false 1] (no 8) [.tmp 4 false 1] [.imm] true (.pair T4_33 (.int .i64)) (.int .i64) <| .seq (rG [ow 2 (.box 0) [.slot 0] [0] [0], op 4 .move [cI 0]]) (.seq (rG [fA 5 0 2, lU 6 2 5 0, mv 7 1, o2 8 (cO 424 [.val true 2, .val false 1] 3 true) 6 7, mv 1 8]) (.seq (.seq (rG [mv 9 1, op 10 (.bin .lss) [.slot 9, cI 0]]) (.cond (.slot 10) (.seq (rG [op 4 .move [cI (-1)]]) (.ret)) (.skip))) (.seq (rG [fA 11 2 2, lN 12 11 0, mv 13 1, o2 14 (cO 426 (vs 2) 2 true) 12 13, mv 1 14]) (.seq (.seq (rG [mv 15 1, op 16 (.bin .lss) [.slot 15, cI 0]]) (.cond (.slot 16) (.seq (rG [op 4 .move [cI (-1)]]) (.ret)) (.skip))) (.seq (rG [fA 17 4 2, lN 18 17 0, mv 19 1, o2 20 (cO 427 (vs 2) 2 true) 18 19, mv 1 20]) (.seq (.seq (rG [mv 21 1, op 22 (.bin .lss) [.slot 21, cI 0]]) (.cond (.slot 22) (.seq (rG [op 4 .move [cI (-1)]]) (.ret)) (.skip))) (.seq (rG [mv 23 1, mv 4 23]) (.ret))))))))
def zAk.env (N : Nat) : Env := envOf (tbl [(427, zAu.fs N), (424, zAj.fs N), (426, yD.fs N)] noFS)
def zAk.F (N : Nat) (x : D16_33 × Int) : Option Int := XFunc.run zAk.x (zAk.env N) N x
def zAk.fs (N : Nat) : FS := fS zAk.x true (zAk.F N)
theorem zAk.F_eq (N : Nat) (a : (Int × List ye) × (List yq) × Int × zA0 × Int × Bool) (left : Int) : zAk.F N (a, left) =
bindO (zAj.F N (a.1, left)) fun r1 =>
bif decide (r1 < 0) then
some (-1 : Int)
else
bindO (yD.F N (a.2.1, r1)) fun r2 =>
bif decide (r2 < 0) then
some (-1 : Int)
else
bindO (zAu.F N (a.2.2.2.1, r2)) fun r3 =>
bif decide (r3 < 0) then
some (-1 : Int)
else
some r3 := by kernel_rfl
def zAW.x : XFunc := xF 18 1 [.val true 15, .val false 1] (no 16) [.tmp 4 false 1] [.imm] true (.pair (.pair T4_33 T5_33) (.int .i64)) (.int .i64) <| .seq (rG [ow 2 (.box 0) [.slot 0] [0] [0], op 4 .move [cI 0]]) (.seq (rG [fA 5 0 2, lU 6 7 5 0, mv 7 1, o2 8 (cO 428 [.val true 7, .val false 1] 8 true) 6 7, mv 1 8]) (.seq (.seq (rG [mv 9 1, op 10 (.bin .lss) [.slot 9, cI 0]]) (.cond (.slot 10) (.seq (rG [op 4 .move [cI (-1)]]) (.ret)) (.skip))) (.seq (rG [fA 11 10 2, lN 12 11 0, mv 13 1, o2 14 (cO 123 (vs 2) 2 true) 12 13, mv 1 14]) (.seq (.seq (rG [mv 15 1, op 16 (.bin .lss) [.slot 15, cI 0]]) (.cond (.slot 16) (.seq (rG [op 4 .move [cI (-1)]]) (.ret)) (.skip))) (.seq (rG [mv 17 1, mv 4 17]) (.ret))))))
def zAW.env (N : Nat) : Env := envOf (tbl [(428, zAk.fs N), (123, zAe.fs N)] noFS)
def zAW.F (N : Nat) (x : zCB × Int) : Option Int := XFunc.run zAW.x (zAW.env N) N x
def zAW.fs (N : Nat) : FS := fS zAW.x true (zAW.F N)
theorem zAW.F_eq (N : Nat) (a : zCB) (left : Int) : zAW.F N (a, left) =
bindO (zAk.F N (a.1, left)) fun r1 =>
bif decide (r1 < 0) then
some (-1 : Int)
else
bindO (zAe.F N (a.2.2.1, r1)) fun r2 =>
bif decide (r2 < 0) then
some (-1 : Int)
else
some r2 := by kernel_rfl
def y9.x : XFunc := xF 17 3 [.val true 4] (no 4) [.var 2 true 4] (iF 4) true (.pair (.int .i64) yp) (.pair (.int .i64) yp) <| .seq (rG [ow 1 (.box 0) [.slot 0] [0] [0], ow 2 (.alloc 1 [cZ, cZ, cZ, cZ]) [] [1] [1]]) (.seq (rG [ow 3 (.alloc 2 [cZ, cZ, cZ, cZ]) [] [2] [2]]) (.seq (rG [fA 4 0 1, lN 5 4 0, fA 6 0 3, sT 1 6 5 2]) (.seq (rG [fA 7 1 1, lN 8 7 0, fA 9 1 3, sT 1 9 8 2]) (.seq (rG [fA 10 2 1, lN 11 10 0, fA 12 2 3, sT 1 12 11 2]) (.seq (rG [fA 13 3 1, lN 14 13 0, fA 15 3 3, sT 1 15 14 2]) (.seq (rG [lU 16 4 3 2, sT 4 2 16 1]) (.ret)))))))
def y9.env (_ : Nat) : Env := envOf (tbl [] noFS)
def y9.F (N : Nat) (x : Int × Int × Int × Int) : Option (Int × Int × Int × Int) := XFunc.run y9.x (y9.env N) N x
def y9.fs (N : Nat) : FS := fS y9.x true (y9.F N)
theorem y9.F_eq (N : Nat) (a : Int × Int × Int × Int) : y9.F N a =
some a := by kernel_rfl
def zg.c1 : XCode := .seq (.seq (rG [mv 8 4, mv 9 0, o1 10 .len 9, o2 11 (.bin .lss) 8 10]) (cX 11 0)) (.seq (.block 1 (rG [mv 14 3, mv 15 4, mv 16 0, mv 17 4, o2 18 (.indexAddr ym) 16 17, o1 19 (.load true 4) 18, o1 20 (.call ⟨430, [.val true 4], no 4, [.val true 4], ims 4, true⟩) 19, ow 21 (.indexAddr ym) (sl [14, 15]) [0] [], sT 4 21 20 0])) (rG [mv 12 4, op 13 (.bin .add) [.slot 12, cI 1], mv 4 13]))
def zg.c2 : XCode := .seq (rG [mv 22 3, mv 2 22]) (.ret)
def zg.x : XFunc := xF 23 1 [.val false 1] [none] [.tmp 2 false 1] [.own 8] true (.list ym) (.list ym) <| .seq (rG [op 2 .move [.const (.one (.nil))]]) (.seq (rG [mv 5 0, o1 6 .len 5, ow 7 (.makeSlice 0 8 ym) (sl [6, 6]) [0] [0], mv 3 7]) (.seq (.seq (rG [op 4 .move [cI 0]]) (.block 0 (.loop [.keep [0, 3, 4], .norm] (zg.c1)))) (zg.c2)))
def zg.env (N : Nat) : Env := envOf (tbl [(430, y9.fs N)] noFS)
def zg.F (N : Nat) (x : ye) : Option ye := XFunc.run zg.x (zg.env N) N x
def zg.fs (N : Nat) : FS := fS zg.x true (zg.F N)
def zg.k2 (N : Nat) : Ex -> S -> Option ye := seqK (fun s => XCode.runK (zg.env N) N (zg.c2) s (XFunc.endK zg.x)) (XFunc.endK zg.x)
def zg.k1 (N : Nat) : Ex -> S -> Option ye := y7 0 (zg.k2 N)
def zg.L1 (N : Nat) (n1 : Nat) (a : ye) (i : Int) (o0 : ye) : Option ye := loopK [.keep [0, 3, 4], .norm] (rK (zg.env N) N zg.c1) n1
 { t := jK 23 [(0, .one (.sl false ym a)), (3, .one (.ref 0 0 .all)), (4, .one (.int .i64 i))], h := [.row 0 false true 8 ym o0] }
 (zg.k1 N)
theorem zg.L1_eq (N : Nat) (n1 : Nat) (a : ye) (i : Int) (o0 : ye) : zg.L1 N (n1 + 1) a i o0 =
bif decide (i < (a.length : Int)) then
bif zG i (a.length) then
bindO (y9.F N ((nth (0, (0, (0, 0))) a i).1, (((nth (0, (0, (0, 0))) a i).2).1, (((nth (0, (0, (0, 0))) a i).2).2)))) fun r1 =>
bif zG i (o0.length) then
zg.L1 N n1 a (IntKind.wrap .i64 (i + 1)) (List.set o0 (Int.toNat i) r1)
else none
else none
else
some o0 := by kernel_rfl
theorem zg.F_eq (N : Nat) (a : ye) : zg.F N a =
bif decide (0 <= (a.length : Int)) && decide ((a.length : Int) <= (maxN : Int)) then
zg.L1 N N a 0 (List.replicate (Int.toNat (a.length : Int)) (0, (0, (0, 0))))
else none := by kernel_rfl
def zk.c1 : XCode := .seq (.seq (rG [mv 8 4, mv 9 0, o1 10 .len 9, o2 11 (.bin .lss) 8 10]) (cX 11 0)) (.seq (.block 1 (rG [mv 14 3, mv 15 4, mv 16 0, mv 17 4, o2 18 (.indexAddr (.list ym)) 16 17, o1 19 (.load false 1) 18, o1 20 (cO 431 (vs 1) 1 true) 19, ow 21 (.indexAddr (.list ym)) (sl [14, 15]) [0] [], sT 1 21 20 0])) (rG [mv 12 4, op 13 (.bin .add) [.slot 12, cI 1], mv 4 13]))
def zk.c2 : XCode := .seq (rG [mv 22 3, mv 2 22]) (.ret)
def zk.x : XFunc := xF 23 1 [.val false 1] [none] [.tmp 2 false 1] [.own 9] true (.list (.list ym)) (.list (.list ym)) <| .seq (rG [op 2 .move [.const (.one (.nil))]]) (.seq (rG [mv 5 0, o1 6 .len 5, ow 7 (.makeSlice 0 9 (.list ym)) (sl [6, 6]) [0] [0], mv 3 7]) (.seq (.seq (rG [op 4 .move [cI 0]]) (.block 0 (.loop [.keep [0, 3, 4], .norm] (zk.c1)))) (zk.c2)))
def zk.env (N : Nat) : Env := envOf (tbl [(431, zg.fs N)] noFS)
def zk.F (N : Nat) (x : List ye) : Option (List ye) := XFunc.run zk.x (zk.env N) N x
def zk.fs (N : Nat) : FS := fS zk.x true (zk.F N)
def zk.k2 (N : Nat) : Ex -> S -> Option (List ye) := seqK (fun s => XCode.runK (zk.env N) N (zk.c2) s (XFunc.endK zk.x)) (XFunc.endK zk.x)
def zk.k1 (N : Nat) : Ex -> S -> Option (List ye) := y7 0 (zk.k2 N)
def zk.L1 (N : Nat) (n1 : Nat) (a : List ye) (i : Int) (o0 : List ye) : Option (List ye) := loopK [.keep [0, 3, 4], .norm] (rK (zk.env N) N zk.c1) n1
 { t := jK 23 [(0, .one (.sl false (.list ym) a)), (3, .one (.ref 0 0 .all)), (4, .one (.int .i64 i))], h := [.row 0 false true 9 (.list ym) o0] }
 (zk.k1 N)
theorem zk.L1_eq (N : Nat) (n1 : Nat) (a : List ye) (i : Int) (o0 : List ye) : zk.L1 N (n1 + 1) a i o0 =
bif decide (i < (a.length : Int)) then
bif zG i (a.length) then
bindO (zg.F N (nth ([] : List (Int × Int × Int × Int)) a i)) fun r1 =>
bif zG i (o0.length) then
zk.L1 N n1 a (IntKind.wrap .i64 (i + 1)) (List.set o0 (Int.toNat i) r1)
else none
else none
else
some o0 := by kernel_rfl
theorem zk.F_eq (N : Nat) (a : List ye) : zk.F N a =
bif decide (0 <= (a.length : Int)) && decide ((a.length : Int) <= (maxN : Int)) then
zk.L1 N N a 0 (List.replicate (Int.toNat (a.length : Int)) ([] : List (Int × Int × Int × Int)))
else none := by kernel_rfl
def zAh.x : XFunc := xF 12 3 [.val true 2] (no 2) [.var 2 true 2] (iF 2) true (.pair (.int .i64) T14_33) (.pair (.int .i64) T14_33) <| .seq (rG [ow 1 (.box 0) [.slot 0] [0] [0], ow 2 (.alloc 1 [cZ, .nil]) [] [1] [1]]) (.seq (rG [ow 3 (.alloc 2 [cZ, .nil]) [] [2] [2]]) (.seq (rG [fA 4 0 1, lN 5 4 0, fA 6 0 3, sT 1 6 5 2]) (.seq (rG [fA 7 1 1, lN 8 7 0, o1 9 (cO 432 (vs 1) 1 true) 8, fA 10 1 3, sT 1 10 9 2]) (.seq (rG [lU 11 2 3 2, sT 2 2 11 1]) (.ret)))))
def zAh.env (N : Nat) : Env := envOf (tbl [(432, zk.fs N)] noFS)
def zAh.F (N : Nat) (x : Int × List ye) : Option (Int × List ye) := XFunc.run zAh.x (zAh.env N) N x
def zAh.fs (N : Nat) : FS := fS zAh.x true (zAh.F N)
theorem zAh.F_eq (N : Nat) (a : Int × List ye) : zAh.F N a =
bindO (zk.F N a.2) fun r1 =>
some (a.1, r1) := by kernel_rfl
def zA5.x : XFunc := xF 14 3 [.val true 3] (no 3) [.var 2 true 3] (iF 3) true (.pair (.int .i64) zCM) (.pair (.int .i64) zCM) <| .seq (rG [ow 1 (.box 0) [.slot 0] [0] [0], ow 2 (.alloc 1 [cZ, cZ, cZ]) [] [1] [1]]) (.seq (rG [ow 3 (.alloc 2 [cZ, cZ, cZ]) [] [2] [2]]) (.seq (rG [fA 4 0 1, lN 5 4 0, fA 6 0 3, sT 1 6 5 2]) (.seq (rG [fA 7 1 1, lN 8 7 0, fA 9 1 3, sT 1 9 8 2]) (.seq (rG [fA 10 2 1, lN 11 10 0, fA 12 2 3, sT 1 12 11 2]) (.seq (rG [lU 13 3 3 2, sT 3 2 13 1]) (.ret))))))
def zA5.env (_ : Nat) : Env := envOf (tbl [] noFS)
def zA5.F (N : Nat) (x : Int × Int × Int) : Option (Int × Int × Int) := XFunc.run zA5.x (zA5.env N) N x
def zA5.fs (N : Nat) : FS := fS zA5.x true (zA5.F N)
theorem zA5.F_eq (N : Nat) (a : Int × Int × Int) : zA5.F N a =
some a := by kernel_rfl
def yA.c1 : XCode := .seq (.seq (rG [mv 8 4, mv 9 0, o1 10 .len 9, o2 11 (.bin .lss) 8 10]) (cX 11 0)) (.seq (.block 1 (rG [mv 14 3, mv 15 4, mv 16 0, mv 17 4, o2 18 (.indexAddr yp) 16 17, o1 19 (.load true 3) 18, o1 20 (.call ⟨434, [.val true 3], no 3, [.val true 3], ims 3, true⟩) 19, ow 21 (.indexAddr yp) (sl [14, 15]) [0] [], sT 3 21 20 0])) (rG [mv 12 4, op 13 (.bin .add) [.slot 12, cI 1], mv 4 13]))
def yA.c2 : XCode := .seq (rG [mv 22 3, mv 2 22]) (.ret)
def yA.x : XFunc := xF 23 1 [.val false 1] [none] [.tmp 2 false 1] [.own 10] true (.list yp) (.list yp) <| .seq (rG [op 2 .move [.const (.one (.nil))]]) (.seq (rG [mv 5 0, o1 6 .len 5, ow 7 (.makeSlice 0 10 yp) (sl [6, 6]) [0] [0], mv 3 7]) (.seq (.seq (rG [op 4 .move [cI 0]]) (.block 0 (.loop [.keep [0, 3, 4], .norm] (yA.c1)))) (yA.c2)))
def yA.env (N : Nat) : Env := envOf (tbl [(434, zA5.fs N)] noFS)
def yA.F (N : Nat) (x : yq) : Option yq := XFunc.run yA.x (yA.env N) N x
def yA.fs (N : Nat) : FS := fS yA.x true (yA.F N)
def yA.k2 (N : Nat) : Ex -> S -> Option yq := seqK (fun s => XCode.runK (yA.env N) N (yA.c2) s (XFunc.endK yA.x)) (XFunc.endK yA.x)
def yA.k1 (N : Nat) : Ex -> S -> Option yq := y7 0 (yA.k2 N)
def yA.L1 (N : Nat) (n1 : Nat) (a : yq) (i : Int) (o0 : yq) : Option yq := loopK [.keep [0, 3, 4], .norm] (rK (yA.env N) N yA.c1) n1
 { t := jK 23 [(0, .one (.sl false yp a)), (3, .one (.ref 0 0 .all)), (4, .one (.int .i64 i))], h := [.row 0 false true 10 yp o0] }
 (yA.k1 N)
theorem yA.L1_eq (N : Nat) (n1 : Nat) (a : yq) (i : Int) (o0 : yq) : yA.L1 N (n1 + 1) a i o0 =
bif decide (i < (a.length : Int)) then
bif zG i (a.length) then
bindO (zA5.F N ((nth (0, (0, 0)) a i).1, ((nth (0, (0, 0)) a i).2))) fun r1 =>
bif zG i (o0.length) then
yA.L1 N n1 a (IntKind.wrap .i64 (i + 1)) (List.set o0 (Int.toNat i) r1)
else none
else none
else
some o0 := by kernel_rfl
theorem yA.F_eq (N : Nat) (a : yq) : yA.F N a =
bif decide (0 <= (a.length : Int)) && decide ((a.length : Int) <= (maxN : Int)) then
yA.L1 N N a 0 (List.replicate (Int.toNat (a.length : Int)) (0, (0, 0)))
else none := by kernel_rfl
def yC.c1 : XCode := .seq (.seq (rG [mv 8 4, mv 9 0, o1 10 .len 9, o2 11 (.bin .lss) 8 10]) (cX 11 0)) (.seq (.block 1 (rG [mv 14 3, mv 15 4, mv 16 0, mv 17 4, o2 18 (.indexAddr (.list yp)) 16 17, o1 19 (.load false 1) 18, o1 20 (cO 435 (vs 1) 1 true) 19, ow 21 (.indexAddr (.list yp)) (sl [14, 15]) [0] [], sT 1 21 20 0])) (rG [mv 12 4, op 13 (.bin .add) [.slot 12, cI 1], mv 4 13]))
def yC.c2 : XCode := .seq (rG [mv 22 3, mv 2 22]) (.ret)
def yC.x : XFunc := xF 23 1 [.val false 1] [none] [.tmp 2 false 1] [.own 11] true (.list (.list yp)) (.list (.list yp)) <| .seq (rG [op 2 .move [.const (.one (.nil))]]) (.seq (rG [mv 5 0, o1 6 .len 5, ow 7 (.makeSlice 0 11 (.list yp)) (sl [6, 6]) [0] [0], mv 3 7]) (.seq (.seq (rG [op 4 .move [cI 0]]) (.block 0 (.loop [.keep [0, 3, 4], .norm] (yC.c1)))) (yC.c2)))
def yC.env (N : Nat) : Env := envOf (tbl [(435, yA.fs N)] noFS)
def yC.F (N : Nat) (x : List yq) : Option (List yq) := XFunc.run yC.x (yC.env N) N x
def yC.fs (N : Nat) : FS := fS yC.x true (yC.F N)
def yC.k2 (N : Nat) : Ex -> S -> Option (List yq) := seqK (fun s => XCode.runK (yC.env N) N (yC.c2) s (XFunc.endK yC.x)) (XFunc.endK yC.x)
def yC.k1 (N : Nat) : Ex -> S -> Option (List yq) := y7 0 (yC.k2 N)
def yC.L1 (N : Nat) (n1 : Nat) (a : List yq) (i : Int) (o0 : List yq) : Option (List yq) := loopK [.keep [0, 3, 4], .norm] (rK (yC.env N) N yC.c1) n1
 { t := jK 23 [(0, .one (.sl false (.list yp) a)), (3, .one (.ref 0 0 .all)), (4, .one (.int .i64 i))], h := [.row 0 false true 11 (.list yp) o0] }
 (yC.k1 N)
theorem yC.L1_eq (N : Nat) (n1 : Nat) (a : List yq) (i : Int) (o0 : List yq) : yC.L1 N (n1 + 1) a i o0 =
bif decide (i < (a.length : Int)) then
bif zG i (a.length) then
bindO (yA.F N (nth ([] : List (Int × Int × Int)) a i)) fun r1 =>
bif zG i (o0.length) then
yC.L1 N n1 a (IntKind.wrap .i64 (i + 1)) (List.set o0 (Int.toNat i) r1)
else none
else none
else
some o0 := by kernel_rfl
theorem yC.F_eq (N : Nat) (a : List yq) : yC.F N a =
bif decide (0 <= (a.length : Int)) && decide ((a.length : Int) <= (maxN : Int)) then
yC.L1 N N a 0 (List.replicate (Int.toNat (a.length : Int)) ([] : List (Int × Int × Int)))
else none := by kernel_rfl
def zA6.x : XFunc := xF 12 3 [.val true 5] (no 5) [.var 2 true 5] (iF 5) true (.pair (.int .i64) ym) (.pair (.int .i64) ym) <| .seq (rG [ow 1 (.box 0) [.slot 0] [0] [0], ow 2 (.alloc 1 [cZ, cZ, cZ, cZ, cZ]) [] [1] [1]]) (.seq (rG [ow 3 (.alloc 2 [cZ, cZ, cZ, cZ, cZ]) [] [2] [2]]) (.seq (rG [fA 4 0 1, lN 5 4 0, fA 6 0 3, sT 1 6 5 2]) (.seq (rG [fA 7 1 1, lU 8 4 7 0, o1 9 (.call ⟨430, [.val true 4], no 4, [.val true 4], ims 4, true⟩) 8, fA 10 1 3, sT 4 10 9 2]) (.seq (rG [lU 11 5 3 2, sT 5 2 11 1]) (.ret)))))
def zA6.env (N : Nat) : Env := envOf (tbl [(430, y9.fs N)] noFS)
def zA6.F (N : Nat) (x : Int × Int × Int × Int × Int) : Option (Int × Int × Int × Int × Int) := XFunc.run zA6.x (zA6.env N) N x
def zA6.fs (N : Nat) : FS := fS zA6.x true (zA6.F N)
theorem zA6.F_eq (N : Nat) (a : Int × Int × Int × Int × Int) : zA6.F N a =
bindO (y9.F N a.2) fun r1 =>
some (a.1, r1) := by kernel_rfl
def yK.c1 : XCode := .seq (.seq (rG [mv 8 4, mv 9 0, o1 10 .len 9, o2 11 (.bin .lss) 8 10]) (cX 11 0)) (.seq (.block 1 (rG [mv 14 3, mv 15 4, mv 16 0, mv 17 4, o2 18 (.indexAddr zBN) 16 17, o1 19 (.load true 5) 18, o1 20 (.call ⟨437, [.val true 5], no 5, [.val true 5], ims 5, true⟩) 19, ow 21 (.indexAddr zBN) (sl [14, 15]) [0] [], sT 5 21 20 0])) (rG [mv 12 4, op 13 (.bin .add) [.slot 12, cI 1], mv 4 13]))
def yK.c2 : XCode := .seq (rG [mv 22 3, mv 2 22]) (.ret)
def yK.x : XFunc := xF 23 1 [.val false 1] [none] [.tmp 2 false 1] [.own 15] true (.list zBN) (.list zBN) <| .seq (rG [op 2 .move [.const (.one (.nil))]]) (.seq (rG [mv 5 0, o1 6 .len 5, ow 7 (.makeSlice 0 15 zBN) (sl [6, 6]) [0] [0], mv 3 7]) (.seq (.seq (rG [op 4 .move [cI 0]]) (.block 0 (.loop [.keep [0, 3, 4], .norm] (yK.c1)))) (yK.c2)))
def yK.env (N : Nat) : Env := envOf (tbl [(437, zA6.fs N)] noFS)
def yK.F (N : Nat) (x : zA0) : Option zA0 := XFunc.run yK.x (yK.env N) N x
def yK.fs (N : Nat) : FS := fS yK.x true (yK.F N)
def yK.k2 (N : Nat) : Ex -> S -> Option zA0 := seqK (fun s => XCode.runK (yK.env N) N (yK.c2) s (XFunc.endK yK.x)) (XFunc.endK yK.x)
def yK.k1 (N : Nat) : Ex -> S -> Option zA0 := y7 0 (yK.k2 N)
def yK.L1 (N : Nat) (n1 : Nat) (a : zA0) (i : Int) (o0 : zA0) : Option zA0 := loopK [.keep [0, 3, 4], .norm] (rK (yK.env N) N yK.c1) n1
 { t := jK 23 [(0, .one (.sl false zBN a)), (3, .one (.ref 0 0 .all)), (4, .one (.int .i64 i))], h := [.row 0 false true 15 zBN o0] }
 (yK.k1 N)
theorem yK.L1_eq (N : Nat) (n1 : Nat) (a : zA0) (i : Int) (o0 : zA0) : yK.L1 N (n1 + 1) a i o0 =
bif decide (i < (a.length : Int)) then
bif zG i (a.length) then
bindO (zA6.F N ((nth (0, (0, (0, (0, 0)))) a i).1, (((nth (0, (0, (0, (0, 0)))) a i).2).1, ((((nth (0, (0, (0, (0, 0)))) a i).2).2).1, ((((nth (0, (0, (0, (0, 0)))) a i).2).2).2))))) fun r1 =>
bif zG i (o0.length) then
yK.L1 N n1 a (IntKind.wrap .i64 (i + 1)) (List.set o0 (Int.toNat i) r1)
else none
else none
else
some o0 := by kernel_rfl
theorem yK.F_eq (N : Nat) (a : zA0) : yK.F N a =
bif decide (0 <= (a.length : Int)) && decide ((a.length : Int) <= (maxN : Int)) then
yK.L1 N N a 0 (List.replicate (Int.toNat (a.length : Int)) (0, (0, (0, (0, 0)))))
else none := by kernel_rfl
def zAi.x : XFunc := xF 26 3 [.val true 7] (no 7) [.var 2 true 7] (iF 7) true (.pair T11_33 (.pair T15_33 T3_33)) (.pair T11_33 (.pair T15_33 T3_33)) <| .seq (rG [ow 1 (.box 0) [.slot 0] [0] [0], ow 2 (.alloc 1 [cZ, .nil, .nil, cZ, .nil, cZ, .bool false]) [] [1] [1]]) (.seq (rG [ow 3 (.alloc 2 [cZ, .nil, .nil, cZ, .nil, cZ, .bool false]) [] [2] [2]]) (.seq (rG [fA 4 0 1, lU 5 2 4 0, o1 6 (.call ⟨433, [.val true 2], no 2, [.val true 2], ims 2, true⟩) 5, fA 7 0 3, sT 2 7 6 2]) (.seq (rG [fA 8 2 1, lN 9 8 0, o1 10 (cO 436 (vs 1) 1 true) 9, fA 11 2 3, sT 1 11 10 2]) (.seq (rG [fA 12 3 1, lN 13 12 0, fA 14 3 3, sT 1 14 13 2]) (.seq (rG [fA 15 4 1, lN 16 15 0, o1 17 (cO 438 (vs 1) 1 true) 16, fA 18 4 3, sT 1 18 17 2]) (.seq (rG [fA 19 5 1, lN 20 19 0, fA 21 5 3, sT 1 21 20 2]) (.seq (rG [fA 22 6 1, lN 23 22 0, fA 24 6 3, sT 1 24 23 2]) (.seq (rG [lU 25 7 3 2, sT 7 2 25 1]) (.ret)))))))))
def zAi.env (N : Nat) : Env := envOf (tbl [(438, yK.fs N), (433, zAh.fs N), (436, yC.fs N)] noFS)
def zAi.F (N : Nat) (x : (Int × List ye) × (List yq) × Int × zA0 × Int × Bool) : Option D16_33 := XFunc.run zAi.x (zAi.env N) N x
def zAi.fs (N : Nat) : FS := fS zAi.x true (zAi.F N)
theorem zAi.F_eq (N : Nat) (a : (Int × List ye) × (List yq) × Int × zA0 × Int × Bool) : zAi.F N a =
bindO (zAh.F N a.1) fun r1 =>
bindO (yC.F N a.2.1) fun r2 =>
bindO (yK.F N a.2.2.2.1) fun r3 =>
some (r1, (r2, (a.2.2.1, (r3, a.2.2.2.2)))) := by kernel_rfl
def zAK.x : XFunc := xF 14 3 [.val true 3] (no 3) [.var 2 true 3] (iF 3) true (.pair (.int .i64) zCM) (.pair (.int .i64) zCM) <| .seq (rG [ow 1 (.box 0) [.slot 0] [0] [0], ow 2 (.alloc 1 [cZ, cZ, cZ]) [] [1] [1]]) (.seq (rG [ow 3 (.alloc 2 [cZ, cZ, cZ]) [] [2] [2]]) (.seq (rG [fA 4 0 1, lN 5 4 0, fA 6 0 3, sT 1 6 5 2]) (.seq (rG [fA 7 1 1, lN 8 7 0, fA 9 1 3, sT 1 9 8 2]) (.seq (rG [fA 10 2 1, lN 11 10 0, fA 12 2 3, sT 1 12 11 2]) (.seq (rG [lU 13 3 3 2, sT 3 2 13 1]) (.ret))))))
def zAK.env (_ : Nat) : Env := envOf (tbl [] noFS)
def zAK.F (N : Nat) (x : Int × Int × Int) : Option (Int × Int × Int) := XFunc.run zAK.x (zAK.env N) N x
def zAK.fs (N : Nat) : FS := fS zAK.x true (zAK.F N)
theorem zAK.F_eq (N : Nat) (a : Int × Int × Int) : zAK.F N a =
some a := by kernel_rfl
def zAH.x : XFunc := xF 29 3 [.val true 15] (no 15) [.var 2 true 15] (iF 15) true (.pair T4_33 T5_33) (.pair T4_33 T5_33) <| .seq (rG [ow 1 (.box 0) [.slot 0] [0] [0], ow 2 (.alloc 1 [cZ, .nil, .nil, cZ, .nil, cZ, .bool false, cZ, cZ, cZ, .nil, cZ, cZ, cZ, cZ]) [] [1] [1]]) (.seq (rG [ow 3 (.alloc 2 [cZ, .nil, .nil, cZ, .nil, cZ, .bool false, cZ, cZ, cZ, .nil, cZ, cZ, cZ, cZ]) [] [2] [2]]) (.seq (rG [fA 4 0 1, lU 5 7 4 0, o1 6 (.call ⟨439, [.val true 7], no 7, [.val true 7], ims 7, true⟩) 5, fA 7 0 3, sT 7 7 6 2]) (.seq (rG [fA 8 7 1, lU 9 3 8 0, o1 10 (.call ⟨440, [.val true 3], no 3, [.val true 3], ims 3, true⟩) 9, fA 11 7 3, sT 3 11 10 2]) (.seq (rG [fA 12 10 1, lN 13 12 0, o1 14 (cO 129 (vs 1) 1 true) 13, fA 15 10 3, sT 1 15 14 2]) (.seq (rG [fA 16 11 1, lN 17 16 0, fA 18 11 3, sT 1 18 17 2]) (.seq (rG [fA 19 12 1, lN 20 19 0, fA 21 12 3, sT 1 21 20 2]) (.seq (rG [fA 22 13 1, lN 23 22 0, fA 24 13 3, sT 1 24 23 2]) (.seq (rG [fA 25 14 1, lN 26 25 0, fA 27 14 3, sT 1 27 26 2]) (.seq (rG [lU 28 15 3 2, sT 15 2 28 1]) (.ret))))))))))
def zAH.env (N : Nat) : Env := envOf (tbl [(439, zAi.fs N), (129, z4.fs N), (440, zAK.fs N)] noFS)
def zAH.F (N : Nat) (x : zCB) : Option zCB := XFunc.run zAH.x (zAH.env N) N x
def zAH.fs (N : Nat) : FS := fS zAH.x true (zAH.F N)
theorem zAH.F_eq (N : Nat) (a : zCB) : zAH.F N a =
bindO (zAi.F N a.1) fun r1 =>
bindO (zAK.F N a.2.1) fun r2 =>
bindO (z4.F N a.2.2.1) fun r3 =>
some (r1, (r2, (r3, a.2.2.2))) := by kernel_rfl
def zV.c1 : XCode := .seq (.seq (rG [mv 8 4, mv 9 0, o1 10 .len 9, o2 11 (.bin .lss) 8 10]) (cX 11 0)) (.seq (.block 1 (rG [mv 14 3, mv 15 4, mv 16 0, mv 17 4, o2 18 (.indexAddr (.list ym)) 16 17, o1 19 (.load false 1) 18, ⟨some 20, .call ⟨431, vs 1, no 1, [.val false 1], [.own 1 8], true⟩, [.slot 19], [1, 100], [1], none, false, .pub 1⟩, ow 21 (.indexAddr (.hnd ym)) (sl [14, 15]) [0] [], sT 1 21 20 0])) (rG [mv 12 4, op 13 (.bin .add) [.slot 12, cI 1], mv 4 13]))
def zV.c2 : XCode := .seq (rG [mv 22 3, mv 2 22]) (.ret)
def zV.x : XFunc := { nslots := 23, nobj := 2, pars := [.val false 1], rowsIn := [none], rets := [.tmp 2 false 1], outs := [.own 9], fresh := true, arg := .list (.list ym), ret := .list (.hnd ym), body := .seq (rG [op 2 .move [.const (.one (.nil))]]) (.seq (rG [mv 5 0, o1 6 .len 5, ow 7 (.makeSlice 0 9 (.hnd ym)) (sl [6, 6]) [0] [0], mv 3 7]) (.seq (.seq (rG [op 4 .move [cI 0]]) (.block 0 (.loop [.keep [0, 3, 4], .drop 1, .norm] (zV.c1)))) (zV.c2))), hp := true }
def zV.env (N : Nat) : Env := envOf (tbl [(431, zg.fs N)] noFS)
def zV.H (N : Nat) (x : List ye) (D : List HRow) : Option D24_33 := XFunc.runH zV.x (zV.env N) N x D
def zV.fs (N : Nat) : FS := { arg := zV.x.arg, ret := zV.x.ret, fresh := true, F := fun _ => none, hp := true, H := zV.H N }
def zV.k2 (N : Nat) : Ex -> S -> Option D24_33 := seqK (fun s => XCode.runK (zV.env N) N (zV.c2) s (XFunc.endKH zV.x)) (XFunc.endKH zV.x)
def zV.k1 (N : Nat) : Ex -> S -> Option D24_33 := y7 0 (zV.k2 N)
def zV.L1 (N : Nat) (n1 : Nat) (a : List ye) (i : Int) (o0 : List Hnd) (D : List HRow) : Option D24_33 := loopK [.keep [0, 3, 4], .drop 1, .norm] (rK (zV.env N) N zV.c1) n1
 { t := jK 23 [(0, .one (.sl false (.list ym) a)), (3, .one (.ref 0 0 .all)), (4, .one (.int .i64 i))], h := [.row 0 false true 9 (.hnd ym) o0, .absent 0], d := D }
 (zV.k1 N)
theorem zV.L1_eq (N : Nat) (n1 : Nat) (a : List ye) (i : Int) (o0 : List Hnd) (D : List HRow) : zV.L1 N (n1 + 1) a i o0 D =
bif decide (i < (a.length : Int)) then
bif zG i (a.length) then
bindO (zg.F N (nth ([] : List (Int × Int × Int × Int)) a i)) fun r1 =>
bif zG i (o0.length) then
zV.L1 N n1 a (IntKind.wrap .i64 (i + 1)) (List.set o0 (Int.toNat i) (some (D.length, 0, r1.length) : Hnd)) (D ++ [HRow.row 8 ym r1])
else none
else none
else
some (o0, D) := by kernel_rfl
theorem zV.H_eq (N : Nat) (a : List ye) (D : List HRow) : zV.H N a D =
bif decide (0 <= (a.length : Int)) && decide ((a.length : Int) <= (maxN : Int)) then
zV.L1 N N a 0 (List.replicate (Int.toNat (a.length : Int)) (none : Hnd)) D
else none := by kernel_rfl
def zAU.x : XFunc := { nslots := 12, nobj := 3, pars := [.val true 2], rowsIn := no 2, rets := [.var 2 true 2], outs := iF 2, fresh := true, arg := .pair (.int .i64) T14_33, ret := .pair (.int .i64) (.list (.hnd ym)), body := .seq (rG [ow 1 (.box 0) [.slot 0] [0] [0], ow 2 (.alloc 1 [cZ, .nil]) [] [1] [1]]) (.seq (rG [ow 3 (.alloc 2 [cZ, .nil]) [] [2] [2]]) (.seq (rG [fA 4 0 1, lN 5 4 0, fA 6 0 3, sT 1 6 5 2]) (.seq (rG [fA 7 1 1, lN 8 7 0, ow 9 (.callH false ⟨442, vs 1, no 1, [.val false 1], ims 1, true⟩) [.slot 8] [100] [100], fA 10 1 3, sT 1 10 9 2]) (.seq (rG [lU 11 2 3 2, sT 2 2 11 1]) (.ret))))), hp := true }
def zAU.env (N : Nat) : Env := envOf (tbl [(442, zV.fs N)] noFS)
def zAU.H (N : Nat) (x : Int × List ye) (D : List HRow) : Option ((Int × List Hnd) × List HRow) := XFunc.runH zAU.x (zAU.env N) N x D
def zAU.fs (N : Nat) : FS := { arg := zAU.x.arg, ret := zAU.x.ret, fresh := true, F := fun _ => none, hp := true, H := zAU.H N }
theorem zAU.H_eq (N : Nat) (a : Int × List ye) (D : List HRow) : zAU.H N a D =
bindO (zV.H N a.2 (hhide D)) fun r1 =>
some ((a.1, r1.1), yw D r1.2) := by kernel_rfl
def zy.c1 : XCode := .seq (.seq (rG [mv 8 4, mv 9 0, o1 10 .len 9, o2 11 (.bin .lss) 8 10]) (cX 11 0)) (.seq (.block 1 (rG [mv 14 3, mv 15 4, mv 16 0, mv 17 4, o2 18 (.indexAddr (.list yp)) 16 17, o1 19 (.load false 1) 18, ⟨some 20, .call ⟨435, vs 1, no 1, [.val false 1], [.own 1 10], true⟩, [.slot 19], [1, 100], [1], none, false, .pub 1⟩, ow 21 (.indexAddr (.hnd yp)) (sl [14, 15]) [0] [], sT 1 21 20 0])) (rG [mv 12 4, op 13 (.bin .add) [.slot 12, cI 1], mv 4 13]))
def zy.c2 : XCode := .seq (rG [mv 22 3, mv 2 22]) (.ret)
def zy.x : XFunc := { nslots := 23, nobj := 2, pars := [.val false 1], rowsIn := [none], rets := [.tmp 2 false 1], outs := [.own 11], fresh := true, arg := .list (.list yp), ret := .list (.hnd yp), body := .seq (rG [op 2 .move [.const (.one (.nil))]]) (.seq (rG [mv 5 0, o1 6 .len 5, ow 7 (.makeSlice 0 11 (.hnd yp)) (sl [6, 6]) [0] [0], mv 3 7]) (.seq (.seq (rG [op 4 .move [cI 0]]) (.block 0 (.loop [.keep [0, 3, 4], .drop 1, .norm] (zy.c1)))) (zy.c2))), hp := true }
def zy.env (N : Nat) : Env := envOf (tbl [(435, yA.fs N)] noFS)
def zy.H (N : Nat) (x : List yq) (D : List HRow) : Option D24_33 := XFunc.runH zy.x (zy.env N) N x D
def zy.fs (N : Nat) : FS := { arg := zy.x.arg, ret := zy.x.ret, fresh := true, F := fun _ => none, hp := true, H := zy.H N }
def zy.k2 (N : Nat) : Ex -> S -> Option D24_33 := seqK (fun s => XCode.runK (zy.env N) N (zy.c2) s (XFunc.endKH zy.x)) (XFunc.endKH zy.x)
def zy.k1 (N : Nat) : Ex -> S -> Option D24_33 := y7 0 (zy.k2 N)
def zy.L1 (N : Nat) (n1 : Nat) (a : List yq) (i : Int) (o0 : List Hnd) (D : List HRow) : Option D24_33 := loopK [.keep [0, 3, 4], .drop 1, .norm] (rK (zy.env N) N zy.c1) n1
 { t := jK 23 [(0, .one (.sl false (.list yp) a)), (3, .one (.ref 0 0 .all)), (4, .one (.int .i64 i))], h := [.row 0 false true 11 (.hnd yp) o0, .absent 0], d := D }
 (zy.k1 N)
theorem zy.L1_eq (N : Nat) (n1 : Nat) (a : List yq) (i : Int) (o0 : List Hnd) (D : List HRow) : zy.L1 N (n1 + 1) a i o0 D =
bif decide (i < (a.length : Int)) then
bif zG i (a.length) then
bindO (yA.F N (nth ([] : List (Int × Int × Int)) a i)) fun r1 =>
bif zG i (o0.length) then
zy.L1 N n1 a (IntKind.wrap .i64 (i + 1)) (List.set o0 (Int.toNat i) (some (D.length, 0, r1.length) : Hnd)) (D ++ [HRow.row 10 yp r1])
else none
else none
else
some (o0, D) := by kernel_rfl
theorem zy.H_eq (N : Nat) (a : List yq) (D : List HRow) : zy.H N a D =
bif decide (0 <= (a.length : Int)) && decide ((a.length : Int) <= (maxN : Int)) then
zy.L1 N N a 0 (List.replicate (Int.toNat (a.length : Int)) (none : Hnd)) D
else none := by kernel_rfl
def zAV.x : XFunc := { nslots := 26, nobj := 4, pars := [.val true 7], rowsIn := no 7, rets := [.var 2 true 7], outs := [.imm, .imm, .imm, .imm, .own 15, .imm, .imm], fresh := true, arg := .pair T11_33 (.pair T15_33 T3_33), ret := .pair (.pair (.int .i64) (.list (.hnd ym))) (.pair (.list (.hnd yp)) T3_33), body := .seq (rG [ow 1 (.box 0) [.slot 0] [0] [0], ow 2 (.alloc 1 [cZ, .nil, .nil, cZ, .nil, cZ, .bool false]) [] [1] [1]]) (.seq (rG [ow 3 (.alloc 2 [cZ, .nil, .nil, cZ, .nil, cZ, .bool false]) [] [2] [2]]) (.seq (rG [fA 4 0 1, lU 5 2 4 0, ow 6 (.callH false ⟨443, [.val true 2], no 2, [.val true 2], ims 2, true⟩) [.slot 5] [100] [100], fA 7 0 3, sT 2 7 6 2]) (.seq (rG [fA 8 2 1, lN 9 8 0, ow 10 (.callH false ⟨444, vs 1, no 1, [.val false 1], ims 1, true⟩) [.slot 9] [100] [100], fA 11 2 3, sT 1 11 10 2]) (.seq (rG [fA 12 3 1, lN 13 12 0, fA 14 3 3, sT 1 14 13 2]) (.seq (rG [fA 15 4 1, lN 16 15 0, ow 17 (.call ⟨438, vs 1, no 1, [.val false 1], [.own 3 15], true⟩) [.slot 16] [3] [3], fA 18 4 3, sT 1 18 17 2]) (.seq (rG [fA 19 5 1, lN 20 19 0, fA 21 5 3, sT 1 21 20 2]) (.seq (rG [fA 22 6 1, lN 23 22 0, fA 24 6 3, sT 1 24 23 2]) (.seq (rG [lU 25 7 3 2, sT 7 2 25 1]) (.ret))))))))), hp := true }
def zAV.env (N : Nat) : Env := envOf (tbl [(438, yK.fs N), (443, zAU.fs N), (444, zy.fs N)] noFS)
def zAV.H (N : Nat) (x : (Int × List ye) × (List yq) × Int × zA0 × Int × Bool) (D : List HRow) : Option (D18_33 × List HRow) := XFunc.runH zAV.x (zAV.env N) N x D
def zAV.fs (N : Nat) : FS := { arg := zAV.x.arg, ret := zAV.x.ret, fresh := true, F := fun _ => none, hp := true, H := zAV.H N }
theorem zAV.H_eq (N : Nat) (a : (Int × List ye) × (List yq) × Int × zA0 × Int × Bool) (D : List HRow) : zAV.H N a D =
bindO (zAU.H N a.1 (hhide D)) fun r1 =>
bindO (zy.H N a.2.1 (hhide (yw D r1.2))) fun r2 =>
bindO (yK.F N a.2.2.2.1) fun r3 =>
some ((r1.1, (r2.1, (a.2.2.1, (r3, a.2.2.2.2)))), yw (yw D r1.2) r2.2) := by kernel_rfl
def zAD.x : XFunc := { nslots := 29, nobj := 5, pars := [.val true 15], rowsIn := no 15, rets := [.var 2 true 15], outs := [.imm, .imm, .imm, .imm, .own 15, .imm, .imm, .imm, .imm, .imm, .own 4, .imm, .imm, .imm, .imm], fresh := true, arg := .pair T4_33 T5_33, ret := .pair T7_33 T5_33, body := .seq (rG [ow 1 (.box 0) [.slot 0] [0] [0], ow 2 (.alloc 1 [cZ, .nil, .nil, cZ, .nil, cZ, .bool false, cZ, cZ, cZ, .nil, cZ, cZ, cZ, cZ]) [] [1] [1]]) (.seq (rG [ow 3 (.alloc 2 [cZ, .nil, .nil, cZ, .nil, cZ, .bool false, cZ, cZ, cZ, .nil, cZ, cZ, cZ, cZ]) [] [2] [2]]) (.seq (rG [fA 4 0 1, lU 5 7 4 0, ow 6 (.callH false ⟨445, [.val true 7], no 7, [.val true 7], [.imm, .imm, .imm, .imm, .own 4 15, .imm, .imm], true⟩) [.slot 5] [4, 100] [4, 100], fA 7 0 3, sT 7 7 6 2]) (.seq (rG [fA 8 7 1, lU 9 3 8 0, o1 10 (.call ⟨440, [.val true 3], no 3, [.val true 3], ims 3, true⟩) 9, fA 11 7 3, sT 3 11 10 2]) (.seq (rG [fA 12 10 1, lN 13 12 0, ow 14 (.call ⟨129, vs 1, no 1, [.val false 1], [.own 3 4], true⟩) [.slot 13] [3] [3], fA 15 10 3, sT 1 15 14 2]) (.seq (rG [fA 16 11 1, lN 17 16 0, fA 18 11 3, sT 1 18 17 2]) (.seq (rG [fA 19 12 1, lN 20 19 0, fA 21 12 3, sT 1 21 20 2]) (.seq (rG [fA 22 13 1, lN 23 22 0, fA 24 13 3, sT 1 24 23 2]) (.seq (rG [fA 25 14 1, lN 26 25 0, fA 27 14 3, sT 1 27 26 2]) (.seq (rG [lU 28 15 3 2, sT 15 2 28 1]) (.ret)))))))))), hp := true }
def zAD.env (N : Nat) : Env := envOf (tbl [(445, zAV.fs N), (129, z4.fs N), (440, zAK.fs N)] noFS)
def zAD.H (N : Nat) (x : zCB) (D : List HRow) : Option (D22_33 × List HRow) := XFunc.runH zAD.x (zAD.env N) N x D
def zAD.fs (N : Nat) : FS := { arg := zAD.x.arg, ret := zAD.x.ret, fresh := true, F := fun _ => none, hp := true, H := zAD.H N }
theorem zAD.H_eq (N : Nat) (a : zCB) (D : List HRow) : zAD.H N a D =
bindO (zAV.H N a.1 (hhide D)) fun r1 =>
bindO (zAK.F N a.2.1) fun r2 =>
bindO (z4.F N a.2.2.1) fun r3 =>
some ((r1.1, (r2, (r3, a.2.2.2))), yw D r1.2) := by kernel_rfl
def zZ.c1 : XCode := .seq (rG [o2 13 (.bin .lss) 12 11]) (.seq (cX 13 0) (.seq (.block 1 (.seq (rG [o2 14 (.indexAddr (.list ym)) 10 12, o1 15 (.load false 1) 14, mv 5 15]) (.region true [fA 16 1 3, lN 17 16 2, mv 18 5, ⟨some 19, .append false 3 8 ym, [.const (.one (.nil)), .slot 18], [3, 100], [3], none, false, .pub 3⟩, ow 20 (.buildSlice false 4 9 (.hnd ym) 1 [(0, 1)] [.nil]) [.slot 19] [4] [4], ow 21 (.append false 5 9 (.hnd ym)) (sl [17, 20]) [4, 5] [5], fA 22 1 3, sT 1 22 21 2]))) (rG [op 23 (.bin .add) [.slot 12, cI 1], mv 12 23])))
def zZ.c2 : XCode := .seq (rG [lU 24 2 3 2, sT 2 2 24 1]) (.ret)
def zZ.x : XFunc := { nslots := 25, nobj := 6, pars := [.val true 2], rowsIn := no 2, rets := [.var 2 true 2], outs := [.imm, .own 9], fresh := true, arg := .pair (.int .i64) T14_33, ret := .pair (.int .i64) (.list (.hnd ym)), body := .seq (rG [ow 1 (.box 0) [.slot 0] [0] [0], ow 2 (.alloc 1 [cZ, .nil]) [] [1] [1]]) (.seq (rG [fA 6 0 1, lN 7 6 0, o1 8 (.build [cZ, .nil] [(0, 1)]) 7, ow 3 (.alloc 2 [cZ, .nil]) [] [2] [2], sT 2 3 8 2]) (.seq (.seq (rG [fA 9 1 1, lN 10 9 0, o1 11 .len 10, op 12 .move [cI 0]]) (.block 0 (.loop [.mkrow (.boxc 2 1) 5 9 (.hnd ym), .keep [2, 3, 10, 11, 12], .drop 0, .drop 3, .drop 4, .norm] (zZ.c1)))) (zZ.c2))), hp := true }
def zZ.env (_ : Nat) : Env := envOf (tbl [] noFS)
def zZ.H (N : Nat) (x : Int × List ye) (D : List HRow) : Option ((Int × List Hnd) × List HRow) := XFunc.runH zZ.x (zZ.env N) N x D
def zZ.fs (N : Nat) : FS := { arg := zZ.x.arg, ret := zZ.x.ret, fresh := true, F := fun _ => none, hp := true, H := zZ.H N }
def zZ.k2 (N : Nat) : Ex -> S -> Option ((Int × List Hnd) × List HRow) := seqK (fun s => XCode.runK (zZ.env N) N (zZ.c2) s (XFunc.endKH zZ.x)) (XFunc.endKH zZ.x)
def zZ.k1 (N : Nat) : Ex -> S -> Option ((Int × List Hnd) × List HRow) := y7 0 (zZ.k2 N)
def zZ.L1 (N : Nat) (n1 : Nat) (t10 : List ye) (t11 : Int) (t12 : Int) (o20 : Int) (o5 : List Hnd) (D : List HRow) : Option ((Int × List Hnd) × List HRow) := loopK [.mkrow (.boxc 2 1) 5 9 (.hnd ym), .keep [2, 3, 10, 11, 12], .drop 0, .drop 3, .drop 4, .norm] (rK (zZ.env N) N zZ.c1) n1
 { t := jK 25 [(2, .one (.ptr 1 0 0)), (3, .one (.ptr 2 0 0)), (10, .one (.sl false (.list ym) t10)), (11, .one (.int .i64 t11)), (12, .one (.int .i64 t12))], h := [.absent 0, .box 0 false [cZ, .nil], .box 0 false [.int .i64 o20, .ref 5 0 .all], .absent 0, .absent 0, .row 0 false true 9 (.hnd ym) o5], d := D }
 (zZ.k1 N)
theorem zZ.L1_eq (N : Nat) (n1 : Nat) (t10 : List ye) (t11 : Int) (t12 : Int) (o20 : Int) (o5 : List Hnd) (D : List HRow) : zZ.L1 N (n1 + 1) t10 t11 t12 o20 o5 D =
bif decide (t12 < t11) then
bif zG t12 (t10.length) then
bif decide (List.length (nth ([] : List (Int × Int × Int × Int)) t10 t12) <= maxN) then
bif decide (o5.length + List.length ([(some (D.length, 0, List.length (nth ([] : List (Int × Int × Int × Int)) t10 t12)) : Hnd)] : List Hnd) <= maxN) then
zZ.L1 N n1 t10 t11 (IntKind.wrap .i64 (t12 + 1)) o20 (o5 ++ ([(some (D.length, 0, List.length (nth ([] : List (Int × Int × Int × Int)) t10 t12)) : Hnd)] : List Hnd)) (D ++ [HRow.row 8 ym (nth ([] : List (Int × Int × Int × Int)) t10 t12)])
else none
else none
else none
else
some ((o20, o5), D) := by kernel_rfl
theorem zZ.H_eq (N : Nat) (m : Int × List ye) (D : List HRow) : zZ.H N m D =
zZ.L1 N N m.2 (List.length m.2 : Int) 0 m.1 ([] : List Hnd) D := by kernel_rfl
def zY.c1 : XCode := .seq (rG [o2 9 (.bin .lss) 8 7]) (.seq (cX 9 0) (.seq (.block 1 (.seq (rG [o2 10 (.indexAddr (.list yp)) 6 8, o1 11 (.load false 1) 10, mv 5 11]) (rG [mv 12 3, mv 13 5, ⟨some 14, .append false 0 10 yp, [.const (.one (.nil)), .slot 13], [0, 100], [0], none, false, .pub 0⟩, ow 15 (.buildSlice false 1 11 (.hnd yp) 1 [(0, 1)] [.nil]) [.slot 14] [1] [1], ow 16 (.append false 2 11 (.hnd yp)) (sl [12, 15]) [1, 2] [2], mv 3 16]))) (rG [op 17 (.bin .add) [.slot 8, cI 1], mv 8 17])))
def zY.c2 : XCode := .seq (rG [mv 18 3, mv 2 18]) (.ret)
def zY.x : XFunc := { nslots := 19, nobj := 3, pars := [.val false 1], rowsIn := [none], rets := [.tmp 2 false 1], outs := [.own 11], fresh := true, arg := .list (.list yp), ret := .list (.hnd yp), body := .seq (rG [op 2 .move [.const (.one (.nil))]]) (.seq (rG [op 3 .move [.const (.one (.nil))]]) (.seq (.seq (rG [mv 6 0, o1 7 .len 6, op 8 .move [cI 0]]) (.block 0 (.loop [.mkrow (.slot 3) 2 11 (.hnd yp), .keep [3, 6, 7, 8], .drop 0, .drop 1, .norm] (zY.c1)))) (zY.c2))), hp := true }
def zY.env (_ : Nat) : Env := envOf (tbl [] noFS)
def zY.H (N : Nat) (x : List yq) (D : List HRow) : Option D24_33 := XFunc.runH zY.x (zY.env N) N x D
def zY.fs (N : Nat) : FS := { arg := zY.x.arg, ret := zY.x.ret, fresh := true, F := fun _ => none, hp := true, H := zY.H N }
def zY.k2 (N : Nat) : Ex -> S -> Option D24_33 := seqK (fun s => XCode.runK (zY.env N) N (zY.c2) s (XFunc.endKH zY.x)) (XFunc.endKH zY.x)
def zY.k1 (N : Nat) : Ex -> S -> Option D24_33 := y7 0 (zY.k2 N)
def zY.L1 (N : Nat) (n1 : Nat) (t6 : List yq) (t7 : Int) (t8 : Int) (o2 : List Hnd) (D : List HRow) : Option D24_33 := loopK [.mkrow (.slot 3) 2 11 (.hnd yp), .keep [3, 6, 7, 8], .drop 0, .drop 1, .norm] (rK (zY.env N) N zY.c1) n1
 { t := jK 19 [(3, .one (.ref 2 0 .all)), (6, .one (.sl false (.list yp) t6)), (7, .one (.int .i64 t7)), (8, .one (.int .i64 t8))], h := [.absent 0, .absent 0, .row 0 false true 11 (.hnd yp) o2], d := D }
 (zY.k1 N)
theorem zY.L1_eq (N : Nat) (n1 : Nat) (t6 : List yq) (t7 : Int) (t8 : Int) (o2 : List Hnd) (D : List HRow) : zY.L1 N (n1 + 1) t6 t7 t8 o2 D =
bif decide (t8 < t7) then
bif zG t8 (t6.length) then
bif decide (List.length (nth ([] : List (Int × Int × Int)) t6 t8) <= maxN) then
bif decide (o2.length + List.length ([(some (D.length, 0, List.length (nth ([] : List (Int × Int × Int)) t6 t8)) : Hnd)] : List Hnd) <= maxN) then
zY.L1 N n1 t6 t7 (IntKind.wrap .i64 (t8 + 1)) (o2 ++ ([(some (D.length, 0, List.length (nth ([] : List (Int × Int × Int)) t6 t8)) : Hnd)] : List Hnd)) (D ++ [HRow.row 10 yp (nth ([] : List (Int × Int × Int)) t6 t8)])
else none
else none
else none
else
some (o2, D) := by kernel_rfl
theorem zY.H_eq (N : Nat) (l_ : List yq) (D : List HRow) : zY.H N l_ D =
zY.L1 N N l_ (l_.length : Int) 0 ([] : List Hnd) D := by kernel_rfl
def yO.x : XFunc := { nslots := 16, nobj := 3, pars := [.val true 7], rowsIn := no 7, rets := [.var 2 true 7], outs := [.imm, .imm, .imm, .imm, .own 15, .imm, .imm], fresh := true, arg := .pair T11_33 (.pair T15_33 T3_33), ret := .pair (.pair (.int .i64) (.list (.hnd ym))) (.pair (.list (.hnd yp)) T3_33), body := .seq (rG [ow 1 (.box 0) [.slot 0] [0] [0], ow 2 (.alloc 1 [cZ, .nil, .nil, cZ, .nil, cZ, .bool false]) [] [1] [1]]) (.seq (rG [fA 3 0 1, lU 4 2 3 0, ow 5 (.callH false ⟨447, [.val true 2], no 2, [.val true 2], ims 2, true⟩) [.slot 4] [100] [100], fA 6 0 1, sT 2 6 5 0]) (.seq (rG [fA 7 2 1, lN 8 7 0, ow 9 (.callH false ⟨448, vs 1, no 1, [.val false 1], ims 1, true⟩) [.slot 8] [100] [100], fA 10 2 1, sT 1 10 9 0]) (.seq (rG [fA 11 4 1, lN 12 11 0, ow 13 (.append false 2 15 zBN) [.const (.one (.nil)), .slot 12] [2] [2], fA 14 4 1, sT 1 14 13 0]) (.seq (rG [lU 15 7 1 0, sT 7 2 15 1]) (.ret))))), hp := true }
def yO.env (N : Nat) : Env := envOf (tbl [(447, zZ.fs N), (448, zY.fs N)] noFS)
def yO.H (N : Nat) (x : (Int × List ye) × (List yq) × Int × zA0 × Int × Bool) (D : List HRow) : Option (D18_33 × List HRow) := XFunc.runH yO.x (yO.env N) N x D
def yO.fs (N : Nat) : FS := { arg := yO.x.arg, ret := yO.x.ret, fresh := true, F := fun _ => none, hp := true, H := yO.H N }
theorem yO.H_eq (N : Nat) (e : (Int × List ye) × (List yq) × Int × zA0 × Int × Bool) (D : List HRow) : yO.H N e D =
bindO (zZ.H N e.1 (hhide D)) fun r1 =>
bindO (zY.H N e.2.1 (hhide (yw D r1.2))) fun r2 =>
bif decide (List.length e.2.2.2.1 <= maxN) then
some ((r1.1, (r2.1, e.2.2)), yw (yw D r1.2) r2.2)
else none := by kernel_rfl
def yj.x : XFunc := { nslots := 12, nobj := 4, pars := [.val true 15], rowsIn := no 15, rets := [.var 2 true 15], outs := [.imm, .imm, .imm, .imm, .own 15, .imm, .imm, .imm, .imm, .imm, .own 4, .imm, .imm, .imm, .imm], fresh := true, arg := .pair T4_33 T5_33, ret := .pair T7_33 T5_33, body := .seq (rG [ow 1 (.box 0) [.slot 0] [0] [0], ow 2 (.alloc 1 [cZ, .nil, .nil, cZ, .nil, cZ, .bool false, cZ, cZ, cZ, .nil, cZ, cZ, cZ, cZ]) [] [1] [1]]) (.seq (rG [fA 3 0 1, lU 4 7 3 0, ow 5 (.callH false ⟨449, [.val true 7], no 7, [.val true 7], [.imm, .imm, .imm, .imm, .own 3 15, .imm, .imm], true⟩) [.slot 4] [3, 100] [3, 100], fA 6 0 1, sT 7 6 5 0]) (.seq (rG [fA 7 10 1, lN 8 7 0, ow 9 (.append false 2 4 T12_33) [.const (.one (.nil)), .slot 8] [2] [2], fA 10 10 1, sT 1 10 9 0]) (.seq (rG [lU 11 15 1 0, sT 15 2 11 1]) (.ret)))), hp := true }
def yj.env (N : Nat) : Env := envOf (tbl [(449, yO.fs N)] noFS)
def yj.H (N : Nat) (x : zCB) (D : List HRow) : Option (D22_33 × List HRow) := XFunc.runH yj.x (yj.env N) N x D
def yj.fs (N : Nat) : FS := { arg := yj.x.arg, ret := yj.x.ret, fresh := true, F := fun _ => none, hp := true, H := yj.H N }
theorem yj.H_eq (N : Nat) (d : zCB) (D : List HRow) : yj.H N d D =
bindO (yO.H N d.1 (hhide D)) fun r1 =>
bif decide (List.length d.2.2.1 <= maxN) then
some ((r1.1, d.2), yw D r1.2)
else none := by kernel_rfl
def zC.c1 : XCode := .seq (rG [o2 11 (.bin .lss) 10 9]) (.seq (cX 11 0) (.seq (.block 1 (.seq (rG [o2 12 (.indexAddr zBk) 8 10, o1 13 (.load true 2) 12, ow 7 (.alloc 1 [cZ, .nil]) [] [1] [1], sT 2 7 13 1]) (.seq (.seq (rG [lU 14 2 2 0, lU 15 2 7 1, ow 16 (cO 206 [.val true 2, .val true 2] 4 true) (sl [14, 15]) [100] [], o1 17 .not 16]) (.cond (.slot 17) (rG [mv 18 5, lU 19 2 7 1, ow 20 (.buildSlice false 2 12 zBk 1 [(0, 2)] [cZ, .nil]) [.slot 19] [2] [2], ow 21 (.append false 3 12 zBk) (sl [18, 20]) [2, 3] [3], mv 5 21]) (.skip))) (rG [lU 22 2 7 1, sT 2 2 22 0])))) (rG [op 23 (.bin .add) [.slot 10, cI 1], mv 10 23])))
def zC.c2 : XCode := .seq (rG [mv 24 5, mv 4 24]) (.ret)
def zC.x : XFunc := { nslots := 25, nobj := 4, pars := [.val true 2, .val false 1], rowsIn := no 3, rets := [.tmp 4 false 1], outs := [.own 12], fresh := true, arg := .pair zBk (.list zBk), ret := .list zBk, body := .seq (rG [ow 2 (.box 0) [.slot 0] [0] [0], op 4 .move [.const (.one (.nil))]]) (.seq (rG [op 5 .move [.const (.one (.nil))]]) (.seq (.seq (rG [mv 8 1, o1 9 .len 8, op 10 .move [cI 0]]) (.block 0 (.loop [.mkrow (.slot 5) 3 12 zBk, .keep [2, 5, 8, 9, 10], .drop 1, .drop 2, .norm] (zC.c1)))) (zC.c2))), hp := true }
def zC.env (N : Nat) : Env := envOf (tbl [(206, zAE.fs N)] noFS)
def zC.H (N : Nat) (x : (Int × Hnd) × List (Int × Hnd)) (D : List HRow) : Option D25_33 := XFunc.runH zC.x (zC.env N) N x D
def zC.fs (N : Nat) : FS := { arg := zC.x.arg, ret := zC.x.ret, fresh := true, F := fun _ => none, hp := true, H := zC.H N }
def zC.k2 (N : Nat) : Ex -> S -> Option D25_33 := seqK (fun s => XCode.runK (zC.env N) N (zC.c2) s (XFunc.endKH zC.x)) (XFunc.endKH zC.x)
def zC.k1 (N : Nat) : Ex -> S -> Option D25_33 := y7 0 (zC.k2 N)
def zC.L1 (N : Nat) (n1 : Nat) (t8 : List (Int × Hnd)) (t9 : Int) (t10 : Int) (o00 : Int) (o01 : Hnd) (o3 : List (Int × Hnd)) (D : List HRow) : Option D25_33 := loopK [.mkrow (.slot 5) 3 12 zBk, .keep [2, 5, 8, 9, 10], .drop 1, .drop 2, .norm] (rK (zC.env N) N zC.c1) n1
 { t := jK 25 [(2, .one (.ptr 0 0 0)), (5, .one (.ref 3 0 .all)), (8, .one (.sl false zBk t8)), (9, .one (.int .i64 t9)), (10, .one (.int .i64 t10))], h := [.box 0 false [.int .i64 o00, .hnd (.int .i64) o01], .absent 0, .absent 0, .row 0 false true 12 zBk o3], d := D }
 (zC.k1 N)
theorem zC.L1_eq (N : Nat) (n1 : Nat) (t8 : List (Int × Hnd)) (t9 : Int) (t10 : Int) (o00 : Int) (o01 : Hnd) (o3 : List (Int × Hnd)) (D : List HRow) : zC.L1 N (n1 + 1) t8 t9 t10 o00 o01 o3 D =
bif decide (t10 < t9) then
bif zG t10 (t8.length) then
bif (hok D (.int .i64) o01) && (hok D (.int .i64) ((nth (0, (none : Hnd)) t8 t10).2)) then
bindO (zAE.F N ((o00, hcut D (.int .i64) o01), ((nth (0, (none : Hnd)) t8 t10).1, hcut D (.int .i64) ((nth (0, (none : Hnd)) t8 t10).2)))) fun r1 =>
bif !r1 then
bif decide (o3.length + List.length ([(nth (0, (none : Hnd)) t8 t10)] : List (Int × Hnd)) <= maxN) then
zC.L1 N n1 t8 t9 (IntKind.wrap .i64 (t10 + 1)) ((nth (0, (none : Hnd)) t8 t10).1) ((nth (0, (none : Hnd)) t8 t10).2) (o3 ++ ([(nth (0, (none : Hnd)) t8 t10)] : List (Int × Hnd))) D
else none
else
zC.L1 N n1 t8 t9 (IntKind.wrap .i64 (t10 + 1)) ((nth (0, (none : Hnd)) t8 t10).1) ((nth (0, (none : Hnd)) t8 t10).2) o3 D
else none
else none
else
some (o3, D) := by kernel_rfl
theorem zC.H_eq (N : Nat) (last : Int × Hnd) (l_ : List (Int × Hnd)) (D : List HRow) : zC.H N (last, l_) D =
zC.L1 N N l_ (l_.length : Int) 0 last.1 last.2 ([] : List (Int × Hnd)) D := by kernel_rfl
def zAc.x : XFunc := { nslots := 33, nobj := 7, pars := [.val true 7, .val false 1], rowsIn := no 8, rets := [.var 4 true 7, .tmp 5 false 1], outs := [.imm, .imm, .imm, .imm, .own 15, .imm, .imm, .imm], fresh := true, arg := .pair T4_33 (.int .i64), ret := .pair T7_33 (.list zBk), body := .seq (rG [ow 2 (.box 0) [.slot 0] [0] [0], ow 4 (.alloc 1 [cZ, .nil, .nil, cZ, .nil, cZ, .bool false]) [] [1] [1], op 5 .move [.const (.one (.nil))]]) (.seq (rG [lU 8 7 2 0, ow 9 (.callH false ⟨449, [.val true 7], no 7, [.val true 7], [.imm, .imm, .imm, .imm, .own 3 15, .imm, .imm], true⟩) [.slot 8] [3, 100] [3, 100], ow 6 (.alloc 2 [cZ, .nil, .nil, cZ, .nil, cZ, .bool false]) [] [2] [2], sT 7 6 9 2]) (.seq (rG [lU 10 7 2 0, mv 11 1, o2 12 (cO 179 [.val true 7, .val false 1] 8 true) 10 11, mv 7 12]) (.seq (.region true [fA 13 4 6, lN 14 13 2, mv 15 7, ow 16 (.slice zBN false true) (sl [14, 15]) [3] [], fA 17 4 6, lN 18 17 2, mv 19 7, op 20 (.bin .add) [.slot 19, cI 1], ow 21 (.slice zBN true false) (sl [18, 20]) [3] [], ow 22 (.appendDel 3 15 zBN) (sl [16, 21]) [3] [3], fA 23 4 6, sT 1 23 22 2]) (.seq (.region true [lU 24 7 6 2, fA 25 4 2, lN 26 25 0, ⟨some 27, .call ⟨204, vs 1, no 1, [.val true 2], [.imm, .own 6 2], true⟩, [.slot 26], [6, 100], [6], none, false, .pub 6⟩, fA 28 4 6, lN 29 28 2, ⟨some 30, .call ⟨204, vs 1, no 1, [.val true 2], [.imm, .own 5 2], true⟩, [.slot 29], [3, 5, 100], [5], none, false, .pub 5⟩, ow 31 (.buildSlice false 4 12 zBk 1 [(0, 2)] [cZ, .nil]) [.slot 30] [4] [4], ow 32 (.callH true ⟨451, [.val true 2, .val false 1], no 3, [.val false 1], ims 1, true⟩) (sl [27, 31]) [4, 100] [100], sT 7 4 24 1, mv 5 32]) (.ret))))), hp := true }
def zAc.env (N : Nat) : Env := envOf (tbl [(179, yd.fs N), (204, zJ.fs N), (451, zC.fs N), (449, yO.fs N)] noFS)
def zAc.H (N : Nat) (x : D16_33 × Int) (D : List HRow) : Option ((D18_33 × List (Int × Hnd)) × List HRow) := XFunc.runH zAc.x (zAc.env N) N x D
def zAc.fs (N : Nat) : FS := { arg := zAc.x.arg, ret := zAc.x.ret, fresh := true, F := fun _ => none, hp := true, H := zAc.H N }
theorem zAc.H_eq (N : Nat) (e : (Int × List ye) × (List yq) × Int × zA0 × Int × Bool) (key : Int) (D : List HRow) : zAc.H N (e, key) D =
bindO (yO.H N e (hhide D)) fun r1 =>
bindO (yd.F N (e, key)) fun r2 =>
bif decide (0 <= r2) && decide (r2 <= (List.length r1.1.2.2.2.1 : Int)) then
bif decide (0 <= IntKind.wrap .i64 (r2 + 1)) && decide (IntKind.wrap .i64 (r2 + 1) <= (List.length r1.1.2.2.2.1 : Int)) then
bif decide ((Int.toNat r2) <= (Int.toNat (IntKind.wrap .i64 (r2 + 1)))) && decide (List.length r1.1.2.2.2.1 <= maxN) then
bindO (zJ.F N e.2.2.2.1) fun r3 =>
bindO (zJ.F N (List.take (Int.toNat r2) r1.1.2.2.2.1 ++ List.drop (Int.toNat (IntKind.wrap .i64 (r2 + 1))) r1.1.2.2.2.1)) fun r4 =>
bindO (zC.H N ((r3.1, (some (List.length (yw D r1.2), 0, List.length r3.2) : Hnd)), ([(r4.1, (some (List.length ((yw D r1.2) ++ [HRow.row 2 (.int .i64) r3.2]), 0, List.length r4.2) : Hnd))] : List (Int × Hnd))) (((yw D r1.2) ++ [HRow.row 2 (.int .i64) r3.2]) ++ [HRow.row 2 (.int .i64) r4.2])) fun r5 =>
some (((r1.1.1, (r1.1.2.1, (r1.1.2.2.1, (List.take (Int.toNat r2) r1.1.2.2.2.1 ++ List.drop (Int.toNat (IntKind.wrap .i64 (r2 + 1))) r1.1.2.2.2.1, r1.1.2.2.2.2)))), r5.1), r5.2)
else none
else none
else none := by kernel_rfl
def zAp.x : XFunc := { nslots := 114, nobj := 4, pars := [.box 0 7, .val true 4], rowsIn := [none, none, none, none, some (1, 15), none, none, none, none, none, none], rets := [.var 4 true 4], outs := [.imm, .imm, .imm, .imm, .imm, .imm, .imm, .imm, .own 15, .imm, .imm], fresh := false, arg := .pair T7_33 ym, ret := .pair ym T7_33, body := .seq (rG [ow 3 (.box 2) [.slot 1] [2] [2], ow 4 (.alloc 3 [cZ, cZ, cZ, cZ]) [] [3] [3]]) (.seq (.seq (rG [fA 5 0 3, lN 6 5 2]) (.block 0 (.seq (rG [op 8 (.bin .eql) [.slot 6, cI 2], mv 7 8]) (.cond (.slot 7) (.seq (.seq (rG [fA 9 1 3, lN 10 9 2, op 11 (.bin .eql) [.slot 10, cI 0]]) (.cond (.slot 11) (.seq (rG [lU 12 4 3 2, sT 4 4 12 3]) (.ret)) (.skip))) (.seq (.region true [fA 13 2 3, lN 14 13 2, mv 15 0, o1 16 .nilck 15, fA 17 5 16, lN 18 17 0, o2 19 (.bin .or) 14 18, fA 20 2 3, sT 1 20 19 2]) (.seq (rG [mv 21 0, o1 22 .nilck 21, fA 23 5 22, on (.store 1) [.slot 23, cI 0] [0] [0]]) (.seq (rG [mv 24 0, mv 25 0, o1 26 .nilck 25, fA 27 6 26, lN 28 27 0, sX 29 [.slot 28], gF 30 1 3 29 true, gL 31 30 2 29 true, ⟨some 32, cO 215 (vs 1) 1 true, [.slot 31], [], [], some (29, true), false, .none⟩, op 33 .pick [.slot 29, .slot 32, cB false], o1 34 .nilck 24, fA 35 6 34, sT 1 35 33 0]) (.seq (rG [mv 36 0, o1 37 .nilck 36, fA 38 6 37, lN 39 38 0, sX 40 [.slot 39], gF 41 1 3 40 true, gL 42 41 2 40 true, gX 43 (.bin .leq) [.slot 42, cI 26] [] [] 40 true, op 44 .pick [.slot 40, .slot 43, cB false], sX 45 [.slot 44], gF 46 2 3 45 true, gL 47 46 2 45 true, gX 48 (.bin .andNot) [.slot 47, cI 2] [] [] 45 true, gX 49 (.bin .eql) [.slot 48, cI 0] [] [] 45 true, op 50 .pick [.slot 45, .slot 49, cB false]]) (.cond (.slot 50) (rG [fA 51 2 3, on (.store 1) [.slot 51, cI 2] [2] [2]]) (.skip))))))) (.seq (rG [op 53 (.bin .eql) [.slot 6, cI 4], mv 52 53]) (.cond (.slot 52) (.region true [mv 54 0, o1 55 .nilck 54, fA 56 3 55, lN 57 56 0, fA 58 3 3, lN 59 58 2, op 60 (.bin .shl) [cI 1, .slot 59], o2 61 (.bin .xor) 57 60, o1 62 .nilck 54, fA 63 3 62, sT 1 63 61 0]) (.seq (rG [op 65 (.bin .eql) [.slot 6, cI 5], mv 64 65]) (.cond (.slot 64) (rG [mv 66 0, fA 67 3 3, lN 68 67 2, op 69 (.bin .shl) [cI 1, .slot 68], op 70 (.bin .andNot) [.slot 69, cI 1], o1 71 .nilck 66, fA 72 3 71, sT 1 72 70 0]) (.seq (rG [op 74 (.bin .eql) [.slot 6, cI 8], mv 73 74]) (.cond (.slot 73) (.seq (.region true [mv 75 0, o1 76 .nilck 75, fA 77 5 76, lN 78 77 0, fA 79 2 3, lN 80 79 2, o2 81 (.bin .and) 78 80, fA 82 2 3, lN 83 82 2, o2 84 (.bin .eql) 81 83]) (.cond (.slot 84) (.region true [mv 85 0, o1 86 .nilck 85, fA 87 5 86, lN 88 87 0, fA 89 2 3, lN 90 89 2, o2 91 (.bin .andNot) 88 90, o1 92 .nilck 85, fA 93 5 92, sT 1 93 91 0]) (.region true [mv 94 0, o1 95 .nilck 94, fA 96 5 95, lN 97 96 0, fA 98 2 3, lN 99 98 2, o2 100 (.bin .or) 97 99, o1 101 .nilck 94, fA 102 5 101, sT 1 102 100 0]))) (.seq (rG [op 104 (.bin .eql) [.slot 6, cI 10], mv 103 104]) (.cond (.slot 103) (rG [mv 105 0, mv 106 0, o1 107 .nilck 106, fA 108 6 107, lN 109 108 0, o1 110 .not 109, o1 111 .nilck 105, fA 112 6 111, sT 1 112 110 0]) (.skip))))))))))))) (.seq (rG [lU 113 4 3 2, sT 4 4 113 3]) (.ret))), keep := true, hp := true }
def zAp.env (N : Nat) : Env := envOf (tbl [(215, zAF.fs N)] noFS)
def zAp.H (N : Nat) (x : D18_33 × Int × Int × Int × Int) (D : List HRow) : Option (((Int × Int × Int × Int) × (Int × List Hnd) × (List Hnd) × Int × zA0 × Int × Bool) × List HRow) := XFunc.runH zAp.x (zAp.env N) N x D
def zAp.fs (N : Nat) : FS := { arg := zAp.x.arg, ret := zAp.x.ret, fresh := false, F := fun _ => none, keep := true, hp := true, H := zAp.H N }
theorem zAp.H_eq (N : Nat) (e : (Int × List Hnd) × (List Hnd) × Int × zA0 × Int × Bool) (a : Int × Int × Int × Int) (D : List HRow) : zAp.H N (e, a) D =
bif a.1 == 2 then
bif a.2.1 == 0 then
some ((a, e), D)
else
bif e.2.2.2.2.2 then
bindO (zAF.F N a.2.1) fun r1 =>
bif r1 then
bif decide (a.2.1 <= 26) then
bif (zBM .i64 (bitOr .i64 a.2.2.1 e.2.2.2.2.1) 2) == 0 then
some (((a.1, (a.2.1, (2, a.2.2.2))), (e.1, (e.2.1, (e.2.2.1, (e.2.2.2.1, (0, r1)))))), D)
else
some (((a.1, (a.2.1, (bitOr .i64 a.2.2.1 e.2.2.2.2.1, a.2.2.2))), (e.1, (e.2.1, (e.2.2.1, (e.2.2.2.1, (0, r1)))))), D)
else
some (((a.1, (a.2.1, (bitOr .i64 a.2.2.1 e.2.2.2.2.1, a.2.2.2))), (e.1, (e.2.1, (e.2.2.1, (e.2.2.2.1, (0, r1)))))), D)
else
some (((a.1, (a.2.1, (bitOr .i64 a.2.2.1 e.2.2.2.2.1, a.2.2.2))), (e.1, (e.2.1, (e.2.2.1, (e.2.2.2.1, (0, r1)))))), D)
else
some (((a.1, (a.2.1, (bitOr .i64 a.2.2.1 e.2.2.2.2.1, a.2.2.2))), (e.1, (e.2.1, (e.2.2.1, (e.2.2.2.1, (0, false)))))), D)
else
bif a.1 == 4 then
bif decide (0 <= a.2.2.2) then
some ((a, (e.1, (e.2.1, (zBw .i64 e.2.2.1 (zBS .i64 1 a.2.2.2), e.2.2.2)))), D)
else none
else
bif a.1 == 5 then
bif decide (0 <= a.2.2.2) then
some ((a, (e.1, (e.2.1, (zBM .i64 (zBS .i64 1 a.2.2.2) 1, e.2.2.2)))), D)
else none
else
bif a.1 == 8 then
bif (zBo .i64 e.2.2.2.2.1 a.2.2.1) == a.2.2.1 then
some ((a, (e.1, (e.2.1, (e.2.2.1, (e.2.2.2.1, (zBM .i64 e.2.2.2.2.1 a.2.2.1, e.2.2.2.2.2)))))), D)
else
some ((a, (e.1, (e.2.1, (e.2.2.1, (e.2.2.2.1, (bitOr .i64 e.2.2.2.2.1 a.2.2.1, e.2.2.2.2.2)))))), D)
else
bif a.1 == 10 then
some ((a, (e.1, (e.2.1, (e.2.2.1, (e.2.2.2.1, (e.2.2.2.2.1, !e.2.2.2.2.2)))))), D)
else
some ((a, e), D) := by kernel_rfl
def zI.c1 : XCode := .seq (rG [o2 25 (.bin .lss) 24 23]) (.seq (cX 25 0) (.seq (.block 1 (.seq (rG [o2 26 (.indexAddr yp) 22 24, o1 27 (.load true 3) 26, ow 9 (.alloc 1 [cZ, cZ, cZ]) [] [1] [1], sT 3 9 27 1]) (.seq (rG [fA 28 1 9, lN 29 28 1, fA 30 2 9, lN 31 30 1, o2 32 (.build [cZ, cZ] [(0, 1), (1, 1)]) 29 31, ow 10 (.alloc 2 [cZ, cZ]) [] [2] [2], sT 2 10 32 2]) (.seq (.seq (rG [fA 33 0 9, lN 34 33 1]) (.block 2 (.seq (rG [op 36 (.bin .eql) [.slot 34, cI 0], mv 35 36]) (.cond (.slot 35) (.region true [mv 37 6, lU 38 2 5 0, mv 39 7, ow 40 (.append false 3 14 zCM) [.const (.one (.nil)), .slot 39] [3, 11] [3], lU 41 2 10 2, ow 42 (.buildSlice false 4 14 zCM 1 [(0, 2)] [cZ, cZ]) [.slot 41] [4] [4], ow 43 (.append false 3 14 zCM) (sl [40, 42]) [3, 4] [3], ⟨some 44, .call ⟨217, [.val true 2, .val false 1], no 3, [.val true 2], [.imm, .own 6 2], true⟩, (sl [38, 43]), [3, 6, 100], [6], none, false, .pub 6⟩, ow 45 (.buildSlice false 5 12 zBk 1 [(0, 2)] [cZ, .nil]) [.slot 44] [5] [5], ow 46 (.append false 7 12 zBk) (sl [37, 45]) [5, 7] [7], mv 6 46]) (.seq (rG [op 48 (.bin .eql) [.slot 34, cI 1], mv 47 48]) (.cond (.slot 47) (rG [mv 49 7, lU 50 2 10 2, ow 51 (.buildSlice false 10 14 zCM 1 [(0, 2)] [cZ, cZ]) [.slot 50] [10] [10], ow 52 (.append false 11 14 zCM) (sl [49, 51]) [10, 11] [11], mv 7 52]) (.seq (rG [op 54 (.bin .eql) [.slot 34, cI 2], mv 53 54]) (.cond (.slot 53) (.seq (rG [mv 55 7, lU 56 2 10 2, ow 57 (cO 165 [.val false 1, .val true 2] 3 true) (sl [55, 56]) [11] [], mv 11 57]) (.region true [mv 58 7, mv 59 11, ow 60 (.slice zCM false true) (sl [58, 59]) [11] [], mv 61 7, mv 62 11, op 63 (.bin .add) [.slot 62, cI 1], ow 64 (.slice zCM true false) (sl [61, 63]) [11] [], ow 65 (.appendDel 11 14 zCM) (sl [60, 64]) [11] [11], mv 7 65])) (.skip))))))))) (rG [mv 66 6, lU 67 2 5 0, mv 68 7, ⟨some 69, .call ⟨217, [.val true 2, .val false 1], no 3, [.val true 2], [.imm, .own 9 2], true⟩, (sl [67, 68]), [9, 11, 100], [9], none, false, .pub 9⟩, ow 70 (.buildSlice false 8 12 zBk 1 [(0, 2)] [cZ, .nil]) [.slot 69] [8] [8], ow 71 (.append false 7 12 zBk) (sl [66, 70]) [7, 8] [7], mv 6 71]))))) (rG [op 72 (.bin .add) [.slot 24, cI 1], mv 24 72])))
def zI.c2 : XCode := .seq (rG [mv 73 6, mv 4 73]) (.ret)
def zI.x : XFunc := { nslots := 74, nobj := 12, pars := [.val false 1, .val false 1], rowsIn := no 2, rets := [.tmp 4 false 1], outs := [.own 12], fresh := true, arg := .pair (.list zBN) (.list yp), ret := .list zBk, body := .seq (rG [op 4 .move [.const (.one (.nil))]]) (.seq (.seq (rG [mv 12 0, o1 13 (cO 164 (vs 1) 1 true) 12, o1 14 .not 13, sX 15 [.slot 14], gM 16 1 15 false, ⟨some 17, cO 166 (vs 1) 1 true, [.slot 16], [], [], some (15, false), false, .none⟩, gX 18 .not [.slot 17] [] [] 15 false, op 19 .pick [.slot 15, cB true, .slot 18]]) (.cond (.slot 19) (.seq (rG [op 4 .move [.const (.one (.nil))]]) (.ret)) (.skip))) (.seq (rG [mv 20 0, o1 21 (.call ⟨204, vs 1, no 1, [.val true 2], ims 2, true⟩) 20, ow 5 (.alloc 0 [cZ, .nil]) [] [0] [0], sT 2 5 21 0]) (.seq (rG [op 6 .move [.const (.one (.nil))]]) (.seq (rG [op 7 .move [.const (.one (.nil))]]) (.seq (.seq (rG [mv 22 1, o1 23 .len 22, op 24 .move [cI 0]]) (.block 0 (.loop [.mkrow (.slot 6) 7 12 zBk, .mkrow (.slot 7) 11 14 zCM, .keep [5, 6, 7, 22, 23, 24], .drop 1, .drop 2, .drop 3, .drop 4, .drop 5, .drop 6, .drop 8, .drop 9, .drop 10, .norm] (zI.c1)))) (zI.c2)))))), hp := true }
def zI.env (N : Nat) : Env := envOf (tbl [(164, z5.fs N), (166, zx.fs N), (204, zJ.fs N), (165, yW.fs N), (217, zb.fs N)] noFS)
def zI.H (N : Nat) (x : zA0 × List (Int × Int × Int)) (D : List HRow) : Option D25_33 := XFunc.runH zI.x (zI.env N) N x D
def zI.fs (N : Nat) : FS := { arg := zI.x.arg, ret := zI.x.ret, fresh := true, F := fun _ => none, hp := true, H := zI.H N }
def zI.k2 (N : Nat) : Ex -> S -> Option D25_33 := seqK (fun s => XCode.runK (zI.env N) N (zI.c2) s (XFunc.endKH zI.x)) (XFunc.endKH zI.x)
def zI.k1 (N : Nat) : Ex -> S -> Option D25_33 := y7 0 (zI.k2 N)
def zI.L1 (N : Nat) (n1 : Nat) (t22 : yq) (t23 : Int) (t24 : Int) (o00 : Int) (o01 : List Int) (o7 : List (Int × Hnd)) (o11 : List (Int × Int)) (D : List HRow) : Option D25_33 := loopK [.mkrow (.slot 6) 7 12 zBk, .mkrow (.slot 7) 11 14 zCM, .keep [5, 6, 7, 22, 23, 24], .drop 1, .drop 2, .drop 3, .drop 4, .drop 5, .drop 6, .drop 8, .drop 9, .drop 10, .norm] (rK (zI.env N) N zI.c1) n1
 { t := jK 74 [(5, .one (.ptr 0 0 0)), (6, .one (.ref 7 0 .all)), (7, .one (.ref 11 0 .all)), (22, .one (.sl false yp t22)), (23, .one (.int .i64 t23)), (24, .one (.int .i64 t24))], h := [.box 0 false [.int .i64 o00, .sl true (.int .i64) o01], .absent 0, .absent 0, .absent 0, .absent 0, .absent 0, .absent 0, .row 0 false true 12 zBk o7, .absent 0, .absent 0, .absent 0, .row 0 false true 14 zCM o11], d := D }
 (zI.k1 N)
theorem zI.L1_eq (N : Nat) (n1 : Nat) (t22 : yq) (t23 : Int) (t24 : Int) (o00 : Int) (o01 : List Int) (o7 : List (Int × Hnd)) (o11 : List (Int × Int)) (D : List HRow) : zI.L1 N (n1 + 1) t22 t23 t24 o00 o01 o7 o11 D =
bif decide (t24 < t23) then
bif zG t24 (t22.length) then
bif ((nth (0, (0, 0)) t22 t24).1) == 0 then
bif decide (o11.length <= maxN) then
bif decide (o11.length + List.length ([((nth (0, (0, 0)) t22 t24).2)] : List (Int × Int)) <= maxN) then
bindO (zb.F N ((o00, o01), o11 ++ ([((nth (0, (0, 0)) t22 t24).2)] : List (Int × Int)))) fun r4 =>
bif decide (o7.length + List.length ([(r4.1, (some (D.length, 0, List.length r4.2) : Hnd))] : List (Int × Hnd)) <= maxN) then
bindO (zb.F N ((o00, o01), o11)) fun r5 =>
bif decide (List.length (o7 ++ ([(r4.1, (some (D.length, 0, List.length r4.2) : Hnd))] : List (Int × Hnd))) + List.length ([(r5.1, (some (List.length (D ++ [HRow.row 2 (.int .i64) r4.2]), 0, List.length r5.2) : Hnd))] : List (Int × Hnd)) <= maxN) then
zI.L1 N n1 t22 t23 (IntKind.wrap .i64 (t24 + 1)) o00 o01 ((o7 ++ ([(r4.1, (some (D.length, 0, List.length r4.2) : Hnd))] : List (Int × Hnd))) ++ ([(r5.1, (some (List.length (D ++ [HRow.row 2 (.int .i64) r4.2]), 0, List.length r5.2) : Hnd))] : List (Int × Hnd))) o11 ((D ++ [HRow.row 2 (.int .i64) r4.2]) ++ [HRow.row 2 (.int .i64) r5.2])
else none
else none
else none
else none
else
bif ((nth (0, (0, 0)) t22 t24).1) == 1 then
bif decide (o11.length + List.length ([((nth (0, (0, 0)) t22 t24).2)] : List (Int × Int)) <= maxN) then
bindO (zb.F N ((o00, o01), o11 ++ ([((nth (0, (0, 0)) t22 t24).2)] : List (Int × Int)))) fun r6 =>
bif decide (o7.length + List.length ([(r6.1, (some (D.length, 0, List.length r6.2) : Hnd))] : List (Int × Hnd)) <= maxN) then
zI.L1 N n1 t22 t23 (IntKind.wrap .i64 (t24 + 1)) o00 o01 (o7 ++ ([(r6.1, (some (D.length, 0, List.length r6.2) : Hnd))] : List (Int × Hnd))) (o11 ++ ([((nth (0, (0, 0)) t22 t24).2)] : List (Int × Int))) (D ++ [HRow.row 2 (.int .i64) r6.2])
else none
else none
else
bif ((nth (0, (0, 0)) t22 t24).1) == 2 then
bindO (yW.F N (o11, ((nth (0, (0, 0)) t22 t24).2))) fun r7 =>
bif decide (0 <= r7) && decide (r7 <= (o11.length : Int)) then
bif decide (0 <= IntKind.wrap .i64 (r7 + 1)) && decide (IntKind.wrap .i64 (r7 + 1) <= (o11.length : Int)) then
bif decide ((Int.toNat r7) <= (Int.toNat (IntKind.wrap .i64 (r7 + 1)))) && decide (o11.length <= maxN) then
bindO (zb.F N ((o00, o01), List.take (Int.toNat r7) o11 ++ List.drop (Int.toNat (IntKind.wrap .i64 (r7 + 1))) o11)) fun r8 =>
bif decide (o7.length + List.length ([(r8.1, (some (D.length, 0, List.length r8.2) : Hnd))] : List (Int × Hnd)) <= maxN) then
zI.L1 N n1 t22 t23 (IntKind.wrap .i64 (t24 + 1)) o00 o01 (o7 ++ ([(r8.1, (some (D.length, 0, List.length r8.2) : Hnd))] : List (Int × Hnd))) (List.take (Int.toNat r7) o11 ++ List.drop (Int.toNat (IntKind.wrap .i64 (r7 + 1))) o11) (D ++ [HRow.row 2 (.int .i64) r8.2])
else none
else none
else none
else none
else
bindO (zb.F N ((o00, o01), o11)) fun r9 =>
bif decide (o7.length + List.length ([(r9.1, (some (D.length, 0, List.length r9.2) : Hnd))] : List (Int × Hnd)) <= maxN) then
zI.L1 N n1 t22 t23 (IntKind.wrap .i64 (t24 + 1)) o00 o01 (o7 ++ ([(r9.1, (some (D.length, 0, List.length r9.2) : Hnd))] : List (Int × Hnd))) o11 (D ++ [HRow.row 2 (.int .i64) r9.2])
else none
else none
else
some (o7, D) := by kernel_rfl
theorem zI.H_eq (N : Nat) (l_ : zA0) (steps : yq) (D : List HRow) : zI.H N (l_, steps) D =
bindO (z5.F N l_) fun r1 =>
bif !r1 then
some (([] : List (Int × Hnd)), D)
else
bindO (zx.F N steps) fun r2 =>
bif !r2 then
some (([] : List (Int × Hnd)), D)
else
bindO (zJ.F N l_) fun r3 =>
zI.L1 N N steps (steps.length : Int) 0 r3.1 r3.2 ([] : List (Int × Hnd)) ([] : List (Int × Int)) D := by kernel_rfl
def zAd.x : XFunc := { nslots := 79, nobj := 11, pars := [.val true 7, .val false 1, .val false 1], rowsIn := no 9, rets := [.var 6 true 7, .tmp 7 false 1], outs := [.imm, .imm, .imm, .imm, .own 15, .imm, .imm, .imm], fresh := true, arg := .pair T4_33 (.pair (.int .i64) (.bool)), ret := .pair T7_33 (.list zBk), body := .seq (rG [ow 3 (.box 0) [.slot 0] [0] [0], ow 6 (.alloc 1 [cZ, .nil, .nil, cZ, .nil, cZ, .bool false]) [] [1] [1], op 7 .move [.const (.one (.nil))]]) (.seq (rG [lU 12 7 3 0, ow 13 (.callH false ⟨449, [.val true 7], no 7, [.val true 7], [.imm, .imm, .imm, .imm, .own 4 15, .imm, .imm], true⟩) [.slot 12] [4, 100] [4, 100], ow 8 (.alloc 2 [cZ, .nil, .nil, cZ, .nil, cZ, .bool false]) [] [2] [2], sT 7 8 13 2]) (.seq (rG [fA 14 3 3, lN 15 14 0, fA 16 4 3, lN 17 16 0, o2 18 (cO 209 (vs 2) 2 true) 15 17, mv 9 18]) (.seq (.region true [fA 19 0 3, fA 20 1 19, lN 21 20 0, fA 22 0 3, lU 23 2 22 0, mv 24 9, mv 25 1, op 26 (cO 210 [.val true 2, .val false 1, .val false 1] 4 true) (sl [23, 24, 25]), o2 27 (.indexAddr (.list ym)) 21 26, o1 28 (.load false 1) 27, mv 29 1, o2 30 (.indexAddr ym) 28 29, o1 31 (.load true 4) 30, ow 10 (.alloc 3 [cZ, cZ, cZ, cZ]) [] [3] [3], sT 4 10 31 3]) (.seq (.seq (rG [mv 32 2]) (.cond (.slot 32) (rG [lU 33 4 10 3, o1 34 (.call ⟨214, [.val true 4], no 4, [.val true 4], ims 4, true⟩) 33, sT 4 10 34 3]) (rG [lU 35 4 10 3, o1 36 (.call ⟨158, [.val true 4], no 4, [.val true 4], ims 4, true⟩) 35, sT 4 10 36 3]))) (.seq (rG [lU 37 4 10 3, ow 38 (.callH true ⟨453, [.box 2 7, .val true 4], [none, none, none, none, some (4, 15), none, none, none, none, none, none], [.val true 4], [.imm, .imm, .imm, .imm, .imm, .imm, .imm, .imm, .own 4 15, .imm, .imm], false⟩) (sl [8, 37]) [2, 4, 100] [2, 4, 100], sT 4 10 38 3]) (.seq (rG [fA 39 4 8, lN 40 39 2, mv 41 1, lU 42 4 10 3, o2 43 (.build [cZ, cZ, cZ, cZ, cZ] [(0, 1), (1, 4)]) 41 42, ow 44 (.buildSlice false 6 15 zBN 1 [(0, 5)] [cZ, cZ, cZ, cZ, cZ]) [.slot 43] [6] [6], ow 45 (.append false 4 15 zBN) (sl [40, 44]) [4, 6] [4], fA 46 4 8, sT 1 46 45 2]) (.seq (rG [op 11 .move [.const (.one (.nil))]]) (.seq (.seq (rG [fA 47 0 10, lN 48 47 3, op 49 (.bin .eql) [.slot 48, cI 9], sX 50 [.slot 49], gF 51 3 10 50 true, gL 52 51 3 50 true, gF 53 2 3 50 true, gL 54 53 0 50 true, gX 55 .len [.slot 54] [] [] 50 true, gX 56 (.bin .lss) (sl [52, 55]) [] [] 50 true, op 57 .pick [.slot 50, .slot 56, cB false]]) (.cond (.slot 57) (.region true [fA 58 4 8, lN 59 58 2, fA 60 2 3, lN 61 60 0, fA 62 3 10, lN 63 62 3, o2 64 (.indexAddr (.list yp)) 61 63, o1 65 (.load false 1) 64, ow 66 (.callH false ⟨454, vs 2, no 2, [.val false 1], [.own 9 12], true⟩) (sl [59, 65]) [4, 9, 100] [9, 100], mv 11 66]) (.skip))) (.seq (rG [mv 67 11, fA 68 4 8, lN 69 68 2, ⟨some 70, .call ⟨204, vs 1, no 1, [.val true 2], [.imm, .own 8 2], true⟩, [.slot 69], [4, 8, 100], [8], none, false, .pub 8⟩, ow 71 (.buildSlice false 7 12 zBk 1 [(0, 2)] [cZ, .nil]) [.slot 70] [7] [7], ow 72 (.append false 9 12 zBk) (sl [67, 71]) [7, 9] [9], mv 11 72]) (.seq (.region true [lU 73 7 8 2, fA 74 4 3, lN 75 74 0, ⟨some 76, .call ⟨204, vs 1, no 1, [.val true 2], [.imm, .own 10 2], true⟩, [.slot 75], [10, 100], [10], none, false, .pub 10⟩, mv 77 11, ow 78 (.callH true ⟨451, [.val true 2, .val false 1], no 3, [.val false 1], ims 1, true⟩) (sl [76, 77]) [9, 100] [100], sT 7 6 73 1, mv 7 78]) (.ret))))))))))), hp := true }
def zAd.env (N : Nat) : Env := envOf (tbl [(214, zA9.fs N), (209, zo.fs N), (454, zI.fs N), (204, zJ.fs N), (158, zBD.fs N), (451, zC.fs N), (449, yO.fs N), (210, yB.fs N), (453, zAp.fs N)] noFS)
def zAd.H (N : Nat) (x : D16_33 × Int × Bool) (D : List HRow) : Option ((D18_33 × List (Int × Hnd)) × List HRow) := XFunc.runH zAd.x (zAd.env N) N x D
def zAd.fs (N : Nat) : FS := { arg := zAd.x.arg, ret := zAd.x.ret, fresh := true, F := fun _ => none, hp := true, H := zAd.H N }
theorem zAd.H_eq (N : Nat) (e : (Int × List ye) × (List yq) × Int × zA0 × Int × Bool) (key : Int) (hold : Bool) (D : List HRow) : zAd.H N (e, key, hold) D =
bindO (yO.H N e (hhide D)) fun r1 =>
bindO (zo.F N (e.2.2.1, e.2.2.2.1)) fun r2 =>
bindO (yB.F N (e.1, (r2, key))) fun r3 =>
bif zG r3 (List.length e.1.2) then
bif zG key (List.length (nth ([] : List (Int × Int × Int × Int)) e.1.2 r3)) then
bif hold then
bindO (zA9.F N ((nth (0, (0, (0, 0))) (nth ([] : List (Int × Int × Int × Int)) e.1.2 r3) key).1, (((nth (0, (0, (0, 0))) (nth ([] : List (Int × Int × Int × Int)) e.1.2 r3) key).2).1, (((nth (0, (0, (0, 0))) (nth ([] : List (Int × Int × Int × Int)) e.1.2 r3) key).2).2)))) fun r4 =>
bindO (zAp.H N (r1.1, r4) (yw D r1.2)) fun r5 =>
bif decide (List.length r5.1.2.2.2.2.1 + List.length ([(key, r5.1.1)] : List (Int × Int × Int × Int × Int)) <= maxN) then
bif r5.1.1.1 == 9 then
bif decide (r5.1.1.2.2.2 < (List.length e.2.1 : Int)) then
bif zG r5.1.1.2.2.2 (List.length e.2.1) then
bindO (zI.H N (r5.1.2.2.2.2.1 ++ ([(key, r5.1.1)] : List (Int × Int × Int × Int × Int)), nth ([] : List (Int × Int × Int)) e.2.1 r5.1.1.2.2.2) (hhide r5.2)) fun r6 =>
bindO (zJ.F N (r5.1.2.2.2.2.1 ++ ([(key, r5.1.1)] : List (Int × Int × Int × Int × Int)))) fun r7 =>
bif decide (List.length r6.1 + List.length ([(r7.1, (some (List.length (yw r5.2 r6.2), 0, List.length r7.2) : Hnd))] : List (Int × Hnd)) <= maxN) then
bindO (zJ.F N e.2.2.2.1) fun r8 =>
bindO (zC.H N ((r8.1, (some (List.length ((yw r5.2 r6.2) ++ [HRow.row 2 (.int .i64) r7.2]), 0, List.length r8.2) : Hnd)), r6.1 ++ ([(r7.1, (some (List.length (yw r5.2 r6.2), 0, List.length r7.2) : Hnd))] : List (Int × Hnd))) (((yw r5.2 r6.2) ++ [HRow.row 2 (.int .i64) r7.2]) ++ [HRow.row 2 (.int .i64) r8.2])) fun r9 =>
some (((r5.1.2.1, (r5.1.2.2.1, (r5.1.2.2.2.1, (r5.1.2.2.2.2.1 ++ ([(key, r5.1.1)] : List (Int × Int × Int × Int × Int)), r5.1.2.2.2.2.2)))), r9.1), r9.2)
else none
else none
else
bindO (zJ.F N (r5.1.2.2.2.2.1 ++ ([(key, r5.1.1)] : List (Int × Int × Int × Int × Int)))) fun r10 =>
bif decide (List.length ([(r10.1, (some (List.length r5.2, 0, List.length r10.2) : Hnd))] : List (Int × Hnd)) <= maxN) then
bindO (zJ.F N e.2.2.2.1) fun r11 =>
bindO (zC.H N ((r11.1, (some (List.length (r5.2 ++ [HRow.row 2 (.int .i64) r10.2]), 0, List.length r11.2) : Hnd)), ([(r10.1, (some (List.length r5.2, 0, List.length r10.2) : Hnd))] : List (Int × Hnd))) ((r5.2 ++ [HRow.row 2 (.int .i64) r10.2]) ++ [HRow.row 2 (.int .i64) r11.2])) fun r12 =>
some (((r5.1.2.1, (r5.1.2.2.1, (r5.1.2.2.2.1, (r5.1.2.2.2.2.1 ++ ([(key, r5.1.1)] : List (Int × Int × Int × Int × Int)), r5.1.2.2.2.2.2)))), r12.1), r12.2)
else none
else
bindO (zJ.F N (r5.1.2.2.2.2.1 ++ ([(key, r5.1.1)] : List (Int × Int × Int × Int × Int)))) fun r13 =>
bif decide (List.length ([(r13.1, (some (List.length r5.2, 0, List.length r13.2) : Hnd))] : List (Int × Hnd)) <= maxN) then
bindO (zJ.F N e.2.2.2.1) fun r14 =>
bindO (zC.H N ((r14.1, (some (List.length (r5.2 ++ [HRow.row 2 (.int .i64) r13.2]), 0, List.length r14.2) : Hnd)), ([(r13.1, (some (List.length r5.2, 0, List.length r13.2) : Hnd))] : List (Int × Hnd))) ((r5.2 ++ [HRow.row 2 (.int .i64) r13.2]) ++ [HRow.row 2 (.int .i64) r14.2])) fun r15 =>
some (((r5.1.2.1, (r5.1.2.2.1, (r5.1.2.2.2.1, (r5.1.2.2.2.2.1 ++ ([(key, r5.1.1)] : List (Int × Int × Int × Int × Int)), r5.1.2.2.2.2.2)))), r15.1), r15.2)
else none
else none
else
bindO (zBD.F N ((nth (0, (0, (0, 0))) (nth ([] : List (Int × Int × Int × Int)) e.1.2 r3) key).1, (((nth (0, (0, (0, 0))) (nth ([] : List (Int × Int × Int × Int)) e.1.2 r3) key).2).1, (((nth (0, (0, (0, 0))) (nth ([] : List (Int × Int × Int × Int)) e.1.2 r3) key).2).2)))) fun r16 =>
bindO (zAp.H N (r1.1, r16) (yw D r1.2)) fun r17 =>
bif decide (List.length r17.1.2.2.2.2.1 + List.length ([(key, r17.1.1)] : List (Int × Int × Int × Int × Int)) <= maxN) then
bif r17.1.1.1 == 9 then
bif decide (r17.1.1.2.2.2 < (List.length e.2.1 : Int)) then
bif zG r17.1.1.2.2.2 (List.length e.2.1) then
bindO (zI.H N (r17.1.2.2.2.2.1 ++ ([(key, r17.1.1)] : List (Int × Int × Int × Int × Int)), nth ([] : List (Int × Int × Int)) e.2.1 r17.1.1.2.2.2) (hhide r17.2)) fun r18 =>
bindO (zJ.F N (r17.1.2.2.2.2.1 ++ ([(key, r17.1.1)] : List (Int × Int × Int × Int × Int)))) fun r19 =>
bif decide (List.length r18.1 + List.length ([(r19.1, (some (List.length (yw r17.2 r18.2), 0, List.length r19.2) : Hnd))] : List (Int × Hnd)) <= maxN) then
bindO (zJ.F N e.2.2.2.1) fun r20 =>
bindO (zC.H N ((r20.1, (some (List.length ((yw r17.2 r18.2) ++ [HRow.row 2 (.int .i64) r19.2]), 0, List.length r20.2) : Hnd)), r18.1 ++ ([(r19.1, (some (List.length (yw r17.2 r18.2), 0, List.length r19.2) : Hnd))] : List (Int × Hnd))) (((yw r17.2 r18.2) ++ [HRow.row 2 (.int .i64) r19.2]) ++ [HRow.row 2 (.int .i64) r20.2])) fun r21 =>
some (((r17.1.2.1, (r17.1.2.2.1, (r17.1.2.2.2.1, (r17.1.2.2.2.2.1 ++ ([(key, r17.1.1)] : List (Int × Int × Int × Int × Int)), r17.1.2.2.2.2.2)))), r21.1), r21.2)
else none
else none
else
bindO (zJ.F N (r17.1.2.2.2.2.1 ++ ([(key, r17.1.1)] : List (Int × Int × Int × Int × Int)))) fun r22 =>
bif decide (List.length ([(r22.1, (some (List.length r17.2, 0, List.length r22.2) : Hnd))] : List (Int × Hnd)) <= maxN) then
bindO (zJ.F N e.2.2.2.1) fun r23 =>
bindO (zC.H N ((r23.1, (some (List.length (r17.2 ++ [HRow.row 2 (.int .i64) r22.2]), 0, List.length r23.2) : Hnd)), ([(r22.1, (some (List.length r17.2, 0, List.length r22.2) : Hnd))] : List (Int × Hnd))) ((r17.2 ++ [HRow.row 2 (.int .i64) r22.2]) ++ [HRow.row 2 (.int .i64) r23.2])) fun r24 =>
some (((r17.1.2.1, (r17.1.2.2.1, (r17.1.2.2.2.1, (r17.1.2.2.2.2.1 ++ ([(key, r17.1.1)] : List (Int × Int × Int × Int × Int)), r17.1.2.2.2.2.2)))), r24.1), r24.2)
else none
else
bindO (zJ.F N (r17.1.2.2.2.2.1 ++ ([(key, r17.1.1)] : List (Int × Int × Int × Int × Int)))) fun r25 =>
bif decide (List.length ([(r25.1, (some (List.length r17.2, 0, List.length r25.2) : Hnd))] : List (Int × Hnd)) <= maxN) then
bindO (zJ.F N e.2.2.2.1) fun r26 =>
bindO (zC.H N ((r26.1, (some (List.length (r17.2 ++ [HRow.row 2 (.int .i64) r25.2]), 0, List.length r26.2) : Hnd)), ([(r25.1, (some (List.length r17.2, 0, List.length r25.2) : Hnd))] : List (Int × Hnd))) ((r17.2 ++ [HRow.row 2 (.int .i64) r25.2]) ++ [HRow.row 2 (.int .i64) r26.2])) fun r27 =>
some (((r17.1.2.1, (r17.1.2.2.1, (r17.1.2.2.2.1, (r17.1.2.2.2.2.1 ++ ([(key, r17.1.1)] : List (Int × Int × Int × Int × Int)), r17.1.2.2.2.2.2)))), r27.1), r27.2)
else none
else none
else none
else none := by kernel_rfl
def yL.x : XFunc := { nslots := 170, nobj := 7, pars := [.box 0 15], rowsIn := [none, none, none, none, some (1, 15), none, none, none, none, none, some (2, 4), none, none, none, none], rets := [.tmp 2 false 1, .tmp 3 false 1], outs := [.imm, .imm, .imm, .imm, .imm, .imm, .own 15, .imm, .imm, .imm, .imm, .imm, .own 4, .imm, .imm, .imm, .imm], fresh := false, arg := .pair T7_33 T5_33, ret := .pair (.list zBk) (.pair (.bool) (.pair T7_33 T5_33)), body := .seq (rG [op 2 .move [.const (.one (.nil))], op 3 .move [cB false]]) (.seq (rG [mv 12 0, o1 13 .nilck 12, fA 14 10 13, lN 15 14 0, ow 16 (.indexAddr T12_33) [.slot 15, cI 0] [2] [], lU 17 3 16 2, ow 4 (.alloc 3 [cZ, cZ, .bool false]) [] [3] [3], sT 3 4 17 3]) (.seq (rG [mv 18 0, o1 19 .nilck 18, fA 20 10 19, lN 21 20 0, ow 22 (.slice T12_33 true false) [.slot 21, cI 1] [2] [], mv 5 22]) (.seq (.region true [mv 23 0, o1 24 .nilck 23, fA 25 12 24, lN 26 25 0, fA 27 0 4, lN 28 27 3, o2 29 .max 26 28, mv 6 29]) (.seq (rG [op 7 .move [.const (.one (.nil))]]) (.seq (.seq (rG [fA 30 2 4, lN 31 30 3, o1 32 .not 31]) (.cond (.slot 32) (.seq (.seq (.region true [mv 33 0, o1 34 .nilck 33, fA 35 13 34, lN 36 35 0, fA 37 1 4, lN 38 37 3, op 39 (.bin .add) [.slot 38, cI 1], o2 40 (.bin .eql) 36 39]) (.cond (.slot 40) (rG [mv 41 0, fA 42 0 4, lN 43 42 3, o1 44 .nilck 41, fA 45 14 44, sT 1 45 43 0]) (.skip))) (.region true [mv 47 0, mv 48 0, o1 49 .nilck 48, fA 50 0 49, lU 51 7 50 0, fA 52 1 4, lN 53 52 3, ow 54 (.callH false ⟨452, [.val true 7, .val false 1], no 8, [.val true 7, .val false 1], [.imm, .imm, .imm, .imm, .own 5 15, .imm, .imm, .imm], true⟩) (sl [51, 53]) [1, 5, 100] [5, 100], mv 46 54, eX 55 0 46, eX 56 1 46, o1 57 .nilck 47, fA 58 0 57, sT 7 58 55 0, mv 7 56])) (.seq (.region true [mv 59 0, o1 60 .nilck 59, fA 61 0 60, fA 62 3 61, lN 63 62 0, mv 64 0, o1 65 .nilck 64, fA 66 0 65, fA 67 4 66, lN 68 67 0, ow 69 (cO 209 (vs 2) 2 true) (sl [63, 68]) [1] [], mv 8 69]) (.seq (rG [op 9 .move [cB false]]) (.seq (.seq (.region true [mv 70 0, o1 71 .nilck 70, fA 72 0 71, fA 73 0 72, lU 74 2 73 0, mv 75 8, fA 76 1 4, lN 77 76 3, ow 78 (.call ⟨212, [.val true 2, .val false 1, .val false 1], no 4, [.val true 4], ims 4, true⟩) (sl [74, 75, 77]) [100] [], o1 79 (cO 157 [.val true 4] 4 true) 78]) (.cond (.slot 79) (.seq (.region true [fA 80 0 4, lN 81 80 3, op 10 .move [cI 1], mv 11 81]) (.seq (.seq (.region true [mv 82 0, o1 83 .nilck 82, fA 84 13 83, lN 85 84 0, fA 86 1 4, lN 87 86 3, op 88 (.bin .add) [.slot 87, cI 1], o2 89 (.bin .neq) 85 88, sX 90 [.slot 89], gF 91 0 4 90 false, gL 92 91 3 90 false, gM 93 0 90 false, gX 94 .nilck [.slot 93] [] [] 90 false, gF 95 14 94 90 false, gL 96 95 0 90 false, gX 97 (.bin .sub) (sl [92, 96]) [] [] 90 false, gM 98 0 90 false, gX 99 .nilck [.slot 98] [] [] 90 false, gF 100 7 99 90 false, gF 101 1 100 90 false, gL 102 101 0 90 false, gX 103 (.bin .geq) (sl [97, 102]) [] [] 90 false, op 104 .pick [.slot 90, cB true, .slot 103]]) (.cond (.slot 104) (.region true [mv 106 0, o1 107 .nilck 106, fA 108 7 107, lU 109 3 108 0, fA 110 1 4, lN 111 110 3, fA 112 0 4, lN 113 112 3, mv 114 5, mv 115 0, o1 116 .nilck 115, fA 117 11 116, lN 118 117 0, ow 119 (.call ⟨213, [.val true 3, .val false 1, .val false 1, .val false 1, .val false 1], no 7, (rB 2), ims 2, true⟩) (sl [109, 111, 113, 114, 118]) [2] [], mv 105 119, eX 120 0 105, eX 121 1 105, mv 10 120, mv 11 121]) (.skip))) (.seq (.seq (rG [mv 122 10]) (.block 0 (.seq (rG [op 124 (.bin .eql) [.slot 122, cI 0], mv 123 124]) (.cond (.slot 123) (.seq (rG [op 2 .move [.const (.one (.nil))], op 3 .move [cB false]]) (.ret)) (.seq (rG [op 126 (.bin .eql) [.slot 122, cI 1], mv 125 126]) (.cond (.slot 125) (.region true [mv 127 0, mv 128 0, fA 129 1 4, lN 130 129 3, op 131 (.bin .add) [.slot 130, cI 1], fA 132 0 4, lN 133 132 3, o1 134 .nilck 127, fA 135 13 134, sT 1 135 131 0, o1 136 .nilck 128, fA 137 14 136, sT 1 137 133 0]) (.seq (rG [op 139 (.bin .eql) [.slot 122, cI 2], mv 138 139]) (.cond (.slot 138) (.seq (rG [mv 140 0, o1 141 .nilck 140, fA 142 13 141, on (.store 1) [.slot 142, cI 0] [0] [0]]) (rG [op 9 .move [cB true]])) (.skip))))))))) (rG [mv 143 6, mv 144 11, o2 145 .max 143 144, mv 6 145])))) (.skip))) (.region true [mv 147 0, mv 148 0, o1 149 .nilck 148, fA 150 0 149, lU 151 7 150 0, fA 152 1 4, lN 153 152 3, mv 154 9, ow 155 (.callH false ⟨455, [.val true 7, .val false 1, .val false 1], no 9, [.val true 7, .val false 1], [.imm, .imm, .imm, .imm, .own 6 15, .imm, .imm, .imm], true⟩) (sl [151, 153, 154]) [1, 6, 100] [6, 100], mv 146 155, eX 156 0 146, eX 157 1 146, o1 158 .nilck 147, fA 159 0 158, sT 7 159 156 0, mv 7 157])))))) (.seq (rG [mv 160 0, mv 161 6, o1 162 .nilck 160, fA 163 12 162, sT 1 163 161 0]) (.seq (rG [mv 164 0, mv 165 5, ow 166 (.append false 4 4 T12_33) [.const (.one (.nil)), .slot 165] [2, 4] [4], o1 167 .nilck 164, fA 168 10 167, sT 1 168 166 0]) (.seq (rG [mv 169 7, mv 2 169, op 3 .move [cB true]]) (.ret))))))))), keep := true, hp := true }
def yL.env (N : Nat) : Env := envOf (tbl [(212, zAg.fs N), (213, zp.fs N), (157, yh.fs N), (209, zo.fs N), (455, zAd.fs N), (452, zAc.fs N)] noFS)
def yL.H (N : Nat) (x : D22_33) (D : List HRow) : Option (((List (Int × Hnd)) × Bool × D18_33 × (Int × Int × Int) × D21_33 × Int × Int × Int × Int) × List HRow) := XFunc.runH yL.x (yL.env N) N x D
def yL.fs (N : Nat) : FS := { arg := yL.x.arg, ret := yL.x.ret, fresh := false, F := fun _ => none, keep := true, hp := true, H := yL.H N }
theorem yL.H_eq (N : Nat) (d : D22_33) (D : List HRow) : yL.H N d D =
let y0 := (IntKind.wrap .i64 ((((List.getD d.2.2.1 0 (0, (0, false))).2).1) + 1), (List.getD d.2.2.1 0 (0, (0, false))).1)
bif zG 0 (List.length d.2.2.1) then
bif decide (0 <= (1 : Int)) && decide (1 <= (List.length d.2.2.1 : Int)) then
bif !(((List.getD d.2.2.1 0 (0, (0, false))).2).2) then
bif d.2.2.2.2.2.1 == (IntKind.wrap .i64 ((((List.getD d.2.2.1 0 (0, (0, false))).2).1) + 1)) then
bif (List.all d.1.1.2 (Ty.unok D (.hnd ym))) && (List.all d.1.2.1 (Ty.unok D (.hnd yp))) then
bindO (zAc.H N (((d.1.1.1, List.map (Ty.unden D (.hnd ym)) d.1.1.2), (List.map (Ty.unden D (.hnd yp)) d.1.2.1, d.1.2.2)), ((List.getD d.2.2.1 0 (0, (0, false))).2).1) (hhide D)) fun r1 =>
bif decide (List.length (List.drop 1 d.2.2.1) <= maxN) then
some ((r1.1.2, (true, (r1.1.1, (d.2.1, (List.drop 1 d.2.2.1, (d.2.2.2.1, (maxI d.2.2.2.2.1 ((List.getD d.2.2.1 0 (0, (0, false))).1), (d.2.2.2.2.2.1, (List.getD d.2.2.1 0 (0, (0, false))).1)))))))), yw D r1.2)
else none
else none
else
bif (List.all d.1.1.2 (Ty.unok D (.hnd ym))) && (List.all d.1.2.1 (Ty.unok D (.hnd yp))) then
bindO (zAc.H N (((d.1.1.1, List.map (Ty.unden D (.hnd ym)) d.1.1.2), (List.map (Ty.unden D (.hnd yp)) d.1.2.1, d.1.2.2)), ((List.getD d.2.2.1 0 (0, (0, false))).2).1) (hhide D)) fun r2 =>
bif decide (List.length (List.drop 1 d.2.2.1) <= maxN) then
some ((r2.1.2, (true, (r2.1.1, (d.2.1, (List.drop 1 d.2.2.1, (d.2.2.2.1, (maxI d.2.2.2.2.1 ((List.getD d.2.2.1 0 (0, (0, false))).1), d.2.2.2.2.2))))))), yw D r2.2)
else none
else none
else
bindO (zo.F N (d.1.2.2.1, d.1.2.2.2.1)) fun r3 =>
bif List.all d.1.1.2 (Ty.unok D (.hnd ym)) then
bindO (zAg.F N ((d.1.1.1, List.map (Ty.unden D (.hnd ym)) d.1.1.2), (r3, ((List.getD d.2.2.1 0 (0, (0, false))).2).1))) fun r4 =>
bindO (yh.F N r4) fun r5 =>
bif r5 then
bif d.2.2.2.2.2.1 != (IntKind.wrap .i64 ((((List.getD d.2.2.1 0 (0, (0, false))).2).1) + 1)) then
bindO (zp.F N (d.2.1, (((List.getD d.2.2.1 0 (0, (0, false))).2).1, ((List.getD d.2.2.1 0 (0, (0, false))).1, (List.drop 1 d.2.2.1, d.2.2.2.1))))) fun r6 =>
bif r6.1 == 0 then
some ((([] : List (Int × Hnd)), (false, d)), D)
else
bif r6.1 == 1 then
bif (List.all d.1.1.2 (Ty.unok D (.hnd ym))) && (List.all d.1.2.1 (Ty.unok D (.hnd yp))) then
bindO (zAd.H N (((d.1.1.1, List.map (Ty.unden D (.hnd ym)) d.1.1.2), (List.map (Ty.unden D (.hnd yp)) d.1.2.1, d.1.2.2)), (((List.getD d.2.2.1 0 (0, (0, false))).2).1, false)) (hhide D)) fun r7 =>
bif decide (List.length (List.drop 1 d.2.2.1) <= maxN) then
some ((r7.1.2, (true, (r7.1.1, (d.2.1, (List.drop 1 d.2.2.1, (d.2.2.2.1, (maxI (maxI d.2.2.2.2.1 ((List.getD d.2.2.1 0 (0, (0, false))).1)) r6.2, y0))))))), yw D r7.2)
else none
else none
else
bif r6.1 == 2 then
bif (List.all d.1.1.2 (Ty.unok D (.hnd ym))) && (List.all d.1.2.1 (Ty.unok D (.hnd yp))) then
bindO (zAd.H N (((d.1.1.1, List.map (Ty.unden D (.hnd ym)) d.1.1.2), (List.map (Ty.unden D (.hnd yp)) d.1.2.1, d.1.2.2)), (((List.getD d.2.2.1 0 (0, (0, false))).2).1, true)) (hhide D)) fun r8 =>
bif decide (List.length (List.drop 1 d.2.2.1) <= maxN) then
some ((r8.1.2, (true, (r8.1.1, (d.2.1, (List.drop 1 d.2.2.1, (d.2.2.2.1, (maxI (maxI d.2.2.2.2.1 ((List.getD d.2.2.1 0 (0, (0, false))).1)) r6.2, (0, d.2.2.2.2.2.2)))))))), yw D r8.2)
else none
else none
else
bif (List.all d.1.1.2 (Ty.unok D (.hnd ym))) && (List.all d.1.2.1 (Ty.unok D (.hnd yp))) then
bindO (zAd.H N (((d.1.1.1, List.map (Ty.unden D (.hnd ym)) d.1.1.2), (List.map (Ty.unden D (.hnd yp)) d.1.2.1, d.1.2.2)), (((List.getD d.2.2.1 0 (0, (0, false))).2).1, false)) (hhide D)) fun r9 =>
bif decide (List.length (List.drop 1 d.2.2.1) <= maxN) then
some ((r9.1.2, (true, (r9.1.1, (d.2.1, (List.drop 1 d.2.2.1, (d.2.2.2.1, (maxI (maxI d.2.2.2.2.1 ((List.getD d.2.2.1 0 (0, (0, false))).1)) r6.2, d.2.2.2.2.2))))))), yw D r9.2)
else none
else none
else
bif decide ((IntKind.wrap .i64 (((List.getD d.2.2.1 0 (0, (0, false))).1) - d.2.2.2.2.2.2)) >= d.2.1.2.1) then
bindO (zp.F N (d.2.1, (((List.getD d.2.2.1 0 (0, (0, false))).2).1, ((List.getD d.2.2.1 0 (0, (0, false))).1, (List.drop 1 d.2.2.1, d.2.2.2.1))))) fun r10 =>
bif r10.1 == 0 then
some ((([] : List (Int × Hnd)), (false, d)), D)
else
bif r10.1 == 1 then
bif (List.all d.1.1.2 (Ty.unok D (.hnd ym))) && (List.all d.1.2.1 (Ty.unok D (.hnd yp))) then
bindO (zAd.H N (((d.1.1.1, List.map (Ty.unden D (.hnd ym)) d.1.1.2), (List.map (Ty.unden D (.hnd yp)) d.1.2.1, d.1.2.2)), (((List.getD d.2.2.1 0 (0, (0, false))).2).1, false)) (hhide D)) fun r11 =>
bif decide (List.length (List.drop 1 d.2.2.1) <= maxN) then
some ((r11.1.2, (true, (r11.1.1, (d.2.1, (List.drop 1 d.2.2.1, (d.2.2.2.1, (maxI (maxI d.2.2.2.2.1 ((List.getD d.2.2.1 0 (0, (0, false))).1)) r10.2, y0))))))), yw D r11.2)
else none
else none
else
bif r10.1 == 2 then
bif (List.all d.1.1.2 (Ty.unok D (.hnd ym))) && (List.all d.1.2.1 (Ty.unok D (.hnd yp))) then
bindO (zAd.H N (((d.1.1.1, List.map (Ty.unden D (.hnd ym)) d.1.1.2), (List.map (Ty.unden D (.hnd yp)) d.1.2.1, d.1.2.2)), (((List.getD d.2.2.1 0 (0, (0, false))).2).1, true)) (hhide D)) fun r12 =>
bif decide (List.length (List.drop 1 d.2.2.1) <= maxN) then
some ((r12.1.2, (true, (r12.1.1, (d.2.1, (List.drop 1 d.2.2.1, (d.2.2.2.1, (maxI (maxI d.2.2.2.2.1 ((List.getD d.2.2.1 0 (0, (0, false))).1)) r10.2, (0, d.2.2.2.2.2.2)))))))), yw D r12.2)
else none
else none
else
bif (List.all d.1.1.2 (Ty.unok D (.hnd ym))) && (List.all d.1.2.1 (Ty.unok D (.hnd yp))) then
bindO (zAd.H N (((d.1.1.1, List.map (Ty.unden D (.hnd ym)) d.1.1.2), (List.map (Ty.unden D (.hnd yp)) d.1.2.1, d.1.2.2)), (((List.getD d.2.2.1 0 (0, (0, false))).2).1, false)) (hhide D)) fun r13 =>
bif decide (List.length (List.drop 1 d.2.2.1) <= maxN) then
some ((r13.1.2, (true, (r13.1.1, (d.2.1, (List.drop 1 d.2.2.1, (d.2.2.2.1, (maxI (maxI d.2.2.2.2.1 ((List.getD d.2.2.1 0 (0, (0, false))).1)) r10.2, d.2.2.2.2.2))))))), yw D r13.2)
else none
else none
else
bif (List.all d.1.1.2 (Ty.unok D (.hnd ym))) && (List.all d.1.2.1 (Ty.unok D (.hnd yp))) then
bindO (zAd.H N (((d.1.1.1, List.map (Ty.unden D (.hnd ym)) d.1.1.2), (List.map (Ty.unden D (.hnd yp)) d.1.2.1, d.1.2.2)), (((List.getD d.2.2.1 0 (0, (0, false))).2).1, false)) (hhide D)) fun r14 =>
bif decide (List.length (List.drop 1 d.2.2.1) <= maxN) then
some ((r14.1.2, (true, (r14.1.1, (d.2.1, (List.drop 1 d.2.2.1, (d.2.2.2.1, (maxI (maxI d.2.2.2.2.1 ((List.getD d.2.2.1 0 (0, (0, false))).1)) ((List.getD d.2.2.1 0 (0, (0, false))).1), y0))))))), yw D r14.2)
else none
else none
else
bif (List.all d.1.1.2 (Ty.unok D (.hnd ym))) && (List.all d.1.2.1 (Ty.unok D (.hnd yp))) then
bindO (zAd.H N (((d.1.1.1, List.map (Ty.unden D (.hnd ym)) d.1.1.2), (List.map (Ty.unden D (.hnd yp)) d.1.2.1, d.1.2.2)), (((List.getD d.2.2.1 0 (0, (0, false))).2).1, false)) (hhide D)) fun r15 =>
bif decide (List.length (List.drop 1 d.2.2.1) <= maxN) then
some ((r15.1.2, (true, (r15.1.1, (d.2.1, (List.drop 1 d.2.2.1, (d.2.2.2.1, (maxI d.2.2.2.2.1 ((List.getD d.2.2.1 0 (0, (0, false))).1), d.2.2.2.2.2))))))), yw D r15.2)
else none
else none
else none
else none
else none := by kernel_rfl
def yr.c1 : XCode := .seq (rG [o2 12 (.bin .lss) 11 10]) (.seq (cX 12 0) (.seq (.block 1 (.seq (rG [o2 13 (.indexAddr zBk) 9 11, o1 14 (.load true 2) 13, ow 8 (.alloc 0 [cZ, .nil]) [] [0] [0], sT 2 8 14 0]) (rG [mv 15 0, mv 16 1, lU 17 2 8 0, o2 18 (.build [cZ, cZ, .nil] [(0, 1), (1, 2)]) 16 17, ow 19 (.buildSlice false 1 13 zCN 1 [(0, 3)] [cZ, cZ, .nil]) [.slot 18] [1] [1], ow 20 (.append false 2 13 zCN) (sl [15, 19]) [1, 2] [2], mv 0 20]))) (rG [op 21 (.bin .add) [.slot 11, cI 1], mv 11 21])))
def yr.c2 : XCode := .seq (rG [mv 22 0, mv 6 22]) (.ret)
def yr.x : XFunc := { nslots := 23, nobj := 3, pars := [.val false 1, .val false 1, .val false 1], rowsIn := [some (2, 13), none, none], rets := [.tmp 6 false 1], outs := [.own 13], fresh := false, arg := .pair (.list zCN) (.pair (.int .i64) (.list zBk)), ret := .list zCN, body := .seq (rG [op 6 .move [.const (.one (.nil))]]) (.seq (.seq (rG [mv 9 2, o1 10 .len 9, op 11 .move [cI 0]]) (.block 0 (.loop [.keep [0, 1, 9, 10, 11], .drop 0, .drop 1, .norm] (yr.c1)))) (yr.c2)), keep := true, hp := true }
def yr.env (_ : Nat) : Env := envOf (tbl [] noFS)
def yr.H (N : Nat) (x : zBv × Int × List (Int × Hnd)) (D : List HRow) : Option (zBv × List HRow) := XFunc.runH yr.x (yr.env N) N x D
def yr.fs (N : Nat) : FS := { arg := yr.x.arg, ret := yr.x.ret, fresh := false, F := fun _ => none, keep := true, hp := true, H := yr.H N }
def yr.k2 (N : Nat) : Ex -> S -> Option (zBv × List HRow) := seqK (fun s => XCode.runK (yr.env N) N (yr.c2) s (XFunc.endKH yr.x)) (XFunc.endKH yr.x)
def yr.k1 (N : Nat) : Ex -> S -> Option (zBv × List HRow) := y7 0 (yr.k2 N)
def yr.L1 (N : Nat) (n1 : Nat) (time : Int) (t9 : List (Int × Hnd)) (t10 : Int) (t11 : Int) (o2 : zBv) (D : List HRow) : Option (zBv × List HRow) := loopK [.keep [0, 1, 9, 10, 11], .drop 0, .drop 1, .norm] (rK (yr.env N) N yr.c1) n1
 { t := jK 23 [(0, .one (.ref 2 0 .all)), (1, .one (.int .i64 time)), (9, .one (.sl true zBk t9)), (10, .one (.int .i64 t10)), (11, .one (.int .i64 t11))], h := [.absent 0, .absent 0, .row 0 false true 13 zCN o2], d := D }
 (yr.k1 N)
theorem yr.L1_eq (N : Nat) (n1 : Nat) (time : Int) (t9 : List (Int × Hnd)) (t10 : Int) (t11 : Int) (o2 : zBv) (D : List HRow) : yr.L1 N (n1 + 1) time t9 t10 t11 o2 D =
bif decide (t11 < t10) then
bif zG t11 (t9.length) then
bif decide (o2.length + List.length ([(time, (nth (0, (none : Hnd)) t9 t11))] : List (Int × Int × Hnd)) <= maxN) then
yr.L1 N n1 time t9 t10 (IntKind.wrap .i64 (t11 + 1)) (o2 ++ ([(time, (nth (0, (none : Hnd)) t9 t11))] : List (Int × Int × Hnd))) D
else none
else none
else
some (o2, D) := by kernel_rfl
theorem yr.H_eq (N : Nat) (sent : zBv) (time : Int) (l_ : List (Int × Hnd)) (D : List HRow) : yr.H N (sent, time, l_) D =
yr.L1 N N time l_ (l_.length : Int) 0 sent D := by kernel_rfl
def zS.c1 : XCode := .seq (.seq (rG [fA 69 10 9, lN 70 69 2, ow 71 .len [.slot 70] [3] [], op 72 (.bin .gtr) [.slot 71, cI 0]]) (cX 72 0)) (.block 1 (.seq (rG [ow 74 (.callH true ⟨456, [.box 2 15], [none, none, none, none, some (4, 15), none, none, none, none, none, some (3, 4), none, none, none, none], (rB 2), [.imm, .imm, .imm, .imm, .imm, .imm, .own 4 15, .imm, .imm, .imm, .imm, .imm, .own 3 4, .imm, .imm, .imm, .imm], false⟩) [.slot 9] [2, 3, 4, 100] [2, 3, 4, 100], mv 73 74, eX 75 0 73, eX 76 1 73, mv 11 75, mv 12 76]) (.seq (.seq (rG [mv 77 12, o1 78 .not 77]) (.cond (.slot 78) (.exit 0) (.skip))) (rG [mv 79 10, fA 80 12 9, lN 81 80 2, mv 82 11, ow 83 (.callH true ⟨457, vs 3, [some (8, 13), none, none], [.val false 1], [.own 8 13], false⟩) (sl [79, 81, 82]) [8, 100] [8, 100], mv 10 83]))))
def zS.c2 : XCode := .seq (rG [lU 84 15 9 2, mv 85 10, sT 15 6 84 1, mv 7 85, op 8 .move [cB true]]) (.ret)
def zS.x : XFunc := { nslots := 86, nobj := 9, pars := [.val true 15, .val false 1, .val false 1], rowsIn := no 17, rets := [.var 6 true 15, .tmp 7 false 1, .tmp 8 false 1], outs := [.imm, .imm, .imm, .imm, .own 15, .imm, .imm, .imm, .imm, .imm, .own 4, .imm, .imm, .imm, .imm, .own 13, .imm], fresh := true, arg := .pair (.pair T4_33 T5_33) (.pair (.list T12_33) (.int .i64)), ret := .pair (.pair T7_33 T5_33) (.pair (.list zCN) (.bool)), body := .seq (rG [ow 3 (.box 0) [.slot 0] [0] [0], ow 6 (.alloc 1 [cZ, .nil, .nil, cZ, .nil, cZ, .bool false, cZ, cZ, cZ, .nil, cZ, cZ, cZ, cZ]) [] [1] [1], op 7 .move [.const (.one (.nil))], op 8 .move [cB false]]) (.seq (.seq (.region true [lU 13 15 3 0, o1 14 (cO 174 [.val true 15] 15 true) 13, o1 15 .not 14, sX 16 [.slot 15], gM 17 2 16 false, gF 18 11 3 16 false, gL 19 18 0 16 false, gX 20 (.bin .lss) (sl [17, 19]) [] [] 16 false, op 21 .pick [.slot 16, cB true, .slot 20], sX 22 [.slot 21], gM 23 2 22 false, gX 24 (.bin .gtr) [.slot 23, cI 1000000] [] [] 22 false, op 25 .pick [.slot 22, cB true, .slot 24], sX 26 [.slot 25], gM 27 1 26 false, gX 28 .len [.slot 27] [] [] 26 false, gX 29 (.bin .gtr) [.slot 28, cI 0] [] [] 26 false, ⟨some 30, .move, [.slot 29], [], [], some (26, false), true, .none⟩, gM 31 1 30 true, gX 32 (.indexAddr T12_33) [.slot 31, cI 0] [] [] 30 true, gF 33 0 32 30 true, gX 34 (.load false 1) [.slot 33] [] [] 30 true, gF 35 11 3 30 true, gL 36 35 0 30 true, gX 37 (.bin .lss) (sl [34, 36]) [] [] 30 true, gX 38 .pick [.slot 30, .slot 37, cB false] [] [] 26 false, op 39 .pick [.slot 26, cB true, .slot 38], sX 40 [.slot 39], gM 41 1 40 false, gM 42 2 40 false, ⟨some 43, cO 71 (vs 2) 2 true, (sl [41, 42]), [], [], some (40, false), false, .none⟩, gX 44 .not [.slot 43] [] [] 40 false, op 45 .pick [.slot 40, cB true, .slot 44]]) (.cond (.slot 45) (.seq (rG [op 46 (.build [cZ, .nil, .nil, cZ, .nil, cZ, .bool false, cZ, cZ, cZ, .nil, cZ, cZ, cZ, cZ] []) [], sT 15 6 46 1, op 7 .move [.const (.one (.nil))], op 8 .move [cB false]]) (.ret)) (.skip))) (.seq (rG [lU 47 15 3 0, ow 48 (.callH false ⟨450, [.val true 15], no 15, [.val true 15], [.imm, .imm, .imm, .imm, .own 4 15, .imm, .imm, .imm, .imm, .imm, .own 3 4, .imm, .imm, .imm, .imm], true⟩) [.slot 47] [3, 4, 100] [3, 4, 100], ow 9 (.alloc 2 [cZ, .nil, .nil, cZ, .nil, cZ, .bool false, cZ, cZ, cZ, .nil, cZ, cZ, cZ, cZ]) [] [2] [2], sT 15 9 48 2]) (.seq (rG [fA 49 10 9, lN 50 49 2, mv 51 1, ow 52 (.append false 3 4 T12_33) (sl [50, 51]) [3] [3], fA 53 10 9, sT 1 53 52 2]) (.seq (.seq (.region true [fA 54 10 9, lN 55 54 2, fA 56 0 3, fA 57 4 56, lN 58 57 0, o1 59 (cO 173 (vs 1) 1 true) 58, fA 60 0 3, fA 61 0 60, fA 62 0 61, lN 63 62 0, ow 64 (cO 70 (vs 3) 3 true) (sl [55, 59, 63]) [3] [], o1 65 .not 64]) (.cond (.slot 65) (.seq (rG [op 66 (.build [cZ, .nil, .nil, cZ, .nil, cZ, .bool false, cZ, cZ, cZ, .nil, cZ, cZ, cZ, cZ] []) [], sT 15 6 66 1, op 7 .move [.const (.one (.nil))], op 8 .move [cB false]]) (.ret)) (.skip))) (.seq (rG [mv 67 2, fA 68 11 9, sT 1 68 67 2]) (.seq (rG [op 10 .move [.const (.one (.nil))]]) (.seq (.block 0 (.loop [.mkrow (.slot 10) 8 13 zCN, .keep [6, 9, 10], .drop 0, .drop 5, .drop 6, .drop 7, .norm] (zS.c1))) (zS.c2)))))))), hp := true }
def zS.env (N : Nat) : Env := envOf (tbl [(456, yL.fs N), (174, zAX.fs N), (450, yj.fs N), (173, zv.fs N), (71, yt.fs N), (70, zh.fs N), (457, yr.fs N)] noFS)
def zS.H (N : Nat) (x : zCB × D21_33 × Int) (D : List HRow) : Option ((D22_33 × zBv × Bool) × List HRow) := XFunc.runH zS.x (zS.env N) N x D
def zS.fs (N : Nat) : FS := { arg := zS.x.arg, ret := zS.x.ret, fresh := true, F := fun _ => none, hp := true, H := zS.H N }
def zS.k2 (N : Nat) : Ex -> S -> Option ((D22_33 × zBv × Bool) × List HRow) := seqK (fun s => XCode.runK (zS.env N) N (zS.c2) s (XFunc.endKH zS.x)) (XFunc.endKH zS.x)
def zS.k1 (N : Nat) : Ex -> S -> Option ((D22_33 × zBv × Bool) × List HRow) := y7 0 (zS.k2 N)
def zS.L1 (N : Nat) (n1 : Nat) (o20 : Int) (o21 : List Hnd) (o22 : List Hnd) (o23 : Int) (o25 : Int) (o26 : Bool) (o27 : Int) (o28 : Int) (o29 : Int) (o211 : Int) (o212 : Int) (o213 : Int) (o214 : Int) (o3 : D21_33) (o4 : zA0) (o8 : zBv) (D : List HRow) : Option ((D22_33 × zBv × Bool) × List HRow) := loopK [.mkrow (.slot 10) 8 13 zCN, .keep [6, 9, 10], .drop 0, .drop 5, .drop 6, .drop 7, .norm] (rK (zS.env N) N zS.c1) n1
 { t := jK 86 [(6, .one (.ptr 1 0 0)), (9, .one (.ptr 2 0 0)), (10, .one (.ref 8 0 .all))], h := [.absent 0, .box 0 false [cZ, .nil, .nil, cZ, .nil, cZ, .bool false, cZ, cZ, cZ, .nil, cZ, cZ, cZ, cZ], .box 0 false [.int .i64 o20, .sl true (.hnd ym) o21, .sl true (.hnd yp) o22, .int .i64 o23, .ref 4 0 .all, .int .i64 o25, .bool o26, .int .i64 o27, .int .i64 o28, .int .i64 o29, .ref 3 0 .all, .int .i64 o211, .int .i64 o212, .int .i64 o213, .int .i64 o214], .row 0 false true 4 T12_33 o3, .row 0 false true 15 zBN o4, .absent 0, .absent 0, .absent 0, .row 0 false true 13 zCN o8], d := D }
 (zS.k1 N)
theorem zS.L1_eq (N : Nat) (n1 : Nat) (o20 : Int) (o21 : List Hnd) (o22 : List Hnd) (o23 : Int) (o25 : Int) (o26 : Bool) (o27 : Int) (o28 : Int) (o29 : Int) (o211 : Int) (o212 : Int) (o213 : Int) (o214 : Int) (o3 : D21_33) (o4 : zA0) (o8 : zBv) (D : List HRow) : zS.L1 N (n1 + 1) o20 o21 o22 o23 o25 o26 o27 o28 o29 o211 o212 o213 o214 o3 o4 o8 D =
bif decide ((o3.length : Int) > 0) then
bindO (yL.H N (((o20, o21), (o22, (o23, (o4, (o25, o26))))), ((o27, (o28, o29)), (o3, (o211, (o212, (o213, o214)))))) D) fun r6 =>
bif !r6.1.2.1 then
some ((r6.1.2.2, (o8, true)), r6.2)
else
bindO (yr.H N (o8, (r6.1.2.2.2.2.2.2.1, r6.1.1)) r6.2) fun r7 =>
zS.L1 N n1 r6.1.2.2.1.1.1 r6.1.2.2.1.1.2 r6.1.2.2.1.2.1 r6.1.2.2.1.2.2.1 r6.1.2.2.1.2.2.2.2.1 r6.1.2.2.1.2.2.2.2.2 r6.1.2.2.2.1.1 r6.1.2.2.2.1.2.1 r6.1.2.2.2.1.2.2 r6.1.2.2.2.2.2.1 r6.1.2.2.2.2.2.2.1 r6.1.2.2.2.2.2.2.2.1 r6.1.2.2.2.2.2.2.2.2 r6.1.2.2.2.2.1 r6.1.2.2.1.2.2.2.1 r7.1 r7.2
else
some (((((o20, o21), (o22, (o23, (o4, (o25, o26))))), ((o27, (o28, o29)), (o3, (o211, (o212, (o213, o214)))))), (o8, true)), D) := by kernel_rfl
theorem zS.H_eq (N : Nat) (d : zCB) (l_ : D21_33) (end_ : Int) (D : List HRow) : zS.H N (d, l_, end_) D =
bindO (zAX.F N d) fun r1 =>
bif !r1 then
some (((((0, ([] : List Hnd)), (([] : List Hnd), (0, (([] : List (Int × Int × Int × Int × Int)), (0, false))))), ((0, (0, 0)), (([] : List (Int × Int × Bool)), (0, (0, (0, 0)))))), (([] : List (Int × Int × Hnd)), false)), D)
else
bif decide (end_ < d.2.2.2.1) then
some (((((0, ([] : List Hnd)), (([] : List Hnd), (0, (([] : List (Int × Int × Int × Int × Int)), (0, false))))), ((0, (0, 0)), (([] : List (Int × Int × Bool)), (0, (0, (0, 0)))))), (([] : List (Int × Int × Hnd)), false)), D)
else
bif decide (end_ > 1000000) then
some (((((0, ([] : List Hnd)), (([] : List Hnd), (0, (([] : List (Int × Int × Int × Int × Int)), (0, false))))), ((0, (0, 0)), (([] : List (Int × Int × Bool)), (0, (0, (0, 0)))))), (([] : List (Int × Int × Hnd)), false)), D)
else
bif decide ((l_.length : Int) > 0) then
bif zG 0 (l_.length) then
bif decide (((nth (0, (0, false)) l_ 0).1) < d.2.2.2.1) then
some (((((0, ([] : List Hnd)), (([] : List Hnd), (0, (([] : List (Int × Int × Int × Int × Int)), (0, false))))), ((0, (0, 0)), (([] : List (Int × Int × Bool)), (0, (0, (0, 0)))))), (([] : List (Int × Int × Hnd)), false)), D)
else
bindO (yt.F N (l_, end_)) fun r2 =>
bif !r2 then
some (((((0, ([] : List Hnd)), (([] : List Hnd), (0, (([] : List (Int × Int × Int × Int × Int)), (0, false))))), ((0, (0, 0)), (([] : List (Int × Int × Bool)), (0, (0, (0, 0)))))), (([] : List (Int × Int × Hnd)), false)), D)
else
bindO (yj.H N d (hhide D)) fun r3 =>
bif decide (List.length r3.1.2.2.1 + l_.length <= maxN) then
bindO (zv.F N d.1.2.2.2.1) fun r4 =>
bindO (zh.F N (r3.1.2.2.1 ++ l_, (r4, d.1.1.1))) fun r5 =>
bif !r5 then
some (((((0, ([] : List Hnd)), (([] : List Hnd), (0, (([] : List (Int × Int × Int × Int × Int)), (0, false))))), ((0, (0, 0)), (([] : List (Int × Int × Bool)), (0, (0, (0, 0)))))), (([] : List (Int × Int × Hnd)), false)), yw D r3.2)
else
zS.L1 N N r3.1.1.1.1 r3.1.1.1.2 r3.1.1.2.1 r3.1.1.2.2.1 r3.1.1.2.2.2.2.1 r3.1.1.2.2.2.2.2 r3.1.2.1.1 r3.1.2.1.2.1 r3.1.2.1.2.2 end_ r3.1.2.2.2.2.1 r3.1.2.2.2.2.2.1 r3.1.2.2.2.2.2.2 (r3.1.2.2.1 ++ l_) r3.1.1.2.2.2.1 ([] : List (Int × Int × Hnd)) (yw D r3.2)
else none
else none
else
bindO (yt.F N (l_, end_)) fun r8 =>
bif !r8 then
some (((((0, ([] : List Hnd)), (([] : List Hnd), (0, (([] : List (Int × Int × Int × Int × Int)), (0, false))))), ((0, (0, 0)), (([] : List (Int × Int × Bool)), (0, (0, (0, 0)))))), (([] : List (Int × Int × Hnd)), false)), D)
else
bindO (yj.H N d (hhide D)) fun r9 =>
bif decide (List.length r9.1.2.2.1 + l_.length <= maxN) then
bindO (zv.F N d.1.2.2.2.1) fun r10 =>
bindO (zh.F N (r9.1.2.2.1 ++ l_, (r10, d.1.1.1))) fun r11 =>
bif !r11 then
some (((((0, ([] : List Hnd)), (([] : List Hnd), (0, (([] : List (Int × Int × Int × Int × Int)), (0, false))))), ((0, (0, 0)), (([] : List (Int × Int × Bool)), (0, (0, (0, 0)))))), (([] : List (Int × Int × Hnd)), false)), yw D r9.2)
else
zS.L1 N N r9.1.1.1.1 r9.1.1.1.2 r9.1.1.2.1 r9.1.1.2.2.1 r9.1.1.2.2.2.2.1 r9.1.1.2.2.2.2.2 r9.1.2.1.1 r9.1.2.1.2.1 r9.1.2.1.2.2 end_ r9.1.2.2.2.2.1 r9.1.2.2.2.2.2.1 r9.1.2.2.2.2.2.2 (r9.1.2.2.1 ++ l_) r9.1.1.2.2.2.1 ([] : List (Int × Int × Hnd)) (yw D r9.2)
else none := by kernel_rfl
def zAA.x : XFunc := xF 25 2 [.val true 4, .val true 4] (no 8) [.tmp 4 false 1] [.imm] true (.pair ym ym) .bool <| .seq (rG [ow 2 (.box 0) [.slot 0] [0] [0], ow 3 (.box 1) [.slot 1] [1] [1], op 4 .move [cB false]]) (.seq (.seq (rG [fA 5 0 2, lN 6 5 0, fA 7 0 3, lN 8 7 1, o2 9 (.bin .neq) 6 8]) (rI 9 4 false)) (.seq (.seq (rG [fA 10 1 2, lN 11 10 0, fA 12 1 3, lN 13 12 1, o2 14 (.bin .neq) 11 13]) (rI 14 4 false)) (.seq (.seq (rG [fA 15 2 2, lN 16 15 0, fA 17 2 3, lN 18 17 1, o2 19 (.bin .neq) 16 18]) (rI 19 4 false)) (.seq (.seq (rG [fA 20 3 2, lN 21 20 0, fA 22 3 3, lN 23 22 1, o2 24 (.bin .neq) 21 23]) (rI 24 4 false)) (.seq (rG [op 4 .move [cB true]]) (.ret))))))
def zAA.env (_ : Nat) : Env := envOf (tbl [] noFS)
def zAA.F (N : Nat) (x : (Int × Int × Int × Int) × Int × Int × Int × Int) : Option Bool := XFunc.run zAA.x (zAA.env N) N x
def zAA.fs (N : Nat) : FS := fS zAA.x true (zAA.F N)
theorem zAA.F_eq (N : Nat) (a : Int × Int × Int × Int) (b : Int × Int × Int × Int) : zAA.F N (a, b) =
bif a.1 != b.1 then
some false
else
bif a.2.1 != b.2.1 then
some false
else
bif a.2.2.1 != b.2.2.1 then
some false
else
bif a.2.2.2 != b.2.2.2 then
some false
else
some true := by kernel_rfl
def zu.c1 : XCode := .seq (.seq (rG [mv 11 5, mv 12 0, o1 13 .len 12, o2 14 (.bin .lss) 11 13]) (cX 14 0)) (.seq (.block 1 (.seq (.region true [mv 17 0, mv 18 5, o2 19 (.indexAddr ym) 17 18, o1 20 (.load true 4) 19, mv 21 1, mv 22 5, o2 23 (.indexAddr ym) 21 22, o1 24 (.load true 4) 23, o2 25 (cO 459 [.val true 4, .val true 4] 8 true) 20 24, o1 26 .not 25]) (rI 26 4 false))) (rG [mv 15 5, op 16 (.bin .add) [.slot 15, cI 1], mv 5 16]))
def zu.c2 : XCode := .seq (rG [op 4 .move [cB true]]) (.ret)
def zu.x : XFunc := xF 27 0 [.val false 1, .val false 1] (no 2) [.tmp 4 false 1] [.imm] true (.pair (.list ym) (.list ym)) .bool <| .seq (rG [op 4 .move [cB false]]) (.seq (.seq (rG [mv 6 0, o1 7 .len 6, mv 8 1, o1 9 .len 8, o2 10 (.bin .neq) 7 9]) (rI 10 4 false)) (.seq (.seq (rG [op 5 .move [cI 0]]) (.block 0 (.loop [.keep [0, 1, 5], .norm] (zu.c1)))) (zu.c2)))
def zu.env (N : Nat) : Env := envOf (tbl [(459, zAA.fs N)] noFS)
def zu.F (N : Nat) (x : ye × List (Int × Int × Int × Int)) : Option Bool := XFunc.run zu.x (zu.env N) N x
def zu.fs (N : Nat) : FS := fS zu.x true (zu.F N)
def zu.k2 (N : Nat) : Ex -> S -> Option Bool := seqK (fun s => XCode.runK (zu.env N) N (zu.c2) s (XFunc.endK zu.x)) (XFunc.endK zu.x)
def zu.k1 (N : Nat) : Ex -> S -> Option Bool := y7 0 (zu.k2 N)
def zu.L1 (N : Nat) (n1 : Nat) (a : ye) (b : ye) (i : Int) : Option Bool := loopK [.keep [0, 1, 5], .norm] (rK (zu.env N) N zu.c1) n1
 { t := jK 27 [(0, .one (.sl false ym a)), (1, .one (.sl false ym b)), (5, .one (.int .i64 i))], h := [] }
 (zu.k1 N)
theorem zu.L1_eq (N : Nat) (n1 : Nat) (a : ye) (b : ye) (i : Int) : zu.L1 N (n1 + 1) a b i =
bif decide (i < (a.length : Int)) then
bif zG i (a.length) then
bif zG i (b.length) then
bindO (zAA.F N (((nth (0, (0, (0, 0))) a i).1, (((nth (0, (0, (0, 0))) a i).2).1, (((nth (0, (0, (0, 0))) a i).2).2))), ((nth (0, (0, (0, 0))) b i).1, (((nth (0, (0, (0, 0))) b i).2).1, (((nth (0, (0, (0, 0))) b i).2).2))))) fun r1 =>
bif !r1 then
some false
else
zu.L1 N n1 a b (IntKind.wrap .i64 (i + 1))
else none
else none
else
some true := by kernel_rfl
theorem zu.F_eq (N : Nat) (a : ye) (b : ye) : zu.F N (a, b) =
bif (a.length : Int) != (b.length : Int) then
some false
else
zu.L1 N N a b 0 := by kernel_rfl
def zn.c1 : XCode := .seq (.seq (rG [mv 11 5, mv 12 0, o1 13 .len 12, o2 14 (.bin .lss) 11 13]) (cX 14 0)) (.seq (.block 1 (.seq (.region true [mv 17 0, mv 18 5, o2 19 (.indexAddr (.list ym)) 17 18, o1 20 (.load false 1) 19, mv 21 1, mv 22 5, o2 23 (.indexAddr (.list ym)) 21 22, o1 24 (.load false 1) 23, o2 25 (cO 460 (vs 2) 2 true) 20 24, o1 26 .not 25]) (rI 26 4 false))) (rG [mv 15 5, op 16 (.bin .add) [.slot 15, cI 1], mv 5 16]))
def zn.c2 : XCode := .seq (rG [op 4 .move [cB true]]) (.ret)
def zn.x : XFunc := xF 27 0 [.val false 1, .val false 1] (no 2) [.tmp 4 false 1] [.imm] true (.pair T14_33 T14_33) .bool <| .seq (rG [op 4 .move [cB false]]) (.seq (.seq (rG [mv 6 0, o1 7 .len 6, mv 8 1, o1 9 .len 8, o2 10 (.bin .neq) 7 9]) (rI 10 4 false)) (.seq (.seq (rG [op 5 .move [cI 0]]) (.block 0 (.loop [.keep [0, 1, 5], .norm] (zn.c1)))) (zn.c2)))
def zn.env (N : Nat) : Env := envOf (tbl [(460, zu.fs N)] noFS)
def zn.F (N : Nat) (x : (List ye) × List ye) : Option Bool := XFunc.run zn.x (zn.env N) N x
def zn.fs (N : Nat) : FS := fS zn.x true (zn.F N)
def zn.k2 (N : Nat) : Ex -> S -> Option Bool := seqK (fun s => XCode.runK (zn.env N) N (zn.c2) s (XFunc.endK zn.x)) (XFunc.endK zn.x)
def zn.k1 (N : Nat) : Ex -> S -> Option Bool := y7 0 (zn.k2 N)
def zn.L1 (N : Nat) (n1 : Nat) (a : List ye) (b : List ye) (i : Int) : Option Bool := loopK [.keep [0, 1, 5], .norm] (rK (zn.env N) N zn.c1) n1
 { t := jK 27 [(0, .one (.sl false (.list ym) a)), (1, .one (.sl false (.list ym) b)), (5, .one (.int .i64 i))], h := [] }
 (zn.k1 N)
theorem zn.L1_eq (N : Nat) (n1 : Nat) (a : List ye) (b : List ye) (i : Int) : zn.L1 N (n1 + 1) a b i =
bif decide (i < (a.length : Int)) then
bif zG i (a.length) then
bif zG i (b.length) then
bindO (zu.F N (nth ([] : List (Int × Int × Int × Int)) a i, nth ([] : List (Int × Int × Int × Int)) b i)) fun r1 =>
bif !r1 then
some false
else
zn.L1 N n1 a b (IntKind.wrap .i64 (i + 1))
else none
else none
else
some true := by kernel_rfl
theorem zn.F_eq (N : Nat) (a : List ye) (b : List ye) : zn.F N (a, b) =
bif (a.length : Int) != (b.length : Int) then
some false
else
zn.L1 N N a b 0 := by kernel_rfl
def zAm.x : XFunc := xF 16 2 [.val true 2, .val true 2] (no 4) [.tmp 4 false 1] [.imm] true (.pair T11_33 T11_33) .bool <| .seq (rG [ow 2 (.box 0) [.slot 0] [0] [0], ow 3 (.box 1) [.slot 1] [1] [1], op 4 .move [cB false]]) (.seq (.seq (rG [fA 5 0 2, lN 6 5 0, fA 7 0 3, lN 8 7 1, o2 9 (.bin .neq) 6 8]) (rI 9 4 false)) (.seq (.seq (rG [fA 10 1 2, lN 11 10 0, fA 12 1 3, lN 13 12 1, o2 14 (cO 461 (vs 2) 2 true) 11 13, o1 15 .not 14]) (rI 15 4 false)) (.seq (rG [op 4 .move [cB true]]) (.ret))))
def zAm.env (N : Nat) : Env := envOf (tbl [(461, zn.fs N)] noFS)
def zAm.F (N : Nat) (x : (Int × List ye) × Int × List ye) : Option Bool := XFunc.run zAm.x (zAm.env N) N x
def zAm.fs (N : Nat) : FS := fS zAm.x true (zAm.F N)
theorem zAm.F_eq (N : Nat) (a : Int × List ye) (b : Int × List ye) : zAm.F N (a, b) =
bif a.1 != b.1 then
some false
else
bindO (zn.F N (a.2, b.2)) fun r1 =>
bif !r1 then
some false
else
some true := by kernel_rfl
def zA1.x : XFunc := xF 20 2 [.val true 3, .val true 3] (no 6) [.tmp 4 false 1] [.imm] true (.pair yp yp) .bool <| .seq (rG [ow 2 (.box 0) [.slot 0] [0] [0], ow 3 (.box 1) [.slot 1] [1] [1], op 4 .move [cB false]]) (.seq (.seq (rG [fA 5 0 2, lN 6 5 0, fA 7 0 3, lN 8 7 1, o2 9 (.bin .neq) 6 8]) (rI 9 4 false)) (.seq (.seq (rG [fA 10 1 2, lN 11 10 0, fA 12 1 3, lN 13 12 1, o2 14 (.bin .neq) 11 13]) (rI 14 4 false)) (.seq (.seq (rG [fA 15 2 2, lN 16 15 0, fA 17 2 3, lN 18 17 1, o2 19 (.bin .neq) 16 18]) (rI 19 4 false)) (.seq (rG [op 4 .move [cB true]]) (.ret)))))
def zA1.env (_ : Nat) : Env := envOf (tbl [] noFS)
def zA1.F (N : Nat) (x : (Int × Int × Int) × Int × Int × Int) : Option Bool := XFunc.run zA1.x (zA1.env N) N x
def zA1.fs (N : Nat) : FS := fS zA1.x true (zA1.F N)
theorem zA1.F_eq (N : Nat) (a : Int × Int × Int) (b : Int × Int × Int) : zA1.F N (a, b) =
bif a.1 != b.1 then
some false
else
bif a.2.1 != b.2.1 then
some false
else
bif a.2.2 != b.2.2 then
some false
else
some true := by kernel_rfl
def yN.c1 : XCode := .seq (.seq (rG [mv 11 5, mv 12 0, o1 13 .len 12, o2 14 (.bin .lss) 11 13]) (cX 14 0)) (.seq (.block 1 (.seq (.region true [mv 17 0, mv 18 5, o2 19 (.indexAddr yp) 17 18, o1 20 (.load true 3) 19, mv 21 1, mv 22 5, o2 23 (.indexAddr yp) 21 22, o1 24 (.load true 3) 23, o2 25 (cO 389 [.val true 3, .val true 3] 6 true) 20 24, o1 26 .not 25]) (rI 26 4 false))) (rG [mv 15 5, op 16 (.bin .add) [.slot 15, cI 1], mv 5 16]))
def yN.c2 : XCode := .seq (rG [op 4 .move [cB true]]) (.ret)
def yN.x : XFunc := xF 27 0 [.val false 1, .val false 1] (no 2) [.tmp 4 false 1] [.imm] true (.pair (.list yp) (.list yp)) .bool <| .seq (rG [op 4 .move [cB false]]) (.seq (.seq (rG [mv 6 0, o1 7 .len 6, mv 8 1, o1 9 .len 8, o2 10 (.bin .neq) 7 9]) (rI 10 4 false)) (.seq (.seq (rG [op 5 .move [cI 0]]) (.block 0 (.loop [.keep [0, 1, 5], .norm] (yN.c1)))) (yN.c2)))
def yN.env (N : Nat) : Env := envOf (tbl [(389, zA1.fs N)] noFS)
def yN.F (N : Nat) (x : yq × List (Int × Int × Int)) : Option Bool := XFunc.run yN.x (yN.env N) N x
def yN.fs (N : Nat) : FS := fS yN.x true (yN.F N)
def yN.k2 (N : Nat) : Ex -> S -> Option Bool := seqK (fun s => XCode.runK (yN.env N) N (yN.c2) s (XFunc.endK yN.x)) (XFunc.endK yN.x)
def yN.k1 (N : Nat) : Ex -> S -> Option Bool := y7 0 (yN.k2 N)
def yN.L1 (N : Nat) (n1 : Nat) (a : yq) (b : yq) (i : Int) : Option Bool := loopK [.keep [0, 1, 5], .norm] (rK (yN.env N) N yN.c1) n1
 { t := jK 27 [(0, .one (.sl false yp a)), (1, .one (.sl false yp b)), (5, .one (.int .i64 i))], h := [] }
 (yN.k1 N)
theorem yN.L1_eq (N : Nat) (n1 : Nat) (a : yq) (b : yq) (i : Int) : yN.L1 N (n1 + 1) a b i =
bif decide (i < (a.length : Int)) then
bif zG i (a.length) then
bif zG i (b.length) then
bindO (zA1.F N (((nth (0, (0, 0)) a i).1, ((nth (0, (0, 0)) a i).2)), ((nth (0, (0, 0)) b i).1, ((nth (0, (0, 0)) b i).2)))) fun r1 =>
bif !r1 then
some false
else
yN.L1 N n1 a b (IntKind.wrap .i64 (i + 1))
else none
else none
else
some true := by kernel_rfl
theorem yN.F_eq (N : Nat) (a : yq) (b : yq) : yN.F N (a, b) =
bif (a.length : Int) != (b.length : Int) then
some false
else
yN.L1 N N a b 0 := by kernel_rfl
def yF.c1 : XCode := .seq (.seq (rG [mv 11 5, mv 12 0, o1 13 .len 12, o2 14 (.bin .lss) 11 13]) (cX 14 0)) (.seq (.block 1 (.seq (.region true [mv 17 0, mv 18 5, o2 19 (.indexAddr (.list yp)) 17 18, o1 20 (.load false 1) 19, mv 21 1, mv 22 5, o2 23 (.indexAddr (.list yp)) 21 22, o1 24 (.load false 1) 23, o2 25 (cO 390 (vs 2) 2 true) 20 24, o1 26 .not 25]) (rI 26 4 false))) (rG [mv 15 5, op 16 (.bin .add) [.slot 15, cI 1], mv 5 16]))
def yF.c2 : XCode := .seq (rG [op 4 .move [cB true]]) (.ret)
def yF.x : XFunc := xF 27 0 [.val false 1, .val false 1] (no 2) [.tmp 4 false 1] [.imm] true (.pair T15_33 T15_33) .bool <| .seq (rG [op 4 .move [cB false]]) (.seq (.seq (rG [mv 6 0, o1 7 .len 6, mv 8 1, o1 9 .len 8, o2 10 (.bin .neq) 7 9]) (rI 10 4 false)) (.seq (.seq (rG [op 5 .move [cI 0]]) (.block 0 (.loop [.keep [0, 1, 5], .norm] (yF.c1)))) (yF.c2)))
def yF.env (N : Nat) : Env := envOf (tbl [(390, yN.fs N)] noFS)
def yF.F (N : Nat) (x : (List yq) × List yq) : Option Bool := XFunc.run yF.x (yF.env N) N x
def yF.fs (N : Nat) : FS := fS yF.x true (yF.F N)
def yF.k2 (N : Nat) : Ex -> S -> Option Bool := seqK (fun s => XCode.runK (yF.env N) N (yF.c2) s (XFunc.endK yF.x)) (XFunc.endK yF.x)
def yF.k1 (N : Nat) : Ex -> S -> Option Bool := y7 0 (yF.k2 N)
def yF.L1 (N : Nat) (n1 : Nat) (a : List yq) (b : List yq) (i : Int) : Option Bool := loopK [.keep [0, 1, 5], .norm] (rK (yF.env N) N yF.c1) n1
 { t := jK 27 [(0, .one (.sl false (.list yp) a)), (1, .one (.sl false (.list yp) b)), (5, .one (.int .i64 i))], h := [] }
 (yF.k1 N)
theorem yF.L1_eq (N : Nat) (n1 : Nat) (a : List yq) (b : List yq) (i : Int) : yF.L1 N (n1 + 1) a b i =
bif decide (i < (a.length : Int)) then
bif zG i (a.length) then
bif zG i (b.length) then
bindO (yN.F N (nth ([] : List (Int × Int × Int)) a i, nth ([] : List (Int × Int × Int)) b i)) fun r1 =>
bif !r1 then
some false
else
yF.L1 N n1 a b (IntKind.wrap .i64 (i + 1))
else none
else none
else
some true := by kernel_rfl
theorem yF.F_eq (N : Nat) (a : List yq) (b : List yq) : yF.F N (a, b) =
bif (a.length : Int) != (b.length : Int) then
some false
else
yF.L1 N N a b 0 := by kernel_rfl
def zA8.x : XFunc := xF 16 2 [.val true 5, .val true 5] (no 10) [.tmp 4 false 1] [.imm] true (.pair zBN zBN) .bool <| .seq (rG [ow 2 (.box 0) [.slot 0] [0] [0], ow 3 (.box 1) [.slot 1] [1] [1], op 4 .move [cB false]]) (.seq (.seq (rG [fA 5 0 2, lN 6 5 0, fA 7 0 3, lN 8 7 1, o2 9 (.bin .neq) 6 8]) (rI 9 4 false)) (.seq (.seq (rG [fA 10 1 2, lU 11 4 10 0, fA 12 1 3, lU 13 4 12 1, o2 14 (cO 459 [.val true 4, .val true 4] 8 true) 11 13, o1 15 .not 14]) (rI 15 4 false)) (.seq (rG [op 4 .move [cB true]]) (.ret))))
def zA8.env (N : Nat) : Env := envOf (tbl [(459, zAA.fs N)] noFS)
def zA8.F (N : Nat) (x : (Int × Int × Int × Int × Int) × Int × Int × Int × Int × Int) : Option Bool := XFunc.run zA8.x (zA8.env N) N x
def zA8.fs (N : Nat) : FS := fS zA8.x true (zA8.F N)
theorem zA8.F_eq (N : Nat) (a : Int × Int × Int × Int × Int) (b : Int × Int × Int × Int × Int) : zA8.F N (a, b) =
bif a.1 != b.1 then
some false
else
bindO (zAA.F N (a.2, b.2)) fun r1 =>
bif !r1 then
some false
else
some true := by kernel_rfl
def yS.c1 : XCode := .seq (.seq (rG [mv 11 5, mv 12 0, o1 13 .len 12, o2 14 (.bin .lss) 11 13]) (cX 14 0)) (.seq (.block 1 (.seq (.region true [mv 17 0, mv 18 5, o2 19 (.indexAddr zBN) 17 18, o1 20 (.load true 5) 19, mv 21 1, mv 22 5, o2 23 (.indexAddr zBN) 21 22, o1 24 (.load true 5) 23, o2 25 (cO 464 [.val true 5, .val true 5] 10 true) 20 24, o1 26 .not 25]) (rI 26 4 false))) (rG [mv 15 5, op 16 (.bin .add) [.slot 15, cI 1], mv 5 16]))
def yS.c2 : XCode := .seq (rG [op 4 .move [cB true]]) (.ret)
def yS.x : XFunc := xF 27 0 [.val false 1, .val false 1] (no 2) [.tmp 4 false 1] [.imm] true (.pair (.list zBN) (.list zBN)) .bool <| .seq (rG [op 4 .move [cB false]]) (.seq (.seq (rG [mv 6 0, o1 7 .len 6, mv 8 1, o1 9 .len 8, o2 10 (.bin .neq) 7 9]) (rI 10 4 false)) (.seq (.seq (rG [op 5 .move [cI 0]]) (.block 0 (.loop [.keep [0, 1, 5], .norm] (yS.c1)))) (yS.c2)))
def yS.env (N : Nat) : Env := envOf (tbl [(464, zA8.fs N)] noFS)
def yS.F (N : Nat) (x : zA0 × List (Int × Int × Int × Int × Int)) : Option Bool := XFunc.run yS.x (yS.env N) N x
def yS.fs (N : Nat) : FS := fS yS.x true (yS.F N)
def yS.k2 (N : Nat) : Ex -> S -> Option Bool := seqK (fun s => XCode.runK (yS.env N) N (yS.c2) s (XFunc.endK yS.x)) (XFunc.endK yS.x)
def yS.k1 (N : Nat) : Ex -> S -> Option Bool := y7 0 (yS.k2 N)
def yS.L1 (N : Nat) (n1 : Nat) (a : zA0) (b : zA0) (i : Int) : Option Bool := loopK [.keep [0, 1, 5], .norm] (rK (yS.env N) N yS.c1) n1
 { t := jK 27 [(0, .one (.sl false zBN a)), (1, .one (.sl false zBN b)), (5, .one (.int .i64 i))], h := [] }
 (yS.k1 N)
theorem yS.L1_eq (N : Nat) (n1 : Nat) (a : zA0) (b : zA0) (i : Int) : yS.L1 N (n1 + 1) a b i =
bif decide (i < (a.length : Int)) then
bif zG i (a.length) then
bif zG i (b.length) then
bindO (zA8.F N (((nth (0, (0, (0, (0, 0)))) a i).1, (((nth (0, (0, (0, (0, 0)))) a i).2).1, ((((nth (0, (0, (0, (0, 0)))) a i).2).2).1, ((((nth (0, (0, (0, (0, 0)))) a i).2).2).2)))), ((nth (0, (0, (0, (0, 0)))) b i).1, (((nth (0, (0, (0, (0, 0)))) b i).2).1, ((((nth (0, (0, (0, (0, 0)))) b i).2).2).1, ((((nth (0, (0, (0, (0, 0)))) b i).2).2).2)))))) fun r1 =>
bif !r1 then
some false
else
yS.L1 N n1 a b (IntKind.wrap .i64 (i + 1))
else none
else none
else
some true := by kernel_rfl
theorem yS.F_eq (N : Nat) (a : zA0) (b : zA0) : yS.F N (a, b) =
bif (a.length : Int) != (b.length : Int) then
some false
else
yS.L1 N N a b 0 := by kernel_rfl
def zAn.x : XFunc := xF 38 2 [.val true 7, .val true 7] (no 14) [.tmp 4 false 1] [.imm] true (.pair T4_33 T4_33) .bool <| .seq (rG [ow 2 (.box 0) [.slot 0] [0] [0], ow 3 (.box 1) [.slot 1] [1] [1], op 4 .move [cB false]]) (.seq (.seq (rG [fA 5 0 2, lU 6 2 5 0, fA 7 0 3, lU 8 2 7 1, o2 9 (cO 462 [.val true 2, .val true 2] 4 true) 6 8, o1 10 .not 9]) (rI 10 4 false)) (.seq (.seq (rG [fA 11 2 2, lN 12 11 0, fA 13 2 3, lN 14 13 1, o2 15 (cO 463 (vs 2) 2 true) 12 14, o1 16 .not 15]) (rI 16 4 false)) (.seq (.seq (rG [fA 17 3 2, lN 18 17 0, fA 19 3 3, lN 20 19 1, o2 21 (.bin .neq) 18 20]) (rI 21 4 false)) (.seq (.seq (rG [fA 22 4 2, lN 23 22 0, fA 24 4 3, lN 25 24 1, o2 26 (cO 465 (vs 2) 2 true) 23 25, o1 27 .not 26]) (rI 27 4 false)) (.seq (.seq (rG [fA 28 5 2, lN 29 28 0, fA 30 5 3, lN 31 30 1, o2 32 (.bin .neq) 29 31]) (rI 32 4 false)) (.seq (.seq (rG [fA 33 6 2, lN 34 33 0, fA 35 6 3, lN 36 35 1, o2 37 (.eqBool true) 34 36]) (rI 37 4 false)) (.seq (rG [op 4 .move [cB true]]) (.ret))))))))
def zAn.env (N : Nat) : Env := envOf (tbl [(465, yS.fs N), (462, zAm.fs N), (463, yF.fs N)] noFS)
def zAn.F (N : Nat) (x : D16_33 × (Int × List ye) × (List yq) × Int × zA0 × Int × Bool) : Option Bool := XFunc.run zAn.x (zAn.env N) N x
def zAn.fs (N : Nat) : FS := fS zAn.x true (zAn.F N)
theorem zAn.F_eq (N : Nat) (a : (Int × List ye) × (List yq) × Int × zA0 × Int × Bool) (b : (Int × List ye) × (List yq) × Int × zA0 × Int × Bool) : zAn.F N (a, b) =
bindO (zAm.F N (a.1, b.1)) fun r1 =>
bif !r1 then
some false
else
bindO (yF.F N (a.2.1, b.2.1)) fun r2 =>
bif !r2 then
some false
else
bif a.2.2.1 != b.2.2.1 then
some false
else
bindO (yS.F N (a.2.2.2.1, b.2.2.2.1)) fun r3 =>
bif !r3 then
some false
else
bif a.2.2.2.2.1 != b.2.2.2.2.1 then
some false
else
bif a.2.2.2.2.2 != b.2.2.2.2.2 then
some false
else
some true := by kernel_rfl
def zAl.x : XFunc := xF 20 2 [.val true 3, .val true 3] (no 6) [.tmp 4 false 1] [.imm] true (.pair yp yp) .bool <| .seq (rG [ow 2 (.box 0) [.slot 0] [0] [0], ow 3 (.box 1) [.slot 1] [1] [1], op 4 .move [cB false]]) (.seq (.seq (rG [fA 5 0 2, lN 6 5 0, fA 7 0 3, lN 8 7 1, o2 9 (.bin .neq) 6 8]) (rI 9 4 false)) (.seq (.seq (rG [fA 10 1 2, lN 11 10 0, fA 12 1 3, lN 13 12 1, o2 14 (.bin .neq) 11 13]) (rI 14 4 false)) (.seq (.seq (rG [fA 15 2 2, lN 16 15 0, fA 17 2 3, lN 18 17 1, o2 19 (.bin .neq) 16 18]) (rI 19 4 false)) (.seq (rG [op 4 .move [cB true]]) (.ret)))))
def zAl.env (_ : Nat) : Env := envOf (tbl [] noFS)
def zAl.F (N : Nat) (x : (Int × Int × Int) × Int × Int × Int) : Option Bool := XFunc.run zAl.x (zAl.env N) N x
def zAl.fs (N : Nat) : FS := fS zAl.x true (zAl.F N)
theorem zAl.F_eq (N : Nat) (a : Int × Int × Int) (b : Int × Int × Int) : zAl.F N (a, b) =
bif a.1 != b.1 then
some false
else
bif a.2.1 != b.2.1 then
some false
else
bif a.2.2 != b.2.2 then
some false
else
some true := by kernel_rfl
def y6.x : XFunc := xF 43 2 [.val true 15, .val true 15] (no 30) [.tmp 4 false 1] [.imm] true (.pair (.pair T4_33 T5_33) (.pair T4_33 T5_33)) .bool <| .seq (rG [ow 2 (.box 0) [.slot 0] [0] [0], ow 3 (.box 1) [.slot 1] [1] [1], op 4 .move [cB false]]) (.seq (.seq (rG [fA 5 0 2, lU 6 7 5 0, fA 7 0 3, lU 8 7 7 1, o2 9 (cO 466 [.val true 7, .val true 7] 14 true) 6 8, o1 10 .not 9]) (rI 10 4 false)) (.seq (.seq (rG [fA 11 7 2, lU 12 3 11 0, fA 13 7 3, lU 14 3 13 1, o2 15 (cO 467 [.val true 3, .val true 3] 6 true) 12 14, o1 16 .not 15]) (rI 16 4 false)) (.seq (.seq (rG [fA 17 10 2, lN 18 17 0, fA 19 10 3, lN 20 19 1, o2 21 (cO 136 (vs 2) 2 true) 18 20, o1 22 .not 21]) (rI 22 4 false)) (.seq (.seq (rG [fA 23 11 2, lN 24 23 0, fA 25 11 3, lN 26 25 1, o2 27 (.bin .neq) 24 26]) (rI 27 4 false)) (.seq (.seq (rG [fA 28 12 2, lN 29 28 0, fA 30 12 3, lN 31 30 1, o2 32 (.bin .neq) 29 31]) (rI 32 4 false)) (.seq (.seq (rG [fA 33 13 2, lN 34 33 0, fA 35 13 3, lN 36 35 1, o2 37 (.bin .neq) 34 36]) (rI 37 4 false)) (.seq (.seq (rG [fA 38 14 2, lN 39 38 0, fA 40 14 3, lN 41 40 1, o2 42 (.bin .neq) 39 41]) (rI 42 4 false)) (.seq (rG [op 4 .move [cB true]]) (.ret)))))))))
def y6.env (N : Nat) : Env := envOf (tbl [(466, zAn.fs N), (136, yG.fs N), (467, zAl.fs N)] noFS)
def y6.F (N : Nat) (x : zCB × D16_33 × (Int × Int × Int) × D21_33 × Int × Int × Int × Int) : Option Bool := XFunc.run y6.x (y6.env N) N x
def y6.fs (N : Nat) : FS := fS y6.x true (y6.F N)
theorem y6.F_eq (N : Nat) (a : zCB) (b : zCB) : y6.F N (a, b) =
bindO (zAn.F N (a.1, b.1)) fun r1 =>
bif !r1 then
some false
else
bindO (zAl.F N (a.2.1, b.2.1)) fun r2 =>
bif !r2 then
some false
else
bindO (yG.F N (a.2.2.1, b.2.2.1)) fun r3 =>
bif !r3 then
some false
else
bif a.2.2.2.1 != b.2.2.2.1 then
some false
else
bif a.2.2.2.2.1 != b.2.2.2.2.1 then
some false
else
bif a.2.2.2.2.2.1 != b.2.2.2.2.2.1 then
some false
else
bif a.2.2.2.2.2.2 != b.2.2.2.2.2.2 then
some false
else
some true := by kernel_rfl
def zA7.x : XFunc := xF 16 2 [.val true 3, .val true 3] (no 6) [.tmp 4 false 1] [.imm] true (.pair T9_33 T9_33) .bool <| .seq (rG [ow 2 (.box 0) [.slot 0] [0] [0], ow 3 (.box 1) [.slot 1] [1] [1], op 4 .move [cB false]]) (.seq (.seq (rG [fA 5 0 2, lN 6 5 0, fA 7 0 3, lN 8 7 1, o2 9 (.bin .neq) 6 8]) (rI 9 4 false)) (.seq (.seq (rG [fA 10 1 2, lU 11 2 10 0, fA 12 1 3, lU 13 2 12 1, o2 14 (cO 265 [.val true 2, .val true 2] 4 true) 11 13, o1 15 .not 14]) (rI 15 4 false)) (.seq (rG [op 4 .move [cB true]]) (.ret))))
def zA7.env (N : Nat) : Env := envOf (tbl [(265, zAf.fs N)] noFS)
def zA7.F (N : Nat) (x : (Int × Int × List Int) × Int × Int × List Int) : Option Bool := XFunc.run zA7.x (zA7.env N) N x
def zA7.fs (N : Nat) : FS := fS zA7.x true (zA7.F N)
theorem zA7.F_eq (N : Nat) (a : Int × Int × List Int) (b : Int × Int × List Int) : zA7.F N (a, b) =
bif a.1 != b.1 then
some false
else
bindO (zAf.F N (a.2, b.2)) fun r1 =>
bif !r1 then
some false
else
some true := by kernel_rfl
def yM.c1 : XCode := .seq (.seq (rG [mv 11 5, mv 12 0, o1 13 .len 12, o2 14 (.bin .lss) 11 13]) (cX 14 0)) (.seq (.block 1 (.seq (.region true [mv 17 0, mv 18 5, o2 19 (.indexAddr T9_33) 17 18, o1 20 (.load true 3) 19, mv 21 1, mv 22 5, o2 23 (.indexAddr T9_33) 21 22, o1 24 (.load true 3) 23, o2 25 (cO 469 [.val true 3, .val true 3] 6 true) 20 24, o1 26 .not 25]) (rI 26 4 false))) (rG [mv 15 5, op 16 (.bin .add) [.slot 15, cI 1], mv 5 16]))
def yM.c2 : XCode := .seq (rG [op 4 .move [cB true]]) (.ret)
def yM.x : XFunc := xF 27 0 [.val false 1, .val false 1] (no 2) [.tmp 4 false 1] [.imm] true (.pair (.list T9_33) (.list T9_33)) .bool <| .seq (rG [op 4 .move [cB false]]) (.seq (.seq (rG [mv 6 0, o1 7 .len 6, mv 8 1, o1 9 .len 8, o2 10 (.bin .neq) 7 9]) (rI 10 4 false)) (.seq (.seq (rG [op 5 .move [cI 0]]) (.block 0 (.loop [.keep [0, 1, 5], .norm] (yM.c1)))) (yM.c2)))
def yM.env (N : Nat) : Env := envOf (tbl [(469, zA7.fs N)] noFS)
def yM.F (N : Nat) (x : (List (Int × Int × List Int)) × List (Int × Int × List Int)) : Option Bool := XFunc.run yM.x (yM.env N) N x
def yM.fs (N : Nat) : FS := fS yM.x true (yM.F N)
def yM.k2 (N : Nat) : Ex -> S -> Option Bool := seqK (fun s => XCode.runK (yM.env N) N (yM.c2) s (XFunc.endK yM.x)) (XFunc.endK yM.x)
def yM.k1 (N : Nat) : Ex -> S -> Option Bool := y7 0 (yM.k2 N)
def yM.L1 (N : Nat) (n1 : Nat) (a : List (Int × Int × List Int)) (b : List (Int × Int × List Int)) (i : Int) : Option Bool := loopK [.keep [0, 1, 5], .norm] (rK (yM.env N) N yM.c1) n1
 { t := jK 27 [(0, .one (.sl false T9_33 a)), (1, .one (.sl false T9_33 b)), (5, .one (.int .i64 i))], h := [] }
 (yM.k1 N)
theorem yM.L1_eq (N : Nat) (n1 : Nat) (a : List (Int × Int × List Int)) (b : List (Int × Int × List Int)) (i : Int) : yM.L1 N (n1 + 1) a b i =
bif decide (i < (a.length : Int)) then
bif zG i (a.length) then
bif zG i (b.length) then
bindO (zA7.F N (((nth (0, (0, ([] : List Int))) a i).1, ((nth (0, (0, ([] : List Int))) a i).2)), ((nth (0, (0, ([] : List Int))) b i).1, ((nth (0, (0, ([] : List Int))) b i).2)))) fun r1 =>
bif !r1 then
some false
else
yM.L1 N n1 a b (IntKind.wrap .i64 (i + 1))
else none
else none
else
some true := by kernel_rfl
theorem yM.F_eq (N : Nat) (a : List (Int × Int × List Int)) (b : List (Int × Int × List Int)) : yM.F N (a, b) =
bif (a.length : Int) != (b.length : Int) then
some false
else
yM.L1 N N a b 0 := by kernel_rfl
def zX.c1 : XCode := .seq (.seq (rG [mv 6 5, mv 7 0, ow 8 .len [.slot 7] [0] [], o2 9 (.bin .lss) 6 8]) (cX 9 0)) (.seq (.block 1 (.seq (rG [mv 12 0, mv 13 5, mv 14 1, ow 15 (.indexAddr ym) (sl [12, 13]) [0] [], fA 16 0 15, sT 1 16 14 0]) (.seq (rG [mv 17 1, op 18 (.bin .add) [.slot 17, cI 1], mv 1 18]) (.seq (rG [mv 19 0, mv 20 5, mv 21 1, ow 22 (.indexAddr ym) (sl [19, 20]) [0] [], fA 23 1 22, sT 1 23 21 0]) (.seq (rG [mv 24 1, op 25 (.bin .add) [.slot 24, cI 1], mv 1 25]) (.seq (rG [mv 26 0, mv 27 5, mv 28 1, ow 29 (.indexAddr ym) (sl [26, 27]) [0] [], fA 30 2 29, sT 1 30 28 0]) (.seq (rG [mv 31 1, op 32 (.bin .add) [.slot 31, cI 1], mv 1 32]) (.seq (rG [mv 33 0, mv 34 5, mv 35 1, ow 36 (.indexAddr ym) (sl [33, 34]) [0] [], fA 37 3 36, sT 1 37 35 0]) (rG [mv 38 1, op 39 (.bin .add) [.slot 38, cI 1], mv 1 39]))))))))) (rG [mv 10 5, op 11 (.bin .add) [.slot 10, cI 1], mv 5 11]))
def zX.c2 : XCode := .seq (rG [mv 40 1, mv 4 40]) (.ret)
def zX.x : XFunc := xF 41 1 [.val false 1, .val false 1] [some (0, 8), none] [.tmp 4 false 1] [.imm, .back 0] false (.pair (.list ym) (.int .i64)) (.pair (.int .i64) (.list ym)) <| .seq (rG [op 4 .move [cI 0]]) (.seq (.seq (rG [op 5 .move [cI 0]]) (.block 0 (.loop [.keep [0, 1, 5], .norm] (zX.c1)))) (zX.c2))
def zX.env (_ : Nat) : Env := envOf (tbl [] noFS)
def zX.F (N : Nat) (x : ye × Int) : Option (Int × List (Int × Int × Int × Int)) := XFunc.run zX.x (zX.env N) N x
def zX.fs (N : Nat) : FS := fS zX.x false (zX.F N)
def zX.k2 (N : Nat) : Ex -> S -> Option (Int × List (Int × Int × Int × Int)) := seqK (fun s => XCode.runK (zX.env N) N (zX.c2) s (XFunc.endK zX.x)) (XFunc.endK zX.x)
def zX.k1 (N : Nat) : Ex -> S -> Option (Int × List (Int × Int × Int × Int)) := y7 0 (zX.k2 N)
def zX.L1 (N : Nat) (n1 : Nat) (k_ : Int) (i : Int) (o0 : ye) : Option (Int × List (Int × Int × Int × Int)) := loopK [.keep [0, 1, 5], .norm] (rK (zX.env N) N zX.c1) n1
 { t := jK 41 [(0, .one (.ref 0 0 .all)), (1, .one (.int .i64 k_)), (5, .one (.int .i64 i))], h := [.row 0 true false 8 ym o0] }
 (zX.k1 N)
theorem zX.L1_eq (N : Nat) (n1 : Nat) (k_ : Int) (i : Int) (o0 : ye) : zX.L1 N (n1 + 1) k_ i o0 =
let y2 := (List.set o0 (Int.toNat i) (k_, (((List.getD o0 (Int.toNat i) (0, (0, (0, 0)))).2).1, (((List.getD o0 (Int.toNat i) (0, (0, (0, 0)))).2).2))))
let y0 := (List.set y2 (Int.toNat i) ((List.getD y2 (Int.toNat i) (0, (0, (0, 0)))).1, (IntKind.wrap .i64 (k_ + 1), (((List.getD y2 (Int.toNat i) (0, (0, (0, 0)))).2).2))))
let y1 := (List.set y0 (Int.toNat i) ((List.getD y0 (Int.toNat i) (0, (0, (0, 0)))).1, (((List.getD y0 (Int.toNat i) (0, (0, (0, 0)))).2).1, (IntKind.wrap .i64 ((IntKind.wrap .i64 (k_ + 1)) + 1), (((List.getD y0 (Int.toNat i) (0, (0, (0, 0)))).2).2).2))))
bif decide (i < (o0.length : Int)) then
bif zG i (o0.length) then
bif zG i (y2.length) then
bif zG i (y0.length) then
bif zG i (y1.length) then
zX.L1 N n1 (IntKind.wrap .i64 ((IntKind.wrap .i64 ((IntKind.wrap .i64 ((IntKind.wrap .i64 (k_ + 1)) + 1)) + 1)) + 1)) (IntKind.wrap .i64 (i + 1)) (List.set y1 (Int.toNat i) ((List.getD y1 (Int.toNat i) (0, (0, (0, 0)))).1, (((List.getD y1 (Int.toNat i) (0, (0, (0, 0)))).2).1, ((((List.getD y1 (Int.toNat i) (0, (0, (0, 0)))).2).2).1, IntKind.wrap .i64 ((IntKind.wrap .i64 ((IntKind.wrap .i64 (k_ + 1)) + 1)) + 1)))))
else none
else none
else none
else none
else
some (k_, o0) := by kernel_rfl
theorem zX.F_eq (N : Nat) (a : ye) (k_ : Int) : zX.F N (a, k_) =
zX.L1 N N k_ 0 a := by kernel_rfl
def zN.c1 : XCode := .seq (.seq (rG [mv 6 5, mv 7 0, o1 8 .len 7, o2 9 (.bin .lss) 6 8]) (cX 9 0)) (.seq (.block 1 (rG [mv 12 0, mv 13 5, o2 14 (.indexAddr (.hnd ym)) 12 13, ⟨some 15, .load false 1, [.slot 14], [0, 100], [], none, false, .take 0 8 0⟩, mv 16 1, ow 17 (.call ⟨471, vs 2, [some (0, 8), none], [.val false 1], [.imm, .back 0], false⟩) (sl [15, 16]) [0] [0], mv 1 17])) (rG [mv 10 5, op 11 (.bin .add) [.slot 10, cI 1], mv 5 11]))
def zN.c2 : XCode := .seq (rG [mv 18 1, mv 4 18]) (.ret)
def zN.x : XFunc := { nslots := 19, nobj := 1, pars := [.val false 1, .val false 1], rowsIn := no 2, rets := [.tmp 4 false 1], outs := [.imm], fresh := true, arg := .pair (.list (.hnd ym)) (.int .i64), ret := .int .i64, body := .seq (rG [op 4 .move [cI 0]]) (.seq (.seq (rG [op 5 .move [cI 0]]) (.block 0 (.loop [.hput 0, .keep [0, 1, 5], .drop 0, .norm] (zN.c1)))) (zN.c2)), hp := true }
def zN.env (N : Nat) : Env := envOf (tbl [(471, zX.fs N)] noFS)
def zN.H (N : Nat) (x : (List Hnd) × Int) (D : List HRow) : Option (Int × List HRow) := XFunc.runH zN.x (zN.env N) N x D
def zN.fs (N : Nat) : FS := { arg := zN.x.arg, ret := zN.x.ret, fresh := true, F := fun _ => none, hp := true, H := zN.H N }
def zN.k2 (N : Nat) : Ex -> S -> Option (Int × List HRow) := seqK (fun s => XCode.runK (zN.env N) N (zN.c2) s (XFunc.endKH zN.x)) (XFunc.endKH zN.x)
def zN.k1 (N : Nat) : Ex -> S -> Option (Int × List HRow) := y7 0 (zN.k2 N)
def zN.L1 (N : Nat) (n1 : Nat) (a : List Hnd) (k_ : Int) (i : Int) (D : List HRow) : Option (Int × List HRow) := loopK [.hput 0, .keep [0, 1, 5], .drop 0, .norm] (rK (zN.env N) N zN.c1) n1
 { t := jK 19 [(0, .one (.sl false (.hnd ym) a)), (1, .one (.int .i64 k_)), (5, .one (.int .i64 i))], h := [.absent 0], d := D }
 (zN.k1 N)
theorem zN.L1_eq (N : Nat) (n1 : Nat) (a : List Hnd) (k_ : Int) (i : Int) (D : List HRow) : zN.L1 N (n1 + 1) a k_ i D =
bif decide (i < (a.length : Int)) then
bif zG i (a.length) then
bif hfull D 8 ym (nth (none : Hnd) a i) then
bindO (zX.F N (hcut D ym (nth (none : Hnd) a i), k_)) fun r1 =>
zN.L1 N n1 a r1.1 (IntKind.wrap .i64 (i + 1)) (hput (hgone D (nth (none : Hnd) a i)) (nth (none : Hnd) a i) 8 ym r1.2)
else none
else none
else
some (k_, D) := by kernel_rfl
theorem zN.H_eq (N : Nat) (a : List Hnd) (k_ : Int) (D : List HRow) : zN.H N (a, k_) D =
zN.L1 N N a k_ 0 D := by kernel_rfl
def y4.x : XFunc := { nslots := 10, nobj := 1, pars := [.val true 2, .val false 1], rowsIn := no 3, rets := [.tmp 4 false 1], outs := [.imm], fresh := true, arg := .pair (.pair (.int .i64) (.list (.hnd ym))) (.int .i64), ret := .int .i64, body := .seq (rG [ow 2 (.box 0) [.slot 0] [0] [0], op 4 .move [cI 0]]) (.seq (rG [fA 5 1 2, lN 6 5 0, mv 7 1, ow 8 (.callH true ⟨472, vs 2, no 2, [.val false 1], ims 1, true⟩) (sl [6, 7]) [100] [100], mv 1 8]) (.seq (rG [mv 9 1, mv 4 9]) (.ret))), hp := true }
def y4.env (N : Nat) : Env := envOf (tbl [(472, zN.fs N)] noFS)
def y4.H (N : Nat) (x : (Int × List Hnd) × Int) (D : List HRow) : Option (Int × List HRow) := XFunc.runH y4.x (y4.env N) N x D
def y4.fs (N : Nat) : FS := { arg := y4.x.arg, ret := y4.x.ret, fresh := true, F := fun _ => none, hp := true, H := y4.H N }
theorem y4.H_eq (N : Nat) (a : Int × List Hnd) (k_ : Int) (D : List HRow) : y4.H N (a, k_) D =
bindO (zN.H N (a.2, k_) D) fun r1 =>
some (r1.1, r1.2) := by kernel_rfl
def z1.c1 : XCode := .seq (.seq (rG [mv 6 5, mv 7 0, ow 8 .len [.slot 7] [0] [], o2 9 (.bin .lss) 6 8]) (cX 9 0)) (.seq (.block 1 (.seq (rG [mv 12 0, mv 13 5, mv 14 1, ow 15 (.indexAddr yp) (sl [12, 13]) [0] [], fA 16 0 15, sT 1 16 14 0]) (.seq (rG [mv 17 1, op 18 (.bin .add) [.slot 17, cI 1], mv 1 18]) (.seq (rG [mv 19 0, mv 20 5, mv 21 1, ow 22 (.indexAddr yp) (sl [19, 20]) [0] [], fA 23 1 22, sT 1 23 21 0]) (.seq (rG [mv 24 1, op 25 (.bin .add) [.slot 24, cI 1], mv 1 25]) (.seq (rG [mv 26 0, mv 27 5, mv 28 1, ow 29 (.indexAddr yp) (sl [26, 27]) [0] [], fA 30 2 29, sT 1 30 28 0]) (rG [mv 31 1, op 32 (.bin .add) [.slot 31, cI 1], mv 1 32]))))))) (rG [mv 10 5, op 11 (.bin .add) [.slot 10, cI 1], mv 5 11]))
def z1.c2 : XCode := .seq (rG [mv 33 1, mv 4 33]) (.ret)
def z1.x : XFunc := xF 34 1 [.val false 1, .val false 1] [some (0, 10), none] [.tmp 4 false 1] [.imm, .back 0] false (.pair (.list yp) (.int .i64)) (.pair (.int .i64) (.list yp)) <| .seq (rG [op 4 .move [cI 0]]) (.seq (.seq (rG [op 5 .move [cI 0]]) (.block 0 (.loop [.keep [0, 1, 5], .norm] (z1.c1)))) (z1.c2))
def z1.env (_ : Nat) : Env := envOf (tbl [] noFS)
def z1.F (N : Nat) (x : yq × Int) : Option (Int × List (Int × Int × Int)) := XFunc.run z1.x (z1.env N) N x
def z1.fs (N : Nat) : FS := fS z1.x false (z1.F N)
def z1.k2 (N : Nat) : Ex -> S -> Option (Int × List (Int × Int × Int)) := seqK (fun s => XCode.runK (z1.env N) N (z1.c2) s (XFunc.endK z1.x)) (XFunc.endK z1.x)
def z1.k1 (N : Nat) : Ex -> S -> Option (Int × List (Int × Int × Int)) := y7 0 (z1.k2 N)
def z1.L1 (N : Nat) (n1 : Nat) (k_ : Int) (i : Int) (o0 : yq) : Option (Int × List (Int × Int × Int)) := loopK [.keep [0, 1, 5], .norm] (rK (z1.env N) N z1.c1) n1
 { t := jK 34 [(0, .one (.ref 0 0 .all)), (1, .one (.int .i64 k_)), (5, .one (.int .i64 i))], h := [.row 0 true false 10 yp o0] }
 (z1.k1 N)
theorem z1.L1_eq (N : Nat) (n1 : Nat) (k_ : Int) (i : Int) (o0 : yq) : z1.L1 N (n1 + 1) k_ i o0 =
let y1 := (List.set o0 (Int.toNat i) (k_, ((List.getD o0 (Int.toNat i) (0, (0, 0))).2)))
let y0 := (List.set y1 (Int.toNat i) ((List.getD y1 (Int.toNat i) (0, (0, 0))).1, (IntKind.wrap .i64 (k_ + 1), ((List.getD y1 (Int.toNat i) (0, (0, 0))).2).2)))
bif decide (i < (o0.length : Int)) then
bif zG i (o0.length) then
bif zG i (y1.length) then
bif zG i (y0.length) then
z1.L1 N n1 (IntKind.wrap .i64 ((IntKind.wrap .i64 ((IntKind.wrap .i64 (k_ + 1)) + 1)) + 1)) (IntKind.wrap .i64 (i + 1)) (List.set y0 (Int.toNat i) ((List.getD y0 (Int.toNat i) (0, (0, 0))).1, (((List.getD y0 (Int.toNat i) (0, (0, 0))).2).1, IntKind.wrap .i64 ((IntKind.wrap .i64 (k_ + 1)) + 1))))
else none
else none
else none
else
some (k_, o0) := by kernel_rfl
theorem z1.F_eq (N : Nat) (a : yq) (k_ : Int) : z1.F N (a, k_) =
z1.L1 N N k_ 0 a := by kernel_rfl
def zW.c1 : XCode := .seq (.seq (rG [mv 6 5, mv 7 0, o1 8 .len 7, o2 9 (.bin .lss) 6 8]) (cX 9 0)) (.seq (.block 1 (rG [mv 12 0, mv 13 5, o2 14 (.indexAddr (.hnd yp)) 12 13, ⟨some 15, .load false 1, [.slot 14], [0, 100], [], none, false, .take 0 10 0⟩, mv 16 1, ow 17 (.call ⟨391, vs 2, [some (0, 10), none], [.val false 1], [.imm, .back 0], false⟩) (sl [15, 16]) [0] [0], mv 1 17])) (rG [mv 10 5, op 11 (.bin .add) [.slot 10, cI 1], mv 5 11]))
def zW.c2 : XCode := .seq (rG [mv 18 1, mv 4 18]) (.ret)
def zW.x : XFunc := { nslots := 19, nobj := 1, pars := [.val false 1, .val false 1], rowsIn := no 2, rets := [.tmp 4 false 1], outs := [.imm], fresh := true, arg := .pair (.list (.hnd yp)) (.int .i64), ret := .int .i64, body := .seq (rG [op 4 .move [cI 0]]) (.seq (.seq (rG [op 5 .move [cI 0]]) (.block 0 (.loop [.hput 0, .keep [0, 1, 5], .drop 0, .norm] (zW.c1)))) (zW.c2)), hp := true }
def zW.env (N : Nat) : Env := envOf (tbl [(391, z1.fs N)] noFS)
def zW.H (N : Nat) (x : (List Hnd) × Int) (D : List HRow) : Option (Int × List HRow) := XFunc.runH zW.x (zW.env N) N x D
def zW.fs (N : Nat) : FS := { arg := zW.x.arg, ret := zW.x.ret, fresh := true, F := fun _ => none, hp := true, H := zW.H N }
def zW.k2 (N : Nat) : Ex -> S -> Option (Int × List HRow) := seqK (fun s => XCode.runK (zW.env N) N (zW.c2) s (XFunc.endKH zW.x)) (XFunc.endKH zW.x)
def zW.k1 (N : Nat) : Ex -> S -> Option (Int × List HRow) := y7 0 (zW.k2 N)
def zW.L1 (N : Nat) (n1 : Nat) (a : List Hnd) (k_ : Int) (i : Int) (D : List HRow) : Option (Int × List HRow) := loopK [.hput 0, .keep [0, 1, 5], .drop 0, .norm] (rK (zW.env N) N zW.c1) n1
 { t := jK 19 [(0, .one (.sl false (.hnd yp) a)), (1, .one (.int .i64 k_)), (5, .one (.int .i64 i))], h := [.absent 0], d := D }
 (zW.k1 N)
theorem zW.L1_eq (N : Nat) (n1 : Nat) (a : List Hnd) (k_ : Int) (i : Int) (D : List HRow) : zW.L1 N (n1 + 1) a k_ i D =
bif decide (i < (a.length : Int)) then
bif zG i (a.length) then
bif hfull D 10 yp (nth (none : Hnd) a i) then
bindO (z1.F N (hcut D yp (nth (none : Hnd) a i), k_)) fun r1 =>
zW.L1 N n1 a r1.1 (IntKind.wrap .i64 (i + 1)) (hput (hgone D (nth (none : Hnd) a i)) (nth (none : Hnd) a i) 10 yp r1.2)
else none
else none
else
some (k_, D) := by kernel_rfl
theorem zW.H_eq (N : Nat) (a : List Hnd) (k_ : Int) (D : List HRow) : zW.H N (a, k_) D =
zW.L1 N N a k_ 0 D := by kernel_rfl
def z3.c1 : XCode := .seq (.seq (rG [mv 6 5, mv 7 0, ow 8 .len [.slot 7] [0] [], o2 9 (.bin .lss) 6 8]) (cX 9 0)) (.seq (.block 1 (.seq (rG [mv 12 0, mv 13 5, mv 14 1, ow 15 (.indexAddr zBN) (sl [12, 13]) [0] [], fA 16 0 15, sT 1 16 14 0]) (.seq (rG [mv 17 1, op 18 (.bin .add) [.slot 17, cI 1], mv 1 18]) (.seq (rG [mv 19 0, mv 20 5, mv 21 1, ow 22 (.indexAddr zBN) (sl [19, 20]) [0] [], fA 23 1 22, fA 24 0 23, sT 1 24 21 0]) (.seq (rG [mv 25 1, op 26 (.bin .add) [.slot 25, cI 1], mv 1 26]) (.seq (rG [mv 27 0, mv 28 5, mv 29 1, ow 30 (.indexAddr zBN) (sl [27, 28]) [0] [], fA 31 1 30, fA 32 1 31, sT 1 32 29 0]) (.seq (rG [mv 33 1, op 34 (.bin .add) [.slot 33, cI 1], mv 1 34]) (.seq (rG [mv 35 0, mv 36 5, mv 37 1, ow 38 (.indexAddr zBN) (sl [35, 36]) [0] [], fA 39 1 38, fA 40 2 39, sT 1 40 37 0]) (.seq (rG [mv 41 1, op 42 (.bin .add) [.slot 41, cI 1], mv 1 42]) (.seq (rG [mv 43 0, mv 44 5, mv 45 1, ow 46 (.indexAddr zBN) (sl [43, 44]) [0] [], fA 47 1 46, fA 48 3 47, sT 1 48 45 0]) (rG [mv 49 1, op 50 (.bin .add) [.slot 49, cI 1], mv 1 50]))))))))))) (rG [mv 10 5, op 11 (.bin .add) [.slot 10, cI 1], mv 5 11]))
def z3.c2 : XCode := .seq (rG [mv 51 1, mv 4 51]) (.ret)
def z3.x : XFunc := xF 52 1 [.val false 1, .val false 1] [some (0, 15), none] [.tmp 4 false 1] [.imm, .back 0] false (.pair (.list zBN) (.int .i64)) (.pair (.int .i64) (.list zBN)) <| .seq (rG [op 4 .move [cI 0]]) (.seq (.seq (rG [op 5 .move [cI 0]]) (.block 0 (.loop [.keep [0, 1, 5], .norm] (z3.c1)))) (z3.c2))
def z3.env (_ : Nat) : Env := envOf (tbl [] noFS)
def z3.F (N : Nat) (x : zA0 × Int) : Option (Int × List (Int × Int × Int × Int × Int)) := XFunc.run z3.x (z3.env N) N x
def z3.fs (N : Nat) : FS := fS z3.x false (z3.F N)
def z3.k2 (N : Nat) : Ex -> S -> Option (Int × List (Int × Int × Int × Int × Int)) := seqK (fun s => XCode.runK (z3.env N) N (z3.c2) s (XFunc.endK z3.x)) (XFunc.endK z3.x)
def z3.k1 (N : Nat) : Ex -> S -> Option (Int × List (Int × Int × Int × Int × Int)) := y7 0 (z3.k2 N)
def z3.L1 (N : Nat) (n1 : Nat) (k_ : Int) (i : Int) (o0 : zA0) : Option (Int × List (Int × Int × Int × Int × Int)) := loopK [.keep [0, 1, 5], .norm] (rK (z3.env N) N z3.c1) n1
 { t := jK 52 [(0, .one (.ref 0 0 .all)), (1, .one (.int .i64 k_)), (5, .one (.int .i64 i))], h := [.row 0 true false 15 zBN o0] }
 (z3.k1 N)
theorem z3.L1_eq (N : Nat) (n1 : Nat) (k_ : Int) (i : Int) (o0 : zA0) : z3.L1 N (n1 + 1) k_ i o0 =
let y3 := (List.set o0 (Int.toNat i) (k_, (((List.getD o0 (Int.toNat i) (0, (0, (0, (0, 0))))).2).1, ((((List.getD o0 (Int.toNat i) (0, (0, (0, (0, 0))))).2).2).1, ((((List.getD o0 (Int.toNat i) (0, (0, (0, (0, 0))))).2).2).2)))))
let y0 := (List.set y3 (Int.toNat i) ((List.getD y3 (Int.toNat i) (0, (0, (0, (0, 0))))).1, (IntKind.wrap .i64 (k_ + 1), ((((List.getD y3 (Int.toNat i) (0, (0, (0, (0, 0))))).2).2).1, ((((List.getD y3 (Int.toNat i) (0, (0, (0, (0, 0))))).2).2).2)))))
let y2 := (List.set y0 (Int.toNat i) ((List.getD y0 (Int.toNat i) (0, (0, (0, (0, 0))))).1, (((List.getD y0 (Int.toNat i) (0, (0, (0, (0, 0))))).2).1, (IntKind.wrap .i64 ((IntKind.wrap .i64 (k_ + 1)) + 1), ((((List.getD y0 (Int.toNat i) (0, (0, (0, (0, 0))))).2).2).2)))))
let y1 := (List.set y2 (Int.toNat i) ((List.getD y2 (Int.toNat i) (0, (0, (0, (0, 0))))).1, (((List.getD y2 (Int.toNat i) (0, (0, (0, (0, 0))))).2).1, ((((List.getD y2 (Int.toNat i) (0, (0, (0, (0, 0))))).2).2).1, (IntKind.wrap .i64 ((IntKind.wrap .i64 ((IntKind.wrap .i64 (k_ + 1)) + 1)) + 1), ((((List.getD y2 (Int.toNat i) (0, (0, (0, (0, 0))))).2).2).2).2)))))
bif decide (i < (o0.length : Int)) then
bif zG i (o0.length) then
bif zG i (y3.length) then
bif zG i (y0.length) then
bif zG i (y2.length) then
bif zG i (y1.length) then
z3.L1 N n1 (IntKind.wrap .i64 ((IntKind.wrap .i64 ((IntKind.wrap .i64 ((IntKind.wrap .i64 ((IntKind.wrap .i64 (k_ + 1)) + 1)) + 1)) + 1)) + 1)) (IntKind.wrap .i64 (i + 1)) (List.set y1 (Int.toNat i) ((List.getD y1 (Int.toNat i) (0, (0, (0, (0, 0))))).1, (((List.getD y1 (Int.toNat i) (0, (0, (0, (0, 0))))).2).1, ((((List.getD y1 (Int.toNat i) (0, (0, (0, (0, 0))))).2).2).1, (((((List.getD y1 (Int.toNat i) (0, (0, (0, (0, 0))))).2).2).2).1, IntKind.wrap .i64 ((IntKind.wrap .i64 ((IntKind.wrap .i64 ((IntKind.wrap .i64 (k_ + 1)) + 1)) + 1)) + 1))))))
else none
else none
else none
else none
else none
else
some (k_, o0) := by kernel_rfl
theorem z3.F_eq (N : Nat) (a : zA0) (k_ : Int) : z3.F N (a, k_) =
z3.L1 N N k_ 0 a := by kernel_rfl
def y5.x : XFunc := { nslots := 18, nobj := 2, pars := [.val true 7, .val false 1], rowsIn := [none, none, none, none, some (1, 15), none, none, none], rets := [.tmp 4 false 1], outs := [.imm, .back 1], fresh := false, arg := .pair T7_33 (.int .i64), ret := .pair (.int .i64) (.list zBN), body := .seq (rG [ow 2 (.box 0) [.slot 0] [0] [0], op 4 .move [cI 0]]) (.seq (rG [fA 5 0 2, lU 6 2 5 0, mv 7 1, ow 8 (.callH true ⟨473, [.val true 2, .val false 1], no 3, [.val false 1], ims 1, true⟩) (sl [6, 7]) [100] [100], mv 1 8]) (.seq (rG [fA 9 2 2, lN 10 9 0, mv 11 1, ow 12 (.callH true ⟨474, vs 2, no 2, [.val false 1], ims 1, true⟩) (sl [10, 11]) [100] [100], mv 1 12]) (.seq (rG [fA 13 4 2, lN 14 13 0, mv 15 1, ow 16 (.call ⟨475, vs 2, [some (1, 15), none], [.val false 1], [.imm, .back 1], false⟩) (sl [14, 15]) [1] [1], mv 1 16]) (.seq (rG [mv 17 1, mv 4 17]) (.ret))))), hp := true }
def y5.env (N : Nat) : Env := envOf (tbl [(475, z3.fs N), (473, y4.fs N), (474, zW.fs N)] noFS)
def y5.H (N : Nat) (x : D18_33 × Int) (D : List HRow) : Option ((Int × List (Int × Int × Int × Int × Int)) × List HRow) := XFunc.runH y5.x (y5.env N) N x D
def y5.fs (N : Nat) : FS := { arg := y5.x.arg, ret := y5.x.ret, fresh := false, F := fun _ => none, hp := true, H := y5.H N }
theorem y5.H_eq (N : Nat) (a : (Int × List Hnd) × (List Hnd) × Int × zA0 × Int × Bool) (k_ : Int) (D : List HRow) : y5.H N (a, k_) D =
bindO (y4.H N (a.1, k_) D) fun r1 =>
bindO (zW.H N (a.2.1, r1.1) r1.2) fun r2 =>
bindO (z3.F N (a.2.2.2.1, r2.1)) fun r3 =>
some (r3, r2.2) := by kernel_rfl
def yi.x : XFunc := { nslots := 14, nobj := 3, pars := [.val true 15, .val false 1], rowsIn := [none, none, none, none, some (1, 15), none, none, none, none, none, some (2, 4), none, none, none, none, none], rets := [.tmp 4 false 1], outs := [.imm, .back 1, .back 2], fresh := false, arg := .pair (.pair T7_33 T5_33) (.int .i64), ret := .pair (.int .i64) (.pair (.list zBN) (.list T12_33)), body := .seq (rG [ow 2 (.box 0) [.slot 0] [0] [0], op 4 .move [cI 0]]) (.seq (rG [fA 5 0 2, lU 6 7 5 0, mv 7 1, ow 8 (.callH true ⟨476, [.val true 7, .val false 1], [none, none, none, none, some (1, 15), none, none, none], [.val false 1], [.imm, .back 1], false⟩) (sl [6, 7]) [1, 100] [1, 100], mv 1 8]) (.seq (rG [fA 9 10 2, lN 10 9 0, mv 11 1, ow 12 (.call ⟨141, vs 2, [some (2, 4), none], [.val false 1], [.imm, .back 2], false⟩) (sl [10, 11]) [2] [2], mv 1 12]) (.seq (rG [mv 13 1, mv 4 13]) (.ret)))), hp := true }
def yi.env (N : Nat) : Env := envOf (tbl [(476, y5.fs N), (141, zm.fs N)] noFS)
def yi.H (N : Nat) (x : D22_33 × Int) (D : List HRow) : Option ((Int × zA0 × List (Int × Int × Bool)) × List HRow) := XFunc.runH yi.x (yi.env N) N x D
def yi.fs (N : Nat) : FS := { arg := yi.x.arg, ret := yi.x.ret, fresh := false, F := fun _ => none, hp := true, H := yi.H N }
theorem yi.H_eq (N : Nat) (a : D22_33) (k_ : Int) (D : List HRow) : yi.H N (a, k_) D =
bindO (y5.H N (a.1, k_) D) fun r1 =>
bindO (zm.F N (a.2.2.1, r1.1.1)) fun r2 =>
some ((r2.1, (r1.1.2, r2.2)), r1.2) := by kernel_rfl
def zd.c1 : XCode := .seq (.seq (rG [mv 6 5, mv 7 0, ow 8 .len [.slot 7] [0] [], o2 9 (.bin .lss) 6 8]) (cX 9 0)) (.seq (.block 1 (.seq (rG [mv 12 0, mv 13 5, mv 14 1, ow 15 (.indexAddr zCN) (sl [12, 13]) [0] [], fA 16 0 15, sT 1 16 14 0]) (.seq (rG [mv 17 1, op 18 (.bin .add) [.slot 17, cI 1], mv 1 18]) (.seq (rG [mv 19 0, mv 20 5, mv 21 1, ow 22 (.indexAddr zCN) (sl [19, 20]) [0] [], fA 23 1 22, fA 24 0 23, sT 1 24 21 0]) (.seq (rG [mv 25 1, op 26 (.bin .add) [.slot 25, cI 1], mv 1 26]) (rG [mv 27 0, mv 28 5, ow 29 (.indexAddr zCN) (sl [27, 28]) [0] [], fA 30 1 29, fA 31 1 30, ⟨some 32, .load false 1, [.slot 31], [0, 1, 100], [], none, false, .take 1 2 0⟩, mv 33 1, ow 34 (.call ⟨242, vs 2, [some (1, 2), none], [.val false 1], [.imm, .back 1], false⟩) (sl [32, 33]) [1] [1], mv 1 34])))))) (rG [mv 10 5, op 11 (.bin .add) [.slot 10, cI 1], mv 5 11]))
def zd.c2 : XCode := .seq (rG [mv 35 1, mv 4 35]) (.ret)
def zd.x : XFunc := { nslots := 36, nobj := 2, pars := [.val false 1, .val false 1], rowsIn := [some (0, 13), none], rets := [.tmp 4 false 1], outs := [.imm, .back 0], fresh := false, arg := .pair (.list zCN) (.int .i64), ret := .pair (.int .i64) (.list zCN), body := .seq (rG [op 4 .move [cI 0]]) (.seq (.seq (rG [op 5 .move [cI 0]]) (.block 0 (.loop [.hput 1, .keep [0, 1, 5], .drop 1, .norm] (zd.c1)))) (zd.c2)), hp := true }
def zd.env (N : Nat) : Env := envOf (tbl [(242, yE.fs N)] noFS)
def zd.H (N : Nat) (x : zBv × Int) (D : List HRow) : Option ((Int × List (Int × Int × Hnd)) × List HRow) := XFunc.runH zd.x (zd.env N) N x D
def zd.fs (N : Nat) : FS := { arg := zd.x.arg, ret := zd.x.ret, fresh := false, F := fun _ => none, hp := true, H := zd.H N }
def zd.k2 (N : Nat) : Ex -> S -> Option ((Int × List (Int × Int × Hnd)) × List HRow) := seqK (fun s => XCode.runK (zd.env N) N (zd.c2) s (XFunc.endKH zd.x)) (XFunc.endKH zd.x)
def zd.k1 (N : Nat) : Ex -> S -> Option ((Int × List (Int × Int × Hnd)) × List HRow) := y7 0 (zd.k2 N)
def zd.L1 (N : Nat) (n1 : Nat) (k_ : Int) (i : Int) (o0 : zBv) (D : List HRow) : Option ((Int × List (Int × Int × Hnd)) × List HRow) := loopK [.hput 1, .keep [0, 1, 5], .drop 1, .norm] (rK (zd.env N) N zd.c1) n1
 { t := jK 36 [(0, .one (.ref 0 0 .all)), (1, .one (.int .i64 k_)), (5, .one (.int .i64 i))], h := [.row 0 true false 13 zCN o0, .absent 0], d := D }
 (zd.k1 N)
theorem zd.L1_eq (N : Nat) (n1 : Nat) (k_ : Int) (i : Int) (o0 : zBv) (D : List HRow) : zd.L1 N (n1 + 1) k_ i o0 D =
let y1 := (List.set o0 (Int.toNat i) (k_, ((List.getD o0 (Int.toNat i) (0, (0, (none : Hnd)))).2)))
let y0 := (List.set y1 (Int.toNat i) ((List.getD y1 (Int.toNat i) (0, (0, (none : Hnd)))).1, (IntKind.wrap .i64 (k_ + 1), ((List.getD y1 (Int.toNat i) (0, (0, (none : Hnd)))).2).2)))
bif decide (i < (o0.length : Int)) then
bif zG i (o0.length) then
bif zG i (y1.length) then
bif zG i (y0.length) then
bif hfull D 2 (.int .i64) (((List.getD y0 (Int.toNat i) (0, (0, (none : Hnd)))).2).2) then
bindO (yE.F N (hcut D (.int .i64) (((List.getD y0 (Int.toNat i) (0, (0, (none : Hnd)))).2).2), IntKind.wrap .i64 ((IntKind.wrap .i64 (k_ + 1)) + 1))) fun r1 =>
zd.L1 N n1 r1.1 (IntKind.wrap .i64 (i + 1)) y0 (hput (hgone D (((List.getD y0 (Int.toNat i) (0, (0, (none : Hnd)))).2).2)) (((List.getD y0 (Int.toNat i) (0, (0, (none : Hnd)))).2).2) 2 (.int .i64) r1.2)
else none
else none
else none
else none
else
some ((k_, o0), D) := by kernel_rfl
theorem zd.H_eq (N : Nat) (a : zBv) (k_ : Int) (D : List HRow) : zd.H N (a, k_) D =
zd.L1 N N k_ 0 a D := by kernel_rfl
def zT.c1 : XCode := .seq (.seq (rG [mv 6 5, mv 7 0, o1 8 .len 7, o2 9 (.bin .lss) 6 8]) (cX 9 0)) (.seq (.block 1 (.seq (.seq (rG [mv 12 0, mv 13 5, o2 14 (.indexAddr ym) 12 13, fA 15 0 14, o1 16 (.load false 1) 15, mv 17 1, o2 18 (.bin .neq) 16 17]) (.cond (.slot 18) (.seq (rG [op 4 .move [cI (-1)]]) (.ret)) (.skip))) (.seq (rG [mv 19 1, op 20 (.bin .add) [.slot 19, cI 1], mv 1 20]) (.seq (.seq (rG [mv 21 0, mv 22 5, o2 23 (.indexAddr ym) 21 22, fA 24 1 23, o1 25 (.load false 1) 24, mv 26 1, o2 27 (.bin .neq) 25 26]) (.cond (.slot 27) (.seq (rG [op 4 .move [cI (-1)]]) (.ret)) (.skip))) (.seq (rG [mv 28 1, op 29 (.bin .add) [.slot 28, cI 1], mv 1 29]) (.seq (.seq (rG [mv 30 0, mv 31 5, o2 32 (.indexAddr ym) 30 31, fA 33 2 32, o1 34 (.load false 1) 33, mv 35 1, o2 36 (.bin .neq) 34 35]) (.cond (.slot 36) (.seq (rG [op 4 .move [cI (-1)]]) (.ret)) (.skip))) (.seq (rG [mv 37 1, op 38 (.bin .add) [.slot 37, cI 1], mv 1 38]) (.seq (.seq (rG [mv 39 0, mv 40 5, o2 41 (.indexAddr ym) 39 40, fA 42 3 41, o1 43 (.load false 1) 42, mv 44 1, o2 45 (.bin .neq) 43 44]) (.cond (.slot 45) (.seq (rG [op 4 .move [cI (-1)]]) (.ret)) (.skip))) (rG [mv 46 1, op 47 (.bin .add) [.slot 46, cI 1], mv 1 47]))))))))) (rG [mv 10 5, op 11 (.bin .add) [.slot 10, cI 1], mv 5 11]))
def zT.c2 : XCode := .seq (rG [mv 48 1, mv 4 48]) (.ret)
def zT.x : XFunc := xF 49 0 [.val false 1, .val false 1] (no 2) [.tmp 4 false 1] [.imm] true (.pair (.list ym) (.int .i64)) (.int .i64) <| .seq (rG [op 4 .move [cI 0]]) (.seq (.seq (rG [op 5 .move [cI 0]]) (.block 0 (.loop [.keep [0, 1, 5], .norm] (zT.c1)))) (zT.c2))
def zT.env (_ : Nat) : Env := envOf (tbl [] noFS)
def zT.F (N : Nat) (x : ye × Int) : Option Int := XFunc.run zT.x (zT.env N) N x
def zT.fs (N : Nat) : FS := fS zT.x true (zT.F N)
def zT.k2 (N : Nat) : Ex -> S -> Option Int := seqK (fun s => XCode.runK (zT.env N) N (zT.c2) s (XFunc.endK zT.x)) (XFunc.endK zT.x)
def zT.k1 (N : Nat) : Ex -> S -> Option Int := y7 0 (zT.k2 N)
def zT.L1 (N : Nat) (n1 : Nat) (a : ye) (k_ : Int) (i : Int) : Option Int := loopK [.keep [0, 1, 5], .norm] (rK (zT.env N) N zT.c1) n1
 { t := jK 49 [(0, .one (.sl false ym a)), (1, .one (.int .i64 k_)), (5, .one (.int .i64 i))], h := [] }
 (zT.k1 N)
theorem zT.L1_eq (N : Nat) (n1 : Nat) (a : ye) (k_ : Int) (i : Int) : zT.L1 N (n1 + 1) a k_ i =
bif decide (i < (a.length : Int)) then
bif zG i (a.length) then
bif ((nth (0, (0, (0, 0))) a i).1) != k_ then
some (-1 : Int)
else
bif zG i (a.length) then
bif (((nth (0, (0, (0, 0))) a i).2).1) != (IntKind.wrap .i64 (k_ + 1)) then
some (-1 : Int)
else
bif zG i (a.length) then
bif ((((nth (0, (0, (0, 0))) a i).2).2).1) != (IntKind.wrap .i64 ((IntKind.wrap .i64 (k_ + 1)) + 1)) then
some (-1 : Int)
else
bif zG i (a.length) then
bif ((((nth (0, (0, (0, 0))) a i).2).2).2) != (IntKind.wrap .i64 ((IntKind.wrap .i64 ((IntKind.wrap .i64 (k_ + 1)) + 1)) + 1)) then
some (-1 : Int)
else
zT.L1 N n1 a (IntKind.wrap .i64 ((IntKind.wrap .i64 ((IntKind.wrap .i64 ((IntKind.wrap .i64 (k_ + 1)) + 1)) + 1)) + 1)) (IntKind.wrap .i64 (i + 1))
else none
else none
else none
else none
else
some k_ := by kernel_rfl
theorem zT.F_eq (N : Nat) (a : ye) (k_ : Int) : zT.F N (a, k_) =
zT.L1 N N a k_ 0 := by kernel_rfl
def zO.c1 : XCode := .seq (.seq (rG [mv 6 5, mv 7 0, o1 8 .len 7, o2 9 (.bin .lss) 6 8]) (cX 9 0)) (.seq (.block 1 (.seq (rG [mv 12 0, mv 13 5, o2 14 (.indexAddr (.list ym)) 12 13, o1 15 (.load false 1) 14, mv 16 1, o2 17 (cO 479 (vs 2) 2 true) 15 16, mv 1 17]) (.seq (rG [mv 18 1, op 19 (.bin .lss) [.slot 18, cI 0]]) (.cond (.slot 19) (.seq (rG [op 4 .move [cI (-1)]]) (.ret)) (.skip))))) (rG [mv 10 5, op 11 (.bin .add) [.slot 10, cI 1], mv 5 11]))
def zO.c2 : XCode := .seq (rG [mv 20 1, mv 4 20]) (.ret)
def zO.x : XFunc := xF 21 0 [.val false 1, .val false 1] (no 2) [.tmp 4 false 1] [.imm] true (.pair T14_33 (.int .i64)) (.int .i64) <| .seq (rG [op 4 .move [cI 0]]) (.seq (.seq (rG [op 5 .move [cI 0]]) (.block 0 (.loop [.keep [0, 1, 5], .norm] (zO.c1)))) (zO.c2))
def zO.env (N : Nat) : Env := envOf (tbl [(479, zT.fs N)] noFS)
def zO.F (N : Nat) (x : (List ye) × Int) : Option Int := XFunc.run zO.x (zO.env N) N x
def zO.fs (N : Nat) : FS := fS zO.x true (zO.F N)
def zO.k2 (N : Nat) : Ex -> S -> Option Int := seqK (fun s => XCode.runK (zO.env N) N (zO.c2) s (XFunc.endK zO.x)) (XFunc.endK zO.x)
def zO.k1 (N : Nat) : Ex -> S -> Option Int := y7 0 (zO.k2 N)
def zO.L1 (N : Nat) (n1 : Nat) (a : List ye) (k_ : Int) (i : Int) : Option Int := loopK [.keep [0, 1, 5], .norm] (rK (zO.env N) N zO.c1) n1
 { t := jK 21 [(0, .one (.sl false (.list ym) a)), (1, .one (.int .i64 k_)), (5, .one (.int .i64 i))], h := [] }
 (zO.k1 N)
theorem zO.L1_eq (N : Nat) (n1 : Nat) (a : List ye) (k_ : Int) (i : Int) : zO.L1 N (n1 + 1) a k_ i =
bif decide (i < (a.length : Int)) then
bif zG i (a.length) then
bindO (zT.F N (nth ([] : List (Int × Int × Int × Int)) a i, k_)) fun r1 =>
bif decide (r1 < 0) then
some (-1 : Int)
else
zO.L1 N n1 a r1 (IntKind.wrap .i64 (i + 1))
else none
else
some k_ := by kernel_rfl
theorem zO.F_eq (N : Nat) (a : List ye) (k_ : Int) : zO.F N (a, k_) =
zO.L1 N N a k_ 0 := by kernel_rfl
def zAO.x : XFunc := xF 12 1 [.val true 2, .val false 1] (no 3) [.tmp 4 false 1] [.imm] true (.pair T11_33 (.int .i64)) (.int .i64) <| .seq (rG [ow 2 (.box 0) [.slot 0] [0] [0], op 4 .move [cI 0]]) (.seq (rG [fA 5 1 2, lN 6 5 0, mv 7 1, o2 8 (cO 480 (vs 2) 2 true) 6 7, mv 1 8]) (.seq (.seq (rG [mv 9 1, op 10 (.bin .lss) [.slot 9, cI 0]]) (.cond (.slot 10) (.seq (rG [op 4 .move [cI (-1)]]) (.ret)) (.skip))) (.seq (rG [mv 11 1, mv 4 11]) (.ret))))
def zAO.env (N : Nat) : Env := envOf (tbl [(480, zO.fs N)] noFS)
def zAO.F (N : Nat) (x : (Int × List ye) × Int) : Option Int := XFunc.run zAO.x (zAO.env N) N x
def zAO.fs (N : Nat) : FS := fS zAO.x true (zAO.F N)
theorem zAO.F_eq (N : Nat) (a : Int × List ye) (k_ : Int) : zAO.F N (a, k_) =
bindO (zO.F N (a.2, k_)) fun r1 =>
bif decide (r1 < 0) then
some (-1 : Int)
else
some r1 := by kernel_rfl
def zr.c1 : XCode := .seq (.seq (rG [mv 6 5, mv 7 0, o1 8 .len 7, o2 9 (.bin .lss) 6 8]) (cX 9 0)) (.seq (.block 1 (.seq (.seq (rG [mv 12 0, mv 13 5, o2 14 (.indexAddr yp) 12 13, fA 15 0 14, o1 16 (.load false 1) 15, mv 17 1, o2 18 (.bin .neq) 16 17]) (.cond (.slot 18) (.seq (rG [op 4 .move [cI (-1)]]) (.ret)) (.skip))) (.seq (rG [mv 19 1, op 20 (.bin .add) [.slot 19, cI 1], mv 1 20]) (.seq (.seq (rG [mv 21 0, mv 22 5, o2 23 (.indexAddr yp) 21 22, fA 24 1 23, o1 25 (.load false 1) 24, mv 26 1, o2 27 (.bin .neq) 25 26]) (.cond (.slot 27) (.seq (rG [op 4 .move [cI (-1)]]) (.ret)) (.skip))) (.seq (rG [mv 28 1, op 29 (.bin .add) [.slot 28, cI 1], mv 1 29]) (.seq (.seq (rG [mv 30 0, mv 31 5, o2 32 (.indexAddr yp) 30 31, fA 33 2 32, o1 34 (.load false 1) 33, mv 35 1, o2 36 (.bin .neq) 34 35]) (.cond (.slot 36) (.seq (rG [op 4 .move [cI (-1)]]) (.ret)) (.skip))) (rG [mv 37 1, op 38 (.bin .add) [.slot 37, cI 1], mv 1 38]))))))) (rG [mv 10 5, op 11 (.bin .add) [.slot 10, cI 1], mv 5 11]))
def zr.c2 : XCode := .seq (rG [mv 39 1, mv 4 39]) (.ret)
def zr.x : XFunc := xF 40 0 [.val false 1, .val false 1] (no 2) [.tmp 4 false 1] [.imm] true (.pair (.list yp) (.int .i64)) (.int .i64) <| .seq (rG [op 4 .move [cI 0]]) (.seq (.seq (rG [op 5 .move [cI 0]]) (.block 0 (.loop [.keep [0, 1, 5], .norm] (zr.c1)))) (zr.c2))
def zr.env (_ : Nat) : Env := envOf (tbl [] noFS)
def zr.F (N : Nat) (x : yq × Int) : Option Int := XFunc.run zr.x (zr.env N) N x
def zr.fs (N : Nat) : FS := fS zr.x true (zr.F N)
def zr.k2 (N : Nat) : Ex -> S -> Option Int := seqK (fun s => XCode.runK (zr.env N) N (zr.c2) s (XFunc.endK zr.x)) (XFunc.endK zr.x)
def zr.k1 (N : Nat) : Ex -> S -> Option Int := y7 0 (zr.k2 N)
def zr.L1 (N : Nat) (n1 : Nat) (a : yq) (k_ : Int) (i : Int) : Option Int := loopK [.keep [0, 1, 5], .norm] (rK (zr.env N) N zr.c1) n1
 { t := jK 40 [(0, .one (.sl false yp a)), (1, .one (.int .i64 k_)), (5, .one (.int .i64 i))], h := [] }
 (zr.k1 N)
theorem zr.L1_eq (N : Nat) (n1 : Nat) (a : yq) (k_ : Int) (i : Int) : zr.L1 N (n1 + 1) a k_ i =
bif decide (i < (a.length : Int)) then
bif zG i (a.length) then
bif ((nth (0, (0, 0)) a i).1) != k_ then
some (-1 : Int)
else
bif zG i (a.length) then
bif (((nth (0, (0, 0)) a i).2).1) != (IntKind.wrap .i64 (k_ + 1)) then
some (-1 : Int)
else
bif zG i (a.length) then
bif (((nth (0, (0, 0)) a i).2).2) != (IntKind.wrap .i64 ((IntKind.wrap .i64 (k_ + 1)) + 1)) then
some (-1 : Int)
else
zr.L1 N n1 a (IntKind.wrap .i64 ((IntKind.wrap .i64 ((IntKind.wrap .i64 (k_ + 1)) + 1)) + 1)) (IntKind.wrap .i64 (i + 1))
else none
else none
else none
else
some k_ := by kernel_rfl
theorem zr.F_eq (N : Nat) (a : yq) (k_ : Int) : zr.F N (a, k_) =
zr.L1 N N a k_ 0 := by kernel_rfl
def ze.c1 : XCode := .seq (.seq (rG [mv 6 5, mv 7 0, o1 8 .len 7, o2 9 (.bin .lss) 6 8]) (cX 9 0)) (.seq (.block 1 (.seq (rG [mv 12 0, mv 13 5, o2 14 (.indexAddr (.list yp)) 12 13, o1 15 (.load false 1) 14, mv 16 1, o2 17 (cO 392 (vs 2) 2 true) 15 16, mv 1 17]) (.seq (rG [mv 18 1, op 19 (.bin .lss) [.slot 18, cI 0]]) (.cond (.slot 19) (.seq (rG [op 4 .move [cI (-1)]]) (.ret)) (.skip))))) (rG [mv 10 5, op 11 (.bin .add) [.slot 10, cI 1], mv 5 11]))
def ze.c2 : XCode := .seq (rG [mv 20 1, mv 4 20]) (.ret)
def ze.x : XFunc := xF 21 0 [.val false 1, .val false 1] (no 2) [.tmp 4 false 1] [.imm] true (.pair T15_33 (.int .i64)) (.int .i64) <| .seq (rG [op 4 .move [cI 0]]) (.seq (.seq (rG [op 5 .move [cI 0]]) (.block 0 (.loop [.keep [0, 1, 5], .norm] (ze.c1)))) (ze.c2))
def ze.env (N : Nat) : Env := envOf (tbl [(392, zr.fs N)] noFS)
def ze.F (N : Nat) (x : (List yq) × Int) : Option Int := XFunc.run ze.x (ze.env N) N x
def ze.fs (N : Nat) : FS := fS ze.x true (ze.F N)
def ze.k2 (N : Nat) : Ex -> S -> Option Int := seqK (fun s => XCode.runK (ze.env N) N (ze.c2) s (XFunc.endK ze.x)) (XFunc.endK ze.x)
def ze.k1 (N : Nat) : Ex -> S -> Option Int := y7 0 (ze.k2 N)
def ze.L1 (N : Nat) (n1 : Nat) (a : List yq) (k_ : Int) (i : Int) : Option Int := loopK [.keep [0, 1, 5], .norm] (rK (ze.env N) N ze.c1) n1
 { t := jK 21 [(0, .one (.sl false (.list yp) a)), (1, .one (.int .i64 k_)), (5, .one (.int .i64 i))], h := [] }
 (ze.k1 N)
theorem ze.L1_eq (N : Nat) (n1 : Nat) (a : List yq) (k_ : Int) (i : Int) : ze.L1 N (n1 + 1) a k_ i =
bif decide (i < (a.length : Int)) then
bif zG i (a.length) then
bindO (zr.F N (nth ([] : List (Int × Int × Int)) a i, k_)) fun r1 =>
bif decide (r1 < 0) then
some (-1 : Int)
else
ze.L1 N n1 a r1 (IntKind.wrap .i64 (i + 1))
else none
else
some k_ := by kernel_rfl
theorem ze.F_eq (N : Nat) (a : List yq) (k_ : Int) : ze.F N (a, k_) =
ze.L1 N N a k_ 0 := by kernel_rfl
def zt.c1 : XCode := .seq (.seq (rG [mv 6 5, mv 7 0, o1 8 .len 7, o2 9 (.bin .lss) 6 8]) (cX 9 0)) (.seq (.block 1 (.seq (.seq (rG [mv 12 0, mv 13 5, o2 14 (.indexAddr zBN) 12 13, fA 15 0 14, o1 16 (.load false 1) 15, mv 17 1, o2 18 (.bin .neq) 16 17]) (.cond (.slot 18) (.seq (rG [op 4 .move [cI (-1)]]) (.ret)) (.skip))) (.seq (rG [mv 19 1, op 20 (.bin .add) [.slot 19, cI 1], mv 1 20]) (.seq (.seq (rG [mv 21 0, mv 22 5, o2 23 (.indexAddr zBN) 21 22, fA 24 1 23, fA 25 0 24, o1 26 (.load false 1) 25, mv 27 1, o2 28 (.bin .neq) 26 27]) (.cond (.slot 28) (.seq (rG [op 4 .move [cI (-1)]]) (.ret)) (.skip))) (.seq (rG [mv 29 1, op 30 (.bin .add) [.slot 29, cI 1], mv 1 30]) (.seq (.seq (rG [mv 31 0, mv 32 5, o2 33 (.indexAddr zBN) 31 32, fA 34 1 33, fA 35 1 34, o1 36 (.load false 1) 35, mv 37 1, o2 38 (.bin .neq) 36 37]) (.cond (.slot 38) (.seq (rG [op 4 .move [cI (-1)]]) (.ret)) (.skip))) (.seq (rG [mv 39 1, op 40 (.bin .add) [.slot 39, cI 1], mv 1 40]) (.seq (.seq (rG [mv 41 0, mv 42 5, o2 43 (.indexAddr zBN) 41 42, fA 44 1 43, fA 45 2 44, o1 46 (.load false 1) 45, mv 47 1, o2 48 (.bin .neq) 46 47]) (.cond (.slot 48) (.seq (rG [op 4 .move [cI (-1)]]) (.ret)) (.skip))) (.seq (rG [mv 49 1, op 50 (.bin .add) [.slot 49, cI 1], mv 1 50]) (.seq (.seq (rG [mv 51 0, mv 52 5, o2 53 (.indexAddr zBN) 51 52, fA 54 1 53, fA 55 3 54, o1 56 (.load false 1) 55, mv 57 1, o2 58 (.bin .neq) 56 57]) (.cond (.slot 58) (.seq (rG [op 4 .move [cI (-1)]]) (.ret)) (.skip))) (rG [mv 59 1, op 60 (.bin .add) [.slot 59, cI 1], mv 1 60]))))))))))) (rG [mv 10 5, op 11 (.bin .add) [.slot 10, cI 1], mv 5 11]))
def zt.c2 : XCode := .seq (rG [mv 61 1, mv 4 61]) (.ret)
def zt.x : XFunc := xF 62 0 [.val false 1, .val false 1] (no 2) [.tmp 4 false 1] [.imm] true (.pair (.list zBN) (.int .i64)) (.int .i64) <| .seq (rG [op 4 .move [cI 0]]) (.seq (.seq (rG [op 5 .move [cI 0]]) (.block 0 (.loop [.keep [0, 1, 5], .norm] (zt.c1)))) (zt.c2))
def zt.env (_ : Nat) : Env := envOf (tbl [] noFS)
def zt.F (N : Nat) (x : zA0 × Int) : Option Int := XFunc.run zt.x (zt.env N) N x
def zt.fs (N : Nat) : FS := fS zt.x true (zt.F N)
def zt.k2 (N : Nat) : Ex -> S -> Option Int := seqK (fun s => XCode.runK (zt.env N) N (zt.c2) s (XFunc.endK zt.x)) (XFunc.endK zt.x)
def zt.k1 (N : Nat) : Ex -> S -> Option Int := y7 0 (zt.k2 N)
def zt.L1 (N : Nat) (n1 : Nat) (a : zA0) (k_ : Int) (i : Int) : Option Int := loopK [.keep [0, 1, 5], .norm] (rK (zt.env N) N zt.c1) n1
 { t := jK 62 [(0, .one (.sl false zBN a)), (1, .one (.int .i64 k_)), (5, .one (.int .i64 i))], h := [] }
 (zt.k1 N)
theorem zt.L1_eq (N : Nat) (n1 : Nat) (a : zA0) (k_ : Int) (i : Int) : zt.L1 N (n1 + 1) a k_ i =
bif decide (i < (a.length : Int)) then
bif zG i (a.length) then
bif ((nth (0, (0, (0, (0, 0)))) a i).1) != k_ then
some (-1 : Int)
else
bif zG i (a.length) then
bif (((nth (0, (0, (0, (0, 0)))) a i).2).1) != (IntKind.wrap .i64 (k_ + 1)) then
some (-1 : Int)
else
bif zG i (a.length) then
bif ((((nth (0, (0, (0, (0, 0)))) a i).2).2).1) != (IntKind.wrap .i64 ((IntKind.wrap .i64 (k_ + 1)) + 1)) then
some (-1 : Int)
else
bif zG i (a.length) then
bif (((((nth (0, (0, (0, (0, 0)))) a i).2).2).2).1) != (IntKind.wrap .i64 ((IntKind.wrap .i64 ((IntKind.wrap .i64 (k_ + 1)) + 1)) + 1)) then
some (-1 : Int)
else
bif zG i (a.length) then
bif (((((nth (0, (0, (0, (0, 0)))) a i).2).2).2).2) != (IntKind.wrap .i64 ((IntKind.wrap .i64 ((IntKind.wrap .i64 ((IntKind.wrap .i64 (k_ + 1)) + 1)) + 1)) + 1)) then
some (-1 : Int)
else
zt.L1 N n1 a (IntKind.wrap .i64 ((IntKind.wrap .i64 ((IntKind.wrap .i64 ((IntKind.wrap .i64 ((IntKind.wrap .i64 (k_ + 1)) + 1)) + 1)) + 1)) + 1)) (IntKind.wrap .i64 (i + 1))
else none
else none
else none
else none
else none
else
some k_ := by kernel_rfl
theorem zt.F_eq (N : Nat) (a : zA0) (k_ : Int) : zt.F N (a, k_) =
zt.L1 N N a k_ 0 := by kernel_rfl
def zAP.x : XFunc := xF 24 1 [.val true 7, .val false 1] (no 8) [.tmp 4 false 1] [.imm] true (.pair T4_33 (.int .i64)) (.int .i64) <| .seq (rG [ow 2 (.box 0) [.slot 0] [0] [0], op 4 .move [cI 0]]) (.seq (rG [fA 5 0 2, lU 6 2 5 0, mv 7 1, o2 8 (cO 481 [.val true 2, .val false 1] 3 true) 6 7, mv 1 8]) (.seq (.seq (rG [mv 9 1, op 10 (.bin .lss) [.slot 9, cI 0]]) (.cond (.slot 10) (.seq (rG [op 4 .move [cI (-1)]]) (.ret)) (.skip))) (.seq (rG [fA 11 2 2, lN 12 11 0, mv 13 1, o2 14 (cO 482 (vs 2) 2 true) 12 13, mv 1 14]) (.seq (.seq (rG [mv 15 1, op 16 (.bin .lss) [.slot 15, cI 0]]) (.cond (.slot 16) (.seq (rG [op 4 .move [cI (-1)]]) (.ret)) (.skip))) (.seq (rG [fA 17 4 2, lN 18 17 0, mv 19 1, o2 20 (cO 483 (vs 2) 2 true) 18 19, mv 1 20]) (.seq (.seq (rG [mv 21 1, op 22 (.bin .lss) [.slot 21, cI 0]]) (.cond (.slot 22) (.seq (rG [op 4 .move [cI (-1)]]) (.ret)) (.skip))) (.seq (rG [mv 23 1, mv 4 23]) (.ret))))))))
def zAP.env (N : Nat) : Env := envOf (tbl [(483, zt.fs N), (481, zAO.fs N), (482, ze.fs N)] noFS)
def zAP.F (N : Nat) (x : D16_33 × Int) : Option Int := XFunc.run zAP.x (zAP.env N) N x
def zAP.fs (N : Nat) : FS := fS zAP.x true (zAP.F N)
theorem zAP.F_eq (N : Nat) (a : (Int × List ye) × (List yq) × Int × zA0 × Int × Bool) (k_ : Int) : zAP.F N (a, k_) =
bindO (zAO.F N (a.1, k_)) fun r1 =>
bif decide (r1 < 0) then
some (-1 : Int)
else
bindO (ze.F N (a.2.1, r1)) fun r2 =>
bif decide (r2 < 0) then
some (-1 : Int)
else
bindO (zt.F N (a.2.2.2.1, r2)) fun r3 =>
bif decide (r3 < 0) then
some (-1 : Int)
else
some r3 := by kernel_rfl
def yo.x : XFunc := xF 18 1 [.val true 15, .val false 1] (no 16) [.tmp 4 false 1] [.imm] true (.pair (.pair T4_33 T5_33) (.int .i64)) (.int .i64) <| .seq (rG [ow 2 (.box 0) [.slot 0] [0] [0], op 4 .move [cI 0]]) (.seq (rG [fA 5 0 2, lU 6 7 5 0, mv 7 1, o2 8 (cO 484 [.val true 7, .val false 1] 8 true) 6 7, mv 1 8]) (.seq (.seq (rG [mv 9 1, op 10 (.bin .lss) [.slot 9, cI 0]]) (.cond (.slot 10) (.seq (rG [op 4 .move [cI (-1)]]) (.ret)) (.skip))) (.seq (rG [fA 11 10 2, lN 12 11 0, mv 13 1, o2 14 (cO 145 (vs 2) 2 true) 12 13, mv 1 14]) (.seq (.seq (rG [mv 15 1, op 16 (.bin .lss) [.slot 15, cI 0]]) (.cond (.slot 16) (.seq (rG [op 4 .move [cI (-1)]]) (.ret)) (.skip))) (.seq (rG [mv 17 1, mv 4 17]) (.ret))))))
def yo.env (N : Nat) : Env := envOf (tbl [(484, zAP.fs N), (145, zf.fs N)] noFS)
def yo.F (N : Nat) (x : zCB × Int) : Option Int := XFunc.run yo.x (yo.env N) N x
def yo.fs (N : Nat) : FS := fS yo.x true (yo.F N)
theorem yo.F_eq (N : Nat) (a : zCB) (k_ : Int) : yo.F N (a, k_) =
bindO (zAP.F N (a.1, k_)) fun r1 =>
bif decide (r1 < 0) then
some (-1 : Int)
else
bindO (zf.F N (a.2.2.1, r1)) fun r2 =>
bif decide (r2 < 0) then
some (-1 : Int)
else
some r2 := by kernel_rfl
def zq.c1 : XCode := .seq (.seq (rG [mv 6 5, mv 7 0, o1 8 .len 7, o2 9 (.bin .lss) 6 8]) (cX 9 0)) (.seq (.block 1 (.seq (.seq (rG [mv 12 0, mv 13 5, o2 14 (.indexAddr T9_33) 12 13, fA 15 0 14, o1 16 (.load false 1) 15, mv 17 1, o2 18 (.bin .neq) 16 17]) (.cond (.slot 18) (.seq (rG [op 4 .move [cI (-1)]]) (.ret)) (.skip))) (.seq (rG [mv 19 1, op 20 (.bin .add) [.slot 19, cI 1], mv 1 20]) (.seq (.seq (rG [mv 21 0, mv 22 5, o2 23 (.indexAddr T9_33) 21 22, fA 24 1 23, fA 25 0 24, o1 26 (.load false 1) 25, mv 27 1, o2 28 (.bin .neq) 26 27]) (.cond (.slot 28) (.seq (rG [op 4 .move [cI (-1)]]) (.ret)) (.skip))) (.seq (rG [mv 29 1, op 30 (.bin .add) [.slot 29, cI 1], mv 1 30]) (.seq (rG [mv 31 0, mv 32 5, o2 33 (.indexAddr T9_33) 31 32, fA 34 1 33, fA 35 1 34, o1 36 (.load false 1) 35, mv 37 1, o2 38 (cO 245 (vs 2) 2 true) 36 37, mv 1 38]) (.seq (rG [mv 39 1, op 40 (.bin .lss) [.slot 39, cI 0]]) (.cond (.slot 40) (.seq (rG [op 4 .move [cI (-1)]]) (.ret)) (.skip))))))))) (rG [mv 10 5, op 11 (.bin .add) [.slot 10, cI 1], mv 5 11]))
def zq.c2 : XCode := .seq (rG [mv 41 1, mv 4 41]) (.ret)
def zq.x : XFunc := xF 42 0 [.val false 1, .val false 1] (no 2) [.tmp 4 false 1] [.imm] true (.pair (.list T9_33) (.int .i64)) (.int .i64) <| .seq (rG [op 4 .move [cI 0]]) (.seq (.seq (rG [op 5 .move [cI 0]]) (.block 0 (.loop [.keep [0, 1, 5], .norm] (zq.c1)))) (zq.c2))
def zq.env (N : Nat) : Env := envOf (tbl [(245, z8.fs N)] noFS)
def zq.F (N : Nat) (x : (List (Int × Int × List Int)) × Int) : Option Int := XFunc.run zq.x (zq.env N) N x
def zq.fs (N : Nat) : FS := fS zq.x true (zq.F N)
def zq.k2 (N : Nat) : Ex -> S -> Option Int := seqK (fun s => XCode.runK (zq.env N) N (zq.c2) s (XFunc.endK zq.x)) (XFunc.endK zq.x)
def zq.k1 (N : Nat) : Ex -> S -> Option Int := y7 0 (zq.k2 N)
def zq.L1 (N : Nat) (n1 : Nat) (a : List (Int × Int × List Int)) (k_ : Int) (i : Int) : Option Int := loopK [.keep [0, 1, 5], .norm] (rK (zq.env N) N zq.c1) n1
 { t := jK 42 [(0, .one (.sl false T9_33 a)), (1, .one (.int .i64 k_)), (5, .one (.int .i64 i))], h := [] }
 (zq.k1 N)
theorem zq.L1_eq (N : Nat) (n1 : Nat) (a : List (Int × Int × List Int)) (k_ : Int) (i : Int) : zq.L1 N (n1 + 1) a k_ i =
bif decide (i < (a.length : Int)) then
bif zG i (a.length) then
bif ((nth (0, (0, ([] : List Int))) a i).1) != k_ then
some (-1 : Int)
else
bif zG i (a.length) then
bif (((nth (0, (0, ([] : List Int))) a i).2).1) != (IntKind.wrap .i64 (k_ + 1)) then
some (-1 : Int)
else
bif zG i (a.length) then
bindO (z8.F N (((nth (0, (0, ([] : List Int))) a i).2).2, IntKind.wrap .i64 ((IntKind.wrap .i64 (k_ + 1)) + 1))) fun r1 =>
bif decide (r1 < 0) then
some (-1 : Int)
else
zq.L1 N n1 a r1 (IntKind.wrap .i64 (i + 1))
else none
else none
else none
else
some k_ := by kernel_rfl
theorem zq.F_eq (N : Nat) (a : List (Int × Int × List Int)) (k_ : Int) : zq.F N (a, k_) =
zq.L1 N N a k_ 0 := by kernel_rfl
end Go.Kb
