/- The texts of functions, printed by a program, and the equations of their runs. -/
import Derived.Test.YticidpdbkjgebaaGreatDecidedP0toP4
import Derived.Test.YticidpdbkjgebaaGreatDecidedF3toP75
import Derived.Test.YticidpdbkjgebaaGreatDecidedF4toP29
import Derived.Test.YticidpdbkjgebaaGreatDecidedP94toF8
import Derived.Test.YticidpdbkjgebaaGreatKd
import Derived.KernelRfl
namespace Go.Kb
abbrev yW : Ty := .pair (.int .i64) (.pair (.int .i64) (.int .i64))
abbrev zAk : Ty := .pair (.pair (.int .i64) (.list (.list (.pair (.int .i64) yW)))) (.pair (.list (.list yW)) (.pair (.int .i64) (.pair (.list (.pair (.int .i64) (.pair (.int .i64) yW))) (.pair (.int .i64) (.bool)))))
abbrev yM : Ty := .pair (.int .i64) yW
abbrev zAd : Ty := .pair (.int .i64) (.pair (.int .i64) (.bool))
abbrev zAO : Ty := .pair (.int .i64) (.list (.int .i64))
abbrev yZ : Ty := .pair (.int .i64) yM
abbrev zAj : Ty := .pair (.int .i64) (.int .i64)
abbrev T8_30 : Ty := .pair (.list (.list yW)) (.pair (.int .i64) (.pair (.list yZ) (.pair (.int .i64) (.bool))))
abbrev zBl : Ty := .pair yW (.pair (.list zAd) yM)
abbrev zBe : Ty := .pair (.int .i64) (.list (.list yM))
abbrev zBF : Ty := .pair (.list (.int .u8)) zAj
abbrev zBE : Ty := .pair (.int .i64) zAO
abbrev T13_30 : Ty := .pair (.list (.hnd yW)) (.pair (.int .i64) (.pair (.list yZ) (.pair (.int .i64) (.bool))))
abbrev T14_30 : Ty := .pair (.list zAd) (.int .i64)
abbrev zAW : Type := (Int × List (List (Int × Int × Int × Int))) × (List (List (Int × Int × Int))) × Int × (List (Int × Int × Int × Int × Int)) × Int × Bool
abbrev zU : Type := List (Int × Int × Int × Int)
abbrev zp : Type := List (Int × Int × Int)
abbrev zk : Type := List (Int × Int × Int × Int × Int)
abbrev zBK : Type := zAW × (Int × Int × Int) × (List (Int × Int × Bool)) × Int × Int × Int × Int
abbrev D20_30 : Type := (List (Int × Int × List Int)) × zAW × (Int × Int × Int) × (List (Int × Int × Bool)) × Int × Int × Int × Int
abbrev zAQ : Type := List (Int × Int × Bool)
abbrev D22_30 : Type := (Int × List Hnd) × (List Hnd) × Int × zk × Int × Bool
abbrev D23_30 : Type := (Int × List zU) × (List Int) × Int × Int
abbrev zAT : Type := List (Int × List Int)
abbrev D25_30 : Type := zAQ × (List Int) × Int × Int
abbrev zA9 : Type := List (Int × Int × List Int)
def ye.x : XFunc := { nslots := 9, nobj := 1, pars := [.box 0 3, .val false 1], rowsIn := no 4, rets := [.tmp 4 false 1], outs := iF 4, fresh := false, arg := .pair zBF (.int .i64), ret := .pair (.bool) zBF, body := .seq (rG [op 4 .move [cB false]]) (.seq (rG [mv 5 0, mv 6 1, ow 7 (.call ⟨33, [.box 0 3, .val false 1], no 4, [.val false 1], ims 4, false⟩) (sl [5, 6]) [0] [0], op 8 (.bin .eql) [.slot 7, cI 0], mv 4 8]) (.ret)) }
def ye.env (N : Nat) : Env := envOf (tbl [(33, zC.fs N)] noFS)
def ye.F (N : Nat) (x : ((List Int) × Int × Int) × Int) : Option (Bool × (List Int) × Int × Int) := XFunc.run ye.x (ye.env N) N x
def ye.fs (N : Nat) : FS := { arg := ye.x.arg, ret := ye.x.ret, fresh := false, F := ye.F N }
theorem ye.F_eq (N : Nat) (c : (List Int) × Int × Int) (n_ : Int) : ye.F N (c, n_) =
bindO (zC.F N (c, n_)) fun r1 =>
some (r1.1 == 0, r1.2) := by kernel_rfl
def yD.c1 : XCode := .seq (.seq (rG [mv 10 4, op 11 (.bin .gtr) [.slot 10, cI 0]]) (.cond (.slot 11) (.skip) (.exit 0))) (.seq (.block 1 (.seq (rG [mv 14 0, ow 15 (.call ⟨33, [.box 0 3, .val false 1], no 4, [.val false 1], ims 4, false⟩) [.slot 14, cI 56] [0] [0], op 16 (.bin .add) [cI 1, .slot 15], mv 17 0, op 18 (.buildSlice true 2 2 (.int .i64) 4 [(0, 1), (1, 1), (2, 1), (3, 1)] [cZ]) [cI 0, cI 0, cI 2, cI 1], ow 19 (.call ⟨46, [.box 0 3, .val false 1], no 4, [.val false 1], ims 4, false⟩) (sl [17, 18]) [0] [0], o2 20 (.build [cZ, cZ, cZ] [(1, 1), (2, 1)]) 16 19, ow 5 (.alloc 3 [cZ, cZ, cZ]) [] [3] [3], sT 3 5 20 3]) (.seq (.seq (rG [mv 21 0, ow 22 (.call ⟨102, [.box 0 3, .val false 1], no 4, [.val false 1], ims 4, false⟩) [.slot 21, cI 2] [0] [0]]) (.cond (.slot 22) (.seq (rG [mv 23 3, lU 24 3 5 3, ow 25 (.buildSlice false 4 10 yW 1 [(0, 3)] [cZ, cZ, cZ]) [.slot 24] [4] [4], ow 26 (.append false 1 10 yW) (sl [23, 25]) [1, 4] [1], mv 3 26]) (.exit 1)) (.skip))) (.seq (rG [fA 27 0 5, on (.store 1) [.slot 27, cI 1] [3] [3]]) (.seq (rG [lU 28 3 5 3, ow 6 (.alloc 5 [cZ, cZ, cZ]) [] [5] [5], sT 3 6 28 5]) (.seq (rG [fA 29 0 6, on (.store 1) [.slot 29, cI 2] [5] [5]]) (rG [mv 30 3, lU 31 3 5 3, mv 32 3, ow 33 .len [.slot 32] [1] [], op 34 (.bin .sub) [cI 60, .slot 33], op 35 (.bin .sub) [.slot 34, cI 10], op 36 (.build [cZ, cZ, cZ] [(1, 1), (2, 1)]) [.slot 35, cI 8], lU 37 3 6 5, ow 38 (.buildSlice false 6 10 yW 3 [(0, 3), (3, 3), (6, 3)] [cZ, cZ, cZ]) (sl [31, 36, 37]) [6] [6], ow 39 (.append false 1 10 yW) (sl [30, 38]) [1, 6] [1], mv 3 39]))))))) (rG [mv 12 4, op 13 (.bin .sub) [.slot 12, cI 1], mv 4 13]))
def yD.c2 : XCode := .seq (rG [mv 40 3, mv 2 40]) (.ret)
def yD.x : XFunc := { nslots := 41, nobj := 7, pars := [.box 0 3], rowsIn := no 3, rets := [.tmp 2 false 1], outs := [.own 10, .imm, .imm, .imm], fresh := false, arg := .pair (.list (.int .u8)) zAj, ret := .pair (.list yW) zBF, body := .seq (rG [op 2 .move [.const (.one (.nil))]]) (.seq (rG [ow 7 (.buildSlice false 1 10 yW 0 [] [cZ, cZ, cZ]) [] [1] [1], mv 3 7]) (.seq (.seq (rG [mv 8 0, ow 9 (.call ⟨33, [.box 0 3, .val false 1], no 4, [.val false 1], ims 4, false⟩) [.slot 8, cI 3] [0] [0], mv 4 9]) (.block 0 (.loop [.keep [0, 3, 4], .drop 2, .drop 3, .drop 4, .drop 5, .drop 6, .norm] (yD.c1)))) (yD.c2))) }
def yD.env (N : Nat) : Env := envOf (tbl [(33, zC.fs N), (102, ye.fs N), (46, zx.fs N)] noFS)
def yD.F (N : Nat) (x : (List Int) × Int × Int) : Option (zp × (List Int) × Int × Int) := XFunc.run yD.x (yD.env N) N x
def yD.fs (N : Nat) : FS := { arg := yD.x.arg, ret := yD.x.ret, fresh := false, F := yD.F N }
def yD.k2 (N : Nat) : Ex -> S -> Option (zp × (List Int) × Int × Int) := seqK (fun s => XCode.runK (yD.env N) N (yD.c2) s (XFunc.endK yD.x)) (XFunc.endK yD.x)
def yD.k1 (N : Nat) : Ex -> S -> Option (zp × (List Int) × Int × Int) := y2 0 (yD.k2 N)
def yD.L1 (N : Nat) (n1 : Nat) (n_ : Int) (c0 : List Int) (c1 : Int) (c2 : Int) (o1 : zp) : Option (zp × (List Int) × Int × Int) := loopK [.keep [0, 3, 4], .drop 2, .drop 3, .drop 4, .drop 5, .drop 6, .norm] (fun s k => XCode.runK (yD.env N) N yD.c1 s k) n1
 { t := jK 41 [(0, .one (.ptr 0 0 0)), (3, .one (.ref 1 0 .all)), (4, .one (.int .i64 n_))], h := [.box 0 true [.sl false (.int .u8) c0, .int .i64 c1, .int .i64 c2], .row 0 false true 10 yW o1, .absent 0, .absent 0, .absent 0, .absent 0, .absent 0] }
 (yD.k1 N)
theorem yD.L1_eq (N : Nat) (n1 : Nat) (n_ : Int) (c0 : List Int) (c1 : Int) (c2 : Int) (o1 : zp) : yD.L1 N (n1 + 1) n_ c0 c1 c2 o1 =
bif decide (n_ > 0) then
bindO (zC.F N ((c0, (c1, c2)), 56)) fun r2 =>
bindO (zx.F N (r2.2, ([0, 0, 2, 1] : List Int))) fun r3 =>
bindO (ye.F N (r3.2, 2)) fun r4 =>
bif r4.1 then
bif decide (o1.length + List.length ([(0, (IntKind.wrap .i64 (1 + r2.1), r3.1))] : List (Int × Int × Int)) <= maxN) then
yD.L1 N n1 (IntKind.wrap .i64 (n_ - 1)) r4.2.1 r4.2.2.1 r4.2.2.2 (o1 ++ ([(0, (IntKind.wrap .i64 (1 + r2.1), r3.1))] : List (Int × Int × Int)))
else none
else
bif decide (o1.length + List.length ([(1, (IntKind.wrap .i64 (1 + r2.1), r3.1)), (0, (IntKind.wrap .i64 ((IntKind.wrap .i64 (60 - (o1.length : Int))) - 10), 8)), (2, (IntKind.wrap .i64 (1 + r2.1), r3.1))] : List (Int × Int × Int)) <= maxN) then
yD.L1 N n1 (IntKind.wrap .i64 (n_ - 1)) r4.2.1 r4.2.2.1 r4.2.2.2 (o1 ++ ([(1, (IntKind.wrap .i64 (1 + r2.1), r3.1)), (0, (IntKind.wrap .i64 ((IntKind.wrap .i64 (60 - (o1.length : Int))) - 10), 8)), (2, (IntKind.wrap .i64 (1 + r2.1), r3.1))] : List (Int × Int × Int)))
else none
else
some (o1, (c0, (c1, c2))) := by kernel_rfl
theorem yD.F_eq (N : Nat) (c : (List Int) × Int × Int) : yD.F N c =
bindO (zC.F N (c, 3)) fun r1 =>
yD.L1 N N r1.1 r1.2.1 r1.2.2.1 r1.2.2.2 ([] : List (Int × Int × Int)) := by kernel_rfl
def zAJ.x : XFunc := { nslots := 78, nobj := 3, pars := [.box 0 3, .val false 1], rowsIn := no 4, rets := [.var 4 true 4], outs := iF 7, fresh := false, arg := .pair zBF (.int .i64), ret := .pair yM zBF, body := .seq (rG [ow 4 (.alloc 1 [cZ, cZ, cZ, cZ]) [] [1] [1]]) (.seq (rG [mv 8 0, ow 9 (.call ⟨33, [.box 0 3, .val false 1], no 4, [.val false 1], ims 4, false⟩) [.slot 8, cI 56] [0] [0], op 10 (.bin .add) [cI 1, .slot 9], mv 5 10]) (.seq (rG [mv 11 0, ow 12 (.call ⟨33, [.box 0 3, .val false 1], no 4, [.val false 1], ims 4, false⟩) [.slot 11, cI 15] [0] [0], op 13 (.bin .add) [cI 1, .slot 12], mv 6 13]) (.seq (.seq (rG [mv 14 0, ow 15 (.call ⟨102, [.box 0 3, .val false 1], no 4, [.val false 1], ims 4, false⟩) [.slot 14, cI 2] [0] [0]]) (.cond (.slot 15) (rG [op 6 .move [cI 2]]) (.skip))) (.seq (rG [mv 16 0, mv 17 1, op 18 (.bin .sub) [.slot 17, cI 1], op 19 .max [cI 1, .slot 18], ow 20 (.call ⟨33, [.box 0 3, .val false 1], no 4, [.val false 1], ims 4, false⟩) (sl [16, 19]) [0] [0], op 21 (.bin .add) [cI 1, .slot 20], mv 7 21]) (.seq (.seq (rG [mv 22 0, ow 23 (.call ⟨33, [.box 0 3, .val false 1], no 4, [.val false 1], ims 4, false⟩) [.slot 22, cI 16] [0] [0]]) (.block 0 (.seq (rG [op 25 (.bin .eql) [.slot 23, cI 0], mv 24 25]) (.cond (.slot 24) (.seq (rG [mv 26 5, mv 27 6, op 28 (.build [cZ, cZ, cZ, cZ] [(0, 1), (1, 1), (2, 1)]) [cI 2, .slot 26, .slot 27], sT 4 4 28 1]) (.ret)) (.seq (rG [op 30 (.bin .eql) [.slot 23, cI 1], mv 29 30]) (.cond (.slot 29) (.seq (rG [mv 31 6, op 32 (.build [cZ, cZ, cZ, cZ] [(0, 1), (2, 1)]) [cI 2, .slot 31], sT 4 4 32 1]) (.ret)) (.seq (.seq (rG [op 34 (.bin .eql) [.slot 23, cI 2], mv 33 34]) (.cond (.slot 33) (.skip) (rG [op 35 (.bin .eql) [.slot 23, cI 3], mv 33 35]))) (.cond (.slot 33) (.seq (rG [mv 36 5, mv 37 6, op 38 (.build [cZ, cZ, cZ, cZ] [(0, 1), (1, 1), (2, 1)]) [cI 6, .slot 36, .slot 37], sT 4 4 38 1]) (.ret)) (.seq (rG [op 40 (.bin .eql) [.slot 23, cI 4], mv 39 40]) (.cond (.slot 39) (.seq (rG [mv 41 6, op 42 (.build [cZ, cZ, cZ, cZ] [(0, 1), (2, 1)]) [cI 8, .slot 41], sT 4 4 42 1]) (.ret)) (.seq (rG [op 44 (.bin .eql) [.slot 23, cI 5], mv 43 44]) (.cond (.slot 43) (.seq (rG [mv 45 0, ow 46 (.call ⟨33, [.box 0 3, .val false 1], no 4, [.val false 1], ims 4, false⟩) [.slot 45, cI 4] [0] [0], op 47 (.build [cZ, cZ, cZ, cZ] [(0, 1), (3, 1)]) [cI 9, .slot 46], sT 4 4 47 1]) (.ret)) (.seq (rG [op 49 (.bin .eql) [.slot 23, cI 6], mv 48 49]) (.cond (.slot 48) (.seq (rG [op 50 (.build [cZ, cZ, cZ, cZ] [(0, 1)]) [cI 10], sT 4 4 50 1]) (.ret)) (.seq (rG [op 52 (.bin .eql) [.slot 23, cI 7], mv 51 52]) (.cond (.slot 51) (.seq (rG [mv 53 0, mv 54 1, op 55 .max [cI 1, .slot 54], ow 56 (.call ⟨33, [.box 0 3, .val false 1], no 4, [.val false 1], ims 4, false⟩) (sl [53, 55]) [0] [0], op 57 (.build [cZ, cZ, cZ, cZ] [(0, 1), (3, 1)]) [cI 5, .slot 56], sT 4 4 57 1]) (.ret)) (.seq (.seq (rG [op 59 (.bin .eql) [.slot 23, cI 8], mv 58 59]) (.cond (.slot 58) (.skip) (.seq (rG [op 60 (.bin .eql) [.slot 23, cI 9], mv 58 60]) (.cond (.slot 58) (.skip) (rG [op 61 (.bin .eql) [.slot 23, cI 10], mv 58 61]))))) (.cond (.slot 58) (.seq (rG [mv 62 1, op 63 (.bin .gtr) [.slot 62, cI 1]]) (.cond (.slot 63) (.seq (rG [mv 64 7, op 65 (.build [cZ, cZ, cZ, cZ] [(0, 1), (3, 1)]) [cI 3, .slot 64], mv 66 7, op 67 (.build [cZ, cZ, cZ, cZ] [(0, 1), (3, 1)]) [cI 4, .slot 66], mv 68 5, mv 69 7, op 70 (.build [cZ, cZ, cZ, cZ] [(0, 1), (1, 1), (3, 1)]) [cI 7, .slot 68, .slot 69], ow 71 (.buildSlice false 2 8 yM 3 [(0, 4), (4, 4), (8, 4)] [cZ, cZ, cZ, cZ]) (sl [65, 67, 70]) [2] [2], mv 72 0, ow 73 (.call ⟨33, [.box 0 3, .val false 1], no 4, [.val false 1], ims 4, false⟩) [.slot 72, cI 3] [0] [0], ow 74 (.indexAddr yM) (sl [71, 73]) [2] [], lU 75 4 74 2, sT 4 4 75 1]) (.ret)) (.skip))) (.skip))))))))))))))))))) (.seq (rG [mv 76 5, op 77 (.build [cZ, cZ, cZ, cZ] [(0, 1), (1, 1)]) [cI 2, .slot 76], sT 4 4 77 1]) (.ret))))))) }
def zAJ.env (N : Nat) : Env := envOf (tbl [(33, zC.fs N), (102, ye.fs N)] noFS)
def zAJ.F (N : Nat) (x : ((List Int) × Int × Int) × Int) : Option ((Int × Int × Int × Int) × (List Int) × Int × Int) := XFunc.run zAJ.x (zAJ.env N) N x
def zAJ.fs (N : Nat) : FS := { arg := zAJ.x.arg, ret := zAJ.x.ret, fresh := false, F := zAJ.F N }
theorem zAJ.F_eq (N : Nat) (c : (List Int) × Int × Int) (layers : Int) : zAJ.F N (c, layers) =
bindO (zC.F N (c, 56)) fun r1 =>
bindO (zC.F N (r1.2, 15)) fun r2 =>
bindO (ye.F N (r2.2, 2)) fun r3 =>
bif r3.1 then
bindO (zC.F N (r3.2, maxI 1 (IntKind.wrap .i64 (layers - 1)))) fun r4 =>
bindO (zC.F N (r4.2, 16)) fun r5 =>
bif r5.1 == 0 then
some ((2, (IntKind.wrap .i64 (1 + r1.1), (2, 0))), r5.2)
else
bif r5.1 == 1 then
some ((2, (0, (2, 0))), r5.2)
else
bif r5.1 == 2 then
bif r5.1 == 2 then
some ((6, (IntKind.wrap .i64 (1 + r1.1), (2, 0))), r5.2)
else
bif r5.1 == 4 then
some ((8, (0, (2, 0))), r5.2)
else
bif r5.1 == 5 then
bindO (zC.F N (r5.2, 4)) fun r6 =>
some ((9, (0, (0, r6.1))), r6.2)
else
bif r5.1 == 6 then
some ((10, (0, (0, 0))), r5.2)
else
bif r5.1 == 7 then
bindO (zC.F N (r5.2, maxI 1 layers)) fun r7 =>
some ((5, (0, (0, r7.1))), r7.2)
else
bif r5.1 == 8 then
bif r5.1 == 8 then
bif decide (layers > 1) then
bindO (zC.F N (r5.2, 3)) fun r8 =>
bif zP r8.1 (List.length ([(3, (0, (0, IntKind.wrap .i64 (1 + r4.1)))), (4, (0, (0, IntKind.wrap .i64 (1 + r4.1)))), (7, (IntKind.wrap .i64 (1 + r1.1), (0, IntKind.wrap .i64 (1 + r4.1))))] : List (Int × Int × Int × Int))) then
some (((List.getD ([(3, (0, (0, IntKind.wrap .i64 (1 + r4.1)))), (4, (0, (0, IntKind.wrap .i64 (1 + r4.1)))), (7, (IntKind.wrap .i64 (1 + r1.1), (0, IntKind.wrap .i64 (1 + r4.1))))] : List (Int × Int × Int × Int)) (Int.toNat r8.1) (0, (0, (0, 0)))).1, (((List.getD ([(3, (0, (0, IntKind.wrap .i64 (1 + r4.1)))), (4, (0, (0, IntKind.wrap .i64 (1 + r4.1)))), (7, (IntKind.wrap .i64 (1 + r1.1), (0, IntKind.wrap .i64 (1 + r4.1))))] : List (Int × Int × Int × Int)) (Int.toNat r8.1) (0, (0, (0, 0)))).2).1, (((List.getD ([(3, (0, (0, IntKind.wrap .i64 (1 + r4.1)))), (4, (0, (0, IntKind.wrap .i64 (1 + r4.1)))), (7, (IntKind.wrap .i64 (1 + r1.1), (0, IntKind.wrap .i64 (1 + r4.1))))] : List (Int × Int × Int × Int)) (Int.toNat r8.1) (0, (0, (0, 0)))).2).2))), r8.2)
else none
else
some ((2, (IntKind.wrap .i64 (1 + r1.1), (0, 0))), r5.2)
else
some ((2, (IntKind.wrap .i64 (1 + r1.1), (0, 0))), r5.2)
else
bif r5.1 == 9 then
bif r5.1 == 9 then
bif decide (layers > 1) then
bindO (zC.F N (r5.2, 3)) fun r9 =>
bif zP r9.1 (List.length ([(3, (0, (0, IntKind.wrap .i64 (1 + r4.1)))), (4, (0, (0, IntKind.wrap .i64 (1 + r4.1)))), (7, (IntKind.wrap .i64 (1 + r1.1), (0, IntKind.wrap .i64 (1 + r4.1))))] : List (Int × Int × Int × Int))) then
some (((List.getD ([(3, (0, (0, IntKind.wrap .i64 (1 + r4.1)))), (4, (0, (0, IntKind.wrap .i64 (1 + r4.1)))), (7, (IntKind.wrap .i64 (1 + r1.1), (0, IntKind.wrap .i64 (1 + r4.1))))] : List (Int × Int × Int × Int)) (Int.toNat r9.1) (0, (0, (0, 0)))).1, (((List.getD ([(3, (0, (0, IntKind.wrap .i64 (1 + r4.1)))), (4, (0, (0, IntKind.wrap .i64 (1 + r4.1)))), (7, (IntKind.wrap .i64 (1 + r1.1), (0, IntKind.wrap .i64 (1 + r4.1))))] : List (Int × Int × Int × Int)) (Int.toNat r9.1) (0, (0, (0, 0)))).2).1, (((List.getD ([(3, (0, (0, IntKind.wrap .i64 (1 + r4.1)))), (4, (0, (0, IntKind.wrap .i64 (1 + r4.1)))), (7, (IntKind.wrap .i64 (1 + r1.1), (0, IntKind.wrap .i64 (1 + r4.1))))] : List (Int × Int × Int × Int)) (Int.toNat r9.1) (0, (0, (0, 0)))).2).2))), r9.2)
else none
else
some ((2, (IntKind.wrap .i64 (1 + r1.1), (0, 0))), r5.2)
else
some ((2, (IntKind.wrap .i64 (1 + r1.1), (0, 0))), r5.2)
else
bif r5.1 == 10 then
bif decide (layers > 1) then
bindO (zC.F N (r5.2, 3)) fun r10 =>
bif zP r10.1 (List.length ([(3, (0, (0, IntKind.wrap .i64 (1 + r4.1)))), (4, (0, (0, IntKind.wrap .i64 (1 + r4.1)))), (7, (IntKind.wrap .i64 (1 + r1.1), (0, IntKind.wrap .i64 (1 + r4.1))))] : List (Int × Int × Int × Int))) then
some (((List.getD ([(3, (0, (0, IntKind.wrap .i64 (1 + r4.1)))), (4, (0, (0, IntKind.wrap .i64 (1 + r4.1)))), (7, (IntKind.wrap .i64 (1 + r1.1), (0, IntKind.wrap .i64 (1 + r4.1))))] : List (Int × Int × Int × Int)) (Int.toNat r10.1) (0, (0, (0, 0)))).1, (((List.getD ([(3, (0, (0, IntKind.wrap .i64 (1 + r4.1)))), (4, (0, (0, IntKind.wrap .i64 (1 + r4.1)))), (7, (IntKind.wrap .i64 (1 + r1.1), (0, IntKind.wrap .i64 (1 + r4.1))))] : List (Int × Int × Int × Int)) (Int.toNat r10.1) (0, (0, (0, 0)))).2).1, (((List.getD ([(3, (0, (0, IntKind.wrap .i64 (1 + r4.1)))), (4, (0, (0, IntKind.wrap .i64 (1 + r4.1)))), (7, (IntKind.wrap .i64 (1 + r1.1), (0, IntKind.wrap .i64 (1 + r4.1))))] : List (Int × Int × Int × Int)) (Int.toNat r10.1) (0, (0, (0, 0)))).2).2))), r10.2)
else none
else
some ((2, (IntKind.wrap .i64 (1 + r1.1), (0, 0))), r5.2)
else
some ((2, (IntKind.wrap .i64 (1 + r1.1), (0, 0))), r5.2)
else
bif r5.1 == 3 then
some ((6, (IntKind.wrap .i64 (1 + r1.1), (2, 0))), r5.2)
else
bif r5.1 == 4 then
some ((8, (0, (2, 0))), r5.2)
else
bif r5.1 == 5 then
bindO (zC.F N (r5.2, 4)) fun r11 =>
some ((9, (0, (0, r11.1))), r11.2)
else
bif r5.1 == 6 then
some ((10, (0, (0, 0))), r5.2)
else
bif r5.1 == 7 then
bindO (zC.F N (r5.2, maxI 1 layers)) fun r12 =>
some ((5, (0, (0, r12.1))), r12.2)
else
bif r5.1 == 8 then
bif r5.1 == 8 then
bif decide (layers > 1) then
bindO (zC.F N (r5.2, 3)) fun r13 =>
bif zP r13.1 (List.length ([(3, (0, (0, IntKind.wrap .i64 (1 + r4.1)))), (4, (0, (0, IntKind.wrap .i64 (1 + r4.1)))), (7, (IntKind.wrap .i64 (1 + r1.1), (0, IntKind.wrap .i64 (1 + r4.1))))] : List (Int × Int × Int × Int))) then
some (((List.getD ([(3, (0, (0, IntKind.wrap .i64 (1 + r4.1)))), (4, (0, (0, IntKind.wrap .i64 (1 + r4.1)))), (7, (IntKind.wrap .i64 (1 + r1.1), (0, IntKind.wrap .i64 (1 + r4.1))))] : List (Int × Int × Int × Int)) (Int.toNat r13.1) (0, (0, (0, 0)))).1, (((List.getD ([(3, (0, (0, IntKind.wrap .i64 (1 + r4.1)))), (4, (0, (0, IntKind.wrap .i64 (1 + r4.1)))), (7, (IntKind.wrap .i64 (1 + r1.1), (0, IntKind.wrap .i64 (1 + r4.1))))] : List (Int × Int × Int × Int)) (Int.toNat r13.1) (0, (0, (0, 0)))).2).1, (((List.getD ([(3, (0, (0, IntKind.wrap .i64 (1 + r4.1)))), (4, (0, (0, IntKind.wrap .i64 (1 + r4.1)))), (7, (IntKind.wrap .i64 (1 + r1.1), (0, IntKind.wrap .i64 (1 + r4.1))))] : List (Int × Int × Int × Int)) (Int.toNat r13.1) (0, (0, (0, 0)))).2).2))), r13.2)
else none
else
some ((2, (IntKind.wrap .i64 (1 + r1.1), (0, 0))), r5.2)
else
some ((2, (IntKind.wrap .i64 (1 + r1.1), (0, 0))), r5.2)
else
bif r5.1 == 9 then
bif r5.1 == 9 then
bif decide (layers > 1) then
bindO (zC.F N (r5.2, 3)) fun r14 =>
bif zP r14.1 (List.length ([(3, (0, (0, IntKind.wrap .i64 (1 + r4.1)))), (4, (0, (0, IntKind.wrap .i64 (1 + r4.1)))), (7, (IntKind.wrap .i64 (1 + r1.1), (0, IntKind.wrap .i64 (1 + r4.1))))] : List (Int × Int × Int × Int))) then
some (((List.getD ([(3, (0, (0, IntKind.wrap .i64 (1 + r4.1)))), (4, (0, (0, IntKind.wrap .i64 (1 + r4.1)))), (7, (IntKind.wrap .i64 (1 + r1.1), (0, IntKind.wrap .i64 (1 + r4.1))))] : List (Int × Int × Int × Int)) (Int.toNat r14.1) (0, (0, (0, 0)))).1, (((List.getD ([(3, (0, (0, IntKind.wrap .i64 (1 + r4.1)))), (4, (0, (0, IntKind.wrap .i64 (1 + r4.1)))), (7, (IntKind.wrap .i64 (1 + r1.1), (0, IntKind.wrap .i64 (1 + r4.1))))] : List (Int × Int × Int × Int)) (Int.toNat r14.1) (0, (0, (0, 0)))).2).1, (((List.getD ([(3, (0, (0, IntKind.wrap .i64 (1 + r4.1)))), (4, (0, (0, IntKind.wrap .i64 (1 + r4.1)))), (7, (IntKind.wrap .i64 (1 + r1.1), (0, IntKind.wrap .i64 (1 + r4.1))))] : List (Int × Int × Int × Int)) (Int.toNat r14.1) (0, (0, (0, 0)))).2).2))), r14.2)
else none
else
some ((2, (IntKind.wrap .i64 (1 + r1.1), (0, 0))), r5.2)
else
some ((2, (IntKind.wrap .i64 (1 + r1.1), (0, 0))), r5.2)
else
bif r5.1 == 10 then
bif decide (layers > 1) then
bindO (zC.F N (r5.2, 3)) fun r15 =>
bif zP r15.1 (List.length ([(3, (0, (0, IntKind.wrap .i64 (1 + r4.1)))), (4, (0, (0, IntKind.wrap .i64 (1 + r4.1)))), (7, (IntKind.wrap .i64 (1 + r1.1), (0, IntKind.wrap .i64 (1 + r4.1))))] : List (Int × Int × Int × Int))) then
some (((List.getD ([(3, (0, (0, IntKind.wrap .i64 (1 + r4.1)))), (4, (0, (0, IntKind.wrap .i64 (1 + r4.1)))), (7, (IntKind.wrap .i64 (1 + r1.1), (0, IntKind.wrap .i64 (1 + r4.1))))] : List (Int × Int × Int × Int)) (Int.toNat r15.1) (0, (0, (0, 0)))).1, (((List.getD ([(3, (0, (0, IntKind.wrap .i64 (1 + r4.1)))), (4, (0, (0, IntKind.wrap .i64 (1 + r4.1)))), (7, (IntKind.wrap .i64 (1 + r1.1), (0, IntKind.wrap .i64 (1 + r4.1))))] : List (Int × Int × Int × Int)) (Int.toNat r15.1) (0, (0, (0, 0)))).2).1, (((List.getD ([(3, (0, (0, IntKind.wrap .i64 (1 + r4.1)))), (4, (0, (0, IntKind.wrap .i64 (1 + r4.1)))), (7, (IntKind.wrap .i64 (1 + r1.1), (0, IntKind.wrap .i64 (1 + r4.1))))] : List (Int × Int × Int × Int)) (Int.toNat r15.1) (0, (0, (0, 0)))).2).2))), r15.2)
else none
else
some ((2, (IntKind.wrap .i64 (1 + r1.1), (0, 0))), r5.2)
else
some ((2, (IntKind.wrap .i64 (1 + r1.1), (0, 0))), r5.2)
else
bindO (zC.F N (r3.2, maxI 1 (IntKind.wrap .i64 (layers - 1)))) fun r16 =>
bindO (zC.F N (r16.2, 16)) fun r17 =>
bif r17.1 == 0 then
some ((2, (IntKind.wrap .i64 (1 + r1.1), (IntKind.wrap .i64 (1 + r2.1), 0))), r17.2)
else
bif r17.1 == 1 then
some ((2, (0, (IntKind.wrap .i64 (1 + r2.1), 0))), r17.2)
else
bif r17.1 == 2 then
bif r17.1 == 2 then
some ((6, (IntKind.wrap .i64 (1 + r1.1), (IntKind.wrap .i64 (1 + r2.1), 0))), r17.2)
else
bif r17.1 == 4 then
some ((8, (0, (IntKind.wrap .i64 (1 + r2.1), 0))), r17.2)
else
bif r17.1 == 5 then
bindO (zC.F N (r17.2, 4)) fun r18 =>
some ((9, (0, (0, r18.1))), r18.2)
else
bif r17.1 == 6 then
some ((10, (0, (0, 0))), r17.2)
else
bif r17.1 == 7 then
bindO (zC.F N (r17.2, maxI 1 layers)) fun r19 =>
some ((5, (0, (0, r19.1))), r19.2)
else
bif r17.1 == 8 then
bif r17.1 == 8 then
bif decide (layers > 1) then
bindO (zC.F N (r17.2, 3)) fun r20 =>
bif zP r20.1 (List.length ([(3, (0, (0, IntKind.wrap .i64 (1 + r16.1)))), (4, (0, (0, IntKind.wrap .i64 (1 + r16.1)))), (7, (IntKind.wrap .i64 (1 + r1.1), (0, IntKind.wrap .i64 (1 + r16.1))))] : List (Int × Int × Int × Int))) then
some (((List.getD ([(3, (0, (0, IntKind.wrap .i64 (1 + r16.1)))), (4, (0, (0, IntKind.wrap .i64 (1 + r16.1)))), (7, (IntKind.wrap .i64 (1 + r1.1), (0, IntKind.wrap .i64 (1 + r16.1))))] : List (Int × Int × Int × Int)) (Int.toNat r20.1) (0, (0, (0, 0)))).1, (((List.getD ([(3, (0, (0, IntKind.wrap .i64 (1 + r16.1)))), (4, (0, (0, IntKind.wrap .i64 (1 + r16.1)))), (7, (IntKind.wrap .i64 (1 + r1.1), (0, IntKind.wrap .i64 (1 + r16.1))))] : List (Int × Int × Int × Int)) (Int.toNat r20.1) (0, (0, (0, 0)))).2).1, (((List.getD ([(3, (0, (0, IntKind.wrap .i64 (1 + r16.1)))), (4, (0, (0, IntKind.wrap .i64 (1 + r16.1)))), (7, (IntKind.wrap .i64 (1 + r1.1), (0, IntKind.wrap .i64 (1 + r16.1))))] : List (Int × Int × Int × Int)) (Int.toNat r20.1) (0, (0, (0, 0)))).2).2))), r20.2)
else none
else
some ((2, (IntKind.wrap .i64 (1 + r1.1), (0, 0))), r17.2)
else
some ((2, (IntKind.wrap .i64 (1 + r1.1), (0, 0))), r17.2)
else
bif r17.1 == 9 then
bif r17.1 == 9 then
bif decide (layers > 1) then
bindO (zC.F N (r17.2, 3)) fun r21 =>
bif zP r21.1 (List.length ([(3, (0, (0, IntKind.wrap .i64 (1 + r16.1)))), (4, (0, (0, IntKind.wrap .i64 (1 + r16.1)))), (7, (IntKind.wrap .i64 (1 + r1.1), (0, IntKind.wrap .i64 (1 + r16.1))))] : List (Int × Int × Int × Int))) then
some (((List.getD ([(3, (0, (0, IntKind.wrap .i64 (1 + r16.1)))), (4, (0, (0, IntKind.wrap .i64 (1 + r16.1)))), (7, (IntKind.wrap .i64 (1 + r1.1), (0, IntKind.wrap .i64 (1 + r16.1))))] : List (Int × Int × Int × Int)) (Int.toNat r21.1) (0, (0, (0, 0)))).1, (((List.getD ([(3, (0, (0, IntKind.wrap .i64 (1 + r16.1)))), (4, (0, (0, IntKind.wrap .i64 (1 + r16.1)))), (7, (IntKind.wrap .i64 (1 + r1.1), (0, IntKind.wrap .i64 (1 + r16.1))))] : List (Int × Int × Int × Int)) (Int.toNat r21.1) (0, (0, (0, 0)))).2).1, (((List.getD ([(3, (0, (0, IntKind.wrap .i64 (1 + r16.1)))), (4, (0, (0, IntKind.wrap .i64 (1 + r16.1)))), (7, (IntKind.wrap .i64 (1 + r1.1), (0, IntKind.wrap .i64 (1 + r16.1))))] : List (Int × Int × Int × Int)) (Int.toNat r21.1) (0, (0, (0, 0)))).2).2))), r21.2)
else none
else
some ((2, (IntKind.wrap .i64 (1 + r1.1), (0, 0))), r17.2)
else
some ((2, (IntKind.wrap .i64 (1 + r1.1), (0, 0))), r17.2)
else
bif r17.1 == 10 then
bif decide (layers > 1) then
bindO (zC.F N (r17.2, 3)) fun r22 =>
bif zP r22.1 (List.length ([(3, (0, (0, IntKind.wrap .i64 (1 + r16.1)))), (4, (0, (0, IntKind.wrap .i64 (1 + r16.1)))), (7, (IntKind.wrap .i64 (1 + r1.1), (0, IntKind.wrap .i64 (1 + r16.1))))] : List (Int × Int × Int × Int))) then
some (((List.getD ([(3, (0, (0, IntKind.wrap .i64 (1 + r16.1)))), (4, (0, (0, IntKind.wrap .i64 (1 + r16.1)))), (7, (IntKind.wrap .i64 (1 + r1.1), (0, IntKind.wrap .i64 (1 + r16.1))))] : List (Int × Int × Int × Int)) (Int.toNat r22.1) (0, (0, (0, 0)))).1, (((List.getD ([(3, (0, (0, IntKind.wrap .i64 (1 + r16.1)))), (4, (0, (0, IntKind.wrap .i64 (1 + r16.1)))), (7, (IntKind.wrap .i64 (1 + r1.1), (0, IntKind.wrap .i64 (1 + r16.1))))] : List (Int × Int × Int × Int)) (Int.toNat r22.1) (0, (0, (0, 0)))).2).1, (((List.getD ([(3, (0, (0, IntKind.wrap .i64 (1 + r16.1)))), (4, (0, (0, IntKind.wrap .i64 (1 + r16.1)))), (7, (IntKind.wrap .i64 (1 + r1.1), (0, IntKind.wrap .i64 (1 + r16.1))))] : List (Int × Int × Int × Int)) (Int.toNat r22.1) (0, (0, (0, 0)))).2).2))), r22.2)
else none
else
some ((2, (IntKind.wrap .i64 (1 + r1.1), (0, 0))), r17.2)
else
some ((2, (IntKind.wrap .i64 (1 + r1.1), (0, 0))), r17.2)
else
bif r17.1 == 3 then
some ((6, (IntKind.wrap .i64 (1 + r1.1), (IntKind.wrap .i64 (1 + r2.1), 0))), r17.2)
else
bif r17.1 == 4 then
some ((8, (0, (IntKind.wrap .i64 (1 + r2.1), 0))), r17.2)
else
bif r17.1 == 5 then
bindO (zC.F N (r17.2, 4)) fun r23 =>
some ((9, (0, (0, r23.1))), r23.2)
else
bif r17.1 == 6 then
some ((10, (0, (0, 0))), r17.2)
else
bif r17.1 == 7 then
bindO (zC.F N (r17.2, maxI 1 layers)) fun r24 =>
some ((5, (0, (0, r24.1))), r24.2)
else
bif r17.1 == 8 then
bif r17.1 == 8 then
bif decide (layers > 1) then
bindO (zC.F N (r17.2, 3)) fun r25 =>
bif zP r25.1 (List.length ([(3, (0, (0, IntKind.wrap .i64 (1 + r16.1)))), (4, (0, (0, IntKind.wrap .i64 (1 + r16.1)))), (7, (IntKind.wrap .i64 (1 + r1.1), (0, IntKind.wrap .i64 (1 + r16.1))))] : List (Int × Int × Int × Int))) then
some (((List.getD ([(3, (0, (0, IntKind.wrap .i64 (1 + r16.1)))), (4, (0, (0, IntKind.wrap .i64 (1 + r16.1)))), (7, (IntKind.wrap .i64 (1 + r1.1), (0, IntKind.wrap .i64 (1 + r16.1))))] : List (Int × Int × Int × Int)) (Int.toNat r25.1) (0, (0, (0, 0)))).1, (((List.getD ([(3, (0, (0, IntKind.wrap .i64 (1 + r16.1)))), (4, (0, (0, IntKind.wrap .i64 (1 + r16.1)))), (7, (IntKind.wrap .i64 (1 + r1.1), (0, IntKind.wrap .i64 (1 + r16.1))))] : List (Int × Int × Int × Int)) (Int.toNat r25.1) (0, (0, (0, 0)))).2).1, (((List.getD ([(3, (0, (0, IntKind.wrap .i64 (1 + r16.1)))), (4, (0, (0, IntKind.wrap .i64 (1 + r16.1)))), (7, (IntKind.wrap .i64 (1 + r1.1), (0, IntKind.wrap .i64 (1 + r16.1))))] : List (Int × Int × Int × Int)) (Int.toNat r25.1) (0, (0, (0, 0)))).2).2))), r25.2)
else none
else
some ((2, (IntKind.wrap .i64 (1 + r1.1), (0, 0))), r17.2)
else
some ((2, (IntKind.wrap .i64 (1 + r1.1), (0, 0))), r17.2)
else
bif r17.1 == 9 then
bif r17.1 == 9 then
bif decide (layers > 1) then
bindO (zC.F N (r17.2, 3)) fun r26 =>
bif zP r26.1 (List.length ([(3, (0, (0, IntKind.wrap .i64 (1 + r16.1)))), (4, (0, (0, IntKind.wrap .i64 (1 + r16.1)))), (7, (IntKind.wrap .i64 (1 + r1.1), (0, IntKind.wrap .i64 (1 + r16.1))))] : List (Int × Int × Int × Int))) then
some (((List.getD ([(3, (0, (0, IntKind.wrap .i64 (1 + r16.1)))), (4, (0, (0, IntKind.wrap .i64 (1 + r16.1)))), (7, (IntKind.wrap .i64 (1 + r1.1), (0, IntKind.wrap .i64 (1 + r16.1))))] : List (Int × Int × Int × Int)) (Int.toNat r26.1) (0, (0, (0, 0)))).1, (((List.getD ([(3, (0, (0, IntKind.wrap .i64 (1 + r16.1)))), (4, (0, (0, IntKind.wrap .i64 (1 + r16.1)))), (7, (IntKind.wrap .i64 (1 + r1.1), (0, IntKind.wrap .i64 (1 + r16.1))))] : List (Int × Int × Int × Int)) (Int.toNat r26.1) (0, (0, (0, 0)))).2).1, (((List.getD ([(3, (0, (0, IntKind.wrap .i64 (1 + r16.1)))), (4, (0, (0, IntKind.wrap .i64 (1 + r16.1)))), (7, (IntKind.wrap .i64 (1 + r1.1), (0, IntKind.wrap .i64 (1 + r16.1))))] : List (Int × Int × Int × Int)) (Int.toNat r26.1) (0, (0, (0, 0)))).2).2))), r26.2)
else none
else
some ((2, (IntKind.wrap .i64 (1 + r1.1), (0, 0))), r17.2)
else
some ((2, (IntKind.wrap .i64 (1 + r1.1), (0, 0))), r17.2)
else
bif r17.1 == 10 then
bif decide (layers > 1) then
bindO (zC.F N (r17.2, 3)) fun r27 =>
bif zP r27.1 (List.length ([(3, (0, (0, IntKind.wrap .i64 (1 + r16.1)))), (4, (0, (0, IntKind.wrap .i64 (1 + r16.1)))), (7, (IntKind.wrap .i64 (1 + r1.1), (0, IntKind.wrap .i64 (1 + r16.1))))] : List (Int × Int × Int × Int))) then
some (((List.getD ([(3, (0, (0, IntKind.wrap .i64 (1 + r16.1)))), (4, (0, (0, IntKind.wrap .i64 (1 + r16.1)))), (7, (IntKind.wrap .i64 (1 + r1.1), (0, IntKind.wrap .i64 (1 + r16.1))))] : List (Int × Int × Int × Int)) (Int.toNat r27.1) (0, (0, (0, 0)))).1, (((List.getD ([(3, (0, (0, IntKind.wrap .i64 (1 + r16.1)))), (4, (0, (0, IntKind.wrap .i64 (1 + r16.1)))), (7, (IntKind.wrap .i64 (1 + r1.1), (0, IntKind.wrap .i64 (1 + r16.1))))] : List (Int × Int × Int × Int)) (Int.toNat r27.1) (0, (0, (0, 0)))).2).1, (((List.getD ([(3, (0, (0, IntKind.wrap .i64 (1 + r16.1)))), (4, (0, (0, IntKind.wrap .i64 (1 + r16.1)))), (7, (IntKind.wrap .i64 (1 + r1.1), (0, IntKind.wrap .i64 (1 + r16.1))))] : List (Int × Int × Int × Int)) (Int.toNat r27.1) (0, (0, (0, 0)))).2).2))), r27.2)
else none
else
some ((2, (IntKind.wrap .i64 (1 + r1.1), (0, 0))), r17.2)
else
some ((2, (IntKind.wrap .i64 (1 + r1.1), (0, 0))), r17.2) := by kernel_rfl
def zJ.c1 : XCode := .seq (.seq (rG [mv 22 9, mv 23 1, o2 24 (.bin .lss) 22 23]) (.cond (.slot 24) (.skip) (.exit 2))) (.seq (.block 3 (.seq (rG [mv 27 0, mv 28 5, ow 29 (.call ⟨149, [.box 0 3, .val false 1], no 4, [.val true 4], ims 7, false⟩) (sl [27, 28]) [0] [0], ow 10 (.alloc 4 [cZ, cZ, cZ, cZ]) [] [4] [4], sT 4 10 29 4]) (.seq (.seq (rG [mv 30 7, op 31 (.bin .gtr) [.slot 30, cI 0], sX 32 [.slot 31], gX 33 .move [.slot 0] [] [] 32 true, ⟨some 34, .call ⟨102, [.box 0 3, .val false 1], no 4, [.val false 1], ims 4, false⟩, [.slot 33, cI 3], [0], [0], some (32, true), false, .none⟩, op 35 .pick [.slot 32, .slot 34, cB false]]) (.cond (.slot 35) (rG [op 36 (.build [cZ, cZ, cZ, cZ] [(0, 1)]) [cI 1], sT 4 10 36 4]) (.skip))) (rG [mv 37 8, lU 38 4 10 4, ow 39 (.buildSlice false 5 8 yM 1 [(0, 4)] [cZ, cZ, cZ, cZ]) [.slot 38] [5] [5], ow 40 (.append false 3 8 yM) (sl [37, 39]) [3, 5] [3], mv 8 40])))) (rG [mv 25 9, op 26 (.bin .add) [.slot 25, cI 1], mv 9 26]))
def zJ.c2 : XCode := .adj [.freeze 3] (rG [fA 41 1 6, lN 42 41 2, mv 43 8, ow 44 (.buildSlice false 6 9 (.list yM) 1 [(0, 1)] [.nil]) [.slot 43] [6] [6], ow 45 (.append false 7 9 (.list yM)) (sl [42, 44]) [6, 7] [7], fA 46 1 6, sT 1 46 45 2])
def zJ.c3 : XCode := rG [mv 19 7, op 20 (.bin .add) [.slot 19, cI 1], mv 7 20]
def zJ.c4 : XCode := .seq (.seq (rG [mv 16 7, mv 17 5, o2 18 (.bin .lss) 16 17]) (.cond (.slot 18) (.skip) (.exit 0))) (.seq (.block 1 (.seq (rG [ow 21 (.buildSlice false 3 8 yM 0 [] [cZ, cZ, cZ, cZ]) [] [3] [3], mv 8 21]) (.seq (.seq (rG [op 9 .move [cI 0]]) (.block 2 (.loop [.keep [0, 1, 4, 5, 6, 7, 8, 9], .drop 4, .drop 5, .drop 6, .norm] (zJ.c1)))) (zJ.c2)))) (zJ.c3))
def zJ.c5 : XCode := .seq (rG [lU 47 2 6 2, sT 2 4 47 1]) (.ret)
def zJ.x : XFunc := { nslots := 48, nobj := 8, pars := [.box 0 3, .val false 1], rowsIn := no 4, rets := [.var 4 true 2], outs := [.imm, .own 9, .imm, .imm, .imm], fresh := false, arg := .pair zBF (.int .i64), ret := .pair zBe zBF, body := .seq (rG [ow 4 (.alloc 1 [cZ, .nil]) [] [1] [1]]) (.seq (rG [mv 11 0, ow 12 (.call ⟨33, [.box 0 3, .val false 1], no 4, [.val false 1], ims 4, false⟩) [.slot 11, cI 4] [0] [0], op 13 (.bin .add) [cI 1, .slot 12], mv 5 13]) (.seq (rG [mv 14 1, o1 15 (.build [cZ, .nil] [(0, 1)]) 14, ow 6 (.alloc 2 [cZ, .nil]) [] [2] [2], sT 2 6 15 2]) (.seq (.seq (rG [op 7 .move [cI 0]]) (.block 0 (.loop [.mkrow (.boxc 2 1) 7 9 (.list yM), .keep [0, 1, 4, 5, 6, 7], .drop 3, .drop 4, .drop 5, .drop 6, .norm] (zJ.c4)))) (zJ.c5)))) }
def zJ.env (N : Nat) : Env := envOf (tbl [(33, zC.fs N), (102, ye.fs N), (149, zAJ.fs N)] noFS)
def zJ.F (N : Nat) (x : ((List Int) × Int × Int) × Int) : Option D23_30 := XFunc.run zJ.x (zJ.env N) N x
def zJ.fs (N : Nat) : FS := { arg := zJ.x.arg, ret := zJ.x.ret, fresh := false, F := zJ.F N }
def zJ.k2 (N : Nat) : Ex -> S -> Option D23_30 := seqK (fun s => XCode.runK (zJ.env N) N (zJ.c5) s (XFunc.endK zJ.x)) (XFunc.endK zJ.x)
def zJ.k1 (N : Nat) : Ex -> S -> Option D23_30 := y2 0 (zJ.k2 N)
def zJ.k7 (N : Nat) (n1 : Nat) : Ex -> S -> Option D23_30 := seqK (fun s => bindO (S.ghosts s [.mkrow (.boxc 2 1) 7 9 (.list yM), .keep [0, 1, 4, 5, 6, 7], .drop 3, .drop 4, .drop 5, .drop 6, .norm]) fun s1 => loopK [.mkrow (.boxc 2 1) 7 9 (.list yM), .keep [0, 1, 4, 5, 6, 7], .drop 3, .drop 4, .drop 5, .drop 6, .norm] (fun s k => XCode.runK (zJ.env N) N zJ.c4 s k) n1 s1 (zJ.k1 N)) (zJ.k1 N)
def zJ.k6 (N : Nat) (n1 : Nat) : Ex -> S -> Option D23_30 := seqK (fun s => XCode.runK (zJ.env N) N (zJ.c3) s (zJ.k7 N n1)) (zJ.k7 N n1)
def zJ.k5 (N : Nat) (n1 : Nat) : Ex -> S -> Option D23_30 := y2 1 (zJ.k6 N n1)
def zJ.k4 (N : Nat) (n1 : Nat) : Ex -> S -> Option D23_30 := seqK (fun s => XCode.runK (zJ.env N) N (zJ.c2) s (zJ.k5 N n1)) (zJ.k5 N n1)
def zJ.k3 (N : Nat) (n1 : Nat) : Ex -> S -> Option D23_30 := y2 2 (zJ.k4 N n1)
def zJ.L1 (N : Nat) (n1 : Nat) (keys : Int) (n_ : Int) (i : Int) (c0 : List Int) (c1 : Int) (c2 : Int) (o20 : Int) (o7 : List zU) : Option D23_30 := loopK [.mkrow (.boxc 2 1) 7 9 (.list yM), .keep [0, 1, 4, 5, 6, 7], .drop 3, .drop 4, .drop 5, .drop 6, .norm] (fun s k => XCode.runK (zJ.env N) N zJ.c4 s k) n1
 { t := jK 48 [(0, .one (.ptr 0 0 0)), (1, .one (.int .i64 keys)), (4, .one (.ptr 1 0 0)), (5, .one (.int .i64 n_)), (6, .one (.ptr 2 0 0)), (7, .one (.int .i64 i))], h := [.box 0 true [.sl false (.int .u8) c0, .int .i64 c1, .int .i64 c2], .box 0 false [cZ, .nil], .box 0 false [.int .i64 o20, .ref 7 0 .all], .absent 0, .absent 0, .absent 0, .absent 0, .row 0 false true 9 (.list yM) o7] }
 (zJ.k1 N)
def zJ.L2 (N : Nat) (n1 : Nat) (n2 : Nat) (keys : Int) (n_ : Int) (i : Int) (k_ : Int) (c0 : List Int) (c1 : Int) (c2 : Int) (o20 : Int) (o3 : zU) (o7 : List zU) : Option D23_30 := loopK [.keep [0, 1, 4, 5, 6, 7, 8, 9], .drop 4, .drop 5, .drop 6, .norm] (fun s k => XCode.runK (zJ.env N) N zJ.c1 s k) n2
 { t := jK 48 [(0, .one (.ptr 0 0 0)), (1, .one (.int .i64 keys)), (4, .one (.ptr 1 0 0)), (5, .one (.int .i64 n_)), (6, .one (.ptr 2 0 0)), (7, .one (.int .i64 i)), (8, .one (.ref 3 0 .all)), (9, .one (.int .i64 k_))], h := [.box 0 true [.sl false (.int .u8) c0, .int .i64 c1, .int .i64 c2], .box 0 false [cZ, .nil], .box 0 false [.int .i64 o20, .ref 7 0 .all], .row 0 false true 8 yM o3, .absent 0, .absent 0, .absent 0, .row 0 false true 9 (.list yM) o7] }
 (zJ.k3 N n1)
theorem zJ.L1_eq (N : Nat) (n1 : Nat) (keys : Int) (n_ : Int) (i : Int) (c0 : List Int) (c1 : Int) (c2 : Int) (o20 : Int) (o7 : List zU) : zJ.L1 N (n1 + 1) keys n_ i c0 c1 c2 o20 o7 =
bif decide (i < n_) then
zJ.L2 N n1 N keys n_ i 0 c0 c1 c2 o20 ([] : List (Int × Int × Int × Int)) o7
else
some ((o20, o7), (c0, (c1, c2))) := by kernel_rfl
theorem zJ.L2_eq (N : Nat) (n1 : Nat) (n2 : Nat) (keys : Int) (n_ : Int) (i : Int) (k_ : Int) (c0 : List Int) (c1 : Int) (c2 : Int) (o20 : Int) (o3 : zU) (o7 : List zU) : zJ.L2 N n1 (n2 + 1) keys n_ i k_ c0 c1 c2 o20 o3 o7 =
bif decide (k_ < keys) then
bindO (zAJ.F N ((c0, (c1, c2)), n_)) fun r2 =>
bif decide (i > 0) then
bindO (ye.F N (r2.2, 3)) fun r3 =>
bif r3.1 then
bif decide (o3.length + List.length ([(1, (0, (0, 0)))] : List (Int × Int × Int × Int)) <= maxN) then
zJ.L2 N n1 n2 keys n_ i (IntKind.wrap .i64 (k_ + 1)) r3.2.1 r3.2.2.1 r3.2.2.2 o20 (o3 ++ ([(1, (0, (0, 0)))] : List (Int × Int × Int × Int))) o7
else none
else
bif decide (o3.length + List.length ([r2.1] : List (Int × Int × Int × Int)) <= maxN) then
zJ.L2 N n1 n2 keys n_ i (IntKind.wrap .i64 (k_ + 1)) r3.2.1 r3.2.2.1 r3.2.2.2 o20 (o3 ++ ([r2.1] : List (Int × Int × Int × Int))) o7
else none
else
bif decide (o3.length + List.length ([r2.1] : List (Int × Int × Int × Int)) <= maxN) then
zJ.L2 N n1 n2 keys n_ i (IntKind.wrap .i64 (k_ + 1)) r2.2.1 r2.2.2.1 r2.2.2.2 o20 (o3 ++ ([r2.1] : List (Int × Int × Int × Int))) o7
else none
else
bif decide (o7.length + List.length ([o3] : List zU) <= maxN) then
zJ.L1 N n1 keys n_ (IntKind.wrap .i64 (i + 1)) c0 c1 c2 o20 (o7 ++ ([o3] : List zU))
else none := by kernel_rfl
theorem zJ.F_eq (N : Nat) (c : (List Int) × Int × Int) (keys : Int) : zJ.F N (c, keys) =
bindO (zC.F N (c, 4)) fun r1 =>
zJ.L1 N N keys (IntKind.wrap .i64 (1 + r1.1)) 0 r1.2.1 r1.2.2.1 r1.2.2.2 keys ([] : List zU) := by kernel_rfl
def yJ.x : XFunc := { nslots := 123, nobj := 1, pars := [.val true 4], rowsIn := no 4, rets := [.tmp 2 false 1], outs := [.imm], fresh := true, arg := .pair (.int .i64) yW, ret := .bool, body := .seq (rG [ow 1 (.box 0) [.slot 0] [0] [0], op 2 .move [cB false]]) (.seq (rG [fA 6 1 1, lN 7 6 0, op 8 (.call ⟨1, vs 3, no 3, [.val false 1], ims 1, true⟩) [.slot 7, cI 1, cI 56], mv 3 8]) (.seq (rG [fA 9 2 1, lN 10 9 0, op 11 (.call ⟨1, vs 3, no 3, [.val false 1], ims 1, true⟩) [.slot 10, cI 1, cI 15], mv 4 11]) (.seq (rG [fA 12 3 1, lN 13 12 0, op 14 (.call ⟨1, vs 3, no 3, [.val false 1], ims 1, true⟩) [.slot 13, cI 1, cI 3], mv 5 14]) (.seq (.seq (rG [fA 15 0 1, lN 16 15 0]) (.block 0 (.seq (.seq (rG [op 18 (.bin .eql) [.slot 16, cI 0], mv 17 18]) (.cond (.slot 17) (.skip) (.seq (rG [op 19 (.bin .eql) [.slot 16, cI 1], mv 17 19]) (.cond (.slot 17) (.skip) (rG [op 20 (.bin .eql) [.slot 16, cI 10], mv 17 20]))))) (.cond (.slot 17) (.seq (rG [fA 21 1 1, lN 22 21 0, op 23 (.bin .eql) [.slot 22, cI 0], sX 24 [.slot 23], gX 25 (.fieldAddr 2) [.slot 1] [] [] 24 true, gX 26 (.load false 1) [.slot 25] [0] [] 24 true, gX 27 (.bin .eql) [.slot 26, cI 0] [] [] 24 true, op 28 .pick [.slot 24, .slot 27, cB false], sX 29 [.slot 28], gX 30 (.fieldAddr 3) [.slot 1] [] [] 29 true, gX 31 (.load false 1) [.slot 30] [0] [] 29 true, gX 32 (.bin .eql) [.slot 31, cI 0] [] [] 29 true, op 33 .pick [.slot 29, .slot 32, cB false], mv 2 33]) (.ret)) (.seq (rG [op 35 (.bin .eql) [.slot 16, cI 2], mv 34 35]) (.cond (.slot 34) (.seq (rG [fA 36 3 1, lN 37 36 0, op 38 (.bin .eql) [.slot 37, cI 0], sX 39 [.slot 38], gX 40 .move [.slot 3] [] [] 39 true, ⟨some 41, .move, [.slot 40], [], [], some (39, true), true, .none⟩, gX 42 (.fieldAddr 1) [.slot 1] [] [] 41 false, gX 43 (.load false 1) [.slot 42] [0] [] 41 false, gX 44 (.bin .eql) [.slot 43, cI 0] [] [] 41 false, ⟨some 45, .move, [.slot 44], [], [], some (41, false), true, .none⟩, gX 46 .move [.slot 4] [] [] 45 true, gX 47 .pick [.slot 45, .slot 46, cB false] [] [] 41 false, gX 48 .pick [.slot 41, cB true, .slot 47] [] [] 39 true, op 49 .pick [.slot 39, .slot 48, cB false], sX 50 [.slot 49], gX 51 .move [.slot 4] [] [] 50 true, ⟨some 52, .move, [.slot 51], [], [], some (50, true), true, .none⟩, gX 53 (.fieldAddr 2) [.slot 1] [] [] 52 false, gX 54 (.load false 1) [.slot 53] [0] [] 52 false, gX 55 (.bin .eql) [.slot 54, cI 0] [] [] 52 false, gX 56 .pick [.slot 52, cB true, .slot 55] [] [] 50 true, op 57 .pick [.slot 50, .slot 56, cB false], mv 2 57]) (.ret)) (.seq (.seq (rG [op 59 (.bin .eql) [.slot 16, cI 3], mv 58 59]) (.cond (.slot 58) (.skip) (rG [op 60 (.bin .eql) [.slot 16, cI 4], mv 58 60]))) (.cond (.slot 58) (.seq (rG [mv 61 5, sX 62 [.slot 61], gX 63 (.fieldAddr 1) [.slot 1] [] [] 62 true, gX 64 (.load false 1) [.slot 63] [0] [] 62 true, gX 65 (.bin .eql) [.slot 64, cI 0] [] [] 62 true, op 66 .pick [.slot 62, .slot 65, cB false], sX 67 [.slot 66], gX 68 (.fieldAddr 2) [.slot 1] [] [] 67 true, gX 69 (.load false 1) [.slot 68] [0] [] 67 true, gX 70 (.bin .eql) [.slot 69, cI 0] [] [] 67 true, op 71 .pick [.slot 67, .slot 70, cB false], mv 2 71]) (.ret)) (.seq (.seq (rG [op 73 (.bin .eql) [.slot 16, cI 5], mv 72 73]) (.cond (.slot 72) (.skip) (rG [op 74 (.bin .eql) [.slot 16, cI 9], mv 72 74]))) (.cond (.slot 72) (.seq (rG [fA 75 3 1, lN 76 75 0, op 77 (.call ⟨1, vs 3, no 3, [.val false 1], ims 1, true⟩) [.slot 76, cI 0, cI 3], sX 78 [.slot 77], gX 79 (.fieldAddr 1) [.slot 1] [] [] 78 true, gX 80 (.load false 1) [.slot 79] [0] [] 78 true, gX 81 (.bin .eql) [.slot 80, cI 0] [] [] 78 true, op 82 .pick [.slot 78, .slot 81, cB false], sX 83 [.slot 82], gX 84 (.fieldAddr 2) [.slot 1] [] [] 83 true, gX 85 (.load false 1) [.slot 84] [0] [] 83 true, gX 86 (.bin .eql) [.slot 85, cI 0] [] [] 83 true, op 87 .pick [.slot 83, .slot 86, cB false], mv 2 87]) (.ret)) (.seq (rG [op 89 (.bin .eql) [.slot 16, cI 6], mv 88 89]) (.cond (.slot 88) (.seq (rG [mv 90 3, sX 91 [.slot 90], gX 92 .move [.slot 4] [] [] 91 true, op 93 .pick [.slot 91, .slot 92, cB false], sX 94 [.slot 93], gX 95 (.fieldAddr 3) [.slot 1] [] [] 94 true, gX 96 (.load false 1) [.slot 95] [0] [] 94 true, gX 97 (.bin .eql) [.slot 96, cI 0] [] [] 94 true, op 98 .pick [.slot 94, .slot 97, cB false], mv 2 98]) (.ret)) (.seq (rG [op 100 (.bin .eql) [.slot 16, cI 7], mv 99 100]) (.cond (.slot 99) (.seq (rG [mv 101 3, sX 102 [.slot 101], gX 103 .move [.slot 5] [] [] 102 true, op 104 .pick [.slot 102, .slot 103, cB false], sX 105 [.slot 104], gX 106 (.fieldAddr 2) [.slot 1] [] [] 105 true, gX 107 (.load false 1) [.slot 106] [0] [] 105 true, gX 108 (.bin .eql) [.slot 107, cI 0] [] [] 105 true, op 109 .pick [.slot 105, .slot 108, cB false], mv 2 109]) (.ret)) (.seq (rG [op 111 (.bin .eql) [.slot 16, cI 8], mv 110 111]) (.cond (.slot 110) (.seq (rG [mv 112 4, sX 113 [.slot 112], gX 114 (.fieldAddr 1) [.slot 1] [] [] 113 true, gX 115 (.load false 1) [.slot 114] [0] [] 113 true, gX 116 (.bin .eql) [.slot 115, cI 0] [] [] 113 true, op 117 .pick [.slot 113, .slot 116, cB false], sX 118 [.slot 117], gX 119 (.fieldAddr 3) [.slot 1] [] [] 118 true, gX 120 (.load false 1) [.slot 119] [0] [] 118 true, gX 121 (.bin .eql) [.slot 120, cI 0] [] [] 118 true, op 122 .pick [.slot 118, .slot 121, cB false], mv 2 122]) (.ret)) (.skip))))))))))))))))) (.seq (rG [op 2 .move [cB false]]) (.ret)))))) }
def yJ.env (N : Nat) : Env := envOf (tbl [(1, zS.fs N)] noFS)
def yJ.F (N : Nat) (x : Int × Int × Int × Int) : Option Bool := XFunc.run yJ.x (yJ.env N) N x
def yJ.fs (N : Nat) : FS := { arg := yJ.x.arg, ret := yJ.x.ret, fresh := true, F := yJ.F N }
theorem yJ.F_eq (N : Nat) (a : Int × Int × Int × Int) : yJ.F N a =
bindO (zS.F N (a.2.1, (1, 56))) fun r1 =>
bindO (zS.F N (a.2.2.1, (1, 15))) fun r2 =>
bindO (zS.F N (a.2.2.2, (1, 3))) fun r3 =>
bif a.1 == 0 then
bif a.1 == 0 then
bif a.2.1 == 0 then
bif a.2.2.1 == 0 then
some (a.2.2.2 == 0)
else
some false
else
some false
else
bif a.1 == 2 then
bif a.2.2.2 == 0 then
bif r1 then
bif r2 then
some true
else
some (a.2.2.1 == 0)
else
bif a.2.1 == 0 then
bif r2 then
bif r2 then
some true
else
some (a.2.2.1 == 0)
else
some false
else
some false
else
some false
else
bif a.1 == 3 then
bif a.1 == 3 then
bif r3 then
bif a.2.1 == 0 then
some (a.2.2.1 == 0)
else
some false
else
some false
else
bif a.1 == 5 then
bif a.1 == 5 then
bindO (zS.F N (a.2.2.2, (0, 3))) fun r4 =>
bif r4 then
bif a.2.1 == 0 then
some (a.2.2.1 == 0)
else
some false
else
some false
else
bif a.1 == 6 then
bif r1 then
bif r2 then
some (a.2.2.2 == 0)
else
some false
else
some false
else
bif a.1 == 7 then
bif r1 then
bif r3 then
some (a.2.2.1 == 0)
else
some false
else
some false
else
bif a.1 == 8 then
bif r2 then
bif a.2.1 == 0 then
some (a.2.2.2 == 0)
else
some false
else
some false
else
some false
else
bif a.1 == 9 then
bindO (zS.F N (a.2.2.2, (0, 3))) fun r5 =>
bif r5 then
bif a.2.1 == 0 then
some (a.2.2.1 == 0)
else
some false
else
some false
else
bif a.1 == 6 then
bif r1 then
bif r2 then
some (a.2.2.2 == 0)
else
some false
else
some false
else
bif a.1 == 7 then
bif r1 then
bif r3 then
some (a.2.2.1 == 0)
else
some false
else
some false
else
bif a.1 == 8 then
bif r2 then
bif a.2.1 == 0 then
some (a.2.2.2 == 0)
else
some false
else
some false
else
some false
else
bif a.1 == 4 then
bif r3 then
bif a.2.1 == 0 then
some (a.2.2.1 == 0)
else
some false
else
some false
else
bif a.1 == 5 then
bif a.1 == 5 then
bindO (zS.F N (a.2.2.2, (0, 3))) fun r6 =>
bif r6 then
bif a.2.1 == 0 then
some (a.2.2.1 == 0)
else
some false
else
some false
else
bif a.1 == 6 then
bif r1 then
bif r2 then
some (a.2.2.2 == 0)
else
some false
else
some false
else
bif a.1 == 7 then
bif r1 then
bif r3 then
some (a.2.2.1 == 0)
else
some false
else
some false
else
bif a.1 == 8 then
bif r2 then
bif a.2.1 == 0 then
some (a.2.2.2 == 0)
else
some false
else
some false
else
some false
else
bif a.1 == 9 then
bindO (zS.F N (a.2.2.2, (0, 3))) fun r7 =>
bif r7 then
bif a.2.1 == 0 then
some (a.2.2.1 == 0)
else
some false
else
some false
else
bif a.1 == 6 then
bif r1 then
bif r2 then
some (a.2.2.2 == 0)
else
some false
else
some false
else
bif a.1 == 7 then
bif r1 then
bif r3 then
some (a.2.2.1 == 0)
else
some false
else
some false
else
bif a.1 == 8 then
bif r2 then
bif a.2.1 == 0 then
some (a.2.2.2 == 0)
else
some false
else
some false
else
some false
else
bif a.1 == 1 then
bif a.1 == 1 then
bif a.2.1 == 0 then
bif a.2.2.1 == 0 then
some (a.2.2.2 == 0)
else
some false
else
some false
else
bif a.1 == 2 then
bif a.2.2.2 == 0 then
bif r1 then
bif r2 then
some true
else
some (a.2.2.1 == 0)
else
bif a.2.1 == 0 then
bif r2 then
bif r2 then
some true
else
some (a.2.2.1 == 0)
else
some false
else
some false
else
some false
else
bif a.1 == 3 then
bif a.1 == 3 then
bif r3 then
bif a.2.1 == 0 then
some (a.2.2.1 == 0)
else
some false
else
some false
else
bif a.1 == 5 then
bif a.1 == 5 then
bindO (zS.F N (a.2.2.2, (0, 3))) fun r8 =>
bif r8 then
bif a.2.1 == 0 then
some (a.2.2.1 == 0)
else
some false
else
some false
else
bif a.1 == 6 then
bif r1 then
bif r2 then
some (a.2.2.2 == 0)
else
some false
else
some false
else
bif a.1 == 7 then
bif r1 then
bif r3 then
some (a.2.2.1 == 0)
else
some false
else
some false
else
bif a.1 == 8 then
bif r2 then
bif a.2.1 == 0 then
some (a.2.2.2 == 0)
else
some false
else
some false
else
some false
else
bif a.1 == 9 then
bindO (zS.F N (a.2.2.2, (0, 3))) fun r9 =>
bif r9 then
bif a.2.1 == 0 then
some (a.2.2.1 == 0)
else
some false
else
some false
else
bif a.1 == 6 then
bif r1 then
bif r2 then
some (a.2.2.2 == 0)
else
some false
else
some false
else
bif a.1 == 7 then
bif r1 then
bif r3 then
some (a.2.2.1 == 0)
else
some false
else
some false
else
bif a.1 == 8 then
bif r2 then
bif a.2.1 == 0 then
some (a.2.2.2 == 0)
else
some false
else
some false
else
some false
else
bif a.1 == 4 then
bif r3 then
bif a.2.1 == 0 then
some (a.2.2.1 == 0)
else
some false
else
some false
else
bif a.1 == 5 then
bif a.1 == 5 then
bindO (zS.F N (a.2.2.2, (0, 3))) fun r10 =>
bif r10 then
bif a.2.1 == 0 then
some (a.2.2.1 == 0)
else
some false
else
some false
else
bif a.1 == 6 then
bif r1 then
bif r2 then
some (a.2.2.2 == 0)
else
some false
else
some false
else
bif a.1 == 7 then
bif r1 then
bif r3 then
some (a.2.2.1 == 0)
else
some false
else
some false
else
bif a.1 == 8 then
bif r2 then
bif a.2.1 == 0 then
some (a.2.2.2 == 0)
else
some false
else
some false
else
some false
else
bif a.1 == 9 then
bindO (zS.F N (a.2.2.2, (0, 3))) fun r11 =>
bif r11 then
bif a.2.1 == 0 then
some (a.2.2.1 == 0)
else
some false
else
some false
else
bif a.1 == 6 then
bif r1 then
bif r2 then
some (a.2.2.2 == 0)
else
some false
else
some false
else
bif a.1 == 7 then
bif r1 then
bif r3 then
some (a.2.2.1 == 0)
else
some false
else
some false
else
bif a.1 == 8 then
bif r2 then
bif a.2.1 == 0 then
some (a.2.2.2 == 0)
else
some false
else
some false
else
some false
else
bif a.1 == 10 then
bif a.2.1 == 0 then
bif a.2.2.1 == 0 then
some (a.2.2.2 == 0)
else
some false
else
some false
else
bif a.1 == 2 then
bif a.2.2.2 == 0 then
bif r1 then
bif r2 then
some true
else
some (a.2.2.1 == 0)
else
bif a.2.1 == 0 then
bif r2 then
bif r2 then
some true
else
some (a.2.2.1 == 0)
else
some false
else
some false
else
some false
else
bif a.1 == 3 then
bif a.1 == 3 then
bif r3 then
bif a.2.1 == 0 then
some (a.2.2.1 == 0)
else
some false
else
some false
else
bif a.1 == 5 then
bif a.1 == 5 then
bindO (zS.F N (a.2.2.2, (0, 3))) fun r12 =>
bif r12 then
bif a.2.1 == 0 then
some (a.2.2.1 == 0)
else
some false
else
some false
else
bif a.1 == 6 then
bif r1 then
bif r2 then
some (a.2.2.2 == 0)
else
some false
else
some false
else
bif a.1 == 7 then
bif r1 then
bif r3 then
some (a.2.2.1 == 0)
else
some false
else
some false
else
bif a.1 == 8 then
bif r2 then
bif a.2.1 == 0 then
some (a.2.2.2 == 0)
else
some false
else
some false
else
some false
else
bif a.1 == 9 then
bindO (zS.F N (a.2.2.2, (0, 3))) fun r13 =>
bif r13 then
bif a.2.1 == 0 then
some (a.2.2.1 == 0)
else
some false
else
some false
else
bif a.1 == 6 then
bif r1 then
bif r2 then
some (a.2.2.2 == 0)
else
some false
else
some false
else
bif a.1 == 7 then
bif r1 then
bif r3 then
some (a.2.2.1 == 0)
else
some false
else
some false
else
bif a.1 == 8 then
bif r2 then
bif a.2.1 == 0 then
some (a.2.2.2 == 0)
else
some false
else
some false
else
some false
else
bif a.1 == 4 then
bif r3 then
bif a.2.1 == 0 then
some (a.2.2.1 == 0)
else
some false
else
some false
else
bif a.1 == 5 then
bif a.1 == 5 then
bindO (zS.F N (a.2.2.2, (0, 3))) fun r14 =>
bif r14 then
bif a.2.1 == 0 then
some (a.2.2.1 == 0)
else
some false
else
some false
else
bif a.1 == 6 then
bif r1 then
bif r2 then
some (a.2.2.2 == 0)
else
some false
else
some false
else
bif a.1 == 7 then
bif r1 then
bif r3 then
some (a.2.2.1 == 0)
else
some false
else
some false
else
bif a.1 == 8 then
bif r2 then
bif a.2.1 == 0 then
some (a.2.2.2 == 0)
else
some false
else
some false
else
some false
else
bif a.1 == 9 then
bindO (zS.F N (a.2.2.2, (0, 3))) fun r15 =>
bif r15 then
bif a.2.1 == 0 then
some (a.2.2.1 == 0)
else
some false
else
some false
else
bif a.1 == 6 then
bif r1 then
bif r2 then
some (a.2.2.2 == 0)
else
some false
else
some false
else
bif a.1 == 7 then
bif r1 then
bif r3 then
some (a.2.2.1 == 0)
else
some false
else
some false
else
bif a.1 == 8 then
bif r2 then
bif a.2.1 == 0 then
some (a.2.2.2 == 0)
else
some false
else
some false
else
some false := by kernel_rfl
def zE.c1 : XCode := .seq (.seq (rG [mv 22 4, fA 23 1 1, lN 24 23 0, mv 25 3, o2 26 (.indexAddr (.list yM)) 24 25, o1 27 (.load false 1) 26, o1 28 .len 27, o2 29 (.bin .lss) 22 28]) (.cond (.slot 29) (.skip) (.exit 2))) (.seq (.block 3 (.seq (rG [fA 32 1 1, lN 33 32 0, mv 34 3, o2 35 (.indexAddr (.list yM)) 33 34, o1 36 (.load false 1) 35, mv 37 4, o2 38 (.indexAddr yM) 36 37, o1 39 (.load true 4) 38, ow 5 (.alloc 1 [cZ, cZ, cZ, cZ]) [] [1] [1], sT 4 5 39 1]) (.seq (rG [lU 40 4 5 1, o1 41 (.call ⟨283, [.val true 4], no 4, [.val false 1], ims 1, true⟩) 40, o1 42 .not 41, sX 43 [.slot 42], gX 44 (.fieldAddr 0) [.slot 5] [] [] 43 false, gX 45 (.load false 1) [.slot 44] [1] [] 43 false, gX 46 (.bin .eql) [.slot 45, cI 1] [] [] 43 false, ⟨some 47, .move, [.slot 46], [], [], some (43, false), true, .none⟩, gX 48 .move [.slot 3] [] [] 47 true, gX 49 (.bin .eql) [.slot 48, cI 0] [] [] 47 true, gX 50 .pick [.slot 47, .slot 49, cB false] [] [] 43 false, op 51 .pick [.slot 43, cB true, .slot 50], sX 52 [.slot 51], gX 53 (.fieldAddr 0) [.slot 5] [] [] 52 false, gX 54 (.load false 1) [.slot 53] [1] [] 52 false, gX 55 (.bin .neq) [.slot 54, cI 9] [] [] 52 false, ⟨some 56, .move, [.slot 55], [], [], some (52, false), true, .none⟩, gX 57 (.fieldAddr 3) [.slot 5] [] [] 56 true, gX 58 (.load false 1) [.slot 57] [1] [] 56 true, gX 59 (.fieldAddr 1) [.slot 1] [] [] 56 true, gX 60 (.load false 1) [.slot 59] [0] [] 56 true, gX 61 .len [.slot 60] [] [] 56 true, gX 62 (.bin .geq) (sl [58, 61]) [] [] 56 true, gX 63 .pick [.slot 56, .slot 62, cB false] [] [] 52 false, op 64 .pick [.slot 52, cB true, .slot 63]]) (.cond (.slot 64) (.seq (rG [op 2 .move [cB false]]) (.ret)) (.skip))))) (rG [mv 30 4, op 31 (.bin .add) [.slot 30, cI 1], mv 4 31]))
def zE.c2 : XCode := rG [mv 11 3, op 12 (.bin .add) [.slot 11, cI 1], mv 3 12]
def zE.c3 : XCode := .seq (.seq (rG [mv 6 3, fA 7 1 1, lN 8 7 0, o1 9 .len 8, o2 10 (.bin .lss) 6 9]) (.cond (.slot 10) (.skip) (.exit 0))) (.seq (.block 1 (.seq (.seq (.region true [fA 13 1 1, lN 14 13 0, mv 15 3, o2 16 (.indexAddr (.list yM)) 14 15, o1 17 (.load false 1) 16, o1 18 .len 17, fA 19 0 1, lN 20 19 0, o2 21 (.bin .neq) 18 20]) (.cond (.slot 21) (.seq (rG [op 2 .move [cB false]]) (.ret)) (.skip))) (.seq (rG [op 4 .move [cI 0]]) (.block 2 (.loop [.keep [1, 3, 4], .drop 1, .norm] (zE.c1)))))) (zE.c2))
def zE.c4 : XCode := .seq (rG [fA 65 0 1, lN 66 65 0, op 67 (.call ⟨1, vs 3, no 3, [.val false 1], ims 1, true⟩) [.slot 66, cI 1, cI 32], sX 68 [.slot 67], gX 69 (.fieldAddr 1) [.slot 1] [] [] 68 true, gX 70 (.load false 1) [.slot 69] [0] [] 68 true, gX 71 .len [.slot 70] [] [] 68 true, ⟨some 72, .call ⟨1, vs 3, no 3, [.val false 1], ims 1, true⟩, [.slot 71, cI 1, cI 4], [], [], some (68, true), false, .none⟩, op 73 .pick [.slot 68, .slot 72, cB false], mv 2 73]) (.ret)
def zE.x : XFunc := { nslots := 74, nobj := 2, pars := [.val true 2], rowsIn := no 2, rets := [.tmp 2 false 1], outs := [.imm], fresh := true, arg := .pair (.int .i64) (.list (.list yM)), ret := .bool, body := .seq (rG [ow 1 (.box 0) [.slot 0] [0] [0], op 2 .move [cB false]]) (.seq (.seq (rG [op 3 .move [cI 0]]) (.block 0 (.loop [.keep [1, 3], .drop 1, .norm] (zE.c3)))) (zE.c4)) }
def zE.env (N : Nat) : Env := envOf (tbl [(283, yJ.fs N), (1, zS.fs N)] noFS)
def zE.F (N : Nat) (x : Int × List zU) : Option Bool := XFunc.run zE.x (zE.env N) N x
def zE.fs (N : Nat) : FS := { arg := zE.x.arg, ret := zE.x.ret, fresh := true, F := zE.F N }
def zE.k2 (N : Nat) : Ex -> S -> Option Bool := seqK (fun s => XCode.runK (zE.env N) N (zE.c4) s (XFunc.endK zE.x)) (XFunc.endK zE.x)
def zE.k1 (N : Nat) : Ex -> S -> Option Bool := y2 0 (zE.k2 N)
def zE.k6 (N : Nat) (n1 : Nat) : Ex -> S -> Option Bool := seqK (fun s => bindO (S.ghosts s [.keep [1, 3], .drop 1, .norm]) fun s1 => loopK [.keep [1, 3], .drop 1, .norm] (fun s k => XCode.runK (zE.env N) N zE.c3 s k) n1 s1 (zE.k1 N)) (zE.k1 N)
def zE.k5 (N : Nat) (n1 : Nat) : Ex -> S -> Option Bool := seqK (fun s => XCode.runK (zE.env N) N (zE.c2) s (zE.k6 N n1)) (zE.k6 N n1)
def zE.k4 (N : Nat) (n1 : Nat) : Ex -> S -> Option Bool := y2 1 (zE.k5 N n1)
def zE.k3 (N : Nat) (n1 : Nat) : Ex -> S -> Option Bool := y2 2 (zE.k4 N n1)
def zE.L1 (N : Nat) (n1 : Nat) (i : Int) (o00 : Int) (o01 : List zU) : Option Bool := loopK [.keep [1, 3], .drop 1, .norm] (fun s k => XCode.runK (zE.env N) N zE.c3 s k) n1
 { t := jK 74 [(1, .one (.ptr 0 0 0)), (3, .one (.int .i64 i))], h := [.box 0 false [.int .i64 o00, .sl false (.list yM) o01], .absent 0] }
 (zE.k1 N)
def zE.L2 (N : Nat) (n1 : Nat) (n2 : Nat) (i : Int) (k_ : Int) (o00 : Int) (o01 : List zU) : Option Bool := loopK [.keep [1, 3, 4], .drop 1, .norm] (fun s k => XCode.runK (zE.env N) N zE.c1 s k) n2
 { t := jK 74 [(1, .one (.ptr 0 0 0)), (3, .one (.int .i64 i)), (4, .one (.int .i64 k_))], h := [.box 0 false [.int .i64 o00, .sl false (.list yM) o01], .absent 0] }
 (zE.k3 N n1)
theorem zE.L1_eq (N : Nat) (n1 : Nat) (i : Int) (o00 : Int) (o01 : List zU) : zE.L1 N (n1 + 1) i o00 o01 =
bif decide (i < (o01.length : Int)) then
bif zP i (o01.length) then
bif (List.length (nth ([] : List (Int × Int × Int × Int)) o01 i) : Int) != o00 then
some false
else
zE.L2 N n1 N i 0 o00 o01
else none
else
bindO (zS.F N (o00, (1, 32))) fun r2 =>
bif r2 then
bindO (zS.F N ((o01.length : Int), (1, 4))) fun r3 =>
some r3
else
some false := by kernel_rfl
theorem zE.L2_eq (N : Nat) (n1 : Nat) (n2 : Nat) (i : Int) (k_ : Int) (o00 : Int) (o01 : List zU) : zE.L2 N n1 (n2 + 1) i k_ o00 o01 =
bif zP i (o01.length) then
bif decide (k_ < (List.length (nth ([] : List (Int × Int × Int × Int)) o01 i) : Int)) then
bif zP i (o01.length) then
bif zP k_ (List.length (nth ([] : List (Int × Int × Int × Int)) o01 i)) then
bindO (yJ.F N ((nth (0, (0, (0, 0))) (nth ([] : List (Int × Int × Int × Int)) o01 i) k_).1, (((nth (0, (0, (0, 0))) (nth ([] : List (Int × Int × Int × Int)) o01 i) k_).2).1, (((nth (0, (0, (0, 0))) (nth ([] : List (Int × Int × Int × Int)) o01 i) k_).2).2)))) fun r1 =>
bif !r1 then
some false
else
bif ((nth (0, (0, (0, 0))) (nth ([] : List (Int × Int × Int × Int)) o01 i) k_).1) == 1 then
bif i == 0 then
some false
else
bif ((nth (0, (0, (0, 0))) (nth ([] : List (Int × Int × Int × Int)) o01 i) k_).1) != 9 then
bif decide (((((nth (0, (0, (0, 0))) (nth ([] : List (Int × Int × Int × Int)) o01 i) k_).2).2).2) >= (o01.length : Int)) then
some false
else
zE.L2 N n1 n2 i (IntKind.wrap .i64 (k_ + 1)) o00 o01
else
zE.L2 N n1 n2 i (IntKind.wrap .i64 (k_ + 1)) o00 o01
else
bif ((nth (0, (0, (0, 0))) (nth ([] : List (Int × Int × Int × Int)) o01 i) k_).1) != 9 then
bif decide (((((nth (0, (0, (0, 0))) (nth ([] : List (Int × Int × Int × Int)) o01 i) k_).2).2).2) >= (o01.length : Int)) then
some false
else
zE.L2 N n1 n2 i (IntKind.wrap .i64 (k_ + 1)) o00 o01
else
zE.L2 N n1 n2 i (IntKind.wrap .i64 (k_ + 1)) o00 o01
else none
else none
else
zE.L1 N n1 (IntKind.wrap .i64 (i + 1)) o00 o01
else none := by kernel_rfl
theorem zE.F_eq (N : Nat) (m : Int × List zU) : zE.F N m =
zE.L1 N N 0 m.1 m.2 := by kernel_rfl
def z5.x : XFunc := { nslots := 15, nobj := 1, pars := [.val true 4], rowsIn := no 4, rets := [.tmp 2 false 1], outs := [.imm], fresh := true, arg := .pair (.int .i64) yW, ret := .bool, body := .seq (rG [ow 1 (.box 0) [.slot 0] [0] [0], op 2 .move [cB false]]) (.seq (rG [lU 3 4 1 0, o1 4 (.call ⟨283, [.val true 4], no 4, [.val false 1], ims 1, true⟩) 3, sX 5 [.slot 4], gX 6 (.fieldAddr 0) [.slot 1] [] [] 5 true, gX 7 (.load false 1) [.slot 6] [0] [] 5 true, gX 8 (.bin .eql) [.slot 7, cI 6] [] [] 5 true, ⟨some 9, .move, [.slot 8], [], [], some (5, true), true, .none⟩, gX 10 (.fieldAddr 0) [.slot 1] [] [] 9 false, gX 11 (.load false 1) [.slot 10] [0] [] 9 false, gX 12 (.bin .eql) [.slot 11, cI 7] [] [] 9 false, gX 13 .pick [.slot 9, cB true, .slot 12] [] [] 5 true, op 14 .pick [.slot 5, .slot 13, cB false], mv 2 14]) (.ret)) }
def z5.env (N : Nat) : Env := envOf (tbl [(283, yJ.fs N)] noFS)
def z5.F (N : Nat) (x : Int × Int × Int × Int) : Option Bool := XFunc.run z5.x (z5.env N) N x
def z5.fs (N : Nat) : FS := { arg := z5.x.arg, ret := z5.x.ret, fresh := true, F := z5.F N }
theorem z5.F_eq (N : Nat) (a : Int × Int × Int × Int) : z5.F N a =
bindO (yJ.F N a) fun r1 =>
bif r1 then
bif a.1 == 6 then
some true
else
some (a.1 == 7)
else
some false := by kernel_rfl
def zr.c1 : XCode := .seq (.seq (rG [mv 6 4, mv 7 0, o1 8 .len 7, o2 9 (.bin .lss) 6 8]) (.cond (.slot 9) (.skip) (.exit 0))) (.seq (.block 1 (.seq (rG [mv 12 0, mv 13 4, o2 14 (.indexAddr yZ) 12 13, fA 15 1 14, o1 16 (.load true 4) 15, ow 5 (.alloc 0 [cZ, cZ, cZ, cZ]) [] [0] [0], sT 4 5 16 0]) (.seq (.seq (rG [mv 17 0, mv 18 4, o2 19 (.indexAddr yZ) 17 18, fA 20 0 19, o1 21 (.load false 1) 20, op 22 (.call ⟨1, vs 3, no 3, [.val false 1], ims 1, true⟩) [.slot 21, cI 0, cI 31], o1 23 .not 22, sX 24 [.slot 23], gX 25 .move [.slot 3] [] [] 24 false, gX 26 .move [.slot 0] [] [] 24 false, gX 27 .move [.slot 4] [] [] 24 false, gX 28 (.indexAddr yZ) (sl [26, 27]) [] [] 24 false, gX 29 (.fieldAddr 0) [.slot 28] [] [] 24 false, gX 30 (.load false 1) [.slot 29] [] [] 24 false, gX 31 (.bin .shr) (sl [25, 30]) [] [] 24 false, gX 32 (.bin .and) [.slot 31, cI 1] [] [] 24 false, gX 33 (.bin .eql) [.slot 32, cI 1] [] [] 24 false, op 34 .pick [.slot 24, cB true, .slot 33], sX 35 [.slot 34], gX 36 (.load true 4) [.slot 5] [0] [] 35 false, ⟨some 37, .call ⟨283, [.val true 4], no 4, [.val false 1], ims 1, true⟩, [.slot 36], [], [], some (35, false), false, .none⟩, gX 38 .not [.slot 37] [] [] 35 false, op 39 .pick [.slot 35, cB true, .slot 38], sX 40 [.slot 39], gX 41 (.fieldAddr 0) [.slot 5] [] [] 40 false, gX 42 (.load false 1) [.slot 41] [0] [] 40 false, gX 43 (.bin .eql) [.slot 42, cI 1] [] [] 40 false, op 44 .pick [.slot 40, cB true, .slot 43], sX 45 [.slot 44], gX 46 (.load true 4) [.slot 5] [0] [] 45 false, ⟨some 47, .call ⟨285, [.val true 4], no 4, [.val false 1], ims 1, true⟩, [.slot 46], [], [], some (45, false), false, .none⟩, op 48 .pick [.slot 45, cB true, .slot 47]]) (.cond (.slot 48) (.seq (rG [op 2 .move [cB false]]) (.ret)) (.skip))) (rG [mv 49 3, mv 50 0, mv 51 4, o2 52 (.indexAddr yZ) 50 51, fA 53 0 52, o1 54 (.load false 1) 53, op 55 (.bin .shl) [cI 1, .slot 54], o2 56 (.bin .or) 49 55, mv 3 56])))) (rG [mv 10 4, op 11 (.bin .add) [.slot 10, cI 1], mv 4 11]))
def zr.c2 : XCode := .seq (rG [op 2 .move [cB true]]) (.ret)
def zr.x : XFunc := { nslots := 57, nobj := 1, pars := [.val false 1], rowsIn := [none], rets := [.tmp 2 false 1], outs := [.imm], fresh := true, arg := .list yZ, ret := .bool, body := .seq (rG [op 2 .move [cB false]]) (.seq (rG [op 3 .move [cI 0]]) (.seq (.seq (rG [op 4 .move [cI 0]]) (.block 0 (.loop [.keep [0, 3, 4], .drop 0, .norm] (zr.c1)))) (zr.c2))) }
def zr.env (N : Nat) : Env := envOf (tbl [(283, yJ.fs N), (285, z5.fs N), (1, zS.fs N)] noFS)
def zr.F (N : Nat) (x : zk) : Option Bool := XFunc.run zr.x (zr.env N) N x
def zr.fs (N : Nat) : FS := { arg := zr.x.arg, ret := zr.x.ret, fresh := true, F := zr.F N }
def zr.k2 (N : Nat) : Ex -> S -> Option Bool := seqK (fun s => XCode.runK (zr.env N) N (zr.c2) s (XFunc.endK zr.x)) (XFunc.endK zr.x)
def zr.k1 (N : Nat) : Ex -> S -> Option Bool := y2 0 (zr.k2 N)
def zr.L1 (N : Nat) (n1 : Nat) (l_ : zk) (seen : Int) (i : Int) : Option Bool := loopK [.keep [0, 3, 4], .drop 0, .norm] (fun s k => XCode.runK (zr.env N) N zr.c1 s k) n1
 { t := jK 57 [(0, .one (.sl false yZ l_)), (3, .one (.int .i64 seen)), (4, .one (.int .i64 i))], h := [.absent 0] }
 (zr.k1 N)
theorem zr.L1_eq (N : Nat) (n1 : Nat) (l_ : zk) (seen : Int) (i : Int) : zr.L1 N (n1 + 1) l_ seen i =
bif decide (i < (l_.length : Int)) then
bif zP i (l_.length) then
bif zP i (l_.length) then
bindO (zS.F N ((nth (0, (0, (0, (0, 0)))) l_ i).1, (0, 31))) fun r1 =>
bif !r1 then
some false
else
bif zP i (l_.length) then
bif decide (0 <= (nth (0, (0, (0, (0, 0)))) l_ i).1) then
bif (zAe .i64 (zAs .i64 seen ((nth (0, (0, (0, (0, 0)))) l_ i).1)) 1) == 1 then
some false
else
bindO (yJ.F N (((nth (0, (0, (0, (0, 0)))) l_ i).2).1, ((((nth (0, (0, (0, (0, 0)))) l_ i).2).2).1, ((((nth (0, (0, (0, (0, 0)))) l_ i).2).2).2)))) fun r2 =>
bif !r2 then
some false
else
bif (((nth (0, (0, (0, (0, 0)))) l_ i).2).1) == 1 then
some false
else
bindO (z5.F N (((nth (0, (0, (0, (0, 0)))) l_ i).2).1, ((((nth (0, (0, (0, (0, 0)))) l_ i).2).2).1, ((((nth (0, (0, (0, (0, 0)))) l_ i).2).2).2)))) fun r3 =>
bif r3 then
some false
else
bif zP i (l_.length) then
bif decide (0 <= (nth (0, (0, (0, (0, 0)))) l_ i).1) then
zr.L1 N n1 l_ (bitOr .i64 seen (zAb .i64 1 ((nth (0, (0, (0, (0, 0)))) l_ i).1))) (IntKind.wrap .i64 (i + 1))
else none
else none
else none
else none
else none
else none
else
some true := by kernel_rfl
theorem zr.F_eq (N : Nat) (l_ : zk) : zr.F N l_ =
zr.L1 N N l_ 0 0 := by kernel_rfl
def zy.c1 : XCode := .seq (.seq (rG [mv 6 5, mv 7 0, o1 8 .len 7, o2 9 (.bin .lss) 6 8]) (.cond (.slot 9) (.skip) (.exit 0))) (.seq (.block 1 (.seq (.region true [mv 12 0, mv 13 5, o2 14 (.indexAddr yZ) 12 13, fA 15 1 14, fA 16 1 15, o1 17 (.load false 1) 16, fA 18 1 3, lN 19 18 0, o2 20 (.bin .eql) 17 19, sX 21 [.slot 20], gX 22 .move [.slot 0] [] [] 21 true, gX 23 .move [.slot 5] [] [] 21 true, gX 24 (.indexAddr yZ) (sl [22, 23]) [] [] 21 true, gX 25 (.fieldAddr 1) [.slot 24] [] [] 21 true, gX 26 (.fieldAddr 2) [.slot 25] [] [] 21 true, gX 27 (.load false 1) [.slot 26] [] [] 21 true, gX 28 (.fieldAddr 2) [.slot 3] [] [] 21 true, gX 29 (.load false 1) [.slot 28] [0] [] 21 true, gX 30 (.bin .eql) (sl [27, 29]) [] [] 21 true, op 31 .pick [.slot 21, .slot 30, cB false]]) (.cond (.slot 31) (.seq (rG [mv 32 5, mv 4 32]) (.ret)) (.skip)))) (rG [mv 10 5, op 11 (.bin .add) [.slot 10, cI 1], mv 5 11]))
def zy.c2 : XCode := .seq (rG [op 4 .move [cI (-1)]]) (.ret)
def zy.x : XFunc := { nslots := 33, nobj := 1, pars := [.val false 1, .val true 3], rowsIn := no 4, rets := [.tmp 4 false 1], outs := [.imm], fresh := true, arg := .pair (.list yZ) yW, ret := .int .i64, body := .seq (rG [ow 3 (.box 0) [.slot 1] [0] [0], op 4 .move [cI 0]]) (.seq (.seq (rG [op 5 .move [cI 0]]) (.block 0 (.loop [.keep [0, 3, 5], .norm] (zy.c1)))) (zy.c2)) }
def zy.env (_ : Nat) : Env := envOf (tbl [] noFS)
def zy.F (N : Nat) (x : zk × Int × Int × Int) : Option Int := XFunc.run zy.x (zy.env N) N x
def zy.fs (N : Nat) : FS := { arg := zy.x.arg, ret := zy.x.ret, fresh := true, F := zy.F N }
def zy.k2 (N : Nat) : Ex -> S -> Option Int := seqK (fun s => XCode.runK (zy.env N) N (zy.c2) s (XFunc.endK zy.x)) (XFunc.endK zy.x)
def zy.k1 (N : Nat) : Ex -> S -> Option Int := y2 0 (zy.k2 N)
def zy.L1 (N : Nat) (n1 : Nat) (l_ : zk) (i : Int) (o00 : Int) (o01 : Int) (o02 : Int) : Option Int := loopK [.keep [0, 3, 5], .norm] (fun s k => XCode.runK (zy.env N) N zy.c1 s k) n1
 { t := jK 33 [(0, .one (.sl false yZ l_)), (3, .one (.ptr 0 0 0)), (5, .one (.int .i64 i))], h := [.box 0 false [.int .i64 o00, .int .i64 o01, .int .i64 o02]] }
 (zy.k1 N)
theorem zy.L1_eq (N : Nat) (n1 : Nat) (l_ : zk) (i : Int) (o00 : Int) (o01 : Int) (o02 : Int) : zy.L1 N (n1 + 1) l_ i o00 o01 o02 =
bif decide (i < (l_.length : Int)) then
bif zP i (l_.length) then
bif ((((nth (0, (0, (0, (0, 0)))) l_ i).2).2).1) == o01 then
bif zP i (l_.length) then
bif (((((nth (0, (0, (0, (0, 0)))) l_ i).2).2).2).1) == o02 then
some i
else
zy.L1 N n1 l_ (IntKind.wrap .i64 (i + 1)) o00 o01 o02
else none
else
zy.L1 N n1 l_ (IntKind.wrap .i64 (i + 1)) o00 o01 o02
else none
else
some (-1 : Int) := by kernel_rfl
theorem zy.F_eq (N : Nat) (l_ : zk) (x_ : Int × Int × Int) : zy.F N (l_, x_) =
zy.L1 N N l_ 0 x_.1 x_.2.1 x_.2.2 := by kernel_rfl
def yh.x : XFunc := { nslots := 8, nobj := 2, pars := [.val true 3], rowsIn := no 3, rets := [.var 2 true 4], outs := iF 4, fresh := true, arg := .pair (.int .i64) zAj, ret := .pair (.int .i64) yW, body := .seq (rG [ow 1 (.box 0) [.slot 0] [0] [0], ow 2 (.alloc 1 [cZ, cZ, cZ, cZ]) [] [1] [1]]) (.seq (rG [fA 3 1 1, lN 4 3 0, fA 5 2 1, lN 6 5 0, op 7 (.build [cZ, cZ, cZ, cZ] [(0, 1), (1, 1), (2, 1)]) [cI 2, .slot 4, .slot 6], sT 4 2 7 1]) (.ret)) }
def yh.env (_ : Nat) : Env := envOf (tbl [] noFS)
def yh.F (N : Nat) (x : Int × Int × Int) : Option (Int × Int × Int × Int) := XFunc.run yh.x (yh.env N) N x
def yh.fs (N : Nat) : FS := { arg := yh.x.arg, ret := yh.x.ret, fresh := true, F := yh.F N }
theorem yh.F_eq (N : Nat) (x_ : Int × Int × Int) : yh.F N x_ =
some (2, (x_.2.1, (x_.2.2, 0))) := by kernel_rfl
def z9.x : XFunc := { nslots := 15, nobj := 1, pars := [.val false 1, .val false 1], rowsIn := no 2, rets := [.tmp 4 false 1], outs := [.own 15], fresh := true, arg := .pair (.list yZ) (.int .i64), ret := .list yZ, body := .seq (rG [op 4 .move [.const (.one (.nil))]]) (.seq (.region true [ow 5 (.buildSlice false 0 15 yZ 0 [] [cZ, cZ, cZ, cZ, cZ]) [] [0] [0], mv 6 0, mv 7 1, o2 8 (.slice yZ false true) 6 7, ow 9 (.append false 0 15 yZ) (sl [5, 8]) [0] [0], mv 10 0, mv 11 1, op 12 (.bin .add) [.slot 11, cI 1], o2 13 (.slice yZ true false) 10 12, ow 14 (.append false 0 15 yZ) (sl [9, 13]) [0] [0], mv 4 14]) (.ret)) }
def z9.env (_ : Nat) : Env := envOf (tbl [] noFS)
def z9.F (N : Nat) (x : zk × Int) : Option zk := XFunc.run z9.x (z9.env N) N x
def z9.fs (N : Nat) : FS := { arg := z9.x.arg, ret := z9.x.ret, fresh := true, F := z9.F N }
theorem z9.F_eq (N : Nat) (l_ : zk) (k_ : Int) : z9.F N (l_, k_) =
bif decide (0 <= k_) && decide (k_ <= (l_.length : Int)) then
bif decide (List.length ([] : List (Int × Int × Int × Int × Int)) + List.length (List.take (Int.toNat k_) l_) <= maxN) then
bif decide (0 <= IntKind.wrap .i64 (k_ + 1)) && decide (IntKind.wrap .i64 (k_ + 1) <= (l_.length : Int)) then
bif decide (List.length (([] : List (Int × Int × Int × Int × Int)) ++ (List.take (Int.toNat k_) l_)) + List.length (List.drop (Int.toNat (IntKind.wrap .i64 (k_ + 1))) l_) <= maxN) then
some ((([] : List (Int × Int × Int × Int × Int)) ++ (List.take (Int.toNat k_) l_)) ++ (List.drop (Int.toNat (IntKind.wrap .i64 (k_ + 1))) l_))
else none
else none
else none
else none := by kernel_rfl
def zq.c1 : XCode := .seq (.seq (rG [mv 8 4, mv 9 0, o1 10 .len 9, o2 11 (.bin .lss) 8 10]) (.cond (.slot 11) (.skip) (.exit 0))) (.seq (.block 1 (.seq (rG [mv 14 0, mv 15 4, o2 16 (.indexAddr yW) 14 15, o1 17 (.load true 3) 16, ow 5 (.alloc 1 [cZ, cZ, cZ]) [] [1] [1], sT 3 5 17 1]) (.seq (rG [mv 18 3, lU 19 3 5 1, ow 20 (.call ⟨287, [.val false 1, .val true 3], no 4, [.val false 1], ims 1, true⟩) (sl [18, 19]) [0] [], mv 6 20]) (.seq (.seq (rG [fA 21 0 5, lN 22 21 1, op 23 (.call ⟨1, vs 3, no 3, [.val false 1], ims 1, true⟩) [.slot 22, cI 0, cI 2], o1 24 .not 23, sX 25 [.slot 24], gX 26 (.load true 3) [.slot 5] [1] [] 25 false, ⟨some 27, .call ⟨288, [.val true 3], no 3, [.val true 4], ims 4, true⟩, [.slot 26], [], [], some (25, false), false, .none⟩, ⟨some 28, .call ⟨283, [.val true 4], no 4, [.val false 1], ims 1, true⟩, [.slot 27], [], [], some (25, false), false, .none⟩, gX 29 .not [.slot 28] [] [] 25 false, op 30 .pick [.slot 25, cB true, .slot 29], sX 31 [.slot 30], gX 32 (.fieldAddr 0) [.slot 5] [] [] 31 false, gX 33 (.load false 1) [.slot 32] [1] [] 31 false, gX 34 (.bin .eql) [.slot 33, cI 2] [] [] 31 false, gX 35 .move [.slot 6] [] [] 31 false, gX 36 (.bin .geq) [.slot 35, cI 0] [] [] 31 false, gX 37 (.eqBool true) (sl [34, 36]) [] [] 31 false, op 38 .pick [.slot 31, cB true, .slot 37]]) (.cond (.slot 38) (.seq (rG [op 2 .move [cB false]]) (.ret)) (.skip))) (.seq (rG [fA 39 0 5, lN 40 39 1]) (.block 2 (.seq (rG [op 42 (.bin .eql) [.slot 40, cI 1], mv 41 42]) (.cond (.slot 41) (rG [mv 43 3, lU 44 3 5 1, o1 45 (.call ⟨288, [.val true 3], no 3, [.val true 4], ims 4, true⟩) 44, o1 46 (.build [cZ, cZ, cZ, cZ, cZ] [(1, 4)]) 45, ow 47 (.buildSlice false 2 15 yZ 1 [(0, 5)] [cZ, cZ, cZ, cZ, cZ]) [.slot 46] [2] [2], ow 48 (.append false 0 15 yZ) (sl [43, 47]) [0, 2] [0], mv 3 48]) (.seq (rG [op 50 (.bin .eql) [.slot 40, cI 2], mv 49 50]) (.cond (.slot 49) (rG [mv 51 3, mv 52 6, ow 53 (.call ⟨289, vs 2, no 2, [.val false 1], [.own 3 15], true⟩) (sl [51, 52]) [0, 3] [3], mv 3 53]) (.skip))))))))))) (rG [mv 12 4, op 13 (.bin .add) [.slot 12, cI 1], mv 4 13]))
def zq.c2 : XCode := .seq (rG [mv 54 0, o1 55 .len 54, op 56 (.bin .leq) [.slot 55, cI 8], sX 57 [.slot 56], gX 58 .move [.slot 3] [] [] 57 true, gX 59 .len [.slot 58] [0] [] 57 true, gX 60 (.bin .eql) [.slot 59, cI 0] [] [] 57 true, op 61 .pick [.slot 57, .slot 60, cB false], mv 2 61]) (.ret)
def zq.x : XFunc := { nslots := 62, nobj := 4, pars := [.val false 1], rowsIn := [none], rets := [.tmp 2 false 1], outs := [.imm], fresh := true, arg := .list yW, ret := .bool, body := .seq (rG [op 2 .move [cB false]]) (.seq (rG [ow 7 (.buildSlice false 0 15 yZ 0 [] [cZ, cZ, cZ, cZ, cZ]) [] [0] [0], mv 3 7]) (.seq (.seq (rG [op 4 .move [cI 0]]) (.block 0 (.loop [.rename 3 0, .keep [0, 3, 4], .drop 1, .drop 2, .drop 3, .norm] (zq.c1)))) (zq.c2))) }
def zq.env (N : Nat) : Env := envOf (tbl [(283, yJ.fs N), (1, zS.fs N), (288, yh.fs N), (287, zy.fs N), (289, z9.fs N)] noFS)
def zq.F (N : Nat) (x : zp) : Option Bool := XFunc.run zq.x (zq.env N) N x
def zq.fs (N : Nat) : FS := { arg := zq.x.arg, ret := zq.x.ret, fresh := true, F := zq.F N }
def zq.k2 (N : Nat) : Ex -> S -> Option Bool := seqK (fun s => XCode.runK (zq.env N) N (zq.c2) s (XFunc.endK zq.x)) (XFunc.endK zq.x)
def zq.k1 (N : Nat) : Ex -> S -> Option Bool := y2 0 (zq.k2 N)
def zq.L1 (N : Nat) (n1 : Nat) (l_ : zp) (i : Int) (o0 : zk) : Option Bool := loopK [.rename 3 0, .keep [0, 3, 4], .drop 1, .drop 2, .drop 3, .norm] (fun s k => XCode.runK (zq.env N) N zq.c1 s k) n1
 { t := jK 62 [(0, .one (.sl false yW l_)), (3, .one (.ref 0 0 .all)), (4, .one (.int .i64 i))], h := [.row 0 false true 15 yZ o0, .absent 0, .absent 0, .absent 0] }
 (zq.k1 N)
theorem zq.L1_eq (N : Nat) (n1 : Nat) (l_ : zp) (i : Int) (o0 : zk) : zq.L1 N (n1 + 1) l_ i o0 =
bif decide (i < (l_.length : Int)) then
bif zP i (l_.length) then
bindO (zy.F N (o0, ((nth (0, (0, 0)) l_ i).1, ((nth (0, (0, 0)) l_ i).2)))) fun r1 =>
bindO (zS.F N ((nth (0, (0, 0)) l_ i).1, (0, 2))) fun r2 =>
bif !r2 then
some false
else
bindO (yh.F N ((nth (0, (0, 0)) l_ i).1, ((nth (0, (0, 0)) l_ i).2))) fun r3 =>
bindO (yJ.F N r3) fun r4 =>
bif !r4 then
some false
else
bif (((nth (0, (0, 0)) l_ i).1) == 2) != (decide (r1 >= 0)) then
some false
else
bif ((nth (0, (0, 0)) l_ i).1) == 1 then
bindO (yh.F N ((nth (0, (0, 0)) l_ i).1, ((nth (0, (0, 0)) l_ i).2))) fun r5 =>
bif decide (o0.length + List.length ([(0, r5)] : List (Int × Int × Int × Int × Int)) <= maxN) then
zq.L1 N n1 l_ (IntKind.wrap .i64 (i + 1)) (o0 ++ ([(0, r5)] : List (Int × Int × Int × Int × Int)))
else none
else
bif ((nth (0, (0, 0)) l_ i).1) == 2 then
bindO (z9.F N (o0, r1)) fun r6 =>
zq.L1 N n1 l_ (IntKind.wrap .i64 (i + 1)) r6
else
zq.L1 N n1 l_ (IntKind.wrap .i64 (i + 1)) o0
else none
else
bif decide ((l_.length : Int) <= 8) then
some ((o0.length : Int) == 0)
else
some false := by kernel_rfl
theorem zq.F_eq (N : Nat) (l_ : zp) : zq.F N l_ =
zq.L1 N N l_ 0 ([] : List (Int × Int × Int × Int × Int)) := by kernel_rfl
def zG.c1 : XCode := .seq (.seq (rG [mv 21 3, fA 22 2 1, lN 23 22 0, o1 24 .len 23, o2 25 (.bin .lss) 21 24]) (.cond (.slot 25) (.skip) (.exit 0))) (.seq (.block 1 (.seq (rG [fA 28 2 1, lN 29 28 0, mv 30 3, o2 31 (.indexAddr (.list yW)) 29 30, o1 32 (.load false 1) 31, o1 33 (.call ⟨290, vs 1, no 1, [.val false 1], ims 1, true⟩) 32, o1 34 .not 33]) (.cond (.slot 34) (.seq (rG [op 2 .move [cB false]]) (.ret)) (.skip)))) (rG [mv 26 3, op 27 (.bin .add) [.slot 26, cI 1], mv 3 27]))
def zG.c2 : XCode := .seq (.seq (rG [mv 35 4, fA 36 4 1, lN 37 36 0, o1 38 .len 37, o2 39 (.bin .lss) 35 38]) (.cond (.slot 39) (.skip) (.exit 2))) (.seq (.block 3 (.seq (.region true [fA 42 4 1, lN 43 42 0, mv 44 4, o2 45 (.indexAddr yZ) 43 44, fA 46 0 45, o1 47 (.load false 1) 46, fA 48 0 1, fA 49 0 48, lN 50 49 0, o2 51 (.bin .geq) 47 50, sX 52 [.slot 51], gX 53 (.fieldAddr 4) [.slot 1] [] [] 52 false, gX 54 (.load false 1) [.slot 53] [0] [] 52 false, gX 55 .move [.slot 4] [] [] 52 false, gX 56 (.indexAddr yZ) (sl [54, 55]) [] [] 52 false, gX 57 (.fieldAddr 1) [.slot 56] [] [] 52 false, gX 58 (.fieldAddr 0) [.slot 57] [] [] 52 false, gX 59 (.load false 1) [.slot 58] [] [] 52 false, gX 60 (.bin .neq) [.slot 59, cI 9] [] [] 52 false, ⟨some 61, .move, [.slot 60], [], [], some (52, false), true, .none⟩, gX 62 (.fieldAddr 4) [.slot 1] [] [] 61 true, gX 63 (.load false 1) [.slot 62] [0] [] 61 true, gX 64 .move [.slot 4] [] [] 61 true, gX 65 (.indexAddr yZ) (sl [63, 64]) [] [] 61 true, gX 66 (.fieldAddr 1) [.slot 65] [] [] 61 true, gX 67 (.fieldAddr 3) [.slot 66] [] [] 61 true, gX 68 (.load false 1) [.slot 67] [] [] 61 true, gX 69 (.fieldAddr 0) [.slot 1] [] [] 61 true, gX 70 (.fieldAddr 1) [.slot 69] [] [] 61 true, gX 71 (.load false 1) [.slot 70] [0] [] 61 true, gX 72 .len [.slot 71] [] [] 61 true, gX 73 (.bin .geq) (sl [68, 72]) [] [] 61 true, gX 74 .pick [.slot 61, .slot 73, cB false] [] [] 52 false, op 75 .pick [.slot 52, cB true, .slot 74]]) (.cond (.slot 75) (.seq (rG [op 2 .move [cB false]]) (.ret)) (.skip)))) (rG [mv 40 4, op 41 (.bin .add) [.slot 40, cI 1], mv 4 41]))
def zG.c3 : XCode := .seq (.region true [fA 76 3 1, lN 77 76 0, fA 78 0 1, fA 79 1 78, lN 80 79 0, o1 81 .len 80, op 82 (.bin .shl) [cI 1, .slot 81], op 83 (.bin .sub) [.slot 82, cI 1], op 84 (.call ⟨1, vs 3, no 3, [.val false 1], ims 1, true⟩) [.slot 77, cI 0, .slot 83], sX 85 [.slot 84], gX 86 (.fieldAddr 3) [.slot 1] [] [] 85 true, gX 87 (.load false 1) [.slot 86] [0] [] 85 true, gX 88 (.bin .rem) [.slot 87, cI 2] [] [] 85 true, gX 89 (.bin .eql) [.slot 88, cI 0] [] [] 85 true, op 90 .pick [.slot 85, .slot 89, cB false], sX 91 [.slot 90], gX 92 (.fieldAddr 5) [.slot 1] [] [] 91 true, gX 93 (.load false 1) [.slot 92] [0] [] 91 true, ⟨some 94, .call ⟨1, vs 3, no 3, [.val false 1], ims 1, true⟩, [.slot 93, cI 0, cI 15], [], [], some (91, true), false, .none⟩, op 95 .pick [.slot 91, .slot 94, cB false], mv 2 95]) (.ret)
def zG.c4 : XCode := .seq (.seq (rG [op 4 .move [cI 0]]) (.block 2 (.loop [.keep [1, 4], .norm] (zG.c2)))) (zG.c3)
def zG.x : XFunc := { nslots := 96, nobj := 1, pars := [.val true 7], rowsIn := no 7, rets := [.tmp 2 false 1], outs := [.imm], fresh := true, arg := .pair zBe T8_30, ret := .bool, body := .seq (rG [ow 1 (.box 0) [.slot 0] [0] [0], op 2 .move [cB false]]) (.seq (.seq (rG [fA 5 0 1, lU 6 2 5 0, o1 7 (.call ⟨284, [.val true 2], no 2, [.val false 1], ims 1, true⟩) 6, o1 8 .not 7, sX 9 [.slot 8], gX 10 (.fieldAddr 2) [.slot 1] [] [] 9 false, gX 11 (.load false 1) [.slot 10] [0] [] 9 false, gX 12 .len [.slot 11] [] [] 9 false, gX 13 (.bin .gtr) [.slot 12, cI 4] [] [] 9 false, op 14 .pick [.slot 9, cB true, .slot 13], sX 15 [.slot 14], gX 16 (.fieldAddr 4) [.slot 1] [] [] 15 false, gX 17 (.load false 1) [.slot 16] [0] [] 15 false, ⟨some 18, .call ⟨286, vs 1, no 1, [.val false 1], ims 1, true⟩, [.slot 17], [], [], some (15, false), false, .none⟩, gX 19 .not [.slot 18] [] [] 15 false, op 20 .pick [.slot 15, cB true, .slot 19]]) (.cond (.slot 20) (.seq (rG [op 2 .move [cB false]]) (.ret)) (.skip))) (.seq (.seq (rG [op 3 .move [cI 0]]) (.block 0 (.loop [.keep [1, 3], .norm] (zG.c1)))) (zG.c4))) }
def zG.env (N : Nat) : Env := envOf (tbl [(286, zr.fs N), (284, zE.fs N), (290, zq.fs N), (1, zS.fs N)] noFS)
def zG.F (N : Nat) (x : (Int × List zU) × (List zp) × Int × zk × Int × Bool) : Option Bool := XFunc.run zG.x (zG.env N) N x
def zG.fs (N : Nat) : FS := { arg := zG.x.arg, ret := zG.x.ret, fresh := true, F := zG.F N }
def zG.k2 (N : Nat) : Ex -> S -> Option Bool := seqK (fun s => XCode.runK (zG.env N) N (zG.c4) s (XFunc.endK zG.x)) (XFunc.endK zG.x)
def zG.k1 (N : Nat) : Ex -> S -> Option Bool := y2 0 (zG.k2 N)
def zG.k4 (N : Nat) : Ex -> S -> Option Bool := seqK (fun s => XCode.runK (zG.env N) N (zG.c3) s (XFunc.endK zG.x)) (XFunc.endK zG.x)
def zG.k3 (N : Nat) : Ex -> S -> Option Bool := y2 2 (zG.k4 N)
def zG.L1 (N : Nat) (n1 : Nat) (i : Int) (o00 : Int) (o01 : List zU) (o02 : List zp) (o03 : Int) (o04 : zk) (o05 : Int) (o06 : Bool) : Option Bool := loopK [.keep [1, 3], .norm] (fun s k => XCode.runK (zG.env N) N zG.c1 s k) n1
 { t := jK 96 [(1, .one (.ptr 0 0 0)), (3, .one (.int .i64 i))], h := [.box 0 false [.int .i64 o00, .sl false (.list yM) o01, .sl false (.list yW) o02, .int .i64 o03, .sl false yZ o04, .int .i64 o05, .bool o06]] }
 (zG.k1 N)
def zG.L2 (N : Nat) (n2 : Nat) (i : Int) (o00 : Int) (o01 : List zU) (o02 : List zp) (o03 : Int) (o04 : zk) (o05 : Int) (o06 : Bool) : Option Bool := loopK [.keep [1, 4], .norm] (fun s k => XCode.runK (zG.env N) N zG.c2 s k) n2
 { t := jK 96 [(1, .one (.ptr 0 0 0)), (4, .one (.int .i64 i))], h := [.box 0 false [.int .i64 o00, .sl false (.list yM) o01, .sl false (.list yW) o02, .int .i64 o03, .sl false yZ o04, .int .i64 o05, .bool o06]] }
 (zG.k3 N)
theorem zG.L1_eq (N : Nat) (n1 : Nat) (i : Int) (o00 : Int) (o01 : List zU) (o02 : List zp) (o03 : Int) (o04 : zk) (o05 : Int) (o06 : Bool) : zG.L1 N (n1 + 1) i o00 o01 o02 o03 o04 o05 o06 =
bif decide (i < (o02.length : Int)) then
bif zP i (o02.length) then
bindO (zq.F N (nth ([] : List (Int × Int × Int)) o02 i)) fun r3 =>
bif !r3 then
some false
else
zG.L1 N n1 (IntKind.wrap .i64 (i + 1)) o00 o01 o02 o03 o04 o05 o06
else none
else
zG.L2 N N 0 o00 o01 o02 o03 o04 o05 o06 := by kernel_rfl
theorem zG.L2_eq (N : Nat) (n2 : Nat) (i : Int) (o00 : Int) (o01 : List zU) (o02 : List zp) (o03 : Int) (o04 : zk) (o05 : Int) (o06 : Bool) : zG.L2 N (n2 + 1) i o00 o01 o02 o03 o04 o05 o06 =
bif decide (i < (o04.length : Int)) then
bif zP i (o04.length) then
bif decide (((nth (0, (0, (0, (0, 0)))) o04 i).1) >= o00) then
some false
else
bif zP i (o04.length) then
bif (((nth (0, (0, (0, (0, 0)))) o04 i).2).1) != 9 then
bif zP i (o04.length) then
bif decide ((((((nth (0, (0, (0, (0, 0)))) o04 i).2).2).2).2) >= (o01.length : Int)) then
some false
else
zG.L2 N n2 (IntKind.wrap .i64 (i + 1)) o00 o01 o02 o03 o04 o05 o06
else none
else
zG.L2 N n2 (IntKind.wrap .i64 (i + 1)) o00 o01 o02 o03 o04 o05 o06
else none
else none
else
bif decide (0 <= (o01.length : Int)) then
bindO (zS.F N (o03, (0, IntKind.wrap .i64 ((zAb .i64 1 (o01.length : Int)) - 1)))) fun r4 =>
bif r4 then
bif (Int.tmod o03 2) == 0 then
bindO (zS.F N (o05, (0, 15))) fun r5 =>
some r5
else
some false
else
some false
else none := by kernel_rfl
theorem zG.F_eq (N : Nat) (e : (Int × List zU) × (List zp) × Int × zk × Int × Bool) : zG.F N e =
bindO (zE.F N e.1) fun r1 =>
bif !r1 then
some false
else
bif decide ((List.length e.2.1 : Int) > 4) then
some false
else
bindO (zr.F N e.2.2.2.1) fun r2 =>
bif !r2 then
some false
else
zG.L1 N N 0 e.1.1 e.1.2 e.2.1 e.2.2.1 e.2.2.2.1 e.2.2.2.2.1 e.2.2.2.2.2 := by kernel_rfl
def z1.c1 : XCode := .seq (.seq (rG [mv 8 4, fA 9 1 1, lN 10 9 0, o1 11 .len 10, o2 12 (.bin .lss) 8 11]) (.cond (.slot 12) (.skip) (.exit 0))) (.seq (.block 1 (.region true [fA 15 1 3, lN 16 15 2, ow 17 (.buildSlice false 3 8 yM 0 [] [cZ, cZ, cZ, cZ]) [] [3] [3], fA 18 1 1, lN 19 18 0, mv 20 4, o2 21 (.indexAddr (.list yM)) 19 20, o1 22 (.load false 1) 21, ⟨some 23, .append false 3 8 yM, (sl [17, 22]), [3, 100], [3], none, false, .pub 3⟩, ow 24 (.buildSlice false 4 9 (.hnd yM) 1 [(0, 1)] [.nil]) [.slot 23] [4] [4], ow 25 (.append false 5 9 (.hnd yM)) (sl [16, 24]) [4, 5] [5], fA 26 1 3, sT 1 26 25 2])) (rG [mv 13 4, op 14 (.bin .add) [.slot 13, cI 1], mv 4 14]))
def z1.c2 : XCode := .seq (rG [lU 27 2 3 2, sT 2 2 27 1]) (.ret)
def z1.x : XFunc := { nslots := 28, nobj := 6, pars := [.val true 2], rowsIn := no 2, rets := [.var 2 true 2], outs := [.imm, .own 9], fresh := true, arg := .pair (.int .i64) (.list (.list yM)), ret := .pair (.int .i64) (.list (.hnd yM)), body := .seq (rG [ow 1 (.box 0) [.slot 0] [0] [0], ow 2 (.alloc 1 [cZ, .nil]) [] [1] [1]]) (.seq (rG [fA 5 0 1, lN 6 5 0, o1 7 (.build [cZ, .nil] [(0, 1)]) 6, ow 3 (.alloc 2 [cZ, .nil]) [] [2] [2], sT 2 3 7 2]) (.seq (.seq (rG [op 4 .move [cI 0]]) (.block 0 (.loop [.mkrow (.boxc 2 1) 5 9 (.hnd yM), .keep [1, 2, 3, 4], .drop 3, .drop 4, .norm] (z1.c1)))) (z1.c2))), hp := true }
def z1.env (_ : Nat) : Env := envOf (tbl [] noFS)
def z1.H (N : Nat) (x : Int × List zU) (D : List HRow) : Option ((Int × List Hnd) × List HRow) := XFunc.runH z1.x (z1.env N) N x D
def z1.fs (N : Nat) : FS := { arg := z1.x.arg, ret := z1.x.ret, fresh := true, F := fun _ => none, hp := true, H := z1.H N }
def z1.k2 (N : Nat) : Ex -> S -> Option ((Int × List Hnd) × List HRow) := seqK (fun s => XCode.runK (z1.env N) N (z1.c2) s (XFunc.endKH z1.x)) (XFunc.endKH z1.x)
def z1.k1 (N : Nat) : Ex -> S -> Option ((Int × List Hnd) × List HRow) := y2 0 (z1.k2 N)
def z1.L1 (N : Nat) (n1 : Nat) (i : Int) (o00 : Int) (o01 : List zU) (o20 : Int) (o5 : List Hnd) (D : List HRow) : Option ((Int × List Hnd) × List HRow) := loopK [.mkrow (.boxc 2 1) 5 9 (.hnd yM), .keep [1, 2, 3, 4], .drop 3, .drop 4, .norm] (fun s k => XCode.runK (z1.env N) N z1.c1 s k) n1
 { t := jK 28 [(1, .one (.ptr 0 0 0)), (2, .one (.ptr 1 0 0)), (3, .one (.ptr 2 0 0)), (4, .one (.int .i64 i))], h := [.box 0 false [.int .i64 o00, .sl false (.list yM) o01], .box 0 false [cZ, .nil], .box 0 false [.int .i64 o20, .ref 5 0 .all], .absent 0, .absent 0, .row 0 false true 9 (.hnd yM) o5], d := D }
 (z1.k1 N)
theorem z1.L1_eq (N : Nat) (n1 : Nat) (i : Int) (o00 : Int) (o01 : List zU) (o20 : Int) (o5 : List Hnd) (D : List HRow) : z1.L1 N (n1 + 1) i o00 o01 o20 o5 D =
bif decide (i < (o01.length : Int)) then
bif zP i (o01.length) then
bif decide (List.length ([] : List (Int × Int × Int × Int)) + List.length (nth ([] : List (Int × Int × Int × Int)) o01 i) <= maxN) then
bif decide (o5.length + List.length ([(some (D.length, 0, List.length (([] : List (Int × Int × Int × Int)) ++ (nth ([] : List (Int × Int × Int × Int)) o01 i))) : Hnd)] : List Hnd) <= maxN) then
z1.L1 N n1 (IntKind.wrap .i64 (i + 1)) o00 o01 o20 (o5 ++ ([(some (D.length, 0, List.length (([] : List (Int × Int × Int × Int)) ++ (nth ([] : List (Int × Int × Int × Int)) o01 i))) : Hnd)] : List Hnd)) (D ++ [HRow.row 8 yM (([] : List (Int × Int × Int × Int)) ++ (nth ([] : List (Int × Int × Int × Int)) o01 i))])
else none
else none
else none
else
some ((o20, o5), D) := by kernel_rfl
theorem z1.H_eq (N : Nat) (m : Int × List zU) (D : List HRow) : z1.H N m D =
z1.L1 N N 0 m.1 m.2 m.1 ([] : List Hnd) D := by kernel_rfl
def z0.c1 : XCode := .seq (.seq (rG [mv 12 4, fA 13 2 1, lN 14 13 0, o1 15 .len 14, o2 16 (.bin .lss) 12 15]) (.cond (.slot 16) (.skip) (.exit 0))) (.seq (.block 1 (.region true [fA 19 2 3, lN 20 19 2, ow 21 (.buildSlice false 4 10 yW 0 [] [cZ, cZ, cZ]) [] [4] [4], fA 22 2 1, lN 23 22 0, mv 24 4, o2 25 (.indexAddr (.list yW)) 23 24, o1 26 (.load false 1) 25, ⟨some 27, .append false 4 10 yW, (sl [21, 26]), [4, 100], [4], none, false, .pub 4⟩, ow 28 (.buildSlice false 5 11 (.hnd yW) 1 [(0, 1)] [.nil]) [.slot 27] [5] [5], ow 29 (.append false 3 11 (.hnd yW)) (sl [20, 28]) [3, 5] [3], fA 30 2 3, sT 1 30 29 2])) (rG [mv 17 4, op 18 (.bin .add) [.slot 17, cI 1], mv 4 18]))
def z0.c2 : XCode := .seq (rG [ow 31 (.buildSlice false 6 15 yZ 0 [] [cZ, cZ, cZ, cZ, cZ]) [] [6] [6], fA 32 4 1, lN 33 32 0, ow 34 (.append false 6 15 yZ) (sl [31, 33]) [6] [6], fA 35 4 3, sT 1 35 34 2]) (.seq (rG [lU 36 7 3 2, sT 7 2 36 1]) (.ret))
def z0.x : XFunc := { nslots := 37, nobj := 7, pars := [.val true 7], rowsIn := no 7, rets := [.var 2 true 7], outs := [.imm, .imm, .own 11, .imm, .own 15, .imm, .imm], fresh := true, arg := .pair zBe T8_30, ret := .pair (.pair (.int .i64) (.list (.hnd yM))) T13_30, body := .seq (rG [ow 1 (.box 0) [.slot 0] [0] [0], ow 2 (.alloc 1 [cZ, .nil, .nil, cZ, .nil, cZ, .bool false]) [] [1] [1]]) (.seq (rG [lU 5 7 1 0, ow 3 (.alloc 2 [cZ, .nil, .nil, cZ, .nil, cZ, .bool false]) [] [2] [2], sT 7 3 5 2]) (.seq (rG [fA 6 0 1, lU 7 2 6 0, ow 8 (.callH false ⟨418, [.val true 2], no 2, [.val true 2], ims 2, true⟩) [.slot 7] [100] [100], fA 9 0 3, sT 2 9 8 2]) (.seq (rG [ow 10 (.buildSlice false 3 11 (.hnd yW) 0 [] [.nil]) [] [3] [3], fA 11 2 3, sT 1 11 10 2]) (.seq (.seq (rG [op 4 .move [cI 0]]) (.block 0 (.loop [.keep [1, 2, 3, 4], .drop 4, .drop 5, .drop 6, .norm] (z0.c1)))) (z0.c2))))), hp := true }
def z0.env (N : Nat) : Env := envOf (tbl [(418, z1.fs N)] noFS)
def z0.H (N : Nat) (x : (Int × List zU) × (List zp) × Int × zk × Int × Bool) (D : List HRow) : Option (D22_30 × List HRow) := XFunc.runH z0.x (z0.env N) N x D
def z0.fs (N : Nat) : FS := { arg := z0.x.arg, ret := z0.x.ret, fresh := true, F := fun _ => none, hp := true, H := z0.H N }
def z0.k2 (N : Nat) : Ex -> S -> Option (D22_30 × List HRow) := seqK (fun s => XCode.runK (z0.env N) N (z0.c2) s (XFunc.endKH z0.x)) (XFunc.endKH z0.x)
def z0.k1 (N : Nat) : Ex -> S -> Option (D22_30 × List HRow) := y2 0 (z0.k2 N)
def z0.L1 (N : Nat) (n1 : Nat) (i : Int) (o00 : Int) (o01 : List zU) (o02 : List zp) (o03 : Int) (o04 : zk) (o05 : Int) (o06 : Bool) (o20 : Int) (o21 : List Hnd) (o23 : Int) (o24 : zk) (o25 : Int) (o26 : Bool) (o3 : List Hnd) (D : List HRow) : Option (D22_30 × List HRow) := loopK [.keep [1, 2, 3, 4], .drop 4, .drop 5, .drop 6, .norm] (fun s k => XCode.runK (z0.env N) N z0.c1 s k) n1
 { t := jK 37 [(1, .one (.ptr 0 0 0)), (2, .one (.ptr 1 0 0)), (3, .one (.ptr 2 0 0)), (4, .one (.int .i64 i))], h := [.box 0 false [.int .i64 o00, .sl false (.list yM) o01, .sl false (.list yW) o02, .int .i64 o03, .sl false yZ o04, .int .i64 o05, .bool o06], .box 0 false [cZ, .nil, .nil, cZ, .nil, cZ, .bool false], .box 0 false [.int .i64 o20, .sl true (.hnd yM) o21, .ref 3 0 .all, .int .i64 o23, .sl false yZ o24, .int .i64 o25, .bool o26], .row 0 false true 11 (.hnd yW) o3, .absent 0, .absent 0, .absent 0], d := D }
 (z0.k1 N)
theorem z0.L1_eq (N : Nat) (n1 : Nat) (i : Int) (o00 : Int) (o01 : List zU) (o02 : List zp) (o03 : Int) (o04 : zk) (o05 : Int) (o06 : Bool) (o20 : Int) (o21 : List Hnd) (o23 : Int) (o24 : zk) (o25 : Int) (o26 : Bool) (o3 : List Hnd) (D : List HRow) : z0.L1 N (n1 + 1) i o00 o01 o02 o03 o04 o05 o06 o20 o21 o23 o24 o25 o26 o3 D =
bif decide (i < (o02.length : Int)) then
bif zP i (o02.length) then
bif decide (List.length ([] : List (Int × Int × Int)) + List.length (nth ([] : List (Int × Int × Int)) o02 i) <= maxN) then
bif decide (o3.length + List.length ([(some (D.length, 0, List.length (([] : List (Int × Int × Int)) ++ (nth ([] : List (Int × Int × Int)) o02 i))) : Hnd)] : List Hnd) <= maxN) then
z0.L1 N n1 (IntKind.wrap .i64 (i + 1)) o00 o01 o02 o03 o04 o05 o06 o20 o21 o23 o24 o25 o26 (o3 ++ ([(some (D.length, 0, List.length (([] : List (Int × Int × Int)) ++ (nth ([] : List (Int × Int × Int)) o02 i))) : Hnd)] : List Hnd)) (D ++ [HRow.row 10 yW (([] : List (Int × Int × Int)) ++ (nth ([] : List (Int × Int × Int)) o02 i))])
else none
else none
else none
else
bif decide (List.length ([] : List (Int × Int × Int × Int × Int)) + o04.length <= maxN) then
some (((o20, o21), (o3, (o23, (([] : List (Int × Int × Int × Int × Int)) ++ o04, (o25, o26))))), D)
else none := by kernel_rfl
theorem z0.H_eq (N : Nat) (e : (Int × List zU) × (List zp) × Int × zk × Int × Bool) (D : List HRow) : z0.H N e D =
bindO (z1.H N e.1 (hhide D)) fun r1 =>
z0.L1 N N 0 e.1.1 e.1.2 e.2.1 e.2.2.1 e.2.2.2.1 e.2.2.2.2.1 e.2.2.2.2.2 r1.1.1 r1.1.2 e.2.2.1 e.2.2.2.1 e.2.2.2.2.1 e.2.2.2.2.2 ([] : List Hnd) (zBI D r1.2) := by kernel_rfl
def yx.x : XFunc := { nslots := 16, nobj := 3, pars := [.val true 2, .val false 1], rowsIn := no 3, rets := [.var 4 true 7, .tmp 5 false 1], outs := iF 8, fresh := true, arg := .pair zBe (.list (.list yW)), ret := .pair (.pair (.pair (.int .i64) (.list (.hnd yM))) T13_30) (.bool), body := .seq (rG [ow 2 (.box 0) [.slot 0] [0] [0], ow 4 (.alloc 1 [cZ, .nil, .nil, cZ, .nil, cZ, .bool false]) [] [1] [1], op 5 .move [cB false]]) (.seq (rG [lU 7 2 2 0, mv 8 1, o2 9 (.build [cZ, .nil, .nil, cZ, .nil, cZ, .bool false] [(0, 2), (2, 1)]) 7 8, ow 6 (.alloc 2 [cZ, .nil, .nil, cZ, .nil, cZ, .bool false]) [] [2] [2], sT 7 6 9 2]) (.seq (.seq (rG [lU 10 7 6 2, o1 11 (.call ⟨291, [.val true 7], no 7, [.val false 1], ims 1, true⟩) 10, o1 12 .not 11]) (.cond (.slot 12) (.seq (rG [op 13 (.build [cZ, .nil, .nil, cZ, .nil, cZ, .bool false] []) [], sT 7 4 13 1, op 5 .move [cB false]]) (.ret)) (.skip))) (.seq (rG [lU 14 7 6 2, ow 15 (.callH false ⟨419, [.val true 7], no 7, [.val true 7], ims 7, true⟩) [.slot 14] [100] [100], sT 7 4 15 1, op 5 .move [cB true]]) (.ret)))), hp := true }
def yx.env (N : Nat) : Env := envOf (tbl [(291, zG.fs N), (419, z0.fs N)] noFS)
def yx.H (N : Nat) (x : (Int × List zU) × List zp) (D : List HRow) : Option ((D22_30 × Bool) × List HRow) := XFunc.runH yx.x (yx.env N) N x D
def yx.fs (N : Nat) : FS := { arg := yx.x.arg, ret := yx.x.ret, fresh := true, F := fun _ => none, hp := true, H := yx.H N }
theorem yx.H_eq (N : Nat) (m : Int × List zU) (macros : List zp) (D : List HRow) : yx.H N (m, macros) D =
bindO (zG.F N (m, (macros, (0, (([] : List (Int × Int × Int × Int × Int)), (0, false)))))) fun r1 =>
bif !r1 then
some ((((0, ([] : List Hnd)), (([] : List Hnd), (0, (([] : List (Int × Int × Int × Int × Int)), (0, false))))), false), D)
else
bindO (z0.H N (m, (macros, (0, (([] : List (Int × Int × Int × Int × Int)), (0, false))))) (hhide D)) fun r2 =>
some ((r2.1, true), zBI D r2.2) := by kernel_rfl
def yT.c1 : XCode := .seq (.seq (rG [mv 12 6, op 13 (.bin .gtr) [.slot 12, cI 0]]) (.cond (.slot 13) (.skip) (.exit 0))) (.seq (.block 1 (rG [mv 16 5, mv 17 0, ⟨some 18, .call ⟨159, [.box 0 3], no 3, [.val false 1], [.own 4 10, .imm, .imm, .imm], false⟩, [.slot 17], [0, 4, 100], [0, 4], none, false, .pub 4⟩, ow 19 (.buildSlice false 3 11 (.hnd yW) 1 [(0, 1)] [.nil]) [.slot 18] [3] [3], ow 20 (.append false 2 11 (.hnd yW)) (sl [16, 19]) [2, 3] [2], mv 5 20])) (rG [mv 14 6, op 15 (.bin .sub) [.slot 14, cI 1], mv 6 15]))
def yT.c2 : XCode := .seq (rG [mv 22 0, mv 23 1, ow 24 (.call ⟨150, [.box 0 3, .val false 1], no 4, [.val true 2], ims 5, false⟩) (sl [22, 23]) [0] [0], mv 25 5, ow 26 (.callH false ⟨294, [.val true 2, .val false 1], no 3, [.val true 7, .val false 1], ims 8, true⟩) (sl [24, 25]) [2, 100] [100], mv 21 26, eX 27 0 21, eX 28 1 21, ow 7 (.alloc 5 [cZ, .nil, .nil, cZ, .nil, cZ, .bool false]) [] [5] [5], sT 7 7 27 5, mv 8 28]) (.seq (rG [lU 29 7 7 5, sT 7 4 29 1]) (.ret))
def yT.x : XFunc := { nslots := 30, nobj := 6, pars := [.box 0 3, .val false 1], rowsIn := no 4, rets := [.var 4 true 7], outs := iF 10, fresh := false, arg := .pair zBF (.int .i64), ret := .pair (.pair (.pair (.int .i64) (.list (.hnd yM))) T13_30) zBF, body := .seq (rG [ow 4 (.alloc 1 [cZ, .nil, .nil, cZ, .nil, cZ, .bool false]) [] [1] [1]]) (.seq (rG [ow 9 (.buildSlice false 2 11 (.hnd yW) 0 [] [.nil]) [] [2] [2], mv 5 9]) (.seq (.seq (rG [mv 10 0, ow 11 (.call ⟨33, [.box 0 3, .val false 1], no 4, [.val false 1], ims 4, false⟩) [.slot 10, cI 4] [0] [0], mv 6 11]) (.block 0 (.loop [.keep [0, 1, 4, 5, 6], .drop 3, .drop 4, .drop 5, .norm] (yT.c1)))) (yT.c2))), hp := true }
def yT.env (N : Nat) : Env := envOf (tbl [(294, yx.fs N), (33, zC.fs N), (150, zJ.fs N), (159, yD.fs N)] noFS)
def yT.H (N : Nat) (x : ((List Int) × Int × Int) × Int) (D : List HRow) : Option ((D22_30 × (List Int) × Int × Int) × List HRow) := XFunc.runH yT.x (yT.env N) N x D
def yT.fs (N : Nat) : FS := { arg := yT.x.arg, ret := yT.x.ret, fresh := false, F := fun _ => none, hp := true, H := yT.H N }
def yT.k2 (N : Nat) : Ex -> S -> Option ((D22_30 × (List Int) × Int × Int) × List HRow) := seqK (fun s => XCode.runK (yT.env N) N (yT.c2) s (XFunc.endKH yT.x)) (XFunc.endKH yT.x)
def yT.k1 (N : Nat) : Ex -> S -> Option ((D22_30 × (List Int) × Int × Int) × List HRow) := y2 0 (yT.k2 N)
def yT.L1 (N : Nat) (n1 : Nat) (keys : Int) (n_ : Int) (c0 : List Int) (c1 : Int) (c2 : Int) (o2 : List Hnd) (D : List HRow) : Option ((D22_30 × (List Int) × Int × Int) × List HRow) := loopK [.keep [0, 1, 4, 5, 6], .drop 3, .drop 4, .drop 5, .norm] (fun s k => XCode.runK (yT.env N) N yT.c1 s k) n1
 { t := jK 30 [(0, .one (.ptr 0 0 0)), (1, .one (.int .i64 keys)), (4, .one (.ptr 1 0 0)), (5, .one (.ref 2 0 .all)), (6, .one (.int .i64 n_))], h := [.box 0 true [.sl false (.int .u8) c0, .int .i64 c1, .int .i64 c2], .box 0 false [cZ, .nil, .nil, cZ, .nil, cZ, .bool false], .row 0 false true 11 (.hnd yW) o2, .absent 0, .absent 0, .absent 0], d := D }
 (yT.k1 N)
theorem yT.L1_eq (N : Nat) (n1 : Nat) (keys : Int) (n_ : Int) (c0 : List Int) (c1 : Int) (c2 : Int) (o2 : List Hnd) (D : List HRow) : yT.L1 N (n1 + 1) keys n_ c0 c1 c2 o2 D =
bif decide (n_ > 0) then
bindO (yD.F N (c0, (c1, c2))) fun r2 =>
bif decide (o2.length + List.length ([(some (D.length, 0, List.length r2.1) : Hnd)] : List Hnd) <= maxN) then
yT.L1 N n1 keys (IntKind.wrap .i64 (n_ - 1)) r2.2.1 r2.2.2.1 r2.2.2.2 (o2 ++ ([(some (D.length, 0, List.length r2.1) : Hnd)] : List Hnd)) (D ++ [HRow.row 10 yW r2.1])
else none
else
bindO (zJ.F N ((c0, (c1, c2)), keys)) fun r3 =>
bif List.all o2 (Ty.unok D (.hnd yW)) then
bindO (yx.H N (r3.1, List.map (Ty.unden D (.hnd yW)) o2) (hhide D)) fun r4 =>
some ((r4.1.1, r3.2), zBI D r4.2)
else none := by kernel_rfl
theorem yT.H_eq (N : Nat) (c : (List Int) × Int × Int) (keys : Int) (D : List HRow) : yT.H N (c, keys) D =
bindO (zC.F N (c, 4)) fun r1 =>
yT.L1 N N keys r1.1 r1.2.1 r1.2.2.1 r1.2.2.2 ([] : List Hnd) D := by kernel_rfl
def yr.x : XFunc := { nslots := 12, nobj := 3, pars := [.box 0 3], rowsIn := no 3, rets := [.var 2 true 3], outs := iF 6, fresh := false, arg := .pair (.list (.int .u8)) zAj, ret := .pair yW zBF, body := .seq (rG [ow 2 (.alloc 1 [cZ, cZ, cZ]) [] [1] [1]]) (.seq (rG [mv 3 0, ow 4 (.call ⟨33, [.box 0 3, .val false 1], no 4, [.val false 1], ims 4, false⟩) [.slot 3, cI 9] [0] [0], op 5 (.bin .add) [cI 1, .slot 4], mv 6 0, op 7 (.buildSlice true 2 2 (.int .i64) 4 [(0, 1), (1, 1), (2, 1), (3, 1)] [cZ]) [cI 0, cI 0, cI 3, cI 6], ow 8 (.call ⟨46, [.box 0 3, .val false 1], no 4, [.val false 1], ims 4, false⟩) (sl [6, 7]) [0] [0], mv 9 0, ow 10 (.call ⟨33, [.box 0 3, .val false 1], no 4, [.val false 1], ims 4, false⟩) [.slot 9, cI 3] [0] [0], op 11 (.build [cZ, cZ, cZ] [(0, 1), (1, 1), (2, 1)]) (sl [5, 8, 10]), sT 3 2 11 1]) (.ret)) }
def yr.env (N : Nat) : Env := envOf (tbl [(33, zC.fs N), (46, zx.fs N)] noFS)
def yr.F (N : Nat) (x : (List Int) × Int × Int) : Option ((Int × Int × Int) × (List Int) × Int × Int) := XFunc.run yr.x (yr.env N) N x
def yr.fs (N : Nat) : FS := { arg := yr.x.arg, ret := yr.x.ret, fresh := false, F := yr.F N }
theorem yr.F_eq (N : Nat) (c : (List Int) × Int × Int) : yr.F N c =
bindO (zC.F N (c, 9)) fun r1 =>
bindO (zx.F N (r1.2, ([0, 0, 3, 6] : List Int))) fun r2 =>
bindO (zC.F N (r2.2, 3)) fun r3 =>
some ((IntKind.wrap .i64 (1 + r1.1), (r2.1, r3.1)), r3.2) := by kernel_rfl
def ym.x : XFunc := { nslots := 16, nobj := 1, pars := [.val true 3], rowsIn := no 3, rets := [.tmp 2 false 1], outs := [.imm], fresh := true, arg := .pair (.int .i64) zAj, ret := .bool, body := .seq (rG [ow 1 (.box 0) [.slot 0] [0] [0], op 2 .move [cB false]]) (.seq (rG [fA 3 0 1, lN 4 3 0, op 5 (.call ⟨1, vs 3, no 3, [.val false 1], ims 1, true⟩) [.slot 4, cI 1, cI 1000], sX 6 [.slot 5], gX 7 (.fieldAddr 1) [.slot 1] [] [] 6 true, gX 8 (.load false 1) [.slot 7] [0] [] 6 true, ⟨some 9, .call ⟨1, vs 3, no 3, [.val false 1], ims 1, true⟩, [.slot 8, cI 0, cI 1000], [], [], some (6, true), false, .none⟩, op 10 .pick [.slot 6, .slot 9, cB false], sX 11 [.slot 10], gX 12 (.fieldAddr 2) [.slot 1] [] [] 11 true, gX 13 (.load false 1) [.slot 12] [0] [] 11 true, ⟨some 14, .call ⟨1, vs 3, no 3, [.val false 1], ims 1, true⟩, [.slot 13, cI 0, cI 2], [], [], some (11, true), false, .none⟩, op 15 .pick [.slot 11, .slot 14, cB false], mv 2 15]) (.ret)) }
def ym.env (N : Nat) : Env := envOf (tbl [(1, zS.fs N)] noFS)
def ym.F (N : Nat) (x : Int × Int × Int) : Option Bool := XFunc.run ym.x (ym.env N) N x
def ym.fs (N : Nat) : FS := { arg := ym.x.arg, ret := ym.x.ret, fresh := true, F := ym.F N }
theorem ym.F_eq (N : Nat) (t : Int × Int × Int) : ym.F N t =
bindO (zS.F N (t.1, (1, 1000))) fun r1 =>
bif r1 then
bindO (zS.F N (t.2.1, (0, 1000))) fun r2 =>
bif r2 then
bindO (zS.F N (t.2.2, (0, 2))) fun r3 =>
some r3
else
some false
else
some false := by kernel_rfl
def zm.c1 : XCode := .seq (.seq (rG [mv 5 4, fA 6 4 1, lN 7 6 0, o1 8 .len 7, o2 9 (.bin .lss) 5 8]) (.cond (.slot 9) (.skip) (.exit 0))) (.seq (.block 1 (rG [mv 12 3, fA 13 4 1, lN 14 13 0, mv 15 4, o2 16 (.indexAddr yZ) 14 15, fA 17 0 16, o1 18 (.load false 1) 17, o1 19 (.call ⟨57, vs 1, no 1, [.val false 1], ims 1, true⟩) 18, o2 20 (.bin .or) 12 19, mv 3 20])) (rG [mv 10 4, op 11 (.bin .add) [.slot 10, cI 1], mv 4 11]))
def zm.c2 : XCode := .seq (rG [mv 21 3, mv 2 21]) (.ret)
def zm.x : XFunc := { nslots := 22, nobj := 1, pars := [.val true 7], rowsIn := no 7, rets := [.tmp 2 false 1], outs := [.imm], fresh := true, arg := .pair zBe T8_30, ret := .int .i64, body := .seq (rG [ow 1 (.box 0) [.slot 0] [0] [0], op 2 .move [cI 0]]) (.seq (rG [op 3 .move [cI 0]]) (.seq (.seq (rG [op 4 .move [cI 0]]) (.block 0 (.loop [.keep [1, 3, 4], .norm] (zm.c1)))) (zm.c2))) }
def zm.env (N : Nat) : Env := envOf (tbl [(57, y6.fs N)] noFS)
def zm.F (N : Nat) (x : (Int × List zU) × (List zp) × Int × zk × Int × Bool) : Option Int := XFunc.run zm.x (zm.env N) N x
def zm.fs (N : Nat) : FS := { arg := zm.x.arg, ret := zm.x.ret, fresh := true, F := zm.F N }
def zm.k2 (N : Nat) : Ex -> S -> Option Int := seqK (fun s => XCode.runK (zm.env N) N (zm.c2) s (XFunc.endK zm.x)) (XFunc.endK zm.x)
def zm.k1 (N : Nat) : Ex -> S -> Option Int := y2 0 (zm.k2 N)
def zm.L1 (N : Nat) (n1 : Nat) (held : Int) (i : Int) (o00 : Int) (o01 : List zU) (o02 : List zp) (o03 : Int) (o04 : zk) (o05 : Int) (o06 : Bool) : Option Int := loopK [.keep [1, 3, 4], .norm] (fun s k => XCode.runK (zm.env N) N zm.c1 s k) n1
 { t := jK 22 [(1, .one (.ptr 0 0 0)), (3, .one (.int .i64 held)), (4, .one (.int .i64 i))], h := [.box 0 false [.int .i64 o00, .sl false (.list yM) o01, .sl false (.list yW) o02, .int .i64 o03, .sl false yZ o04, .int .i64 o05, .bool o06]] }
 (zm.k1 N)
theorem zm.L1_eq (N : Nat) (n1 : Nat) (held : Int) (i : Int) (o00 : Int) (o01 : List zU) (o02 : List zp) (o03 : Int) (o04 : zk) (o05 : Int) (o06 : Bool) : zm.L1 N (n1 + 1) held i o00 o01 o02 o03 o04 o05 o06 =
bif decide (i < (o04.length : Int)) then
bif zP i (o04.length) then
bindO (y6.F N ((nth (0, (0, (0, (0, 0)))) o04 i).1)) fun r1 =>
zm.L1 N n1 (bitOr .i64 held r1) (IntKind.wrap .i64 (i + 1)) o00 o01 o02 o03 o04 o05 o06
else none
else
some held := by kernel_rfl
theorem zm.F_eq (N : Nat) (e : (Int × List zU) × (List zp) × Int × zk × Int × Bool) : zm.F N e =
zm.L1 N N 0 0 e.1.1 e.1.2 e.2.1 e.2.2.1 e.2.2.2.1 e.2.2.2.2.1 e.2.2.2.2.2 := by kernel_rfl
def yU.x : XFunc := { nslots := 72, nobj := 1, pars := [.val true 15], rowsIn := no 15, rets := [.tmp 2 false 1], outs := [.imm], fresh := true, arg := .pair zAk zBl, ret := .bool, body := .seq (rG [ow 1 (.box 0) [.slot 0] [0] [0], op 2 .move [cB false]]) (.seq (.seq (rG [fA 3 0 1, lU 4 7 3 0, o1 5 (.call ⟨291, [.val true 7], no 7, [.val false 1], ims 1, true⟩) 4, o1 6 .not 5, sX 7 [.slot 6], gX 8 (.fieldAddr 7) [.slot 1] [] [] 7 false, gX 9 (.load true 3) [.slot 8] [0] [] 7 false, ⟨some 10, .call ⟨296, [.val true 3], no 3, [.val false 1], ims 1, true⟩, [.slot 9], [], [], some (7, false), false, .none⟩, gX 11 .not [.slot 10] [] [] 7 false, op 12 .pick [.slot 7, cB true, .slot 11], sX 13 [.slot 12], gX 14 (.fieldAddr 11) [.slot 1] [] [] 13 false, gX 15 (.load false 1) [.slot 14] [0] [] 13 false, ⟨some 16, .call ⟨1, vs 3, no 3, [.val false 1], ims 1, true⟩, [.slot 15, cI 0, cI 1000000], [], [], some (13, false), false, .none⟩, gX 17 .not [.slot 16] [] [] 13 false, op 18 .pick [.slot 13, cB true, .slot 17], sX 19 [.slot 18], gX 20 (.fieldAddr 12) [.slot 1] [] [] 19 false, gX 21 (.load false 1) [.slot 20] [0] [] 19 false, gX 22 (.fieldAddr 11) [.slot 1] [] [] 19 false, gX 23 (.load false 1) [.slot 22] [0] [] 19 false, ⟨some 24, .call ⟨1, vs 3, no 3, [.val false 1], ims 1, true⟩, [.slot 21, cI 0, .slot 23], [], [], some (19, false), false, .none⟩, gX 25 .not [.slot 24] [] [] 19 false, op 26 .pick [.slot 19, cB true, .slot 25]]) (.cond (.slot 26) (.seq (rG [op 2 .move [cB false]]) (.ret)) (.skip))) (.seq (.seq (.region true [fA 27 10 1, lN 28 27 0, fA 29 0 1, lU 30 7 29 0, o1 31 (.call ⟨297, [.val true 7], no 7, [.val false 1], ims 1, true⟩) 30, fA 32 0 1, fA 33 0 32, fA 34 0 33, lN 35 34 0, op 36 (.call ⟨41, vs 4, no 4, [.val false 1], ims 1, true⟩) [.slot 28, .slot 31, .slot 35, cI 0], o1 37 .not 36, sX 38 [.slot 37], gX 39 (.fieldAddr 10) [.slot 1] [] [] 38 false, gX 40 (.load false 1) [.slot 39] [0] [] 38 false, gX 41 .len [.slot 40] [] [] 38 false, gX 42 (.bin .gtr) [.slot 41, cI 0] [] [] 38 false, ⟨some 43, .move, [.slot 42], [], [], some (38, false), true, .none⟩, gX 44 (.fieldAddr 10) [.slot 1] [] [] 43 true, gX 45 (.load false 1) [.slot 44] [0] [] 43 true, gX 46 (.fieldAddr 10) [.slot 1] [] [] 43 true, gX 47 (.load false 1) [.slot 46] [0] [] 43 true, gX 48 .len [.slot 47] [] [] 43 true, gX 49 (.bin .sub) [.slot 48, cI 1] [] [] 43 true, gX 50 (.indexAddr zAd) (sl [45, 49]) [] [] 43 true, gX 51 (.fieldAddr 0) [.slot 50] [] [] 43 true, gX 52 (.load false 1) [.slot 51] [] [] 43 true, gX 53 (.fieldAddr 11) [.slot 1] [] [] 43 true, gX 54 (.load false 1) [.slot 53] [0] [] 43 true, gX 55 (.bin .gtr) (sl [52, 54]) [] [] 43 true, gX 56 .pick [.slot 43, .slot 55, cB false] [] [] 38 false, op 57 .pick [.slot 38, cB true, .slot 56]]) (.cond (.slot 57) (.seq (rG [op 2 .move [cB false]]) (.ret)) (.skip))) (.seq (rG [fA 58 13 1, lN 59 58 0, fA 60 0 1, fA 61 0 60, fA 62 0 61, lN 63 62 0, op 64 (.call ⟨1, vs 3, no 3, [.val false 1], ims 1, true⟩) [.slot 59, cI 0, .slot 63], sX 65 [.slot 64], gX 66 (.fieldAddr 14) [.slot 1] [] [] 65 true, gX 67 (.load false 1) [.slot 66] [0] [] 65 true, gX 68 (.fieldAddr 11) [.slot 1] [] [] 65 true, gX 69 (.load false 1) [.slot 68] [0] [] 65 true, ⟨some 70, .call ⟨1, vs 3, no 3, [.val false 1], ims 1, true⟩, [.slot 67, cI 0, .slot 69], [], [], some (65, true), false, .none⟩, op 71 .pick [.slot 65, .slot 70, cB false], mv 2 71]) (.ret)))) }
def yU.env (N : Nat) : Env := envOf (tbl [(291, zG.fs N), (296, ym.fs N), (41, zW.fs N), (297, zm.fs N), (1, zS.fs N)] noFS)
def yU.F (N : Nat) (x : zAW × (Int × Int × Int) × zAQ × Int × Int × Int × Int) : Option Bool := XFunc.run yU.x (yU.env N) N x
def yU.fs (N : Nat) : FS := { arg := yU.x.arg, ret := yU.x.ret, fresh := true, F := yU.F N }
theorem yU.F_eq (N : Nat) (d : zAW × (Int × Int × Int) × zAQ × Int × Int × Int × Int) : yU.F N d =
bindO (zG.F N d.1) fun r1 =>
bif !r1 then
some false
else
bindO (ym.F N d.2.1) fun r2 =>
bif !r2 then
some false
else
bindO (zS.F N (d.2.2.2.1, (0, 1000000))) fun r3 =>
bif !r3 then
some false
else
bindO (zS.F N (d.2.2.2.2.1, (0, d.2.2.2.1))) fun r4 =>
bif !r4 then
some false
else
bindO (zm.F N d.1) fun r5 =>
bindO (zW.F N (d.2.2.1, (r5, (d.1.1.1, 0)))) fun r6 =>
bif !r6 then
some false
else
bif decide ((List.length d.2.2.1 : Int) > 0) then
bif zP (IntKind.wrap .i64 ((List.length d.2.2.1 : Int) - 1)) (List.length d.2.2.1) then
bif decide (((nth (0, (0, false)) d.2.2.1 (IntKind.wrap .i64 ((List.length d.2.2.1 : Int) - 1))).1) > d.2.2.2.1) then
some false
else
bindO (zS.F N (d.2.2.2.2.2.1, (0, d.1.1.1))) fun r7 =>
bif r7 then
bindO (zS.F N (d.2.2.2.2.2.2, (0, d.2.2.2.1))) fun r8 =>
some r8
else
some false
else none
else
bindO (zS.F N (d.2.2.2.2.2.1, (0, d.1.1.1))) fun r9 =>
bif r9 then
bindO (zS.F N (d.2.2.2.2.2.2, (0, d.2.2.2.1))) fun r10 =>
some r10
else
some false := by kernel_rfl
def yG.c1 : XCode := .seq (.seq (rG [mv 8 4, fA 9 1 1, lN 10 9 0, o1 11 .len 10, o2 12 (.bin .lss) 8 11]) (.cond (.slot 12) (.skip) (.exit 0))) (.seq (.block 1 (.region true [fA 15 1 3, lN 16 15 2, ow 17 (.buildSlice false 3 8 yM 0 [] [cZ, cZ, cZ, cZ]) [] [3] [3], fA 18 1 1, lN 19 18 0, mv 20 4, o2 21 (.indexAddr (.list yM)) 19 20, o1 22 (.load false 1) 21, ow 23 (.append true 3 8 yM) (sl [17, 22]) [3] [3], ow 24 (.buildSlice false 4 9 (.list yM) 1 [(0, 1)] [.nil]) [.slot 23] [4] [4], ow 25 (.append false 5 9 (.list yM)) (sl [16, 24]) [4, 5] [5], fA 26 1 3, sT 1 26 25 2])) (rG [mv 13 4, op 14 (.bin .add) [.slot 13, cI 1], mv 4 14]))
def yG.c2 : XCode := .seq (rG [lU 27 2 3 2, sT 2 2 27 1]) (.ret)
def yG.x : XFunc := { nslots := 28, nobj := 6, pars := [.val true 2], rowsIn := no 2, rets := [.var 2 true 2], outs := [.imm, .own 9], fresh := true, arg := .pair (.int .i64) (.list (.list yM)), ret := .pair (.int .i64) (.list (.list yM)), body := .seq (rG [ow 1 (.box 0) [.slot 0] [0] [0], ow 2 (.alloc 1 [cZ, .nil]) [] [1] [1]]) (.seq (rG [fA 5 0 1, lN 6 5 0, o1 7 (.build [cZ, .nil] [(0, 1)]) 6, ow 3 (.alloc 2 [cZ, .nil]) [] [2] [2], sT 2 3 7 2]) (.seq (.seq (rG [op 4 .move [cI 0]]) (.block 0 (.loop [.mkrow (.boxc 2 1) 5 9 (.list yM), .keep [1, 2, 3, 4], .drop 3, .drop 4, .norm] (yG.c1)))) (yG.c2))) }
def yG.env (_ : Nat) : Env := envOf (tbl [] noFS)
def yG.F (N : Nat) (x : Int × List zU) : Option (Int × List zU) := XFunc.run yG.x (yG.env N) N x
def yG.fs (N : Nat) : FS := { arg := yG.x.arg, ret := yG.x.ret, fresh := true, F := yG.F N }
def yG.k2 (N : Nat) : Ex -> S -> Option (Int × List zU) := seqK (fun s => XCode.runK (yG.env N) N (yG.c2) s (XFunc.endK yG.x)) (XFunc.endK yG.x)
def yG.k1 (N : Nat) : Ex -> S -> Option (Int × List zU) := y2 0 (yG.k2 N)
def yG.L1 (N : Nat) (n1 : Nat) (i : Int) (o00 : Int) (o01 : List zU) (o20 : Int) (o5 : List zU) : Option (Int × List zU) := loopK [.mkrow (.boxc 2 1) 5 9 (.list yM), .keep [1, 2, 3, 4], .drop 3, .drop 4, .norm] (fun s k => XCode.runK (yG.env N) N yG.c1 s k) n1
 { t := jK 28 [(1, .one (.ptr 0 0 0)), (2, .one (.ptr 1 0 0)), (3, .one (.ptr 2 0 0)), (4, .one (.int .i64 i))], h := [.box 0 false [.int .i64 o00, .sl false (.list yM) o01], .box 0 false [cZ, .nil], .box 0 false [.int .i64 o20, .ref 5 0 .all], .absent 0, .absent 0, .row 0 false true 9 (.list yM) o5] }
 (yG.k1 N)
theorem yG.L1_eq (N : Nat) (n1 : Nat) (i : Int) (o00 : Int) (o01 : List zU) (o20 : Int) (o5 : List zU) : yG.L1 N (n1 + 1) i o00 o01 o20 o5 =
bif decide (i < (o01.length : Int)) then
bif zP i (o01.length) then
bif decide (List.length ([] : List (Int × Int × Int × Int)) + List.length (nth ([] : List (Int × Int × Int × Int)) o01 i) <= maxN) then
bif decide (o5.length + List.length ([([] : List (Int × Int × Int × Int)) ++ (nth ([] : List (Int × Int × Int × Int)) o01 i)] : List zU) <= maxN) then
yG.L1 N n1 (IntKind.wrap .i64 (i + 1)) o00 o01 o20 (o5 ++ ([([] : List (Int × Int × Int × Int)) ++ (nth ([] : List (Int × Int × Int × Int)) o01 i)] : List zU))
else none
else none
else none
else
some (o20, o5) := by kernel_rfl
theorem yG.F_eq (N : Nat) (m : Int × List zU) : yG.F N m =
yG.L1 N N 0 m.1 m.2 m.1 ([] : List zU) := by kernel_rfl
def zn.c1 : XCode := .seq (.seq (rG [mv 12 4, fA 13 2 1, lN 14 13 0, o1 15 .len 14, o2 16 (.bin .lss) 12 15]) (.cond (.slot 16) (.skip) (.exit 0))) (.seq (.block 1 (.region true [fA 19 2 3, lN 20 19 2, ow 21 (.buildSlice false 4 10 yW 0 [] [cZ, cZ, cZ]) [] [4] [4], fA 22 2 1, lN 23 22 0, mv 24 4, o2 25 (.indexAddr (.list yW)) 23 24, o1 26 (.load false 1) 25, ow 27 (.append true 4 10 yW) (sl [21, 26]) [4] [4], ow 28 (.buildSlice false 5 11 (.list yW) 1 [(0, 1)] [.nil]) [.slot 27] [5] [5], ow 29 (.append false 3 11 (.list yW)) (sl [20, 28]) [3, 5] [3], fA 30 2 3, sT 1 30 29 2])) (rG [mv 17 4, op 18 (.bin .add) [.slot 17, cI 1], mv 4 18]))
def zn.c2 : XCode := .seq (rG [ow 31 (.buildSlice false 6 15 yZ 0 [] [cZ, cZ, cZ, cZ, cZ]) [] [6] [6], fA 32 4 1, lN 33 32 0, ow 34 (.append false 6 15 yZ) (sl [31, 33]) [6] [6], fA 35 4 3, sT 1 35 34 2]) (.seq (rG [lU 36 7 3 2, sT 7 2 36 1]) (.ret))
def zn.x : XFunc := { nslots := 37, nobj := 7, pars := [.val true 7], rowsIn := no 7, rets := [.var 2 true 7], outs := [.imm, .imm, .own 11, .imm, .own 15, .imm, .imm], fresh := true, arg := .pair zBe T8_30, ret := .pair zBe T8_30, body := .seq (rG [ow 1 (.box 0) [.slot 0] [0] [0], ow 2 (.alloc 1 [cZ, .nil, .nil, cZ, .nil, cZ, .bool false]) [] [1] [1]]) (.seq (rG [lU 5 7 1 0, ow 3 (.alloc 2 [cZ, .nil, .nil, cZ, .nil, cZ, .bool false]) [] [2] [2], sT 7 3 5 2]) (.seq (rG [fA 6 0 1, lU 7 2 6 0, o1 8 (.call ⟨292, [.val true 2], no 2, [.val true 2], ims 2, true⟩) 7, fA 9 0 3, sT 2 9 8 2]) (.seq (rG [ow 10 (.buildSlice false 3 11 (.list yW) 0 [] [.nil]) [] [3] [3], fA 11 2 3, sT 1 11 10 2]) (.seq (.seq (rG [op 4 .move [cI 0]]) (.block 0 (.loop [.keep [1, 2, 3, 4], .drop 4, .drop 5, .drop 6, .norm] (zn.c1)))) (zn.c2))))) }
def zn.env (N : Nat) : Env := envOf (tbl [(292, yG.fs N)] noFS)
def zn.F (N : Nat) (x : (Int × List zU) × (List zp) × Int × zk × Int × Bool) : Option zAW := XFunc.run zn.x (zn.env N) N x
def zn.fs (N : Nat) : FS := { arg := zn.x.arg, ret := zn.x.ret, fresh := true, F := zn.F N }
def zn.k2 (N : Nat) : Ex -> S -> Option zAW := seqK (fun s => XCode.runK (zn.env N) N (zn.c2) s (XFunc.endK zn.x)) (XFunc.endK zn.x)
def zn.k1 (N : Nat) : Ex -> S -> Option zAW := y2 0 (zn.k2 N)
def zn.L1 (N : Nat) (n1 : Nat) (i : Int) (o00 : Int) (o01 : List zU) (o02 : List zp) (o03 : Int) (o04 : zk) (o05 : Int) (o06 : Bool) (o20 : Int) (o21 : List zU) (o23 : Int) (o24 : zk) (o25 : Int) (o26 : Bool) (o3 : List zp) : Option zAW := loopK [.keep [1, 2, 3, 4], .drop 4, .drop 5, .drop 6, .norm] (fun s k => XCode.runK (zn.env N) N zn.c1 s k) n1
 { t := jK 37 [(1, .one (.ptr 0 0 0)), (2, .one (.ptr 1 0 0)), (3, .one (.ptr 2 0 0)), (4, .one (.int .i64 i))], h := [.box 0 false [.int .i64 o00, .sl false (.list yM) o01, .sl false (.list yW) o02, .int .i64 o03, .sl false yZ o04, .int .i64 o05, .bool o06], .box 0 false [cZ, .nil, .nil, cZ, .nil, cZ, .bool false], .box 0 false [.int .i64 o20, .sl true (.list yM) o21, .ref 3 0 .all, .int .i64 o23, .sl false yZ o24, .int .i64 o25, .bool o26], .row 0 false true 11 (.list yW) o3, .absent 0, .absent 0, .absent 0] }
 (zn.k1 N)
theorem zn.L1_eq (N : Nat) (n1 : Nat) (i : Int) (o00 : Int) (o01 : List zU) (o02 : List zp) (o03 : Int) (o04 : zk) (o05 : Int) (o06 : Bool) (o20 : Int) (o21 : List zU) (o23 : Int) (o24 : zk) (o25 : Int) (o26 : Bool) (o3 : List zp) : zn.L1 N (n1 + 1) i o00 o01 o02 o03 o04 o05 o06 o20 o21 o23 o24 o25 o26 o3 =
bif decide (i < (o02.length : Int)) then
bif zP i (o02.length) then
bif decide (List.length ([] : List (Int × Int × Int)) + List.length (nth ([] : List (Int × Int × Int)) o02 i) <= maxN) then
bif decide (o3.length + List.length ([([] : List (Int × Int × Int)) ++ (nth ([] : List (Int × Int × Int)) o02 i)] : List zp) <= maxN) then
zn.L1 N n1 (IntKind.wrap .i64 (i + 1)) o00 o01 o02 o03 o04 o05 o06 o20 o21 o23 o24 o25 o26 (o3 ++ ([([] : List (Int × Int × Int)) ++ (nth ([] : List (Int × Int × Int)) o02 i)] : List zp))
else none
else none
else none
else
bif decide (List.length ([] : List (Int × Int × Int × Int × Int)) + o04.length <= maxN) then
some ((o20, o21), (o3, (o23, (([] : List (Int × Int × Int × Int × Int)) ++ o04, (o25, o26)))))
else none := by kernel_rfl
theorem zn.F_eq (N : Nat) (e : (Int × List zU) × (List zp) × Int × zk × Int × Bool) : zn.F N e =
bindO (yG.F N e.1) fun r1 =>
zn.L1 N N 0 e.1.1 e.1.2 e.2.1 e.2.2.1 e.2.2.2.1 e.2.2.2.2.1 e.2.2.2.2.2 r1.1 r1.2 e.2.2.1 e.2.2.2.1 e.2.2.2.2.1 e.2.2.2.2.2 ([] : List zp) := by kernel_rfl
def yg.x : XFunc := { nslots := 18, nobj := 4, pars := [.val true 7, .val true 3], rowsIn := no 10, rets := [.var 4 true 15, .tmp 5 false 1], outs := iF 16, fresh := true, arg := .pair zAk yW, ret := .pair (.pair zAk zBl) (.bool), body := .seq (rG [ow 2 (.box 0) [.slot 0] [0] [0], ow 3 (.box 1) [.slot 1] [1] [1], ow 4 (.alloc 2 [cZ, .nil, .nil, cZ, .nil, cZ, .bool false, cZ, cZ, cZ, .nil, cZ, cZ, cZ, cZ]) [] [2] [2], op 5 .move [cB false]]) (.seq (rG [lU 7 7 2 0, lU 8 3 3 1, o2 9 (.build [cZ, .nil, .nil, cZ, .nil, cZ, .bool false, cZ, cZ, cZ, .nil, cZ, cZ, cZ, cZ] [(0, 7), (7, 3)]) 7 8, ow 6 (.alloc 3 [cZ, .nil, .nil, cZ, .nil, cZ, .bool false, cZ, cZ, cZ, .nil, cZ, cZ, cZ, cZ]) [] [3] [3], sT 15 6 9 3]) (.seq (.seq (rG [lU 10 15 6 3, o1 11 (.call ⟨298, [.val true 15], no 15, [.val false 1], ims 1, true⟩) 10, o1 12 .not 11]) (.cond (.slot 12) (.seq (rG [op 13 (.build [cZ, .nil, .nil, cZ, .nil, cZ, .bool false, cZ, cZ, cZ, .nil, cZ, cZ, cZ, cZ] []) [], sT 15 4 13 2, op 5 .move [cB false]]) (.ret)) (.skip))) (.seq (rG [lU 14 7 2 0, o1 15 (.call ⟨293, [.val true 7], no 7, [.val true 7], ims 7, true⟩) 14, fA 16 0 6, sT 7 16 15 3]) (.seq (rG [lU 17 15 6 3, sT 15 4 17 2, op 5 .move [cB true]]) (.ret))))) }
def yg.env (N : Nat) : Env := envOf (tbl [(298, yU.fs N), (293, zn.fs N)] noFS)
def yg.F (N : Nat) (x : zAW × Int × Int × Int) : Option (zBK × Bool) := XFunc.run yg.x (yg.env N) N x
def yg.fs (N : Nat) : FS := { arg := yg.x.arg, ret := yg.x.ret, fresh := true, F := yg.F N }
theorem yg.F_eq (N : Nat) (e : (Int × List zU) × (List zp) × Int × zk × Int × Bool) (t : Int × Int × Int) : yg.F N (e, t) =
bindO (yU.F N (e, (t, (([] : List (Int × Int × Bool)), (0, (0, (0, 0))))))) fun r1 =>
bif !r1 then
some ((((0, ([] : List zU)), (([] : List zp), (0, (([] : List (Int × Int × Int × Int × Int)), (0, false))))), ((0, (0, 0)), (([] : List (Int × Int × Bool)), (0, (0, (0, 0)))))), false)
else
bindO (zn.F N e) fun r2 =>
some ((r2, (t, (([] : List (Int × Int × Bool)), (0, (0, (0, 0)))))), true) := by kernel_rfl
def yF.c1 : XCode := .seq (.seq (rG [mv 12 6, mv 13 1, o2 14 (.bin .lss) 12 13]) (.cond (.slot 14) (.skip) (.exit 0))) (.seq (.block 1 (.seq (rG [mv 17 0, ow 18 (.call ⟨102, [.box 0 3, .val false 1], no 4, [.val false 1], ims 4, false⟩) [.slot 17, cI 2] [0] [0]]) (.cond (.slot 18) (.region true [fA 19 0 5, fA 20 1 19, lN 21 20 2, op 22 (.indexAddr (.hnd yM)) [.slot 21, cI 0], ⟨some 23, .load false 1, [.slot 22], [3, 100], [], none, false, .take 3 8 0⟩, mv 24 6, mv 25 0, ow 26 (.call ⟨33, [.box 0 3, .val false 1], no 4, [.val false 1], ims 4, false⟩) [.slot 25, cI 40] [0] [0], op 27 (.bin .add) [cI 1, .slot 26], mv 28 0, ow 29 (.call ⟨33, [.box 0 3, .val false 1], no 4, [.val false 1], ims 4, false⟩) [.slot 28, cI 15] [0] [0], op 30 (.bin .add) [cI 1, .slot 29], op 31 (.build [cZ, cZ, cZ, cZ] [(0, 1), (1, 1), (2, 1)]) [cI 6, .slot 27, .slot 30], ow 32 (.indexAddr yM) (sl [23, 24]) [3] [], sT 4 32 31 3]) (.skip)))) (rG [mv 15 6, op 16 (.bin .add) [.slot 15, cI 1], mv 6 16]))
def yF.c2 : XCode := .seq (.region true [lU 34 7 5 2, mv 35 0, ow 36 (.call ⟨169, [.box 0 3], no 3, [.val true 3], ims 6, false⟩) [.slot 35] [0] [0], ow 37 (.call ⟨299, [.val true 7, .val true 3], no 10, [.val true 15, .val false 1], ims 16, true⟩) (sl [34, 36]) [100] [], mv 33 37, eX 38 0 33, eX 39 1 33, ow 7 (.alloc 4 [cZ, .nil, .nil, cZ, .nil, cZ, .bool false, cZ, cZ, cZ, .nil, cZ, cZ, cZ, cZ]) [] [4] [4], sT 15 7 38 4, mv 8 39]) (.seq (rG [lU 40 15 7 4, sT 15 4 40 1]) (.ret))
def yF.x : XFunc := { nslots := 41, nobj := 5, pars := [.box 0 3, .val false 1], rowsIn := no 4, rets := [.var 4 true 15], outs := iF 18, fresh := false, arg := .pair zBF (.int .i64), ret := .pair (.pair zAk zBl) zBF, body := .seq (rG [ow 4 (.alloc 1 [cZ, .nil, .nil, cZ, .nil, cZ, .bool false, cZ, cZ, cZ, .nil, cZ, cZ, cZ, cZ]) [] [1] [1]]) (.seq (rG [mv 9 0, mv 10 1, ow 11 (.callH false ⟨295, [.box 0 3, .val false 1], no 4, [.val true 7], ims 10, false⟩) (sl [9, 10]) [0, 100] [0, 100], ow 5 (.alloc 2 [cZ, .nil, .nil, cZ, .nil, cZ, .bool false]) [] [2] [2], sT 7 5 11 2]) (.seq (.seq (rG [op 6 .move [cI 0]]) (.block 0 (.loop [.hput 3, .keep [0, 1, 4, 5, 6], .drop 3, .drop 4, .norm] (yF.c1)))) (yF.c2))), hp := true }
def yF.env (N : Nat) : Env := envOf (tbl [(299, yg.fs N), (169, yr.fs N), (33, zC.fs N), (102, ye.fs N), (295, yT.fs N)] noFS)
def yF.H (N : Nat) (x : ((List Int) × Int × Int) × Int) (D : List HRow) : Option ((zBK × (List Int) × Int × Int) × List HRow) := XFunc.runH yF.x (yF.env N) N x D
def yF.fs (N : Nat) : FS := { arg := yF.x.arg, ret := yF.x.ret, fresh := false, F := fun _ => none, hp := true, H := yF.H N }
def yF.k2 (N : Nat) : Ex -> S -> Option ((zBK × (List Int) × Int × Int) × List HRow) := seqK (fun s => XCode.runK (yF.env N) N (yF.c2) s (XFunc.endKH yF.x)) (XFunc.endKH yF.x)
def yF.k1 (N : Nat) : Ex -> S -> Option ((zBK × (List Int) × Int × Int) × List HRow) := y2 0 (yF.k2 N)
def yF.L1 (N : Nat) (n1 : Nat) (keys : Int) (k_ : Int) (c0 : List Int) (c1 : Int) (c2 : Int) (o20 : Int) (o21 : List Hnd) (o22 : List Hnd) (o23 : Int) (o24 : zk) (o25 : Int) (o26 : Bool) (D : List HRow) : Option ((zBK × (List Int) × Int × Int) × List HRow) := loopK [.hput 3, .keep [0, 1, 4, 5, 6], .drop 3, .drop 4, .norm] (fun s k => XCode.runK (yF.env N) N yF.c1 s k) n1
 { t := jK 41 [(0, .one (.ptr 0 0 0)), (1, .one (.int .i64 keys)), (4, .one (.ptr 1 0 0)), (5, .one (.ptr 2 0 0)), (6, .one (.int .i64 k_))], h := [.box 0 true [.sl false (.int .u8) c0, .int .i64 c1, .int .i64 c2], .box 0 false [cZ, .nil, .nil, cZ, .nil, cZ, .bool false, cZ, cZ, cZ, .nil, cZ, cZ, cZ, cZ], .box 0 false [.int .i64 o20, .sl false (.hnd yM) o21, .sl false (.hnd yW) o22, .int .i64 o23, .sl false yZ o24, .int .i64 o25, .bool o26], .absent 0, .absent 0], d := D }
 (yF.k1 N)
theorem yF.L1_eq (N : Nat) (n1 : Nat) (keys : Int) (k_ : Int) (c0 : List Int) (c1 : Int) (c2 : Int) (o20 : Int) (o21 : List Hnd) (o22 : List Hnd) (o23 : Int) (o24 : zk) (o25 : Int) (o26 : Bool) (D : List HRow) : yF.L1 N (n1 + 1) keys k_ c0 c1 c2 o20 o21 o22 o23 o24 o25 o26 D =
bif decide (k_ < keys) then
bindO (ye.F N ((c0, (c1, c2)), 2)) fun r2 =>
bif r2.1 then
bif zP 0 (o21.length) then
bif hfull D 8 yM (nth (none : Hnd) o21 0) then
bindO (zC.F N (r2.2, 40)) fun r3 =>
bindO (zC.F N (r3.2, 15)) fun r4 =>
bif zP k_ (List.length (hcut D yM (nth (none : Hnd) o21 0))) then
yF.L1 N n1 keys (IntKind.wrap .i64 (k_ + 1)) r4.2.1 r4.2.2.1 r4.2.2.2 o20 o21 o22 o23 o24 o25 o26 (hput (hgone D (nth (none : Hnd) o21 0)) (nth (none : Hnd) o21 0) 8 yM (List.set (hcut D yM (nth (none : Hnd) o21 0)) (Int.toNat k_) (6, (IntKind.wrap .i64 (1 + r3.1), (IntKind.wrap .i64 (1 + r4.1), 0)))))
else none
else none
else none
else
yF.L1 N n1 keys (IntKind.wrap .i64 (k_ + 1)) r2.2.1 r2.2.2.1 r2.2.2.2 o20 o21 o22 o23 o24 o25 o26 D
else
bindO (yr.F N (c0, (c1, c2))) fun r5 =>
bif (List.all o21 (Ty.unok D (.hnd yM))) && (List.all o22 (Ty.unok D (.hnd yW))) then
bindO (yg.F N (((o20, List.map (Ty.unden D (.hnd yM)) o21), (List.map (Ty.unden D (.hnd yW)) o22, (o23, (o24, (o25, o26))))), r5.1)) fun r6 =>
some ((r6.1, r5.2), D)
else none := by kernel_rfl
theorem yF.H_eq (N : Nat) (c : (List Int) × Int × Int) (keys : Int) (D : List HRow) : yF.H N (c, keys) D =
bindO (yT.H N (c, keys) (hhide D)) fun r1 =>
yF.L1 N N keys 0 r1.1.2.1 r1.1.2.2.1 r1.1.2.2.2 r1.1.1.1.1 r1.1.1.1.2 r1.1.1.2.1 r1.1.1.2.2.1 r1.1.1.2.2.2.1 r1.1.1.2.2.2.2.1 r1.1.1.2.2.2.2.2 (zBI D r1.2) := by kernel_rfl
def yE.c1 : XCode := .seq (.seq (rG [mv 19 12, op 20 (.bin .gtr) [.slot 19, cI 0]]) (.cond (.slot 20) (.skip) (.exit 0))) (.seq (.block 1 (.seq (rG [mv 23 10, mv 24 0, mv 25 3, op 26 (.bin .quo) [.slot 25, cI 3], mv 27 3, op 28 (.bin .sub) [.slot 27, cI 1], mv 29 3, mv 30 3, op 31 (.bin .add) [.slot 30, cI 1], mv 32 3, op 33 (.bin .quo) [.slot 32, cI 2], op 34 (.buildSlice true 2 2 (.int .i64) 8 [(0, 1), (1, 1), (2, 1), (3, 1), (4, 1), (5, 1), (6, 1), (7, 1)] [cZ]) [cI 0, cI 0, cI 1, .slot 26, .slot 28, .slot 29, .slot 31, .slot 33], ow 35 (.call ⟨46, [.box 0 3, .val false 1], no 4, [.val false 1], ims 4, false⟩) (sl [24, 34]) [0] [0], o2 36 (.bin .add) 23 35, mv 10 36]) (.seq (rG [mv 37 0, mv 38 1, ow 39 (.call ⟨33, [.box 0 3, .val false 1], no 4, [.val false 1], ims 4, false⟩) (sl [37, 38]) [0] [0], mv 13 39]) (.seq (rG [mv 40 11, mv 41 13, op 42 (.bin .shl) [cI 1, .slot 41], o2 43 (.bin .xor) 40 42, mv 11 43]) (rG [mv 44 9, mv 45 10, mv 46 13, mv 47 11, mv 48 13, o2 49 (.bin .shr) 47 48, op 50 (.bin .and) [.slot 49, cI 1], op 51 (.bin .eql) [.slot 50, cI 1], op 52 (.build [cZ, cZ, .bool false] [(0, 1), (1, 1), (2, 1)]) (sl [45, 46, 51]), ow 53 (.buildSlice false 3 4 zAd 1 [(0, 3)] [cZ, cZ, .bool false]) [.slot 52] [3] [3], ow 54 (.append false 1 4 zAd) (sl [44, 53]) [1, 3] [1], mv 9 54]))))) (rG [mv 21 12, op 22 (.bin .sub) [.slot 21, cI 1], mv 12 22]))
def yE.c2 : XCode := .seq (rG [mv 55 9, mv 8 55]) (.ret)
def yE.x : XFunc := { nslots := 56, nobj := 4, pars := [.box 0 3, .val false 1, .val false 1, .val false 1], rowsIn := no 6, rets := [.tmp 8 false 1], outs := [.own 4, .imm, .imm, .imm], fresh := false, arg := .pair zBF yW, ret := .pair (.list zAd) zBF, body := .seq (rG [op 8 .move [.const (.one (.nil))]]) (.seq (rG [ow 14 (.buildSlice false 1 4 zAd 0 [] [cZ, cZ, .bool false]) [] [1] [1], mv 9 14]) (.seq (rG [op 10 .move [cI 0]]) (.seq (rG [op 11 .move [cI 0]]) (.seq (.seq (rG [mv 15 0, mv 16 2, op 17 (.bin .add) [.slot 16, cI 1], ow 18 (.call ⟨33, [.box 0 3, .val false 1], no 4, [.val false 1], ims 4, false⟩) (sl [15, 17]) [0] [0], mv 12 18]) (.block 0 (.loop [.keep [0, 1, 3, 9, 10, 11, 12], .drop 2, .drop 3, .norm] (yE.c1)))) (yE.c2))))) }
def yE.env (N : Nat) : Env := envOf (tbl [(33, zC.fs N), (46, zx.fs N)] noFS)
def yE.F (N : Nat) (x : ((List Int) × Int × Int) × Int × Int × Int) : Option D25_30 := XFunc.run yE.x (yE.env N) N x
def yE.fs (N : Nat) : FS := { arg := yE.x.arg, ret := yE.x.ret, fresh := false, F := yE.F N }
def yE.k2 (N : Nat) : Ex -> S -> Option D25_30 := seqK (fun s => XCode.runK (yE.env N) N (yE.c2) s (XFunc.endK yE.x)) (XFunc.endK yE.x)
def yE.k1 (N : Nat) : Ex -> S -> Option D25_30 := y2 0 (yE.k2 N)
def yE.L1 (N : Nat) (n1 : Nat) (keys : Int) (wide : Int) (time : Int) (held : Int) (n_ : Int) (c0 : List Int) (c1 : Int) (c2 : Int) (o1 : zAQ) : Option D25_30 := loopK [.keep [0, 1, 3, 9, 10, 11, 12], .drop 2, .drop 3, .norm] (fun s k => XCode.runK (yE.env N) N yE.c1 s k) n1
 { t := jK 56 [(0, .one (.ptr 0 0 0)), (1, .one (.int .i64 keys)), (3, .one (.int .i64 wide)), (9, .one (.ref 1 0 .all)), (10, .one (.int .i64 time)), (11, .one (.int .i64 held)), (12, .one (.int .i64 n_))], h := [.box 0 true [.sl false (.int .u8) c0, .int .i64 c1, .int .i64 c2], .row 0 false true 4 zAd o1, .absent 0, .absent 0] }
 (yE.k1 N)
theorem yE.L1_eq (N : Nat) (n1 : Nat) (keys : Int) (wide : Int) (time : Int) (held : Int) (n_ : Int) (c0 : List Int) (c1 : Int) (c2 : Int) (o1 : zAQ) : yE.L1 N (n1 + 1) keys wide time held n_ c0 c1 c2 o1 =
bif decide (n_ > 0) then
bindO (zx.F N ((c0, (c1, c2)), ([0, 0, 1, quoI .i64 wide 3, IntKind.wrap .i64 (wide - 1), wide, IntKind.wrap .i64 (wide + 1), quoI .i64 wide 2] : List Int))) fun r2 =>
bindO (zC.F N (r2.2, keys)) fun r3 =>
bif decide (0 <= r3.1) then
bif decide (0 <= r3.1) then
bif decide (o1.length + List.length ([(IntKind.wrap .i64 (time + r2.1), (r3.1, (zAe .i64 (zAs .i64 (zAn .i64 held (zAb .i64 1 r3.1)) r3.1) 1) == 1))] : List (Int × Int × Bool)) <= maxN) then
yE.L1 N n1 keys wide (IntKind.wrap .i64 (time + r2.1)) (zAn .i64 held (zAb .i64 1 r3.1)) (IntKind.wrap .i64 (n_ - 1)) r3.2.1 r3.2.2.1 r3.2.2.2 (o1 ++ ([(IntKind.wrap .i64 (time + r2.1), (r3.1, (zAe .i64 (zAs .i64 (zAn .i64 held (zAb .i64 1 r3.1)) r3.1) 1) == 1))] : List (Int × Int × Bool)))
else none
else none
else none
else
some (o1, (c0, (c1, c2))) := by kernel_rfl
theorem yE.F_eq (N : Nat) (c : (List Int) × Int × Int) (keys : Int) (most : Int) (wide : Int) : yE.F N (c, keys, most, wide) =
bindO (zC.F N (c, IntKind.wrap .i64 (most + 1))) fun r1 =>
yE.L1 N N keys wide 0 0 r1.1 r1.2.1 r1.2.2.1 r1.2.2.2 ([] : List (Int × Int × Bool)) := by kernel_rfl
def zc.c1 : XCode := .seq (.seq (rG [mv 11 6, mv 12 1, o1 13 .len 12, o2 14 (.bin .lss) 11 13, sX 15 [.slot 14], gX 16 .move [.slot 1] [] [] 15 true, ⟨some 17, .call ⟨286, vs 1, no 1, [.val false 1], ims 1, true⟩, [.slot 16], [], [], some (15, true), false, .none⟩, op 18 .pick [.slot 15, .slot 17, cB false]]) (.cond (.slot 18) (.skip) (.exit 0))) (.seq (.block 1 (.seq (rG [mv 21 1, mv 22 6, o2 23 (.indexAddr yZ) 21 22, fA 24 1 23, fA 25 0 24, o1 26 (.load false 1) 25, op 27 (.bin .eql) [.slot 26, cI 3]]) (.cond (.slot 27) (rG [mv 28 5, mv 29 1, mv 30 6, o2 31 (.indexAddr yZ) 29 30, fA 32 1 31, fA 33 3 32, o1 34 (.load false 1) 33, op 35 (.bin .shl) [cI 1, .slot 34], o2 36 (.bin .or) 28 35, mv 5 36]) (.skip)))) (rG [mv 19 6, op 20 (.bin .add) [.slot 19, cI 1], mv 6 20]))
def zc.c2 : XCode := .seq (rG [mv 37 5, mv 4 37]) (.ret)
def zc.x : XFunc := { nslots := 38, nobj := 0, pars := [.val false 1, .val false 1], rowsIn := no 2, rets := [.tmp 4 false 1], outs := [.imm], fresh := true, arg := .pair (.int .i64) (.list yZ), ret := .int .i64, body := .seq (rG [op 4 .move [cI 0]]) (.seq (rG [op 5 .move [cI 1]]) (.seq (.seq (rG [mv 7 0, op 8 (.call ⟨1, vs 3, no 3, [.val false 1], ims 1, true⟩) [.slot 7, cI 0, cI 15]]) (.cond (.slot 8) (rG [mv 9 0, op 10 (.bin .or) [cI 1, .slot 9], mv 5 10]) (.skip))) (.seq (.seq (rG [op 6 .move [cI 0]]) (.block 0 (.loop [.keep [1, 5, 6], .norm] (zc.c1)))) (zc.c2)))) }
def zc.env (N : Nat) : Env := envOf (tbl [(286, zr.fs N), (1, zS.fs N)] noFS)
def zc.F (N : Nat) (x : Int × List (Int × Int × Int × Int × Int)) : Option Int := XFunc.run zc.x (zc.env N) N x
def zc.fs (N : Nat) : FS := { arg := zc.x.arg, ret := zc.x.ret, fresh := true, F := zc.F N }
def zc.k2 (N : Nat) : Ex -> S -> Option Int := seqK (fun s => XCode.runK (zc.env N) N (zc.c2) s (XFunc.endK zc.x)) (XFunc.endK zc.x)
def zc.k1 (N : Nat) : Ex -> S -> Option Int := y2 0 (zc.k2 N)
def zc.L1 (N : Nat) (n1 : Nat) (l_ : zk) (on : Int) (i : Int) : Option Int := loopK [.keep [1, 5, 6], .norm] (fun s k => XCode.runK (zc.env N) N zc.c1 s k) n1
 { t := jK 38 [(1, .one (.sl false yZ l_)), (5, .one (.int .i64 on)), (6, .one (.int .i64 i))], h := [] }
 (zc.k1 N)
theorem zc.L1_eq (N : Nat) (n1 : Nat) (l_ : zk) (on : Int) (i : Int) : zc.L1 N (n1 + 1) l_ on i =
bif decide (i < (l_.length : Int)) then
bindO (zr.F N l_) fun r2 =>
bif r2 then
bif zP i (l_.length) then
bif (((nth (0, (0, (0, (0, 0)))) l_ i).2).1) == 3 then
bif zP i (l_.length) then
bif decide (0 <= ((((nth (0, (0, (0, (0, 0)))) l_ i).2).2).2).2) then
zc.L1 N n1 l_ (bitOr .i64 on (zAb .i64 1 (((((nth (0, (0, (0, (0, 0)))) l_ i).2).2).2).2))) (IntKind.wrap .i64 (i + 1))
else none
else none
else
zc.L1 N n1 l_ on (IntKind.wrap .i64 (i + 1))
else none
else
some on
else
some on := by kernel_rfl
theorem zc.F_eq (N : Nat) (fixed : Int) (l_ : zk) : zc.F N (fixed, l_) =
bindO (zS.F N (fixed, (0, 15))) fun r1 =>
bif r1 then
zc.L1 N N l_ (bitOr .i64 1 fixed) 0
else
zc.L1 N N l_ 1 0 := by kernel_rfl
def z3.c1 : XCode := .seq (.seq (rG [mv 23 7, op 24 (.bin .gtr) [.slot 23, cI 0]]) (.cond (.slot 24) (.skip) (.exit 0))) (.seq (.block 1 (.seq (rG [mv 27 1, mv 28 7, o2 29 (.bin .shr) 27 28, op 30 (.bin .and) [.slot 29, cI 1], op 31 (.bin .eql) [.slot 30, cI 1], sX 32 [.slot 31], gX 33 (.fieldAddr 1) [.slot 3] [] [] 32 true, gX 34 (.load false 1) [.slot 33] [0] [] 32 true, gX 35 .move [.slot 7] [] [] 32 true, gX 36 (.indexAddr (.list yM)) (sl [34, 35]) [] [] 32 true, gX 37 (.load false 1) [.slot 36] [] [] 32 true, gX 38 .move [.slot 2] [] [] 32 true, gX 39 (.indexAddr yM) (sl [37, 38]) [] [] 32 true, gX 40 (.fieldAddr 0) [.slot 39] [] [] 32 true, gX 41 (.load false 1) [.slot 40] [] [] 32 true, gX 42 (.bin .neq) [.slot 41, cI 1] [] [] 32 true, op 43 .pick [.slot 32, .slot 42, cB false]]) (.cond (.slot 43) (.seq (rG [mv 44 7, mv 6 44]) (.ret)) (.skip)))) (rG [mv 25 7, op 26 (.bin .sub) [.slot 25, cI 1], mv 7 26]))
def z3.c2 : XCode := .seq (rG [op 6 .move [cI 0]]) (.ret)
def z3.x : XFunc := { nslots := 45, nobj := 1, pars := [.val true 2, .val false 1, .val false 1], rowsIn := no 4, rets := [.tmp 6 false 1], outs := [.imm], fresh := true, arg := .pair zBe zAj, ret := .int .i64, body := .seq (rG [ow 3 (.box 0) [.slot 0] [0] [0], op 6 .move [cI 0]]) (.seq (.seq (rG [lU 8 2 3 0, o1 9 (.call ⟨284, [.val true 2], no 2, [.val false 1], ims 1, true⟩) 8, o1 10 .not 9, sX 11 [.slot 10], gX 12 .move [.slot 2] [] [] 11 false, gX 13 (.fieldAddr 0) [.slot 3] [] [] 11 false, gX 14 (.load false 1) [.slot 13] [0] [] 11 false, gX 15 (.bin .sub) [.slot 14, cI 1] [] [] 11 false, ⟨some 16, .call ⟨1, vs 3, no 3, [.val false 1], ims 1, true⟩, [.slot 12, cI 0, .slot 15], [], [], some (11, false), false, .none⟩, gX 17 .not [.slot 16] [] [] 11 false, op 18 .pick [.slot 11, cB true, .slot 17]]) (.cond (.slot 18) (.seq (rG [op 6 .move [cI (-1)]]) (.ret)) (.skip))) (.seq (.seq (rG [fA 19 1 3, lN 20 19 0, o1 21 .len 20, op 22 (.bin .sub) [.slot 21, cI 1], mv 7 22]) (.block 0 (.loop [.keep [1, 2, 3, 7], .norm] (z3.c1)))) (z3.c2))) }
def z3.env (N : Nat) : Env := envOf (tbl [(284, zE.fs N), (1, zS.fs N)] noFS)
def z3.F (N : Nat) (x : (Int × List zU) × Int × Int) : Option Int := XFunc.run z3.x (z3.env N) N x
def z3.fs (N : Nat) : FS := { arg := z3.x.arg, ret := z3.x.ret, fresh := true, F := z3.F N }
def z3.k2 (N : Nat) : Ex -> S -> Option Int := seqK (fun s => XCode.runK (z3.env N) N (z3.c2) s (XFunc.endK z3.x)) (XFunc.endK z3.x)
def z3.k1 (N : Nat) : Ex -> S -> Option Int := y2 0 (z3.k2 N)
def z3.L1 (N : Nat) (n1 : Nat) (on : Int) (key : Int) (i : Int) (o00 : Int) (o01 : List zU) : Option Int := loopK [.keep [1, 2, 3, 7], .norm] (fun s k => XCode.runK (z3.env N) N z3.c1 s k) n1
 { t := jK 45 [(1, .one (.int .i64 on)), (2, .one (.int .i64 key)), (3, .one (.ptr 0 0 0)), (7, .one (.int .i64 i))], h := [.box 0 false [.int .i64 o00, .sl false (.list yM) o01]] }
 (z3.k1 N)
theorem z3.L1_eq (N : Nat) (n1 : Nat) (on : Int) (key : Int) (i : Int) (o00 : Int) (o01 : List zU) : z3.L1 N (n1 + 1) on key i o00 o01 =
bif decide (i > 0) then
bif decide (0 <= i) then
bif (zAe .i64 (zAs .i64 on i) 1) == 1 then
bif zP i (o01.length) then
bif zP key (List.length (nth ([] : List (Int × Int × Int × Int)) o01 i)) then
bif ((nth (0, (0, (0, 0))) (nth ([] : List (Int × Int × Int × Int)) o01 i) key).1) != 1 then
some i
else
z3.L1 N n1 on key (IntKind.wrap .i64 (i - 1)) o00 o01
else none
else none
else
z3.L1 N n1 on key (IntKind.wrap .i64 (i - 1)) o00 o01
else none
else
some 0 := by kernel_rfl
theorem z3.F_eq (N : Nat) (m : Int × List zU) (on : Int) (key : Int) : z3.F N (m, on, key) =
bindO (zE.F N m) fun r1 =>
bif !r1 then
some (-1 : Int)
else
bindO (zS.F N (key, (0, IntKind.wrap .i64 (m.1 - 1)))) fun r2 =>
bif !r2 then
some (-1 : Int)
else
z3.L1 N N on key (IntKind.wrap .i64 ((List.length m.2 : Int) - 1)) m.1 m.2 := by kernel_rfl
def yn.x : XFunc := { nslots := 23, nobj := 2, pars := [.val true 2, .val false 1, .val false 1], rowsIn := no 4, rets := [.var 6 true 4], outs := iF 4, fresh := true, arg := .pair zBe zAj, ret := .pair (.int .i64) yW, body := .seq (rG [ow 3 (.box 0) [.slot 0] [0] [0], ow 6 (.alloc 1 [cZ, cZ, cZ, cZ]) [] [1] [1]]) (.seq (rG [lU 8 2 3 0, mv 9 1, mv 10 2, op 11 (.call ⟨302, [.val true 2, .val false 1, .val false 1], no 4, [.val false 1], ims 1, true⟩) (sl [8, 9, 10]), mv 7 11]) (.seq (.seq (rG [mv 12 7, op 13 (.bin .lss) [.slot 12, cI 0]]) (.cond (.slot 13) (.seq (rG [op 14 (.build [cZ, cZ, cZ, cZ] []) [], sT 4 6 14 1]) (.ret)) (.skip))) (.seq (rG [fA 15 1 3, lN 16 15 0, mv 17 7, o2 18 (.indexAddr (.list yM)) 16 17, o1 19 (.load false 1) 18, mv 20 2, o2 21 (.indexAddr yM) 19 20, o1 22 (.load true 4) 21, sT 4 6 22 1]) (.ret)))) }
def yn.env (N : Nat) : Env := envOf (tbl [(302, z3.fs N)] noFS)
def yn.F (N : Nat) (x : (Int × List zU) × Int × Int) : Option (Int × Int × Int × Int) := XFunc.run yn.x (yn.env N) N x
def yn.fs (N : Nat) : FS := { arg := yn.x.arg, ret := yn.x.ret, fresh := true, F := yn.F N }
theorem yn.F_eq (N : Nat) (m : Int × List zU) (on : Int) (key : Int) : yn.F N (m, on, key) =
bindO (z3.F N (m, (on, key))) fun r1 =>
bif decide (r1 < 0) then
some (0, (0, (0, 0)))
else
bif zP r1 (List.length m.2) then
bif zP key (List.length (nth ([] : List (Int × Int × Int × Int)) m.2 r1)) then
some ((nth (0, (0, (0, 0))) (nth ([] : List (Int × Int × Int × Int)) m.2 r1) key).1, (((nth (0, (0, (0, 0))) (nth ([] : List (Int × Int × Int × Int)) m.2 r1) key).2).1, (((nth (0, (0, (0, 0))) (nth ([] : List (Int × Int × Int × Int)) m.2 r1) key).2).2)))
else none
else none := by kernel_rfl
def zX.c1 : XCode := .seq (.seq (rG [mv 28 14, mv 29 3, o1 30 .len 29, o2 31 (.bin .lss) 28 30]) (.cond (.slot 31) (.skip) (.exit 0))) (.seq (.block 1 (.seq (rG [mv 34 3, mv 35 14, o2 36 (.indexAddr zAd) 34 35, o1 37 (.load true 3) 36, ow 15 (.alloc 1 [cZ, cZ, .bool false]) [] [1] [1], sT 3 15 37 1]) (.block 2 (.seq (rG [lU 39 3 15 1, o1 40 (.call ⟨40, [.val true 3], no 3, [.val false 1], ims 1, true⟩) 39, o1 41 .not 40, mv 38 41]) (.cond (.slot 38) (.seq (rG [op 10 .move [cI 0], op 11 .move [cI 0]]) (.ret)) (.seq (rG [fA 43 0 15, lN 44 43 1, mv 45 12, o2 46 (.bin .geq) 44 45, mv 42 46]) (.cond (.slot 42) (.seq (rG [mv 47 12, op 10 .move [cI 2], mv 11 47]) (.ret)) (.seq (rG [fA 49 1 15, lN 50 49 1, mv 51 1, o2 52 (.bin .eql) 50 51, sX 53 [.slot 52], gX 54 (.fieldAddr 2) [.slot 15] [] [] 53 true, gX 55 (.load false 1) [.slot 54] [1] [] 53 true, gX 56 .not [.slot 55] [] [] 53 true, op 57 .pick [.slot 53, .slot 56, cB false], mv 48 57]) (.cond (.slot 48) (.seq (.region true [fA 58 0 15, lN 59 58 1, op 10 .move [cI 1], mv 11 59]) (.ret)) (.seq (rG [fA 61 1 15, lN 62 61 1, mv 63 1, o2 64 (.bin .eql) 62 63, mv 60 64]) (.cond (.slot 60) (.exit 1) (.seq (rG [fA 66 2 15, lN 67 66 1, sX 68 [.slot 67], gX 69 (.fieldAddr 2) [.slot 5] [] [] 68 true, gX 70 (.load false 1) [.slot 69] [0] [] 68 true, gX 71 (.bin .eql) [.slot 70, cI 1] [] [] 68 true, op 72 .pick [.slot 68, .slot 71, cB false], mv 65 72]) (.cond (.slot 65) (.seq (.region true [fA 73 0 15, lN 74 73 1, op 10 .move [cI 2], mv 11 74]) (.ret)) (.seq (rG [fA 76 2 15, lN 77 76 1, mv 75 77]) (.cond (.slot 75) (rG [mv 78 13, fA 79 1 15, lN 80 79 1, op 81 (.bin .shl) [cI 1, .slot 80], o2 82 (.bin .or) 78 81, mv 13 82]) (.seq (rG [fA 84 2 5, lN 85 84 0, op 86 (.bin .eql) [.slot 85, cI 2], sX 87 [.slot 86], gX 88 .move [.slot 13] [] [] 87 true, gX 89 (.fieldAddr 1) [.slot 15] [] [] 87 true, gX 90 (.load false 1) [.slot 89] [1] [] 87 true, gX 91 (.bin .shr) (sl [88, 90]) [] [] 87 true, gX 92 (.bin .and) [.slot 91, cI 1] [] [] 87 true, gX 93 (.bin .eql) [.slot 92, cI 1] [] [] 87 true, op 94 .pick [.slot 87, .slot 93, cB false], mv 83 94]) (.cond (.slot 83) (.seq (.region true [fA 95 0 15, lN 96 95 1, op 10 .move [cI 2], mv 11 96]) (.ret)) (.skip)))))))))))))))))) (rG [mv 32 14, op 33 (.bin .add) [.slot 32, cI 1], mv 14 33]))
def zX.c2 : XCode := .seq (.seq (rG [mv 97 4, mv 98 12, o2 99 (.bin .geq) 97 98]) (.cond (.slot 99) (.seq (rG [mv 100 12, op 10 .move [cI 2], mv 11 100]) (.ret)) (.skip))) (.seq (rG [op 10 .move [cI 0], op 11 .move [cI 0]]) (.ret))
def zX.x : XFunc := { nslots := 101, nobj := 2, pars := [.val true 3, .val false 1, .val false 1, .val false 1, .val false 1], rowsIn := no 7, rets := [.tmp 10 false 1, .tmp 11 false 1], outs := iF 2, fresh := true, arg := .pair yW (.pair (.int .i64) (.pair (.int .i64) T14_30)), ret := .pair (.int .i64) (.int .i64), body := .seq (rG [ow 5 (.box 0) [.slot 0] [0] [0], op 10 .move [cI 0], op 11 .move [cI 0]]) (.seq (.seq (rG [lU 16 3 5 0, o1 17 (.call ⟨296, [.val true 3], no 3, [.val false 1], ims 1, true⟩) 16, o1 18 .not 17, sX 19 [.slot 18], gX 20 .move [.slot 2] [] [] 19 false, ⟨some 21, .call ⟨1, vs 3, no 3, [.val false 1], ims 1, true⟩, [.slot 20, cI 0, cI 1000000], [], [], some (19, false), false, .none⟩, gX 22 .not [.slot 21] [] [] 19 false, op 23 .pick [.slot 19, cB true, .slot 22]]) (.cond (.slot 23) (.seq (rG [op 10 .move [cI 0], op 11 .move [cI 0]]) (.ret)) (.skip))) (.seq (rG [mv 24 2, fA 25 0 5, lN 26 25 0, o2 27 (.bin .add) 24 26, mv 12 27]) (.seq (rG [op 13 .move [cI 0]]) (.seq (.seq (rG [op 14 .move [cI 0]]) (.block 0 (.loop [.keep [1, 3, 4, 5, 12, 13, 14], .drop 1, .norm] (zX.c1)))) (zX.c2))))) }
def zX.env (N : Nat) : Env := envOf (tbl [(40, yv.fs N), (296, ym.fs N), (1, zS.fs N)] noFS)
def zX.F (N : Nat) (x : (Int × Int × Int) × Int × Int × zAQ × Int) : Option (Int × Int) := XFunc.run zX.x (zX.env N) N x
def zX.fs (N : Nat) : FS := { arg := zX.x.arg, ret := zX.x.ret, fresh := true, F := zX.F N }
def zX.k2 (N : Nat) : Ex -> S -> Option (Int × Int) := seqK (fun s => XCode.runK (zX.env N) N (zX.c2) s (XFunc.endK zX.x)) (XFunc.endK zX.x)
def zX.k1 (N : Nat) : Ex -> S -> Option (Int × Int) := y2 0 (zX.k2 N)
def zX.L1 (N : Nat) (n1 : Nat) (key : Int) (rest : zAQ) (now : Int) (end_ : Int) (others : Int) (i : Int) (o00 : Int) (o01 : Int) (o02 : Int) : Option (Int × Int) := loopK [.keep [1, 3, 4, 5, 12, 13, 14], .drop 1, .norm] (fun s k => XCode.runK (zX.env N) N zX.c1 s k) n1
 { t := jK 101 [(1, .one (.int .i64 key)), (3, .one (.sl false zAd rest)), (4, .one (.int .i64 now)), (5, .one (.ptr 0 0 0)), (12, .one (.int .i64 end_)), (13, .one (.int .i64 others)), (14, .one (.int .i64 i))], h := [.box 0 false [.int .i64 o00, .int .i64 o01, .int .i64 o02], .absent 0] }
 (zX.k1 N)
theorem zX.L1_eq (N : Nat) (n1 : Nat) (key : Int) (rest : zAQ) (now : Int) (end_ : Int) (others : Int) (i : Int) (o00 : Int) (o01 : Int) (o02 : Int) : zX.L1 N (n1 + 1) key rest now end_ others i o00 o01 o02 =
bif decide (i < (rest.length : Int)) then
bif zP i (rest.length) then
bindO (yv.F N ((nth (0, (0, false)) rest i).1, ((nth (0, (0, false)) rest i).2))) fun r3 =>
bif !r3 then
some (0, 0)
else
bif decide (((nth (0, (0, false)) rest i).1) >= end_) then
some (2, end_)
else
bif (((nth (0, (0, false)) rest i).2).1) == key then
bif !(((nth (0, (0, false)) rest i).2).2) then
some (1, (nth (0, (0, false)) rest i).1)
else
bif (((nth (0, (0, false)) rest i).2).1) == key then
zX.L1 N n1 key rest now end_ others (IntKind.wrap .i64 (i + 1)) o00 o01 o02
else
bif ((nth (0, (0, false)) rest i).2).2 then
bif o02 == 1 then
some (2, (nth (0, (0, false)) rest i).1)
else
bif ((nth (0, (0, false)) rest i).2).2 then
bif decide (0 <= ((nth (0, (0, false)) rest i).2).1) then
zX.L1 N n1 key rest now end_ (bitOr .i64 others (zAb .i64 1 (((nth (0, (0, false)) rest i).2).1))) (IntKind.wrap .i64 (i + 1)) o00 o01 o02
else none
else
bif o02 == 2 then
bif decide (0 <= ((nth (0, (0, false)) rest i).2).1) then
bif (zAe .i64 (zAs .i64 others (((nth (0, (0, false)) rest i).2).1)) 1) == 1 then
some (2, (nth (0, (0, false)) rest i).1)
else
zX.L1 N n1 key rest now end_ others (IntKind.wrap .i64 (i + 1)) o00 o01 o02
else none
else
zX.L1 N n1 key rest now end_ others (IntKind.wrap .i64 (i + 1)) o00 o01 o02
else
bif ((nth (0, (0, false)) rest i).2).2 then
bif decide (0 <= ((nth (0, (0, false)) rest i).2).1) then
zX.L1 N n1 key rest now end_ (bitOr .i64 others (zAb .i64 1 (((nth (0, (0, false)) rest i).2).1))) (IntKind.wrap .i64 (i + 1)) o00 o01 o02
else none
else
bif o02 == 2 then
bif decide (0 <= ((nth (0, (0, false)) rest i).2).1) then
bif (zAe .i64 (zAs .i64 others (((nth (0, (0, false)) rest i).2).1)) 1) == 1 then
some (2, (nth (0, (0, false)) rest i).1)
else
zX.L1 N n1 key rest now end_ others (IntKind.wrap .i64 (i + 1)) o00 o01 o02
else none
else
zX.L1 N n1 key rest now end_ others (IntKind.wrap .i64 (i + 1)) o00 o01 o02
else
bif (((nth (0, (0, false)) rest i).2).1) == key then
zX.L1 N n1 key rest now end_ others (IntKind.wrap .i64 (i + 1)) o00 o01 o02
else
bif ((nth (0, (0, false)) rest i).2).2 then
bif o02 == 1 then
some (2, (nth (0, (0, false)) rest i).1)
else
bif ((nth (0, (0, false)) rest i).2).2 then
bif decide (0 <= ((nth (0, (0, false)) rest i).2).1) then
zX.L1 N n1 key rest now end_ (bitOr .i64 others (zAb .i64 1 (((nth (0, (0, false)) rest i).2).1))) (IntKind.wrap .i64 (i + 1)) o00 o01 o02
else none
else
bif o02 == 2 then
bif decide (0 <= ((nth (0, (0, false)) rest i).2).1) then
bif (zAe .i64 (zAs .i64 others (((nth (0, (0, false)) rest i).2).1)) 1) == 1 then
some (2, (nth (0, (0, false)) rest i).1)
else
zX.L1 N n1 key rest now end_ others (IntKind.wrap .i64 (i + 1)) o00 o01 o02
else none
else
zX.L1 N n1 key rest now end_ others (IntKind.wrap .i64 (i + 1)) o00 o01 o02
else
bif ((nth (0, (0, false)) rest i).2).2 then
bif decide (0 <= ((nth (0, (0, false)) rest i).2).1) then
zX.L1 N n1 key rest now end_ (bitOr .i64 others (zAb .i64 1 (((nth (0, (0, false)) rest i).2).1))) (IntKind.wrap .i64 (i + 1)) o00 o01 o02
else none
else
bif o02 == 2 then
bif decide (0 <= ((nth (0, (0, false)) rest i).2).1) then
bif (zAe .i64 (zAs .i64 others (((nth (0, (0, false)) rest i).2).1)) 1) == 1 then
some (2, (nth (0, (0, false)) rest i).1)
else
zX.L1 N n1 key rest now end_ others (IntKind.wrap .i64 (i + 1)) o00 o01 o02
else none
else
zX.L1 N n1 key rest now end_ others (IntKind.wrap .i64 (i + 1)) o00 o01 o02
else none
else
bif decide (now >= end_) then
some (2, end_)
else
some (0, 0) := by kernel_rfl
theorem zX.F_eq (N : Nat) (t : Int × Int × Int) (key : Int) (time : Int) (rest : zAQ) (now : Int) : zX.F N (t, key, time, rest, now) =
bindO (ym.F N t) fun r1 =>
bif !r1 then
some (0, 0)
else
bindO (zS.F N (time, (0, 1000000))) fun r2 =>
bif !r2 then
some (0, 0)
else
zX.L1 N N key rest now (IntKind.wrap .i64 (time + t.1)) 0 0 t.1 t.2.1 t.2.2 := by kernel_rfl
def z6.c1 : XCode := .seq (.seq (rG [mv 6 5, fA 7 4 2, lN 8 7 0, o1 9 .len 8, o2 10 (.bin .lss) 6 9]) (.cond (.slot 10) (.skip) (.exit 0))) (.seq (.block 1 (.seq (rG [fA 13 4 2, lN 14 13 0, mv 15 5, o2 16 (.indexAddr yZ) 14 15, fA 17 0 16, o1 18 (.load false 1) 17, mv 19 1, o2 20 (.bin .eql) 18 19]) (.cond (.slot 20) (.seq (rG [mv 21 5, mv 4 21]) (.ret)) (.skip)))) (rG [mv 11 5, op 12 (.bin .add) [.slot 11, cI 1], mv 5 12]))
def z6.c2 : XCode := .seq (rG [op 4 .move [cI (-1)]]) (.ret)
def z6.x : XFunc := { nslots := 22, nobj := 1, pars := [.val true 7, .val false 1], rowsIn := no 8, rets := [.tmp 4 false 1], outs := [.imm], fresh := true, arg := .pair zAk (.int .i64), ret := .int .i64, body := .seq (rG [ow 2 (.box 0) [.slot 0] [0] [0], op 4 .move [cI 0]]) (.seq (.seq (rG [op 5 .move [cI 0]]) (.block 0 (.loop [.keep [1, 2, 5], .norm] (z6.c1)))) (z6.c2)) }
def z6.env (_ : Nat) : Env := envOf (tbl [] noFS)
def z6.F (N : Nat) (x : zAW × Int) : Option Int := XFunc.run z6.x (z6.env N) N x
def z6.fs (N : Nat) : FS := { arg := z6.x.arg, ret := z6.x.ret, fresh := true, F := z6.F N }
def z6.k2 (N : Nat) : Ex -> S -> Option Int := seqK (fun s => XCode.runK (z6.env N) N (z6.c2) s (XFunc.endK z6.x)) (XFunc.endK z6.x)
def z6.k1 (N : Nat) : Ex -> S -> Option Int := y2 0 (z6.k2 N)
def z6.L1 (N : Nat) (n1 : Nat) (key : Int) (i : Int) (o00 : Int) (o01 : List zU) (o02 : List zp) (o03 : Int) (o04 : zk) (o05 : Int) (o06 : Bool) : Option Int := loopK [.keep [1, 2, 5], .norm] (fun s k => XCode.runK (z6.env N) N z6.c1 s k) n1
 { t := jK 22 [(1, .one (.int .i64 key)), (2, .one (.ptr 0 0 0)), (5, .one (.int .i64 i))], h := [.box 0 false [.int .i64 o00, .sl false (.list yM) o01, .sl false (.list yW) o02, .int .i64 o03, .sl false yZ o04, .int .i64 o05, .bool o06]] }
 (z6.k1 N)
theorem z6.L1_eq (N : Nat) (n1 : Nat) (key : Int) (i : Int) (o00 : Int) (o01 : List zU) (o02 : List zp) (o03 : Int) (o04 : zk) (o05 : Int) (o06 : Bool) : z6.L1 N (n1 + 1) key i o00 o01 o02 o03 o04 o05 o06 =
bif decide (i < (o04.length : Int)) then
bif zP i (o04.length) then
bif ((nth (0, (0, (0, (0, 0)))) o04 i).1) == key then
some i
else
z6.L1 N n1 key (IntKind.wrap .i64 (i + 1)) o00 o01 o02 o03 o04 o05 o06
else none
else
some (-1 : Int) := by kernel_rfl
theorem z6.F_eq (N : Nat) (e : (Int × List zU) × (List zp) × Int × zk × Int × Bool) (key : Int) : z6.F N (e, key) =
z6.L1 N N key 0 e.1.1 e.1.2 e.2.1 e.2.2.1 e.2.2.2.1 e.2.2.2.2.1 e.2.2.2.2.2 := by kernel_rfl
def zAM.x : XFunc := { nslots := 16, nobj := 2, pars := [.val true 4], rowsIn := no 4, rets := [.var 2 true 4], outs := iF 4, fresh := true, arg := .pair (.int .i64) yW, ret := .pair (.int .i64) yW, body := .seq (rG [ow 1 (.box 0) [.slot 0] [0] [0], ow 2 (.alloc 1 [cZ, cZ, cZ, cZ]) [] [1] [1]]) (.seq (.seq (rG [lU 3 4 1 0, o1 4 (.call ⟨285, [.val true 4], no 4, [.val false 1], ims 1, true⟩) 3, o1 5 .not 4]) (.cond (.slot 5) (.seq (rG [lU 6 4 1 0, sT 4 2 6 1]) (.ret)) (.skip))) (.seq (.seq (rG [fA 7 0 1, lN 8 7 0, op 9 (.bin .eql) [.slot 8, cI 6]]) (.cond (.slot 9) (.seq (rG [fA 10 2 1, lN 11 10 0, op 12 (.build [cZ, cZ, cZ, cZ] [(0, 1), (2, 1)]) [cI 2, .slot 11], sT 4 2 12 1]) (.ret)) (.skip))) (.seq (rG [fA 13 3 1, lN 14 13 0, op 15 (.build [cZ, cZ, cZ, cZ] [(0, 1), (3, 1)]) [cI 3, .slot 14], sT 4 2 15 1]) (.ret)))) }
def zAM.env (N : Nat) : Env := envOf (tbl [(285, z5.fs N)] noFS)
def zAM.F (N : Nat) (x : Int × Int × Int × Int) : Option (Int × Int × Int × Int) := XFunc.run zAM.x (zAM.env N) N x
def zAM.fs (N : Nat) : FS := { arg := zAM.x.arg, ret := zAM.x.ret, fresh := true, F := zAM.F N }
theorem zAM.F_eq (N : Nat) (a : Int × Int × Int × Int) : zAM.F N a =
bindO (z5.F N a) fun r1 =>
bif !r1 then
some a
else
bif a.1 == 6 then
some (2, (0, (a.2.2.1, 0)))
else
some (3, (0, (0, a.2.2.2))) := by kernel_rfl
def zAR.x : XFunc := { nslots := 10, nobj := 2, pars := [.val true 4], rowsIn := no 4, rets := [.var 2 true 4], outs := iF 4, fresh := true, arg := .pair (.int .i64) yW, ret := .pair (.int .i64) yW, body := .seq (rG [ow 1 (.box 0) [.slot 0] [0] [0], ow 2 (.alloc 1 [cZ, cZ, cZ, cZ]) [] [1] [1]]) (.seq (.seq (rG [lU 3 4 1 0, o1 4 (.call ⟨285, [.val true 4], no 4, [.val false 1], ims 1, true⟩) 3, o1 5 .not 4]) (.cond (.slot 5) (.seq (rG [lU 6 4 1 0, sT 4 2 6 1]) (.ret)) (.skip))) (.seq (rG [fA 7 1 1, lN 8 7 0, op 9 (.build [cZ, cZ, cZ, cZ] [(0, 1), (1, 1)]) [cI 2, .slot 8], sT 4 2 9 1]) (.ret))) }
def zAR.env (N : Nat) : Env := envOf (tbl [(285, z5.fs N)] noFS)
def zAR.F (N : Nat) (x : Int × Int × Int × Int) : Option (Int × Int × Int × Int) := XFunc.run zAR.x (zAR.env N) N x
def zAR.fs (N : Nat) : FS := { arg := zAR.x.arg, ret := zAR.x.ret, fresh := true, F := zAR.F N }
theorem zAR.F_eq (N : Nat) (a : Int × Int × Int × Int) : zAR.F N a =
bindO (z5.F N a) fun r1 =>
bif !r1 then
some a
else
some (2, (a.2.1, (0, 0))) := by kernel_rfl
def yj.x : XFunc := { nslots := 13, nobj := 0, pars := [.val false 1], rowsIn := [none], rets := [.tmp 2 false 1], outs := [.imm], fresh := true, arg := .int .i64, ret := .bool, body := .seq (rG [op 2 .move [cB false]]) (.seq (rG [mv 3 0, op 4 (.call ⟨1, vs 3, no 3, [.val false 1], ims 1, true⟩) [.slot 3, cI 1, cI 36], sX 5 [.slot 4], gX 6 .move [.slot 0] [] [] 5 false, gX 7 (.bin .eql) [.slot 6, cI 39] [] [] 5 false, op 8 .pick [.slot 5, cB true, .slot 7], sX 9 [.slot 8], gX 10 .move [.slot 0] [] [] 9 false, gX 11 (.bin .eql) [.slot 10, cI 42] [] [] 9 false, op 12 .pick [.slot 9, cB true, .slot 11], mv 2 12]) (.ret)) }
def yj.env (N : Nat) : Env := envOf (tbl [(1, zS.fs N)] noFS)
def yj.F (N : Nat) (x : Int) : Option Bool := XFunc.run yj.x (yj.env N) N x
def yj.fs (N : Nat) : FS := { arg := yj.x.arg, ret := yj.x.ret, fresh := true, F := yj.F N }
theorem yj.F_eq (N : Nat) (code : Int) : yj.F N code =
bindO (zS.F N (code, (1, 36))) fun r1 =>
bif r1 then
some true
else
bif code == 39 then
some true
else
some (code == 42) := by kernel_rfl
def zAV.x : XFunc := { nslots := 40, nobj := 4, pars := [.box 0 7, .val true 4], rowsIn := [none, none, none, none, some (1, 15), none, none, none, none, none, none], rets := [.var 4 true 4], outs := [.imm, .imm, .imm, .imm, .imm, .imm, .imm, .imm, .own 15, .imm, .imm], fresh := false, arg := .pair zAk yM, ret := .pair yM zAk, body := .seq (rG [ow 3 (.box 2) [.slot 1] [2] [2], ow 4 (.alloc 3 [cZ, cZ, cZ, cZ]) [] [3] [3]]) (.seq (.region true [fA 5 2 3, lN 6 5 2, mv 7 0, o1 8 .nilck 7, fA 9 5 8, lN 10 9 0, o2 11 (.bin .or) 6 10, fA 12 2 3, sT 1 12 11 2]) (.seq (rG [mv 13 0, o1 14 .nilck 13, fA 15 5 14, on (.store 1) [.slot 15, cI 0] [0] [0]]) (.seq (.seq (rG [fA 16 1 3, lN 17 16 2, o1 18 (.call ⟨308, vs 1, no 1, [.val false 1], ims 1, true⟩) 17, o1 19 .not 18]) (.cond (.slot 19) (rG [mv 20 0, o1 21 .nilck 20, fA 22 6 21, on (.store 1) [.slot 22, cB false] [0] [0]]) (.skip))) (.seq (.seq (rG [mv 23 0, o1 24 .nilck 23, fA 25 6 24, lN 26 25 0, sX 27 [.slot 26], gX 28 (.fieldAddr 1) [.slot 3] [] [] 27 true, gX 29 (.load false 1) [.slot 28] [2] [] 27 true, gX 30 (.bin .leq) [.slot 29, cI 26] [] [] 27 true, op 31 .pick [.slot 27, .slot 30, cB false], sX 32 [.slot 31], gX 33 (.fieldAddr 2) [.slot 3] [] [] 32 true, gX 34 (.load false 1) [.slot 33] [2] [] 32 true, gX 35 (.bin .andNot) [.slot 34, cI 2] [] [] 32 true, gX 36 (.bin .eql) [.slot 35, cI 0] [] [] 32 true, op 37 .pick [.slot 32, .slot 36, cB false]]) (.cond (.slot 37) (rG [fA 38 2 3, on (.store 1) [.slot 38, cI 2] [2] [2]]) (.skip))) (.seq (rG [lU 39 4 3 2, sT 4 4 39 3]) (.ret)))))), keep := true }
def zAV.env (N : Nat) : Env := envOf (tbl [(308, yj.fs N)] noFS)
def zAV.F (N : Nat) (x : zAW × Int × Int × Int × Int) : Option ((Int × Int × Int × Int) × (Int × List zU) × (List zp) × Int × zk × Int × Bool) := XFunc.run zAV.x (zAV.env N) N x
def zAV.fs (N : Nat) : FS := { arg := zAV.x.arg, ret := zAV.x.ret, fresh := false, F := zAV.F N, keep := true }
theorem zAV.F_eq (N : Nat) (e : (Int × List zU) × (List zp) × Int × zk × Int × Bool) (a : Int × Int × Int × Int) : zAV.F N (e, a) =
bindO (yj.F N a.2.1) fun r1 =>
bif !r1 then
some ((a.1, (a.2.1, (bitOr .i64 a.2.2.1 e.2.2.2.2.1, a.2.2.2))), (e.1, (e.2.1, (e.2.2.1, (e.2.2.2.1, (0, false))))))
else
bif e.2.2.2.2.2 then
bif decide (a.2.1 <= 26) then
bif (zAc .i64 (bitOr .i64 a.2.2.1 e.2.2.2.2.1) 2) == 0 then
some ((a.1, (a.2.1, (2, a.2.2.2))), (e.1, (e.2.1, (e.2.2.1, (e.2.2.2.1, (0, e.2.2.2.2.2))))))
else
some ((a.1, (a.2.1, (bitOr .i64 a.2.2.1 e.2.2.2.2.1, a.2.2.2))), (e.1, (e.2.1, (e.2.2.1, (e.2.2.2.1, (0, e.2.2.2.2.2))))))
else
some ((a.1, (a.2.1, (bitOr .i64 a.2.2.1 e.2.2.2.2.1, a.2.2.2))), (e.1, (e.2.1, (e.2.2.1, (e.2.2.2.1, (0, e.2.2.2.2.2))))))
else
some ((a.1, (a.2.1, (bitOr .i64 a.2.2.1 e.2.2.2.2.1, a.2.2.2))), (e.1, (e.2.1, (e.2.2.1, (e.2.2.2.1, (0, e.2.2.2.2.2)))))) := by kernel_rfl
def y0.x : XFunc := { nslots := 80, nobj := 5, pars := [.box 0 7, .val true 4], rowsIn := [none, none, none, none, some (1, 15), none, none, none, none, none, none], rets := [.var 4 true 4], outs := [.imm, .imm, .imm, .imm, .imm, .imm, .imm, .imm, .own 15, .imm, .imm], fresh := false, arg := .pair zAk yM, ret := .pair yM zAk, body := .seq (rG [ow 3 (.box 2) [.slot 1] [2] [2], ow 4 (.alloc 3 [cZ, cZ, cZ, cZ]) [] [3] [3]]) (.seq (.seq (rG [fA 5 0 3, lN 6 5 2]) (.block 0 (.seq (rG [op 8 (.bin .eql) [.slot 6, cI 2], mv 7 8]) (.cond (.slot 7) (.seq (rG [fA 9 1 3, lN 10 9 2, op 11 (.bin .gtr) [.slot 10, cI 0]]) (.cond (.slot 11) (.seq (rG [mv 12 0, lU 13 4 3 2, ow 14 (.call ⟨309, [.box 0 7, .val true 4], [none, none, none, none, some (1, 15), none, none, none, none, none, none], [.val true 4], [.imm, .imm, .imm, .imm, .imm, .imm, .imm, .imm, .own 1 15, .imm, .imm], false⟩) (sl [12, 13]) [0, 1] [0, 1], sT 4 4 14 3]) (.ret)) (.skip))) (.seq (rG [op 16 (.bin .eql) [.slot 6, cI 4], mv 15 16]) (.cond (.slot 15) (.region true [mv 17 0, mv 18 0, o1 19 .nilck 18, fA 20 3 19, lN 21 20 0, fA 22 3 3, lN 23 22 2, op 24 (.bin .shl) [cI 1, .slot 23], o2 25 (.bin .xor) 21 24, o1 26 .nilck 17, fA 27 3 26, sT 1 27 25 0]) (.seq (rG [op 29 (.bin .eql) [.slot 6, cI 5], mv 28 29]) (.cond (.slot 28) (rG [mv 30 0, fA 31 3 3, lN 32 31 2, op 33 (.bin .shl) [cI 1, .slot 32], op 34 (.bin .andNot) [.slot 33, cI 1], o1 35 .nilck 30, fA 36 3 35, sT 1 36 34 0]) (.seq (rG [op 38 (.bin .eql) [.slot 6, cI 8], mv 37 38]) (.cond (.slot 37) (.seq (.region true [mv 39 0, o1 40 .nilck 39, fA 41 5 40, lN 42 41 0, fA 43 2 3, lN 44 43 2, o2 45 (.bin .and) 42 44, fA 46 2 3, lN 47 46 2, o2 48 (.bin .eql) 45 47]) (.cond (.slot 48) (.region true [mv 49 0, mv 50 0, o1 51 .nilck 50, fA 52 5 51, lN 53 52 0, fA 54 2 3, lN 55 54 2, o2 56 (.bin .andNot) 53 55, o1 57 .nilck 49, fA 58 5 57, sT 1 58 56 0]) (.region true [mv 59 0, mv 60 0, o1 61 .nilck 60, fA 62 5 61, lN 63 62 0, fA 64 2 3, lN 65 64 2, o2 66 (.bin .or) 63 65, o1 67 .nilck 59, fA 68 5 67, sT 1 68 66 0]))) (.seq (rG [op 70 (.bin .eql) [.slot 6, cI 10], mv 69 70]) (.cond (.slot 69) (rG [mv 71 0, mv 72 0, o1 73 .nilck 72, fA 74 6 73, lN 75 74 0, o1 76 .not 75, o1 77 .nilck 71, fA 78 6 77, sT 1 78 76 0]) (.skip))))))))))))) (.seq (rG [lU 79 4 3 2, sT 4 4 79 3]) (.ret))), keep := true }
def y0.env (N : Nat) : Env := envOf (tbl [(309, zAV.fs N)] noFS)
def y0.F (N : Nat) (x : zAW × Int × Int × Int × Int) : Option ((Int × Int × Int × Int) × (Int × List zU) × (List zp) × Int × zk × Int × Bool) := XFunc.run y0.x (y0.env N) N x
def y0.fs (N : Nat) : FS := { arg := y0.x.arg, ret := y0.x.ret, fresh := false, F := y0.F N, keep := true }
theorem y0.F_eq (N : Nat) (e : (Int × List zU) × (List zp) × Int × zk × Int × Bool) (a : Int × Int × Int × Int) : y0.F N (e, a) =
bif a.1 == 2 then
bif decide (a.2.1 > 0) then
bindO (zAV.F N (e, a)) fun r1 =>
some r1
else
some (a, e)
else
bif a.1 == 4 then
bif decide (0 <= a.2.2.2) then
some (a, (e.1, (e.2.1, (zAn .i64 e.2.2.1 (zAb .i64 1 a.2.2.2), e.2.2.2))))
else none
else
bif a.1 == 5 then
bif decide (0 <= a.2.2.2) then
some (a, (e.1, (e.2.1, (zAc .i64 (zAb .i64 1 a.2.2.2) 1, e.2.2.2))))
else none
else
bif a.1 == 8 then
bif (zAe .i64 e.2.2.2.2.1 a.2.2.1) == a.2.2.1 then
some (a, (e.1, (e.2.1, (e.2.2.1, (e.2.2.2.1, (zAc .i64 e.2.2.2.2.1 a.2.2.1, e.2.2.2.2.2))))))
else
some (a, (e.1, (e.2.1, (e.2.2.1, (e.2.2.2.1, (bitOr .i64 e.2.2.2.2.1 a.2.2.1, e.2.2.2.2.2))))))
else
bif a.1 == 10 then
some (a, (e.1, (e.2.1, (e.2.2.1, (e.2.2.2.1, (e.2.2.2.2.1, !e.2.2.2.2.2))))))
else
some (a, e) := by kernel_rfl
def zB.c1 : XCode := .seq (.seq (rG [mv 13 4, mv 14 0, o1 15 .len 14, o2 16 (.bin .lss) 13 15]) (.cond (.slot 16) (.skip) (.exit 0))) (.seq (.block 1 (.seq (rG [mv 19 0, mv 20 4, o2 21 (.indexAddr yZ) 19 20, fA 22 1 21, fA 23 0 22, o1 24 (.load false 1) 23, op 25 (.bin .eql) [.slot 24, cI 2], sX 26 [.slot 25], gX 27 .move [.slot 0] [] [] 26 false, gX 28 .move [.slot 4] [] [] 26 false, gX 29 (.indexAddr yZ) (sl [27, 28]) [] [] 26 false, gX 30 (.fieldAddr 1) [.slot 29] [] [] 26 false, gX 31 (.fieldAddr 0) [.slot 30] [] [] 26 false, gX 32 (.load false 1) [.slot 31] [] [] 26 false, gX 33 (.bin .eql) [.slot 32, cI 8] [] [] 26 false, op 34 .pick [.slot 26, cB true, .slot 33]]) (.cond (.slot 34) (.region true [fA 35 0 3, lN 36 35 2, mv 37 0, mv 38 4, o2 39 (.indexAddr yZ) 37 38, fA 40 1 39, fA 41 2 40, o1 42 (.load false 1) 41, o2 43 (.bin .or) 36 42, fA 44 0 3, sT 1 44 43 2]) (.skip)))) (rG [mv 17 4, op 18 (.bin .add) [.slot 17, cI 1], mv 4 18]))
def zB.c2 : XCode := .seq (.seq (rG [mv 49 6, mv 50 0, o1 51 .len 50, o2 52 (.bin .lss) 49 51]) (.cond (.slot 52) (.skip) (.exit 4))) (.seq (.block 5 (.seq (rG [mv 55 0, mv 56 6, o2 57 (.indexAddr yZ) 55 56, fA 58 1 57, fA 59 1 58, o1 60 (.load false 1) 59, mv 61 5, o2 62 (.bin .eql) 60 61]) (.cond (.slot 62) (.seq (rG [fA 63 1 3, lN 64 63 2, mv 65 5, ow 66 (.buildSlice false 3 2 (.int .i64) 1 [(0, 1)] [cZ]) [.slot 65] [3] [3], ow 67 (.append false 1 2 (.int .i64)) (sl [64, 66]) [1, 3] [1], fA 68 1 3, sT 1 68 67 2]) (.exit 4)) (.skip)))) (rG [mv 53 6, op 54 (.bin .add) [.slot 53, cI 1], mv 6 54]))
def zB.c3 : XCode := rG [mv 47 5, op 48 (.bin .add) [.slot 47, cI 1], mv 5 48]
def zB.c4 : XCode := .seq (.seq (rG [mv 45 5, op 46 (.bin .leq) [.slot 45, cI 56]]) (.cond (.slot 46) (.skip) (.exit 2))) (.seq (.block 3 (.seq (rG [op 6 .move [cI 0]]) (.block 4 (.loop [.keep [0, 2, 3, 5, 6], .drop 3, .norm] (zB.c2))))) (zB.c3))
def zB.c5 : XCode := .seq (rG [lU 69 2 3 2, sT 2 2 69 0]) (.ret)
def zB.c6 : XCode := .seq (.seq (rG [op 5 .move [cI 1]]) (.block 2 (.loop [.keep [0, 2, 3, 5], .drop 3, .norm] (zB.c4)))) (zB.c5)
def zB.x : XFunc := { nslots := 70, nobj := 4, pars := [.val false 1], rowsIn := [none], rets := [.var 2 true 2], outs := [.imm, .own 2], fresh := true, arg := .list yZ, ret := .pair (.int .i64) (.list (.int .i64)), body := .seq (rG [ow 2 (.alloc 0 [cZ, .nil]) [] [0] [0]]) (.seq (rG [ow 7 (.buildSlice false 1 2 (.int .i64) 0 [] [cZ]) [] [1] [1], o1 8 (.build [cZ, .nil] [(1, 1)]) 7, ow 3 (.alloc 2 [cZ, .nil]) [] [2] [2], sT 2 3 8 2]) (.seq (.seq (rG [mv 9 0, o1 10 (.call ⟨286, vs 1, no 1, [.val false 1], ims 1, true⟩) 9, o1 11 .not 10]) (.cond (.slot 11) (.seq (rG [lU 12 2 3 2, sT 2 2 12 0]) (.ret)) (.skip))) (.seq (.seq (rG [op 4 .move [cI 0]]) (.block 0 (.loop [.keep [0, 2, 3, 4], .drop 3, .norm] (zB.c1)))) (zB.c6)))) }
def zB.env (N : Nat) : Env := envOf (tbl [(286, zr.fs N)] noFS)
def zB.F (N : Nat) (x : zk) : Option (Int × List Int) := XFunc.run zB.x (zB.env N) N x
def zB.fs (N : Nat) : FS := { arg := zB.x.arg, ret := zB.x.ret, fresh := true, F := zB.F N }
def zB.k2 (N : Nat) : Ex -> S -> Option (Int × List Int) := seqK (fun s => XCode.runK (zB.env N) N (zB.c6) s (XFunc.endK zB.x)) (XFunc.endK zB.x)
def zB.k1 (N : Nat) : Ex -> S -> Option (Int × List Int) := y2 0 (zB.k2 N)
def zB.k4 (N : Nat) : Ex -> S -> Option (Int × List Int) := seqK (fun s => XCode.runK (zB.env N) N (zB.c5) s (XFunc.endK zB.x)) (XFunc.endK zB.x)
def zB.k3 (N : Nat) : Ex -> S -> Option (Int × List Int) := y2 2 (zB.k4 N)
def zB.k8 (N : Nat) (n2 : Nat) : Ex -> S -> Option (Int × List Int) := seqK (fun s => bindO (S.ghosts s [.keep [0, 2, 3, 5], .drop 3, .norm]) fun s1 => loopK [.keep [0, 2, 3, 5], .drop 3, .norm] (fun s k => XCode.runK (zB.env N) N zB.c4 s k) n2 s1 (zB.k3 N)) (zB.k3 N)
def zB.k7 (N : Nat) (n2 : Nat) : Ex -> S -> Option (Int × List Int) := seqK (fun s => XCode.runK (zB.env N) N (zB.c3) s (zB.k8 N n2)) (zB.k8 N n2)
def zB.k6 (N : Nat) (n2 : Nat) : Ex -> S -> Option (Int × List Int) := y2 3 (zB.k7 N n2)
def zB.k5 (N : Nat) (n2 : Nat) : Ex -> S -> Option (Int × List Int) := y2 4 (zB.k6 N n2)
def zB.L1 (N : Nat) (n1 : Nat) (l_ : zk) (i : Int) (o1 : List Int) (o20 : Int) : Option (Int × List Int) := loopK [.keep [0, 2, 3, 4], .drop 3, .norm] (fun s k => XCode.runK (zB.env N) N zB.c1 s k) n1
 { t := jK 70 [(0, .one (.sl false yZ l_)), (2, .one (.ptr 0 0 0)), (3, .one (.ptr 2 0 0)), (4, .one (.int .i64 i))], h := [.box 0 false [cZ, .nil], .row 0 false true 2 (.int .i64) o1, .box 0 false [.int .i64 o20, .ref 1 0 .all], .absent 0] }
 (zB.k1 N)
def zB.L2 (N : Nat) (n2 : Nat) (l_ : zk) (code : Int) (o1 : List Int) (o20 : Int) : Option (Int × List Int) := loopK [.keep [0, 2, 3, 5], .drop 3, .norm] (fun s k => XCode.runK (zB.env N) N zB.c4 s k) n2
 { t := jK 70 [(0, .one (.sl false yZ l_)), (2, .one (.ptr 0 0 0)), (3, .one (.ptr 2 0 0)), (5, .one (.int .i64 code))], h := [.box 0 false [cZ, .nil], .row 0 false true 2 (.int .i64) o1, .box 0 false [.int .i64 o20, .ref 1 0 .all], .absent 0] }
 (zB.k3 N)
def zB.L3 (N : Nat) (n2 : Nat) (n3 : Nat) (l_ : zk) (code : Int) (i : Int) (o1 : List Int) (o20 : Int) : Option (Int × List Int) := loopK [.keep [0, 2, 3, 5, 6], .drop 3, .norm] (fun s k => XCode.runK (zB.env N) N zB.c2 s k) n3
 { t := jK 70 [(0, .one (.sl false yZ l_)), (2, .one (.ptr 0 0 0)), (3, .one (.ptr 2 0 0)), (5, .one (.int .i64 code)), (6, .one (.int .i64 i))], h := [.box 0 false [cZ, .nil], .row 0 false true 2 (.int .i64) o1, .box 0 false [.int .i64 o20, .ref 1 0 .all], .absent 0] }
 (zB.k5 N n2)
theorem zB.L1_eq (N : Nat) (n1 : Nat) (l_ : zk) (i : Int) (o1 : List Int) (o20 : Int) : zB.L1 N (n1 + 1) l_ i o1 o20 =
bif decide (i < (l_.length : Int)) then
bif zP i (l_.length) then
bif (((nth (0, (0, (0, (0, 0)))) l_ i).2).1) == 2 then
bif zP i (l_.length) then
zB.L1 N n1 l_ (IntKind.wrap .i64 (i + 1)) o1 (bitOr .i64 o20 (((((nth (0, (0, (0, (0, 0)))) l_ i).2).2).2).1))
else none
else
bif zP i (l_.length) then
bif (((nth (0, (0, (0, (0, 0)))) l_ i).2).1) == 8 then
bif zP i (l_.length) then
zB.L1 N n1 l_ (IntKind.wrap .i64 (i + 1)) o1 (bitOr .i64 o20 (((((nth (0, (0, (0, (0, 0)))) l_ i).2).2).2).1))
else none
else
zB.L1 N n1 l_ (IntKind.wrap .i64 (i + 1)) o1 o20
else none
else none
else
zB.L2 N N l_ 1 o1 o20 := by kernel_rfl
theorem zB.L2_eq (N : Nat) (n2 : Nat) (l_ : zk) (code : Int) (o1 : List Int) (o20 : Int) : zB.L2 N (n2 + 1) l_ code o1 o20 =
bif decide (code <= 56) then
zB.L3 N n2 N l_ code 0 o1 o20
else
some (o20, o1) := by kernel_rfl
theorem zB.L3_eq (N : Nat) (n2 : Nat) (n3 : Nat) (l_ : zk) (code : Int) (i : Int) (o1 : List Int) (o20 : Int) : zB.L3 N n2 (n3 + 1) l_ code i o1 o20 =
bif decide (i < (l_.length : Int)) then
bif zP i (l_.length) then
bif ((((nth (0, (0, (0, (0, 0)))) l_ i).2).2).1) == code then
bif decide (o1.length + List.length ([code] : List Int) <= maxN) then
zB.L2 N n2 l_ (IntKind.wrap .i64 (code + 1)) (o1 ++ ([code] : List Int)) o20
else none
else
zB.L3 N n2 n3 l_ code (IntKind.wrap .i64 (i + 1)) o1 o20
else none
else
zB.L2 N n2 l_ (IntKind.wrap .i64 (code + 1)) o1 o20 := by kernel_rfl
theorem zB.F_eq (N : Nat) (l_ : zk) : zB.F N l_ =
bindO (zr.F N l_) fun r1 =>
bif !r1 then
some (0, ([] : List Int))
else
zB.L1 N N l_ 0 ([] : List Int) 0 := by kernel_rfl
def zA.c1 : XCode := .seq (.seq (rG [mv 14 6, mv 15 1, o1 16 .len 15, o2 17 (.bin .lss) 14 16]) (.cond (.slot 17) (.skip) (.exit 0))) (.seq (.block 1 (.region true [fA 20 0 5, lN 21 20 1, mv 22 1, mv 23 6, o2 24 (.indexAddr yZ) 22 23, fA 25 1 24, fA 26 2 25, o1 27 (.load false 1) 26, o2 28 (.bin .or) 21 27, fA 29 0 5, sT 1 29 28 1])) (rG [mv 18 6, op 19 (.bin .add) [.slot 18, cI 1], mv 6 19]))
def zA.c2 : XCode := .seq (.seq (rG [mv 35 10, fA 36 1 5, lN 37 36 1, o1 38 .len 37, o2 39 (.bin .lss) 35 38]) (.cond (.slot 39) (.skip) (.exit 4))) (.seq (.block 5 (rG [mv 42 9, sX 43 [.slot 42], gX 44 (.fieldAddr 1) [.slot 5] [] [] 43 false, gX 45 (.load false 1) [.slot 44] [1] [] 43 false, gX 46 .move [.slot 10] [] [] 43 false, gX 47 (.indexAddr (.int .i64)) (sl [45, 46]) [] [] 43 false, gX 48 (.load false 1) [.slot 47] [] [] 43 false, gX 49 .move [.slot 8] [] [] 43 false, gX 50 (.bin .eql) (sl [48, 49]) [] [] 43 false, op 51 .pick [.slot 43, cB true, .slot 50], mv 9 51])) (rG [mv 40 10, op 41 (.bin .add) [.slot 40, cI 1], mv 10 41]))
def zA.c3 : XCode := .seq (.seq (rG [mv 52 11, mv 53 1, o1 54 .len 53, o2 55 (.bin .lss) 52 54]) (.cond (.slot 55) (.skip) (.exit 6))) (.seq (.block 7 (rG [mv 58 9, sX 59 [.slot 58], gX 60 .move [.slot 1] [] [] 59 false, gX 61 .move [.slot 11] [] [] 59 false, gX 62 (.indexAddr yZ) (sl [60, 61]) [] [] 59 false, gX 63 (.fieldAddr 1) [.slot 62] [] [] 59 false, gX 64 (.fieldAddr 1) [.slot 63] [] [] 59 false, gX 65 (.load false 1) [.slot 64] [] [] 59 false, gX 66 .move [.slot 8] [] [] 59 false, gX 67 (.bin .eql) (sl [65, 66]) [] [] 59 false, op 68 .pick [.slot 59, cB true, .slot 67], mv 9 68])) (rG [mv 56 11, op 57 (.bin .add) [.slot 56, cI 1], mv 11 57]))
def zA.c4 : XCode := .seq (rG [mv 69 9]) (.cond (.slot 69) (rG [mv 70 7, mv 71 8, ow 72 (.buildSlice false 3 2 (.int .i64) 1 [(0, 1)] [cZ]) [.slot 71] [3] [3], ow 73 (.append false 2 2 (.int .i64)) (sl [70, 72]) [2, 3] [2], mv 7 73]) (.skip))
def zA.c5 : XCode := .seq (.seq (rG [op 11 .move [cI 0]]) (.block 6 (.loop [.keep [1, 4, 5, 7, 8, 9, 11], .drop 3, .norm] (zA.c3)))) (zA.c4)
def zA.c6 : XCode := rG [mv 33 8, op 34 (.bin .add) [.slot 33, cI 1], mv 8 34]
def zA.c7 : XCode := .seq (.seq (rG [mv 31 8, op 32 (.bin .leq) [.slot 31, cI 56]]) (.cond (.slot 32) (.skip) (.exit 2))) (.seq (.block 3 (.seq (rG [op 9 .move [cB false]]) (.seq (.seq (rG [op 10 .move [cI 0]]) (.block 4 (.loop [.keep [1, 4, 5, 7, 8, 9, 10], .drop 3, .norm] (zA.c2)))) (zA.c5)))) (zA.c6))
def zA.c8 : XCode := .seq (rG [mv 74 7, fA 75 1 5, sT 1 75 74 1]) (.seq (rG [lU 76 2 5 1, sT 2 4 76 0]) (.ret))
def zA.c9 : XCode := .seq (rG [ow 30 (.buildSlice false 2 2 (.int .i64) 0 [] [cZ]) [] [2] [2], mv 7 30]) (.seq (.seq (rG [op 8 .move [cI 1]]) (.block 2 (.loop [.keep [1, 4, 5, 7, 8], .drop 3, .norm] (zA.c7)))) (zA.c8))
def zA.x : XFunc := { nslots := 77, nobj := 4, pars := [.val false 1, .val false 1], rowsIn := no 2, rets := [.var 4 true 2], outs := [.imm, .own 2], fresh := true, arg := .pair (.list yZ) (.list yZ), ret := .pair (.int .i64) (.list (.int .i64)), body := .seq (rG [ow 4 (.alloc 0 [cZ, .nil]) [] [0] [0]]) (.seq (rG [mv 12 0, o1 13 (.call ⟨311, vs 1, no 1, [.val true 2], ims 2, true⟩) 12, ow 5 (.alloc 1 [cZ, .nil]) [] [1] [1], sT 2 5 13 1]) (.seq (.seq (rG [op 6 .move [cI 0]]) (.block 0 (.loop [.keep [1, 4, 5, 6], .drop 2, .drop 3, .norm] (zA.c1)))) (zA.c9))) }
def zA.env (N : Nat) : Env := envOf (tbl [(311, zB.fs N)] noFS)
def zA.F (N : Nat) (x : zk × List (Int × Int × Int × Int × Int)) : Option (Int × List Int) := XFunc.run zA.x (zA.env N) N x
def zA.fs (N : Nat) : FS := { arg := zA.x.arg, ret := zA.x.ret, fresh := true, F := zA.F N }
def zA.k2 (N : Nat) : Ex -> S -> Option (Int × List Int) := seqK (fun s => XCode.runK (zA.env N) N (zA.c9) s (XFunc.endK zA.x)) (XFunc.endK zA.x)
def zA.k1 (N : Nat) : Ex -> S -> Option (Int × List Int) := y2 0 (zA.k2 N)
def zA.k4 (N : Nat) : Ex -> S -> Option (Int × List Int) := seqK (fun s => XCode.runK (zA.env N) N (zA.c8) s (XFunc.endK zA.x)) (XFunc.endK zA.x)
def zA.k3 (N : Nat) : Ex -> S -> Option (Int × List Int) := y2 2 (zA.k4 N)
def zA.k9 (N : Nat) (n2 : Nat) : Ex -> S -> Option (Int × List Int) := seqK (fun s => bindO (S.ghosts s [.keep [1, 4, 5, 7, 8], .drop 3, .norm]) fun s1 => loopK [.keep [1, 4, 5, 7, 8], .drop 3, .norm] (fun s k => XCode.runK (zA.env N) N zA.c7 s k) n2 s1 (zA.k3 N)) (zA.k3 N)
def zA.k8 (N : Nat) (n2 : Nat) : Ex -> S -> Option (Int × List Int) := seqK (fun s => XCode.runK (zA.env N) N (zA.c6) s (zA.k9 N n2)) (zA.k9 N n2)
def zA.k7 (N : Nat) (n2 : Nat) : Ex -> S -> Option (Int × List Int) := y2 3 (zA.k8 N n2)
def zA.k6 (N : Nat) (n2 : Nat) : Ex -> S -> Option (Int × List Int) := seqK (fun s => XCode.runK (zA.env N) N (zA.c5) s (zA.k7 N n2)) (zA.k7 N n2)
def zA.k5 (N : Nat) (n2 : Nat) : Ex -> S -> Option (Int × List Int) := y2 4 (zA.k6 N n2)
def zA.k11 (N : Nat) (n2 : Nat) : Ex -> S -> Option (Int × List Int) := seqK (fun s => XCode.runK (zA.env N) N (zA.c4) s (zA.k7 N n2)) (zA.k7 N n2)
def zA.k10 (N : Nat) (n2 : Nat) : Ex -> S -> Option (Int × List Int) := y2 6 (zA.k11 N n2)
def zA.L1 (N : Nat) (n1 : Nat) (down : zk) (i : Int) (o10 : Int) (o11 : List Int) : Option (Int × List Int) := loopK [.keep [1, 4, 5, 6], .drop 2, .drop 3, .norm] (fun s k => XCode.runK (zA.env N) N zA.c1 s k) n1
 { t := jK 77 [(1, .one (.sl false yZ down)), (4, .one (.ptr 0 0 0)), (5, .one (.ptr 1 0 0)), (6, .one (.int .i64 i))], h := [.box 0 false [cZ, .nil], .box 0 false [.int .i64 o10, .sl true (.int .i64) o11], .absent 0, .absent 0] }
 (zA.k1 N)
def zA.L2 (N : Nat) (n2 : Nat) (down : zk) (code : Int) (o10 : Int) (o11 : List Int) (o2 : List Int) : Option (Int × List Int) := loopK [.keep [1, 4, 5, 7, 8], .drop 3, .norm] (fun s k => XCode.runK (zA.env N) N zA.c7 s k) n2
 { t := jK 77 [(1, .one (.sl false yZ down)), (4, .one (.ptr 0 0 0)), (5, .one (.ptr 1 0 0)), (7, .one (.ref 2 0 .all)), (8, .one (.int .i64 code))], h := [.box 0 false [cZ, .nil], .box 0 false [.int .i64 o10, .sl true (.int .i64) o11], .row 0 false true 2 (.int .i64) o2, .absent 0] }
 (zA.k3 N)
def zA.L3 (N : Nat) (n2 : Nat) (n3 : Nat) (down : zk) (code : Int) (on : Bool) (i : Int) (o10 : Int) (o11 : List Int) (o2 : List Int) : Option (Int × List Int) := loopK [.keep [1, 4, 5, 7, 8, 9, 10], .drop 3, .norm] (fun s k => XCode.runK (zA.env N) N zA.c2 s k) n3
 { t := jK 77 [(1, .one (.sl false yZ down)), (4, .one (.ptr 0 0 0)), (5, .one (.ptr 1 0 0)), (7, .one (.ref 2 0 .all)), (8, .one (.int .i64 code)), (9, .one (.bool on)), (10, .one (.int .i64 i))], h := [.box 0 false [cZ, .nil], .box 0 false [.int .i64 o10, .sl true (.int .i64) o11], .row 0 false true 2 (.int .i64) o2, .absent 0] }
 (zA.k5 N n2)
def zA.L4 (N : Nat) (n2 : Nat) (n4 : Nat) (down : zk) (code : Int) (on : Bool) (i : Int) (o10 : Int) (o11 : List Int) (o2 : List Int) : Option (Int × List Int) := loopK [.keep [1, 4, 5, 7, 8, 9, 11], .drop 3, .norm] (fun s k => XCode.runK (zA.env N) N zA.c3 s k) n4
 { t := jK 77 [(1, .one (.sl false yZ down)), (4, .one (.ptr 0 0 0)), (5, .one (.ptr 1 0 0)), (7, .one (.ref 2 0 .all)), (8, .one (.int .i64 code)), (9, .one (.bool on)), (11, .one (.int .i64 i))], h := [.box 0 false [cZ, .nil], .box 0 false [.int .i64 o10, .sl true (.int .i64) o11], .row 0 false true 2 (.int .i64) o2, .absent 0] }
 (zA.k10 N n2)
theorem zA.L1_eq (N : Nat) (n1 : Nat) (down : zk) (i : Int) (o10 : Int) (o11 : List Int) : zA.L1 N (n1 + 1) down i o10 o11 =
bif decide (i < (down.length : Int)) then
bif zP i (down.length) then
zA.L1 N n1 down (IntKind.wrap .i64 (i + 1)) (bitOr .i64 o10 (((((nth (0, (0, (0, (0, 0)))) down i).2).2).2).1)) o11
else none
else
zA.L2 N N down 1 o10 o11 ([] : List Int) := by kernel_rfl
theorem zA.L2_eq (N : Nat) (n2 : Nat) (down : zk) (code : Int) (o10 : Int) (o11 : List Int) (o2 : List Int) : zA.L2 N (n2 + 1) down code o10 o11 o2 =
bif decide (code <= 56) then
zA.L3 N n2 N down code false 0 o10 o11 o2
else
some (o10, o2) := by kernel_rfl
theorem zA.L3_eq (N : Nat) (n2 : Nat) (n3 : Nat) (down : zk) (code : Int) (on : Bool) (i : Int) (o10 : Int) (o11 : List Int) (o2 : List Int) : zA.L3 N n2 (n3 + 1) down code on i o10 o11 o2 =
bif decide (i < (o11.length : Int)) then
bif on then
zA.L3 N n2 n3 down code true (IntKind.wrap .i64 (i + 1)) o10 o11 o2
else
bif zP i (o11.length) then
zA.L3 N n2 n3 down code ((nth 0 o11 i) == code) (IntKind.wrap .i64 (i + 1)) o10 o11 o2
else none
else
zA.L4 N n2 N down code on 0 o10 o11 o2 := by kernel_rfl
theorem zA.L4_eq (N : Nat) (n2 : Nat) (n4 : Nat) (down : zk) (code : Int) (on : Bool) (i : Int) (o10 : Int) (o11 : List Int) (o2 : List Int) : zA.L4 N n2 (n4 + 1) down code on i o10 o11 o2 =
bif decide (i < (down.length : Int)) then
bif on then
zA.L4 N n2 n4 down code true (IntKind.wrap .i64 (i + 1)) o10 o11 o2
else
bif zP i (down.length) then
zA.L4 N n2 n4 down code (((((nth (0, (0, (0, (0, 0)))) down i).2).2).1) == code) (IntKind.wrap .i64 (i + 1)) o10 o11 o2
else none
else
bif on then
bif decide (o2.length + List.length ([code] : List Int) <= maxN) then
zA.L2 N n2 down (IntKind.wrap .i64 (code + 1)) o10 o11 (o2 ++ ([code] : List Int))
else none
else
zA.L2 N n2 down (IntKind.wrap .i64 (code + 1)) o10 o11 o2 := by kernel_rfl
theorem zA.F_eq (N : Nat) (l_ : zk) (down : zk) : zA.F N (l_, down) =
bindO (zB.F N l_) fun r1 =>
zA.L1 N N down 0 r1.1 r1.2 := by kernel_rfl
def zK.c1 : XCode := .seq (.seq (rG [mv 20 7, mv 21 1, o1 22 .len 21, o2 23 (.bin .lss) 20 22]) (.cond (.slot 23) (.skip) (.exit 0))) (.seq (.block 1 (.seq (rG [mv 26 1, mv 27 7, o2 28 (.indexAddr yW) 26 27, o1 29 (.load true 3) 28, ow 8 (.alloc 2 [cZ, cZ, cZ]) [] [2] [2], sT 3 8 29 2]) (.seq (.seq (rG [fA 30 0 8, lN 31 30 2, op 32 (.bin .neq) [.slot 31, cI 2]]) (.cond (.slot 32) (.seq (rG [mv 33 6, lU 34 3 8 2, o1 35 (.call ⟨288, [.val true 3], no 3, [.val true 4], ims 4, true⟩) 34, o1 36 (.build [cZ, cZ, cZ, cZ, cZ] [(1, 4)]) 35, ow 37 (.buildSlice false 3 15 yZ 1 [(0, 5)] [cZ, cZ, cZ, cZ, cZ]) [.slot 36] [3] [3], ow 38 (.append false 1 15 yZ) (sl [33, 37]) [1, 3] [1], mv 6 38]) (rG [mv 39 5, mv 40 0, mv 41 6, ow 42 (.call ⟨312, vs 2, no 2, [.val true 2], ims 2, true⟩) (sl [40, 41]) [1] [], ow 43 (.buildSlice false 4 12 zAO 1 [(0, 2)] [cZ, .nil]) [.slot 42] [4] [4], ow 44 (.append false 0 12 zAO) (sl [39, 43]) [0, 4] [0], mv 5 44])) (.skip))) (.seq (rG [fA 45 0 8, lN 46 45 2, op 47 (.bin .neq) [.slot 46, cI 1]]) (.cond (.slot 47) (.seq (rG [mv 48 6, mv 49 6, lU 50 3 8 2, ow 51 (.call ⟨287, [.val false 1, .val true 3], no 4, [.val false 1], ims 1, true⟩) (sl [49, 50]) [1] [], ow 52 (.call ⟨289, vs 2, no 2, [.val false 1], [.own 6 15], true⟩) (sl [48, 51]) [1, 6] [6], mv 6 52]) (rG [mv 53 5, mv 54 0, mv 55 6, ow 56 (.call ⟨312, vs 2, no 2, [.val true 2], ims 2, true⟩) (sl [54, 55]) [6] [], ow 57 (.buildSlice false 5 12 zAO 1 [(0, 2)] [cZ, .nil]) [.slot 56] [5] [5], ow 58 (.append false 0 12 zAO) (sl [53, 57]) [0, 5] [0], mv 5 58])) (.skip)))))) (rG [mv 24 7, op 25 (.bin .add) [.slot 24, cI 1], mv 7 25]))
def zK.c2 : XCode := .seq (rG [mv 59 5, mv 4 59]) (.ret)
def zK.x : XFunc := { nslots := 60, nobj := 7, pars := [.val false 1, .val false 1], rowsIn := no 2, rets := [.tmp 4 false 1], outs := [.own 12], fresh := true, arg := .pair (.list yZ) (.list yW), ret := .list zAO, body := .seq (rG [op 4 .move [.const (.one (.nil))]]) (.seq (rG [ow 9 (.buildSlice false 0 12 zAO 0 [] [cZ, .nil]) [] [0] [0], mv 5 9]) (.seq (rG [ow 10 (.buildSlice false 1 15 yZ 0 [] [cZ, cZ, cZ, cZ, cZ]) [] [1] [1], mv 6 10]) (.seq (.seq (rG [mv 11 0, o1 12 (.call ⟨286, vs 1, no 1, [.val false 1], ims 1, true⟩) 11, o1 13 .not 12, sX 14 [.slot 13], gX 15 .move [.slot 1] [] [] 14 false, ⟨some 16, .call ⟨290, vs 1, no 1, [.val false 1], ims 1, true⟩, [.slot 15], [], [], some (14, false), false, .none⟩, gX 17 .not [.slot 16] [] [] 14 false, op 18 .pick [.slot 14, cB true, .slot 17]]) (.cond (.slot 18) (.seq (rG [mv 19 5, mv 4 19]) (.ret)) (.skip))) (.seq (.seq (rG [op 7 .move [cI 0]]) (.block 0 (.loop [.rename 6 1, .keep [0, 1, 5, 6, 7], .drop 2, .drop 3, .drop 4, .drop 5, .drop 6, .norm] (zK.c1)))) (zK.c2))))) }
def zK.env (N : Nat) : Env := envOf (tbl [(286, zr.fs N), (290, zq.fs N), (288, yh.fs N), (287, zy.fs N), (312, zA.fs N), (289, z9.fs N)] noFS)
def zK.F (N : Nat) (x : zk × List (Int × Int × Int)) : Option zAT := XFunc.run zK.x (zK.env N) N x
def zK.fs (N : Nat) : FS := { arg := zK.x.arg, ret := zK.x.ret, fresh := true, F := zK.F N }
def zK.k2 (N : Nat) : Ex -> S -> Option zAT := seqK (fun s => XCode.runK (zK.env N) N (zK.c2) s (XFunc.endK zK.x)) (XFunc.endK zK.x)
def zK.k1 (N : Nat) : Ex -> S -> Option zAT := y2 0 (zK.k2 N)
def zK.L1 (N : Nat) (n1 : Nat) (l_ : zk) (steps : zp) (i : Int) (o0 : zAT) (o1 : zk) : Option zAT := loopK [.rename 6 1, .keep [0, 1, 5, 6, 7], .drop 2, .drop 3, .drop 4, .drop 5, .drop 6, .norm] (fun s k => XCode.runK (zK.env N) N zK.c1 s k) n1
 { t := jK 60 [(0, .one (.sl false yZ l_)), (1, .one (.sl false yW steps)), (5, .one (.ref 0 0 .all)), (6, .one (.ref 1 0 .all)), (7, .one (.int .i64 i))], h := [.row 0 false true 12 zAO o0, .row 0 false true 15 yZ o1, .absent 0, .absent 0, .absent 0, .absent 0, .absent 0] }
 (zK.k1 N)
theorem zK.L1_eq (N : Nat) (n1 : Nat) (l_ : zk) (steps : zp) (i : Int) (o0 : zAT) (o1 : zk) : zK.L1 N (n1 + 1) l_ steps i o0 o1 =
bif decide (i < (steps.length : Int)) then
bif zP i (steps.length) then
bif ((nth (0, (0, 0)) steps i).1) != 2 then
bindO (yh.F N ((nth (0, (0, 0)) steps i).1, ((nth (0, (0, 0)) steps i).2))) fun r3 =>
bif decide (o1.length + List.length ([(0, r3)] : List (Int × Int × Int × Int × Int)) <= maxN) then
bindO (zA.F N (l_, o1 ++ ([(0, r3)] : List (Int × Int × Int × Int × Int)))) fun r4 =>
bif decide (o0.length + List.length ([r4] : List (Int × List Int)) <= maxN) then
bif ((nth (0, (0, 0)) steps i).1) != 1 then
bindO (zy.F N (o1 ++ ([(0, r3)] : List (Int × Int × Int × Int × Int)), ((nth (0, (0, 0)) steps i).1, ((nth (0, (0, 0)) steps i).2)))) fun r5 =>
bindO (z9.F N (o1 ++ ([(0, r3)] : List (Int × Int × Int × Int × Int)), r5)) fun r6 =>
bindO (zA.F N (l_, r6)) fun r7 =>
bif decide (List.length (o0 ++ ([r4] : List (Int × List Int))) + List.length ([r7] : List (Int × List Int)) <= maxN) then
zK.L1 N n1 l_ steps (IntKind.wrap .i64 (i + 1)) ((o0 ++ ([r4] : List (Int × List Int))) ++ ([r7] : List (Int × List Int))) r6
else none
else
zK.L1 N n1 l_ steps (IntKind.wrap .i64 (i + 1)) (o0 ++ ([r4] : List (Int × List Int))) (o1 ++ ([(0, r3)] : List (Int × Int × Int × Int × Int)))
else none
else none
else
bif ((nth (0, (0, 0)) steps i).1) != 1 then
bindO (zy.F N (o1, ((nth (0, (0, 0)) steps i).1, ((nth (0, (0, 0)) steps i).2)))) fun r8 =>
bindO (z9.F N (o1, r8)) fun r9 =>
bindO (zA.F N (l_, r9)) fun r10 =>
bif decide (o0.length + List.length ([r10] : List (Int × List Int)) <= maxN) then
zK.L1 N n1 l_ steps (IntKind.wrap .i64 (i + 1)) (o0 ++ ([r10] : List (Int × List Int))) r9
else none
else
zK.L1 N n1 l_ steps (IntKind.wrap .i64 (i + 1)) o0 o1
else none
else
some o0 := by kernel_rfl
theorem zK.F_eq (N : Nat) (l_ : zk) (steps : zp) : zK.F N (l_, steps) =
bindO (zr.F N l_) fun r1 =>
bif !r1 then
some ([] : List (Int × List Int))
else
bindO (zq.F N steps) fun r2 =>
bif !r2 then
some ([] : List (Int × List Int))
else
zK.L1 N N l_ steps 0 ([] : List (Int × List Int)) ([] : List (Int × Int × Int × Int × Int)) := by kernel_rfl
def zAL.x : XFunc := { nslots := 10, nobj := 3, pars := [.val true 2], rowsIn := no 2, rets := [.var 2 true 2], outs := [.imm, .own 2], fresh := true, arg := .pair (.int .i64) (.list (.int .i64)), ret := .pair (.int .i64) (.list (.int .i64)), body := .seq (rG [ow 1 (.box 0) [.slot 0] [0] [0], ow 2 (.alloc 1 [cZ, .nil]) [] [1] [1]]) (.seq (.region true [fA 3 0 1, lN 4 3 0, ow 5 (.buildSlice false 2 2 (.int .i64) 0 [] [cZ]) [] [2] [2], fA 6 1 1, lN 7 6 0, ow 8 (.append false 2 2 (.int .i64)) (sl [5, 7]) [2] [2], o2 9 (.build [cZ, .nil] [(0, 1), (1, 1)]) 4 8, sT 2 2 9 1]) (.ret)) }
def zAL.env (_ : Nat) : Env := envOf (tbl [] noFS)
def zAL.F (N : Nat) (x : Int × List Int) : Option (Int × List Int) := XFunc.run zAL.x (zAL.env N) N x
def zAL.fs (N : Nat) : FS := { arg := zAL.x.arg, ret := zAL.x.ret, fresh := true, F := zAL.F N }
theorem zAL.F_eq (N : Nat) (r_ : Int × List Int) : zAL.F N r_ =
bif decide (List.length ([] : List Int) + List.length r_.2 <= maxN) then
some (r_.1, ([] : List Int) ++ r_.2)
else none := by kernel_rfl
def zQ.c1 : XCode := .seq (.seq (rG [mv 8 6, mv 9 1, o1 10 .len 9, o2 11 (.bin .lss) 8 10]) (.cond (.slot 11) (.skip) (.exit 0))) (.seq (.block 1 (.seq (.seq (.region true [lU 14 2 2 0, mv 15 1, mv 16 6, o2 17 (.indexAddr zAO) 15 16, o1 18 (.load true 2) 17, o2 19 (.call ⟨277, [.val true 2, .val true 2], no 4, [.val false 1], ims 1, true⟩) 14 18, o1 20 .not 19]) (.cond (.slot 20) (rG [mv 21 5, mv 22 1, mv 23 6, o2 24 (.indexAddr zAO) 22 23, o1 25 (.load true 2) 24, o1 26 (.call ⟨314, [.val true 2], no 2, [.val true 2], ims 2, true⟩) 25, ow 27 (.buildSlice false 2 12 zAO 1 [(0, 2)] [cZ, .nil]) [.slot 26] [2] [2], ow 28 (.append false 1 12 zAO) (sl [21, 27]) [1, 2] [1], mv 5 28]) (.skip))) (rG [mv 29 1, mv 30 6, o2 31 (.indexAddr zAO) 29 30, o1 32 (.load true 2) 31, sT 2 2 32 0]))) (rG [mv 12 6, op 13 (.bin .add) [.slot 12, cI 1], mv 6 13]))
def zQ.c2 : XCode := .seq (rG [mv 33 5, mv 4 33]) (.ret)
def zQ.x : XFunc := { nslots := 34, nobj := 3, pars := [.val true 2, .val false 1], rowsIn := no 3, rets := [.tmp 4 false 1], outs := [.own 12], fresh := true, arg := .pair zAO (.list zAO), ret := .list zAO, body := .seq (rG [ow 2 (.box 0) [.slot 0] [0] [0], op 4 .move [.const (.one (.nil))]]) (.seq (rG [ow 7 (.buildSlice false 1 12 zAO 0 [] [cZ, .nil]) [] [1] [1], mv 5 7]) (.seq (.seq (rG [op 6 .move [cI 0]]) (.block 0 (.loop [.keep [1, 2, 5, 6], .drop 2, .norm] (zQ.c1)))) (zQ.c2))) }
def zQ.env (N : Nat) : Env := envOf (tbl [(277, zb.fs N), (314, zAL.fs N)] noFS)
def zQ.F (N : Nat) (x : (Int × List Int) × List (Int × List Int)) : Option zAT := XFunc.run zQ.x (zQ.env N) N x
def zQ.fs (N : Nat) : FS := { arg := zQ.x.arg, ret := zQ.x.ret, fresh := true, F := zQ.F N }
def zQ.k2 (N : Nat) : Ex -> S -> Option zAT := seqK (fun s => XCode.runK (zQ.env N) N (zQ.c2) s (XFunc.endK zQ.x)) (XFunc.endK zQ.x)
def zQ.k1 (N : Nat) : Ex -> S -> Option zAT := y2 0 (zQ.k2 N)
def zQ.L1 (N : Nat) (n1 : Nat) (l_ : zAT) (i : Int) (o00 : Int) (o01 : List Int) (o1 : zAT) : Option zAT := loopK [.keep [1, 2, 5, 6], .drop 2, .norm] (fun s k => XCode.runK (zQ.env N) N zQ.c1 s k) n1
 { t := jK 34 [(1, .one (.sl false zAO l_)), (2, .one (.ptr 0 0 0)), (5, .one (.ref 1 0 .all)), (6, .one (.int .i64 i))], h := [.box 0 false [.int .i64 o00, .sl false (.int .i64) o01], .row 0 false true 12 zAO o1, .absent 0] }
 (zQ.k1 N)
theorem zQ.L1_eq (N : Nat) (n1 : Nat) (l_ : zAT) (i : Int) (o00 : Int) (o01 : List Int) (o1 : zAT) : zQ.L1 N (n1 + 1) l_ i o00 o01 o1 =
bif decide (i < (l_.length : Int)) then
bif zP i (l_.length) then
bindO (zb.F N ((o00, o01), (nth (0, ([] : List Int)) l_ i))) fun r1 =>
bif !r1 then
bif zP i (l_.length) then
bindO (zAL.F N (nth (0, ([] : List Int)) l_ i)) fun r2 =>
bif decide (o1.length + List.length ([r2] : List (Int × List Int)) <= maxN) then
bif zP i (l_.length) then
zQ.L1 N n1 l_ (IntKind.wrap .i64 (i + 1)) ((nth (0, ([] : List Int)) l_ i).1) ((nth (0, ([] : List Int)) l_ i).2) (o1 ++ ([r2] : List (Int × List Int)))
else none
else none
else none
else
bif zP i (l_.length) then
zQ.L1 N n1 l_ (IntKind.wrap .i64 (i + 1)) ((nth (0, ([] : List Int)) l_ i).1) ((nth (0, ([] : List Int)) l_ i).2) o1
else none
else none
else
some o1 := by kernel_rfl
theorem zQ.F_eq (N : Nat) (last : Int × List Int) (l_ : zAT) : zQ.F N (last, l_) =
zQ.L1 N N l_ 0 last.1 last.2 ([] : List (Int × List Int)) := by kernel_rfl
def zAI.x : XFunc := { nslots := 91, nobj := 10, pars := [.val true 7, .val false 1, .val false 1], rowsIn := no 9, rets := [.var 6 true 7, .tmp 7 false 1, .tmp 8 false 1], outs := [.imm, .imm, .imm, .imm, .own 15, .imm, .imm, .imm, .imm], fresh := true, arg := .pair zAk (.pair (.int .i64) (.bool)), ret := .pair zAk (.pair (.list zAO) (.bool)), body := .seq (rG [ow 3 (.box 0) [.slot 0] [0] [0], ow 6 (.alloc 1 [cZ, .nil, .nil, cZ, .nil, cZ, .bool false]) [] [1] [1], op 7 .move [.const (.one (.nil))], op 8 .move [cB false]]) (.seq (.seq (rG [lU 12 7 3 0, o1 13 (.call ⟨291, [.val true 7], no 7, [.val false 1], ims 1, true⟩) 12, o1 14 .not 13, sX 15 [.slot 14], gX 16 .move [.slot 1] [] [] 15 false, gX 17 (.fieldAddr 0) [.slot 3] [] [] 15 false, gX 18 (.fieldAddr 0) [.slot 17] [] [] 15 false, gX 19 (.load false 1) [.slot 18] [0] [] 15 false, gX 20 (.bin .sub) [.slot 19, cI 1] [] [] 15 false, ⟨some 21, .call ⟨1, vs 3, no 3, [.val false 1], ims 1, true⟩, [.slot 16, cI 0, .slot 20], [], [], some (15, false), false, .none⟩, gX 22 .not [.slot 21] [] [] 15 false, op 23 .pick [.slot 15, cB true, .slot 22], sX 24 [.slot 23], gX 25 (.load true 7) [.slot 3] [0] [] 24 false, gX 26 .move [.slot 1] [] [] 24 false, ⟨some 27, .call ⟨305, [.val true 7, .val false 1], no 8, [.val false 1], ims 1, true⟩, (sl [25, 26]), [], [], some (24, false), false, .none⟩, gX 28 (.bin .geq) [.slot 27, cI 0] [] [] 24 false, op 29 .pick [.slot 24, cB true, .slot 28]]) (.cond (.slot 29) (.seq (rG [op 30 (.build [cZ, .nil, .nil, cZ, .nil, cZ, .bool false] []) [], ow 31 (.buildSlice false 2 12 zAO 0 [] [cZ, .nil]) [] [2] [2], sT 7 6 30 1, mv 7 31, op 8 .move [cB false]]) (.ret)) (.skip))) (.seq (rG [lU 32 7 3 0, ow 33 (.call ⟨293, [.val true 7], no 7, [.val true 7], [.imm, .imm, .imm, .imm, .own 3 15, .imm, .imm], true⟩) [.slot 32] [3] [3], ow 9 (.alloc 4 [cZ, .nil, .nil, cZ, .nil, cZ, .bool false]) [] [4] [4], sT 7 9 33 4]) (.seq (.region true [fA 34 0 3, lU 35 2 34 0, fA 36 3 3, lN 37 36 0, fA 38 4 3, lN 39 38 0, o2 40 (.call ⟨301, vs 2, no 2, [.val false 1], ims 1, true⟩) 37 39, mv 41 1, op 42 (.call ⟨303, [.val true 2, .val false 1, .val false 1], no 4, [.val true 4], ims 4, true⟩) (sl [35, 40, 41]), ow 10 (.alloc 5 [cZ, cZ, cZ, cZ]) [] [5] [5], sT 4 10 42 5]) (.seq (.seq (rG [mv 43 2]) (.cond (.slot 43) (rG [lU 44 4 10 5, o1 45 (.call ⟨306, [.val true 4], no 4, [.val true 4], ims 4, true⟩) 44, sT 4 10 45 5]) (rG [lU 46 4 10 5, o1 47 (.call ⟨307, [.val true 4], no 4, [.val true 4], ims 4, true⟩) 46, sT 4 10 47 5]))) (.seq (rG [lU 48 4 10 5, ow 49 (.call ⟨310, [.box 4 7, .val true 4], [none, none, none, none, some (3, 15), none, none, none, none, none, none], [.val true 4], [.imm, .imm, .imm, .imm, .imm, .imm, .imm, .imm, .own 3 15, .imm, .imm], false⟩) (sl [9, 48]) [3, 4] [3, 4], sT 4 10 49 5]) (.seq (rG [fA 50 4 9, lN 51 50 4, mv 52 1, lU 53 4 10 5, o2 54 (.build [cZ, cZ, cZ, cZ, cZ] [(0, 1), (1, 4)]) 52 53, ow 55 (.buildSlice false 7 15 yZ 1 [(0, 5)] [cZ, cZ, cZ, cZ, cZ]) [.slot 54] [7] [7], ow 56 (.append false 3 15 yZ) (sl [51, 55]) [3, 7] [3], fA 57 4 9, sT 1 57 56 4]) (.seq (rG [ow 58 (.buildSlice false 8 12 zAO 0 [] [cZ, .nil]) [] [8] [8], mv 11 58]) (.seq (.seq (rG [fA 59 0 10, lN 60 59 5, op 61 (.bin .eql) [.slot 60, cI 9], sX 62 [.slot 61], gX 63 (.fieldAddr 3) [.slot 10] [] [] 62 true, gX 64 (.load false 1) [.slot 63] [5] [] 62 true, gX 65 (.fieldAddr 2) [.slot 3] [] [] 62 true, gX 66 (.load false 1) [.slot 65] [0] [] 62 true, gX 67 .len [.slot 66] [] [] 62 true, gX 68 (.bin .lss) (sl [64, 67]) [] [] 62 true, op 69 .pick [.slot 62, .slot 68, cB false]]) (.cond (.slot 69) (.region true [fA 70 4 9, lN 71 70 4, fA 72 2 3, lN 73 72 0, fA 74 3 10, lN 75 74 5, o2 76 (.indexAddr (.list yW)) 73 75, o1 77 (.load false 1) 76, ow 78 (.call ⟨313, vs 2, no 2, [.val false 1], [.own 8 12], true⟩) (sl [71, 77]) [3, 8] [8], mv 11 78]) (.skip))) (.seq (rG [mv 79 11, fA 80 4 9, lN 81 80 4, ow 82 (.call ⟨311, vs 1, no 1, [.val true 2], ims 2, true⟩) [.slot 81] [3] [], ow 83 (.buildSlice false 9 12 zAO 1 [(0, 2)] [cZ, .nil]) [.slot 82] [9] [9], ow 84 (.append false 8 12 zAO) (sl [79, 83]) [8, 9] [8], mv 11 84]) (.seq (.region true [lU 85 7 9 4, fA 86 4 3, lN 87 86 0, o1 88 (.call ⟨311, vs 1, no 1, [.val true 2], ims 2, true⟩) 87, mv 89 11, ow 90 (.call ⟨315, [.val true 2, .val false 1], no 3, [.val false 1], ims 1, true⟩) (sl [88, 89]) [8] [], sT 7 6 85 1, mv 7 90, op 8 .move [cB true]]) (.ret))))))))))) }
def zAI.env (N : Nat) : Env := envOf (tbl [(303, yn.fs N), (305, z6.fs N), (306, zAM.fs N), (291, zG.fs N), (301, zc.fs N), (313, zK.fs N), (311, zB.fs N), (307, zAR.fs N), (1, zS.fs N), (315, zQ.fs N), (293, zn.fs N), (310, y0.fs N)] noFS)
def zAI.F (N : Nat) (x : zAW × Int × Bool) : Option (zAW × zAT × Bool) := XFunc.run zAI.x (zAI.env N) N x
def zAI.fs (N : Nat) : FS := { arg := zAI.x.arg, ret := zAI.x.ret, fresh := true, F := zAI.F N }
theorem zAI.F_eq (N : Nat) (e : (Int × List zU) × (List zp) × Int × zk × Int × Bool) (key : Int) (hold : Bool) : zAI.F N (e, key, hold) =
bindO (zG.F N e) fun r1 =>
bif !r1 then
some (((0, ([] : List zU)), (([] : List zp), (0, (([] : List (Int × Int × Int × Int × Int)), (0, false))))), (([] : List (Int × List Int)), false))
else
bindO (zS.F N (key, (0, IntKind.wrap .i64 (e.1.1 - 1)))) fun r2 =>
bif !r2 then
some (((0, ([] : List zU)), (([] : List zp), (0, (([] : List (Int × Int × Int × Int × Int)), (0, false))))), (([] : List (Int × List Int)), false))
else
bindO (z6.F N (e, key)) fun r3 =>
bif decide (r3 >= 0) then
some (((0, ([] : List zU)), (([] : List zp), (0, (([] : List (Int × Int × Int × Int × Int)), (0, false))))), (([] : List (Int × List Int)), false))
else
bindO (zn.F N e) fun r4 =>
bindO (zc.F N (e.2.2.1, e.2.2.2.1)) fun r5 =>
bindO (yn.F N (e.1, (r5, key))) fun r6 =>
bif hold then
bindO (zAM.F N r6) fun r7 =>
bindO (y0.F N (r4, r7)) fun r8 =>
bif decide (List.length r8.2.2.2.2.1 + List.length ([(key, r8.1)] : List (Int × Int × Int × Int × Int)) <= maxN) then
bif r8.1.1 == 9 then
bif decide (r8.1.2.2.2 < (List.length e.2.1 : Int)) then
bif zP r8.1.2.2.2 (List.length e.2.1) then
bindO (zK.F N (r8.2.2.2.2.1 ++ ([(key, r8.1)] : List (Int × Int × Int × Int × Int)), nth ([] : List (Int × Int × Int)) e.2.1 r8.1.2.2.2)) fun r9 =>
bindO (zB.F N (r8.2.2.2.2.1 ++ ([(key, r8.1)] : List (Int × Int × Int × Int × Int)))) fun r10 =>
bif decide (r9.length + List.length ([r10] : List (Int × List Int)) <= maxN) then
bindO (zB.F N e.2.2.2.1) fun r11 =>
bindO (zQ.F N (r11, r9 ++ ([r10] : List (Int × List Int)))) fun r12 =>
some ((r8.2.1, (r8.2.2.1, (r8.2.2.2.1, (r8.2.2.2.2.1 ++ ([(key, r8.1)] : List (Int × Int × Int × Int × Int)), r8.2.2.2.2.2)))), (r12, true))
else none
else none
else
bindO (zB.F N (r8.2.2.2.2.1 ++ ([(key, r8.1)] : List (Int × Int × Int × Int × Int)))) fun r13 =>
bif decide (List.length ([] : List (Int × List Int)) + List.length ([r13] : List (Int × List Int)) <= maxN) then
bindO (zB.F N e.2.2.2.1) fun r14 =>
bindO (zQ.F N (r14, ([] : List (Int × List Int)) ++ ([r13] : List (Int × List Int)))) fun r15 =>
some ((r8.2.1, (r8.2.2.1, (r8.2.2.2.1, (r8.2.2.2.2.1 ++ ([(key, r8.1)] : List (Int × Int × Int × Int × Int)), r8.2.2.2.2.2)))), (r15, true))
else none
else
bindO (zB.F N (r8.2.2.2.2.1 ++ ([(key, r8.1)] : List (Int × Int × Int × Int × Int)))) fun r16 =>
bif decide (List.length ([] : List (Int × List Int)) + List.length ([r16] : List (Int × List Int)) <= maxN) then
bindO (zB.F N e.2.2.2.1) fun r17 =>
bindO (zQ.F N (r17, ([] : List (Int × List Int)) ++ ([r16] : List (Int × List Int)))) fun r18 =>
some ((r8.2.1, (r8.2.2.1, (r8.2.2.2.1, (r8.2.2.2.2.1 ++ ([(key, r8.1)] : List (Int × Int × Int × Int × Int)), r8.2.2.2.2.2)))), (r18, true))
else none
else none
else
bindO (zAR.F N r6) fun r19 =>
bindO (y0.F N (r4, r19)) fun r20 =>
bif decide (List.length r20.2.2.2.2.1 + List.length ([(key, r20.1)] : List (Int × Int × Int × Int × Int)) <= maxN) then
bif r20.1.1 == 9 then
bif decide (r20.1.2.2.2 < (List.length e.2.1 : Int)) then
bif zP r20.1.2.2.2 (List.length e.2.1) then
bindO (zK.F N (r20.2.2.2.2.1 ++ ([(key, r20.1)] : List (Int × Int × Int × Int × Int)), nth ([] : List (Int × Int × Int)) e.2.1 r20.1.2.2.2)) fun r21 =>
bindO (zB.F N (r20.2.2.2.2.1 ++ ([(key, r20.1)] : List (Int × Int × Int × Int × Int)))) fun r22 =>
bif decide (r21.length + List.length ([r22] : List (Int × List Int)) <= maxN) then
bindO (zB.F N e.2.2.2.1) fun r23 =>
bindO (zQ.F N (r23, r21 ++ ([r22] : List (Int × List Int)))) fun r24 =>
some ((r20.2.1, (r20.2.2.1, (r20.2.2.2.1, (r20.2.2.2.2.1 ++ ([(key, r20.1)] : List (Int × Int × Int × Int × Int)), r20.2.2.2.2.2)))), (r24, true))
else none
else none
else
bindO (zB.F N (r20.2.2.2.2.1 ++ ([(key, r20.1)] : List (Int × Int × Int × Int × Int)))) fun r25 =>
bif decide (List.length ([] : List (Int × List Int)) + List.length ([r25] : List (Int × List Int)) <= maxN) then
bindO (zB.F N e.2.2.2.1) fun r26 =>
bindO (zQ.F N (r26, ([] : List (Int × List Int)) ++ ([r25] : List (Int × List Int)))) fun r27 =>
some ((r20.2.1, (r20.2.2.1, (r20.2.2.2.1, (r20.2.2.2.2.1 ++ ([(key, r20.1)] : List (Int × Int × Int × Int × Int)), r20.2.2.2.2.2)))), (r27, true))
else none
else
bindO (zB.F N (r20.2.2.2.2.1 ++ ([(key, r20.1)] : List (Int × Int × Int × Int × Int)))) fun r28 =>
bif decide (List.length ([] : List (Int × List Int)) + List.length ([r28] : List (Int × List Int)) <= maxN) then
bindO (zB.F N e.2.2.2.1) fun r29 =>
bindO (zQ.F N (r29, ([] : List (Int × List Int)) ++ ([r28] : List (Int × List Int)))) fun r30 =>
some ((r20.2.1, (r20.2.2.1, (r20.2.2.2.1, (r20.2.2.2.2.1 ++ ([(key, r20.1)] : List (Int × Int × Int × Int × Int)), r20.2.2.2.2.2)))), (r30, true))
else none
else none := by kernel_rfl
def zAC.x : XFunc := { nslots := 126, nobj := 5, pars := [.box 0 15, .val true 3, .val false 1], rowsIn := no 19, rets := [.tmp 6 false 1, .tmp 7 false 1, .tmp 8 false 1], outs := iF 18, fresh := false, arg := .pair (.pair zAk zBl) (.pair zAd (.int .i64)), ret := .pair (.list zAO) (.pair (.int .i64) (.pair (.bool) (.pair zAk zBl))), body := .seq (rG [ow 4 (.box 1) [.slot 1] [1] [1], op 6 .move [.const (.one (.nil))], op 7 .move [cI 0], op 8 .move [cB false]]) (.seq (.region true [mv 16 0, o1 17 .nilck 16, fA 18 0 17, fA 19 0 18, lU 20 2 19 0, mv 21 0, o1 22 .nilck 21, fA 23 0 22, fA 24 3 23, lN 25 24 0, mv 26 0, o1 27 .nilck 26, fA 28 0 27, fA 29 4 28, lN 30 29 0, o2 31 (.call ⟨301, vs 2, no 2, [.val false 1], ims 1, true⟩) 25 30, fA 32 1 4, lN 33 32 1, op 34 (.call ⟨303, [.val true 2, .val false 1, .val false 1], no 4, [.val true 4], ims 4, true⟩) (sl [20, 31, 33]), ow 9 (.alloc 2 [cZ, cZ, cZ, cZ]) [] [2] [2], sT 4 9 34 2]) (.seq (rG [op 10 .move [cB false]]) (.seq (.seq (rG [lU 35 4 9 2, o1 36 (.call ⟨285, [.val true 4], no 4, [.val false 1], ims 1, true⟩) 35]) (.cond (.slot 36) (.seq (.region true [mv 38 0, o1 39 .nilck 38, fA 40 7 39, lU 41 3 40 0, fA 42 1 4, lN 43 42 1, fA 44 0 4, lN 45 44 1, mv 46 0, o1 47 .nilck 46, fA 48 10 47, lN 49 48 0, op 50 (.slice zAd true false) [.slot 49, cI 1], mv 51 0, o1 52 .nilck 51, fA 53 11 52, lN 54 53 0, op 55 (.call ⟨304, [.val true 3, .val false 1, .val false 1, .val false 1, .val false 1], no 7, (rB 2), ims 2, true⟩) (sl [41, 43, 45, 50, 54]), mv 37 55, eX 56 0 37, eX 57 1 37, mv 11 56, mv 12 57]) (.seq (.seq (.region true [mv 58 0, o1 59 .nilck 58, fA 60 13 59, lN 61 60 0, fA 62 1 4, lN 63 62 1, op 64 (.bin .add) [.slot 63, cI 1], o2 65 (.bin .eql) 61 64, sX 66 [.slot 65], gX 67 (.fieldAddr 0) [.slot 4] [] [] 66 true, gX 68 (.load false 1) [.slot 67] [1] [] 66 true, gX 69 .move [.slot 0] [] [] 66 true, gX 70 .nilck [.slot 69] [] [] 66 true, gX 71 (.fieldAddr 14) [.slot 70] [] [] 66 true, gX 72 (.load false 1) [.slot 71] [0] [] 66 true, gX 73 (.bin .sub) (sl [68, 72]) [] [] 66 true, gX 74 .move [.slot 0] [] [] 66 true, gX 75 .nilck [.slot 74] [] [] 66 true, gX 76 (.fieldAddr 7) [.slot 75] [] [] 66 true, gX 77 (.fieldAddr 1) [.slot 76] [] [] 66 true, gX 78 (.load false 1) [.slot 77] [0] [] 66 true, gX 79 (.bin .lss) (sl [73, 78]) [] [] 66 true, op 80 .pick [.slot 66, .slot 79, cB false]]) (.cond (.slot 80) (.seq (rG [op 11 .move [cI 1]]) (rG [fA 81 0 4, lN 82 81 1, mv 12 82])) (.skip))) (.seq (.seq (rG [mv 83 11, op 84 (.bin .eql) [.slot 83, cI 0]]) (.cond (.slot 84) (.seq (rG [ow 85 (.buildSlice false 4 12 zAO 0 [] [cZ, .nil]) [] [4] [4], mv 86 2, mv 6 85, mv 7 86, op 8 .move [cB false]]) (.ret)) (.skip))) (.seq (rG [mv 87 11, op 88 (.bin .eql) [.slot 87, cI 2], mv 10 88]) (.seq (rG [mv 89 0, o1 90 .nilck 89, fA 91 13 90, on (.store 1) [.slot 91, cI 0] [0] [0]]) (.seq (.seq (rG [mv 92 10, o1 93 .not 92]) (.cond (.slot 93) (.seq (rG [mv 94 0, fA 95 1 4, lN 96 95 1, op 97 (.bin .add) [.slot 96, cI 1], o1 98 .nilck 94, fA 99 13 98, sT 1 99 97 0]) (rG [mv 100 0, fA 101 0 4, lN 102 101 1, o1 103 .nilck 100, fA 104 14 103, sT 1 104 102 0])) (.skip))) (rG [mv 105 2, mv 106 12, o2 107 .max 105 106, mv 2 107]))))))) (.skip))) (.seq (.region true [mv 109 0, o1 110 .nilck 109, fA 111 0 110, lU 112 7 111 0, fA 113 1 4, lN 114 113 1, mv 115 10, op 116 (.call ⟨316, [.val true 7, .val false 1, .val false 1], no 9, [.val true 7, .val false 1, .val false 1], ims 9, true⟩) (sl [112, 114, 115]), mv 108 116, eX 117 0 108, eX 118 1 108, eX 119 2 108, ow 13 (.alloc 3 [cZ, .nil, .nil, cZ, .nil, cZ, .bool false]) [] [3] [3], sT 7 13 117 3, mv 14 118, mv 15 119]) (.seq (rG [mv 120 0, lU 121 7 13 3, o1 122 .nilck 120, fA 123 0 122, sT 7 123 121 0]) (.seq (rG [mv 124 14, mv 125 2, mv 6 124, mv 7 125, op 8 .move [cB true]]) (.ret))))))) }
def zAC.env (N : Nat) : Env := envOf (tbl [(303, yn.fs N), (304, zX.fs N), (285, z5.fs N), (301, zc.fs N), (316, zAI.fs N)] noFS)
def zAC.F (N : Nat) (x : zBK × (Int × Int × Bool) × Int) : Option (zAT × Int × Bool × zAW × (Int × Int × Int) × zAQ × Int × Int × Int × Int) := XFunc.run zAC.x (zAC.env N) N x
def zAC.fs (N : Nat) : FS := { arg := zAC.x.arg, ret := zAC.x.ret, fresh := false, F := zAC.F N }
theorem zAC.F_eq (N : Nat) (d : zAW × (Int × Int × Int) × zAQ × Int × Int × Int × Int) (f : Int × Int × Bool) (w : Int) : zAC.F N (d, f, w) =
bindO (zc.F N (d.1.2.2.1, d.1.2.2.2.1)) fun r1 =>
bindO (yn.F N (d.1.1, (r1, f.2.1))) fun r2 =>
bindO (z5.F N r2) fun r3 =>
bif r3 then
bif decide (0 <= (1 : Int)) && decide (1 <= (List.length d.2.2.1 : Int)) then
bindO (zX.F N (d.2.1, (f.2.1, (f.1, (List.drop 1 d.2.2.1, d.2.2.2.1))))) fun r4 =>
bif d.2.2.2.2.2.1 == (IntKind.wrap .i64 (f.2.1 + 1)) then
bif decide ((IntKind.wrap .i64 (f.1 - d.2.2.2.2.2.2)) < d.2.1.2.1) then
bindO (zAI.F N (d.1, (f.2.1, false))) fun r5 =>
some (r5.2.1, (maxI w f.1, (true, (r5.1, (d.2.1, (d.2.2.1, (d.2.2.2.1, (d.2.2.2.2.1, (IntKind.wrap .i64 (f.2.1 + 1), f.1)))))))))
else
bif r4.1 == 0 then
some (([] : List (Int × List Int)), (w, (false, d)))
else
bif !(r4.1 == 2) then
bindO (zAI.F N (d.1, (f.2.1, r4.1 == 2))) fun r6 =>
some (r6.2.1, (maxI w r4.2, (true, (r6.1, (d.2.1, (d.2.2.1, (d.2.2.2.1, (d.2.2.2.2.1, (IntKind.wrap .i64 (f.2.1 + 1), f.1)))))))))
else
bindO (zAI.F N (d.1, (f.2.1, r4.1 == 2))) fun r7 =>
some (r7.2.1, (maxI w r4.2, (true, (r7.1, (d.2.1, (d.2.2.1, (d.2.2.2.1, (d.2.2.2.2.1, (0, d.2.2.2.2.2.2)))))))))
else
bif r4.1 == 0 then
some (([] : List (Int × List Int)), (w, (false, d)))
else
bif !(r4.1 == 2) then
bindO (zAI.F N (d.1, (f.2.1, r4.1 == 2))) fun r8 =>
some (r8.2.1, (maxI w r4.2, (true, (r8.1, (d.2.1, (d.2.2.1, (d.2.2.2.1, (d.2.2.2.2.1, (IntKind.wrap .i64 (f.2.1 + 1), f.1)))))))))
else
bindO (zAI.F N (d.1, (f.2.1, r4.1 == 2))) fun r9 =>
some (r9.2.1, (maxI w r4.2, (true, (r9.1, (d.2.1, (d.2.2.1, (d.2.2.2.1, (d.2.2.2.2.1, (0, d.2.2.2.2.2.2)))))))))
else none
else
bindO (zAI.F N (d.1, (f.2.1, false))) fun r10 =>
some (r10.2.1, (w, (true, (r10.1, d.2)))) := by kernel_rfl
def zAD.x : XFunc := { nslots := 37, nobj := 5, pars := [.val true 7, .val false 1], rowsIn := no 8, rets := [.var 4 true 7, .tmp 5 false 1, .tmp 6 false 1], outs := iF 9, fresh := true, arg := .pair zAk (.int .i64), ret := .pair zAk (.pair (.list zAO) (.bool)), body := .seq (rG [ow 2 (.box 0) [.slot 0] [0] [0], ow 4 (.alloc 1 [cZ, .nil, .nil, cZ, .nil, cZ, .bool false]) [] [1] [1], op 5 .move [.const (.one (.nil))], op 6 .move [cB false]]) (.seq (rG [lU 9 7 2 0, mv 10 1, o2 11 (.call ⟨305, [.val true 7, .val false 1], no 8, [.val false 1], ims 1, true⟩) 9 10, mv 7 11]) (.seq (.seq (rG [lU 12 7 2 0, o1 13 (.call ⟨291, [.val true 7], no 7, [.val false 1], ims 1, true⟩) 12, o1 14 .not 13, sX 15 [.slot 14], gX 16 .move [.slot 7] [] [] 15 false, gX 17 (.bin .lss) [.slot 16, cI 0] [] [] 15 false, op 18 .pick [.slot 15, cB true, .slot 17]]) (.cond (.slot 18) (.seq (rG [op 19 (.build [cZ, .nil, .nil, cZ, .nil, cZ, .bool false] []) [], ow 20 (.buildSlice false 2 12 zAO 0 [] [cZ, .nil]) [] [2] [2], sT 7 4 19 1, mv 5 20, op 6 .move [cB false]]) (.ret)) (.skip))) (.seq (rG [lU 21 7 2 0, o1 22 (.call ⟨293, [.val true 7], no 7, [.val true 7], ims 7, true⟩) 21, ow 8 (.alloc 3 [cZ, .nil, .nil, cZ, .nil, cZ, .bool false]) [] [3] [3], sT 7 8 22 3]) (.seq (rG [fA 23 4 8, lN 24 23 3, mv 25 7, o2 26 (.call ⟨289, vs 2, no 2, [.val false 1], ims 1, true⟩) 24 25, fA 27 4 8, sT 1 27 26 3]) (.seq (.region true [lU 28 7 8 3, fA 29 4 2, lN 30 29 0, o1 31 (.call ⟨311, vs 1, no 1, [.val true 2], ims 2, true⟩) 30, fA 32 4 8, lN 33 32 3, o1 34 (.call ⟨311, vs 1, no 1, [.val true 2], ims 2, true⟩) 33, ow 35 (.buildSlice false 4 12 zAO 1 [(0, 2)] [cZ, .nil]) [.slot 34] [4] [4], ow 36 (.call ⟨315, [.val true 2, .val false 1], no 3, [.val false 1], ims 1, true⟩) (sl [31, 35]) [4] [], sT 7 4 28 1, mv 5 36, op 6 .move [cB true]]) (.ret)))))) }
def zAD.env (N : Nat) : Env := envOf (tbl [(305, z6.fs N), (291, zG.fs N), (311, zB.fs N), (289, z9.fs N), (315, zQ.fs N), (293, zn.fs N)] noFS)
def zAD.F (N : Nat) (x : zAW × Int) : Option (zAW × zAT × Bool) := XFunc.run zAD.x (zAD.env N) N x
def zAD.fs (N : Nat) : FS := { arg := zAD.x.arg, ret := zAD.x.ret, fresh := true, F := zAD.F N }
theorem zAD.F_eq (N : Nat) (e : (Int × List zU) × (List zp) × Int × zk × Int × Bool) (key : Int) : zAD.F N (e, key) =
bindO (z6.F N (e, key)) fun r1 =>
bindO (zG.F N e) fun r2 =>
bif !r2 then
some (((0, ([] : List zU)), (([] : List zp), (0, (([] : List (Int × Int × Int × Int × Int)), (0, false))))), (([] : List (Int × List Int)), false))
else
bif decide (r1 < 0) then
some (((0, ([] : List zU)), (([] : List zp), (0, (([] : List (Int × Int × Int × Int × Int)), (0, false))))), (([] : List (Int × List Int)), false))
else
bindO (zn.F N e) fun r3 =>
bindO (z9.F N (r3.2.2.2.1, r1)) fun r4 =>
bindO (zB.F N e.2.2.2.1) fun r5 =>
bindO (zB.F N r4) fun r6 =>
bindO (zQ.F N (r5, ([r6] : List (Int × List Int)))) fun r7 =>
some ((r3.1, (r3.2.1, (r3.2.2.1, (r4, r3.2.2.2.2)))), (r7, true)) := by kernel_rfl
def zR.c1 : XCode := .seq (.seq (rG [mv 79 13, mv 80 6, o1 81 .len 80, o2 82 (.bin .lss) 79 81]) (.cond (.slot 82) (.skip) (.exit 2))) (.seq (.block 3 (rG [mv 85 3, mv 86 5, mv 87 6, mv 88 13, o2 89 (.indexAddr zAO) 87 88, o1 90 (.load true 2) 89, o2 91 (.build [cZ, cZ, .nil] [(0, 1), (1, 2)]) 86 90, ow 92 (.buildSlice false 4 13 zBE 1 [(0, 3)] [cZ, cZ, .nil]) [.slot 91] [4] [4], ow 93 (.append false 1 13 zBE) (sl [85, 92]) [1, 4] [1], mv 3 93])) (rG [mv 83 13, op 84 (.bin .add) [.slot 83, cI 1], mv 13 84]))
def zR.c2 : XCode := .seq (rG [mv 94 0, mv 95 5, o1 96 .nilck 94, fA 97 12 96, sT 1 97 95 0]) (rG [mv 98 0, ow 99 (.buildSlice false 5 4 zAd 0 [] [cZ, cZ, .bool false]) [] [5] [5], mv 100 0, o1 101 .nilck 100, fA 102 10 101, lN 103 102 0, op 104 (.slice zAd true false) [.slot 103, cI 1], ow 105 (.append false 5 4 zAd) (sl [99, 104]) [5] [5], o1 106 .nilck 98, fA 107 10 106, sT 1 107 105 0])
def zR.c3 : XCode := .seq (.seq (rG [mv 15 0, o1 16 .nilck 15, fA 17 10 16, lN 18 17 0, o1 19 .len 18, op 20 (.bin .gtr) [.slot 19, cI 0]]) (.cond (.slot 20) (.skip) (.exit 0))) (.block 1 (.seq (rG [mv 21 0, o1 22 .nilck 21, fA 23 10 22, lN 24 23 0, op 25 (.indexAddr zAd) [.slot 24, cI 0], o1 26 (.load true 3) 25, ow 4 (.alloc 2 [cZ, cZ, .bool false]) [] [2] [2], sT 3 4 26 2]) (.seq (.region true [mv 27 0, o1 28 .nilck 27, fA 29 12 28, lN 30 29 0, fA 31 0 4, lN 32 31 2, o2 33 .max 30 32, mv 5 33]) (.seq (rG [ow 34 (.buildSlice false 3 12 zAO 0 [] [cZ, .nil]) [] [3] [3], mv 6 34]) (.seq (.seq (rG [fA 35 2 4, lN 36 35 2]) (.cond (.slot 36) (.seq (rG [mv 38 0, lU 39 3 4 2, mv 40 5, ow 41 (.call ⟨317, [.box 0 15, .val true 3, .val false 1], no 19, (rB 3), ims 18, false⟩) (sl [38, 39, 40]) [0] [0], mv 37 41, eX 42 0 37, eX 43 1 37, eX 44 2 37, mv 7 42, mv 8 43, mv 9 44]) (.seq (.seq (rG [mv 45 9, o1 46 .not 45]) (.cond (.slot 46) (.seq (rG [mv 47 3, mv 2 47]) (.ret)) (.skip))) (.seq (rG [mv 48 7, mv 6 48]) (rG [mv 49 8, mv 5 49])))) (.seq (.region true [mv 51 0, o1 52 .nilck 51, fA 53 0 52, lU 54 7 53 0, fA 55 1 4, lN 56 55 2, o2 57 (.call ⟨318, [.val true 7, .val false 1], no 8, [.val true 7, .val false 1, .val false 1], ims 9, true⟩) 54 56, mv 50 57, eX 58 0 50, eX 59 1 50, eX 60 2 50, ow 10 (.alloc 6 [cZ, .nil, .nil, cZ, .nil, cZ, .bool false]) [] [6] [6], sT 7 10 58 6, mv 11 59, mv 12 60]) (.seq (rG [mv 61 0, lU 62 7 10 6, o1 63 .nilck 61, fA 64 0 63, sT 7 64 62 0]) (.seq (rG [mv 65 11, mv 6 65]) (.seq (.region true [mv 66 0, o1 67 .nilck 66, fA 68 13 67, lN 69 68 0, fA 70 1 4, lN 71 70 2, op 72 (.bin .add) [.slot 71, cI 1], o2 73 (.bin .eql) 69 72]) (.cond (.slot 73) (rG [mv 74 0, fA 75 0 4, lN 76 75 2, o1 77 .nilck 74, fA 78 14 77, sT 1 78 76 0]) (.skip)))))))) (.seq (.seq (rG [op 13 .move [cI 0]]) (.block 2 (.loop [.keep [0, 3, 5, 6, 13], .drop 2, .drop 3, .drop 4, .drop 5, .drop 6, .weak, .norm] (zR.c1)))) (zR.c2)))))))
def zR.c4 : XCode := .seq (rG [mv 108 3, mv 2 108]) (.ret)
def zR.x : XFunc := { nslots := 109, nobj := 7, pars := [.box 0 15], rowsIn := no 15, rets := [.tmp 2 false 1], outs := [.own 13, .imm, .imm, .imm, .imm, .imm, .imm, .imm, .imm, .imm, .imm, .imm, .imm, .imm, .imm, .imm], fresh := false, arg := .pair zAk zBl, ret := .pair (.list zBE) (.pair zAk zBl), body := .seq (rG [op 2 .move [.const (.one (.nil))]]) (.seq (rG [ow 14 (.buildSlice false 1 13 zBE 0 [] [cZ, cZ, .nil]) [] [1] [1], mv 3 14]) (.seq (.block 0 (.loop [.freeze 5, .keep [0, 3], .drop 2, .drop 3, .drop 4, .drop 5, .drop 6, .weak, .norm] (zR.c3))) (zR.c4))) }
def zR.env (N : Nat) : Env := envOf (tbl [(318, zAD.fs N), (317, zAC.fs N)] noFS)
def zR.F (N : Nat) (x : zAW × (Int × Int × Int) × zAQ × Int × Int × Int × Int) : Option D20_30 := XFunc.run zR.x (zR.env N) N x
def zR.fs (N : Nat) : FS := { arg := zR.x.arg, ret := zR.x.ret, fresh := false, F := zR.F N }
def zR.k2 (N : Nat) : Ex -> S -> Option D20_30 := seqK (fun s => XCode.runK (zR.env N) N (zR.c4) s (XFunc.endK zR.x)) (XFunc.endK zR.x)
def zR.k1 (N : Nat) : Ex -> S -> Option D20_30 := y2 0 (zR.k2 N)
def zR.k6 (N : Nat) (n1 : Nat) : Ex -> S -> Option D20_30 := seqK (fun s => bindO (S.ghosts s [.freeze 5, .keep [0, 3], .drop 2, .drop 3, .drop 4, .drop 5, .drop 6, .weak, .norm]) fun s1 => loopK [.freeze 5, .keep [0, 3], .drop 2, .drop 3, .drop 4, .drop 5, .drop 6, .weak, .norm] (fun s k => XCode.runK (zR.env N) N zR.c3 s k) n1 s1 (zR.k1 N)) (zR.k1 N)
def zR.k5 (N : Nat) (n1 : Nat) : Ex -> S -> Option D20_30 := y2 1 (zR.k6 N n1)
def zR.k4 (N : Nat) (n1 : Nat) : Ex -> S -> Option D20_30 := seqK (fun s => XCode.runK (zR.env N) N (zR.c2) s (zR.k5 N n1)) (zR.k5 N n1)
def zR.k3 (N : Nat) (n1 : Nat) : Ex -> S -> Option D20_30 := y2 2 (zR.k4 N n1)
def zR.L1 (N : Nat) (n1 : Nat) (d0 : Int) (d1 : List zU) (d2 : List zp) (d3 : Int) (d4 : zk) (d5 : Int) (d6 : Bool) (d7 : Int) (d8 : Int) (d9 : Int) (d10 : zAQ) (d11 : Int) (d12 : Int) (d13 : Int) (d14 : Int) (o1 : zA9) : Option D20_30 := loopK [.freeze 5, .keep [0, 3], .drop 2, .drop 3, .drop 4, .drop 5, .drop 6, .weak, .norm] (fun s k => XCode.runK (zR.env N) N zR.c3 s k) n1
 { t := jK 109 [(0, .one (.ptr 0 0 0)), (3, .one (.ref 1 0 .all))], h := [.box 0 true [.int .i64 d0, .sl false (.list yM) d1, .sl false (.list yW) d2, .int .i64 d3, .sl false yZ d4, .int .i64 d5, .bool d6, .int .i64 d7, .int .i64 d8, .int .i64 d9, .sl false zAd d10, .int .i64 d11, .int .i64 d12, .int .i64 d13, .int .i64 d14], .row 0 false false 13 zBE o1, .absent 0, .absent 0, .absent 0, .absent 0, .absent 0] }
 (zR.k1 N)
def zR.L2 (N : Nat) (n1 : Nat) (n2 : Nat) (w : Int) (reports : zAT) (i : Int) (d0 : Int) (d1 : List zU) (d2 : List zp) (d3 : Int) (d4 : zk) (d5 : Int) (d6 : Bool) (d7 : Int) (d8 : Int) (d9 : Int) (d10 : zAQ) (d11 : Int) (d12 : Int) (d13 : Int) (d14 : Int) (o1 : zA9) : Option D20_30 := loopK [.keep [0, 3, 5, 6, 13], .drop 2, .drop 3, .drop 4, .drop 5, .drop 6, .weak, .norm] (fun s k => XCode.runK (zR.env N) N zR.c1 s k) n2
 { t := jK 109 [(0, .one (.ptr 0 0 0)), (3, .one (.ref 1 0 .all)), (5, .one (.int .i64 w)), (6, .one (.sl false zAO reports)), (13, .one (.int .i64 i))], h := [.box 0 true [.int .i64 d0, .sl false (.list yM) d1, .sl false (.list yW) d2, .int .i64 d3, .sl false yZ d4, .int .i64 d5, .bool d6, .int .i64 d7, .int .i64 d8, .int .i64 d9, .sl false zAd d10, .int .i64 d11, .int .i64 d12, .int .i64 d13, .int .i64 d14], .row 0 false false 13 zBE o1, .absent 0, .absent 0, .absent 0, .absent 0, .absent 0] }
 (zR.k3 N n1)
theorem zR.L1_eq (N : Nat) (n1 : Nat) (d0 : Int) (d1 : List zU) (d2 : List zp) (d3 : Int) (d4 : zk) (d5 : Int) (d6 : Bool) (d7 : Int) (d8 : Int) (d9 : Int) (d10 : zAQ) (d11 : Int) (d12 : Int) (d13 : Int) (d14 : Int) (o1 : zA9) : zR.L1 N (n1 + 1) d0 d1 d2 d3 d4 d5 d6 d7 d8 d9 d10 d11 d12 d13 d14 o1 =
bif decide ((d10.length : Int) > 0) then
bif zP 0 (d10.length) then
bif ((nth (0, (0, false)) d10 0).2).2 then
bindO (zAC.F N ((((d0, d1), (d2, (d3, (d4, (d5, d6))))), ((d7, (d8, d9)), (d10, (d11, (d12, (d13, d14)))))), (((nth (0, (0, false)) d10 0).1, ((nth (0, (0, false)) d10 0).2)), maxI d12 ((nth (0, (0, false)) d10 0).1)))) fun r1 =>
bif !r1.2.2.1 then
some (o1, r1.2.2.2)
else
zR.L2 N n1 N r1.2.1 r1.1 0 r1.2.2.2.1.1.1 r1.2.2.2.1.1.2 r1.2.2.2.1.2.1 r1.2.2.2.1.2.2.1 r1.2.2.2.1.2.2.2.1 r1.2.2.2.1.2.2.2.2.1 r1.2.2.2.1.2.2.2.2.2 r1.2.2.2.2.1.1 r1.2.2.2.2.1.2.1 r1.2.2.2.2.1.2.2 r1.2.2.2.2.2.1 r1.2.2.2.2.2.2.1 r1.2.2.2.2.2.2.2.1 r1.2.2.2.2.2.2.2.2.1 r1.2.2.2.2.2.2.2.2.2 o1
else
bindO (zAD.F N (((d0, d1), (d2, (d3, (d4, (d5, d6))))), ((nth (0, (0, false)) d10 0).2).1)) fun r2 =>
bif d13 == (IntKind.wrap .i64 ((((nth (0, (0, false)) d10 0).2).1) + 1)) then
zR.L2 N n1 N (maxI d12 ((nth (0, (0, false)) d10 0).1)) r2.2.1 0 r2.1.1.1 r2.1.1.2 r2.1.2.1 r2.1.2.2.1 r2.1.2.2.2.1 r2.1.2.2.2.2.1 r2.1.2.2.2.2.2 d7 d8 d9 d10 d11 d12 d13 ((nth (0, (0, false)) d10 0).1) o1
else
zR.L2 N n1 N (maxI d12 ((nth (0, (0, false)) d10 0).1)) r2.2.1 0 r2.1.1.1 r2.1.1.2 r2.1.2.1 r2.1.2.2.1 r2.1.2.2.2.1 r2.1.2.2.2.2.1 r2.1.2.2.2.2.2 d7 d8 d9 d10 d11 d12 d13 d14 o1
else none
else
some (o1, (((d0, d1), (d2, (d3, (d4, (d5, d6))))), ((d7, (d8, d9)), (d10, (d11, (d12, (d13, d14))))))) := by kernel_rfl
theorem zR.L2_eq (N : Nat) (n1 : Nat) (n2 : Nat) (w : Int) (reports : zAT) (i : Int) (d0 : Int) (d1 : List zU) (d2 : List zp) (d3 : Int) (d4 : zk) (d5 : Int) (d6 : Bool) (d7 : Int) (d8 : Int) (d9 : Int) (d10 : zAQ) (d11 : Int) (d12 : Int) (d13 : Int) (d14 : Int) (o1 : zA9) : zR.L2 N n1 (n2 + 1) w reports i d0 d1 d2 d3 d4 d5 d6 d7 d8 d9 d10 d11 d12 d13 d14 o1 =
bif decide (i < (reports.length : Int)) then
bif zP i (reports.length) then
bif decide (o1.length + List.length ([(w, (nth (0, ([] : List Int)) reports i))] : List (Int × Int × List Int)) <= maxN) then
zR.L2 N n1 n2 w reports (IntKind.wrap .i64 (i + 1)) d0 d1 d2 d3 d4 d5 d6 d7 d8 d9 d10 d11 d12 d13 d14 (o1 ++ ([(w, (nth (0, ([] : List Int)) reports i))] : List (Int × Int × List Int)))
else none
else none
else
bif decide (0 <= (1 : Int)) && decide (1 <= (d10.length : Int)) then
bif decide (List.length ([] : List (Int × Int × Bool)) + List.length (List.drop 1 d10) <= maxN) then
zR.L1 N n1 d0 d1 d2 d3 d4 d5 d6 d7 d8 d9 (([] : List (Int × Int × Bool)) ++ (List.drop 1 d10)) d11 w d13 d14 o1
else none
else none := by kernel_rfl
theorem zR.F_eq (N : Nat) (d : zAW × (Int × Int × Int) × zAQ × Int × Int × Int × Int) : zR.F N d =
zR.L1 N N d.1.1.1 d.1.1.2 d.1.2.1 d.1.2.2.1 d.1.2.2.2.1 d.1.2.2.2.2.1 d.1.2.2.2.2.2 d.2.1.1 d.2.1.2.1 d.2.1.2.2 d.2.2.1 d.2.2.2.1 d.2.2.2.2.1 d.2.2.2.2.2.1 d.2.2.2.2.2.2 ([] : List (Int × Int × List Int)) := by kernel_rfl
end Go.Kb
