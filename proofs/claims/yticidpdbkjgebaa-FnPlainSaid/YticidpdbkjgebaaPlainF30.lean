/- The texts of functions, printed by a program, and the equations of their runs. -/
import Derived.Test.YticidpdbkjgebaaPlainP0toP75
import Derived.Test.YticidpdbkjgebaaPlainF4toP31
import Derived.Test.YticidpdbkjgebaaPlainP94toF8
import Derived.Test.YticidpdbkjgebaaKd
import Derived.KernelRfl
namespace Go.Kb
abbrev zAj : Ty := .pair (.int .i64) (.pair (.int .i64) (.int .i64))
abbrev T2_30 : Ty := .pair (.pair (.int .i64) (.list (.list (.pair (.int .i64) zAj)))) (.pair (.list (.list zAj)) (.pair (.int .i64) (.pair (.list (.pair (.int .i64) (.pair (.int .i64) zAj))) (.pair (.int .i64) (.bool)))))
abbrev zAw : Ty := .pair (.int .i64) zAj
abbrev T4_30 : Ty := .pair (.int .i64) (.pair (.int .i64) (.bool))
abbrev zBK : Ty := .pair (.int .i64) (.list (.int .i64))
abbrev zBZ : Ty := .pair (.int .i64) zAw
abbrev zA6 : Ty := .pair (.int .i64) (.int .i64)
abbrev T8_30 : Ty := .pair (.list (.list zAj)) (.pair (.int .i64) (.pair (.list zBZ) (.pair (.int .i64) (.bool))))
abbrev T9_30 : Ty := .pair zAj (.pair (.list T4_30) zAw)
abbrev T10_30 : Ty := .pair (.int .i64) (.list (.list zAw))
abbrev T11_30 : Ty := .pair (.list (.int .u8)) zA6
abbrev T12_30 : Ty := .pair (.int .i64) zBK
abbrev T14_30 : Ty := .pair (.list T4_30) (.int .i64)
abbrev zBy : Type := (Int × List (List (Int × Int × Int × Int))) × (List (List (Int × Int × Int))) × Int × (List (Int × Int × Int × Int × Int)) × Int × Bool
abbrev y1 : Type := List (Int × Int × Int × Int)
abbrev y8 : Type := List (Int × Int × Int)
abbrev zAT : Type := List (Int × Int × Int × Int × Int)
abbrev D19_30 : Type := zBy × (Int × Int × Int) × (List (Int × Int × Bool)) × Int × Int × Int × Int
abbrev zBd : Type := List (Int × Int × Bool)
abbrev zBc : Type := List (Int × List Int)
abbrev D25_30 : Type := zBd × (List Int) × Int × Int
abbrev zCF : Type := List (Int × Int × List Int)
def yr.x : XFunc := { nslots := 9, nobj := 1, pars := [.box 0 3, .val false 1], rowsIn := no 4, rets := [.tmp 4 false 1], outs := iF 4, fresh := false, arg := .pair T11_30 (.int .i64), ret := .pair (.bool) T11_30, body := .seq (rG [op 4 .move [cB false]]) (.seq (rG [mv 5 0, mv 6 1, ow 7 (.call ⟨33, [.box 0 3, .val false 1], no 4, [.val false 1], ims 4, false⟩) (sl [5, 6]) [0] [0], op 8 (.bin .eql) [.slot 7, cI 0], mv 4 8]) (.ret)) }
def yr.env (N : Nat) : Env := envOf (tbl [(33, zG.fs N)] noFS)
def yr.F (N : Nat) (x : ((List Int) × Int × Int) × Int) : Option (Bool × (List Int) × Int × Int) := XFunc.run yr.x (yr.env N) N x
def yr.fs (N : Nat) : FS := { arg := yr.x.arg, ret := yr.x.ret, fresh := false, F := yr.F N }
theorem yr.F_eq (N : Nat) (c : (List Int) × Int × Int) (n_ : Int) : yr.F N (c, n_) =
bindO (zG.F N (c, n_)) fun r1 =>
some (r1.1 == 0, r1.2) := by kernel_rfl
def z1.c1 : XCode := .seq (.seq (rG [mv 10 4, op 11 (.bin .gtr) [.slot 10, cI 0]]) (.cond (.slot 11) (.skip) (.exit 0))) (.seq (.block 1 (.seq (rG [mv 14 0, ow 15 (.call ⟨33, [.box 0 3, .val false 1], no 4, [.val false 1], ims 4, false⟩) [.slot 14, cI 56] [0] [0], op 16 (.bin .add) [cI 1, .slot 15], mv 17 0, op 18 (.buildSlice true 2 2 (.int .i64) 4 [(0, 1), (1, 1), (2, 1), (3, 1)] [cZ]) [cI 0, cI 0, cI 2, cI 1], ow 19 (.call ⟨46, [.box 0 3, .val false 1], no 4, [.val false 1], ims 4, false⟩) (sl [17, 18]) [0] [0], o2 20 (.build [cZ, cZ, cZ] [(1, 1), (2, 1)]) 16 19, ow 5 (.alloc 3 [cZ, cZ, cZ]) [] [3] [3], sT 3 5 20 3]) (.seq (.seq (rG [mv 21 0, ow 22 (.call ⟨102, [.box 0 3, .val false 1], no 4, [.val false 1], ims 4, false⟩) [.slot 21, cI 2] [0] [0]]) (.cond (.slot 22) (.seq (rG [mv 23 3, lU 24 3 5 3, ow 25 (.buildSlice false 4 10 zAj 1 [(0, 3)] [cZ, cZ, cZ]) [.slot 24] [4] [4], ow 26 (.append false 1 10 zAj) (sl [23, 25]) [1, 4] [1], mv 3 26]) (.exit 1)) (.skip))) (.seq (rG [fA 27 0 5, on (.store 1) [.slot 27, cI 1] [3] [3]]) (.seq (rG [lU 28 3 5 3, ow 6 (.alloc 5 [cZ, cZ, cZ]) [] [5] [5], sT 3 6 28 5]) (.seq (rG [fA 29 0 6, on (.store 1) [.slot 29, cI 2] [5] [5]]) (rG [mv 30 3, lU 31 3 5 3, mv 32 3, ow 33 .len [.slot 32] [1] [], op 34 (.bin .sub) [cI 60, .slot 33], op 35 (.bin .sub) [.slot 34, cI 10], op 36 (.build [cZ, cZ, cZ] [(1, 1), (2, 1)]) [.slot 35, cI 8], lU 37 3 6 5, ow 38 (.buildSlice false 6 10 zAj 3 [(0, 3), (3, 3), (6, 3)] [cZ, cZ, cZ]) (sl [31, 36, 37]) [6] [6], ow 39 (.append false 1 10 zAj) (sl [30, 38]) [1, 6] [1], mv 3 39]))))))) (rG [mv 12 4, op 13 (.bin .sub) [.slot 12, cI 1], mv 4 13]))
def z1.c2 : XCode := .seq (rG [mv 40 3, mv 2 40]) (.ret)
def z1.x : XFunc := { nslots := 41, nobj := 7, pars := [.box 0 3], rowsIn := no 3, rets := [.tmp 2 false 1], outs := [.own 10, .imm, .imm, .imm], fresh := false, arg := .pair (.list (.int .u8)) zA6, ret := .pair (.list zAj) T11_30, body := .seq (rG [op 2 .move [.const (.one (.nil))]]) (.seq (rG [ow 7 (.buildSlice false 1 10 zAj 0 [] [cZ, cZ, cZ]) [] [1] [1], mv 3 7]) (.seq (.seq (rG [mv 8 0, ow 9 (.call ⟨33, [.box 0 3, .val false 1], no 4, [.val false 1], ims 4, false⟩) [.slot 8, cI 3] [0] [0], mv 4 9]) (.block 0 (.loop [.keep [0, 3, 4], .drop 2, .drop 3, .drop 4, .drop 5, .drop 6, .norm] (z1.c1)))) (z1.c2))) }
def z1.env (N : Nat) : Env := envOf (tbl [(33, zG.fs N), (102, yr.fs N), (46, zq.fs N)] noFS)
def z1.F (N : Nat) (x : (List Int) × Int × Int) : Option (y8 × (List Int) × Int × Int) := XFunc.run z1.x (z1.env N) N x
def z1.fs (N : Nat) : FS := { arg := z1.x.arg, ret := z1.x.ret, fresh := false, F := z1.F N }
def z1.k2 (N : Nat) : Ex -> S -> Option (y8 × (List Int) × Int × Int) := seqK (fun s => XCode.runK (z1.env N) N (z1.c2) s (XFunc.endK z1.x)) (XFunc.endK z1.x)
def z1.k1 (N : Nat) : Ex -> S -> Option (y8 × (List Int) × Int × Int) := zAh 0 (z1.k2 N)
def z1.L1 (N : Nat) (n1 : Nat) (n_ : Int) (c0 : List Int) (c1 : Int) (c2 : Int) (o1 : y8) : Option (y8 × (List Int) × Int × Int) := loopK [.keep [0, 3, 4], .drop 2, .drop 3, .drop 4, .drop 5, .drop 6, .norm] (fun s k => XCode.runK (z1.env N) N z1.c1 s k) n1
 { t := jK 41 [(0, .one (.ptr 0 0 0)), (3, .one (.ref 1 0 .all)), (4, .one (.int .i64 n_))], h := [.box 0 true [.sl false (.int .u8) c0, .int .i64 c1, .int .i64 c2], .row 0 false true 10 zAj o1, .absent 0, .absent 0, .absent 0, .absent 0, .absent 0] }
 (z1.k1 N)
theorem z1.L1_eq (N : Nat) (n1 : Nat) (n_ : Int) (c0 : List Int) (c1 : Int) (c2 : Int) (o1 : y8) : z1.L1 N (n1 + 1) n_ c0 c1 c2 o1 =
bif decide (n_ > 0) then
bindO (zG.F N ((c0, (c1, c2)), 56)) fun r2 =>
bindO (zq.F N (r2.2, ([0, 0, 2, 1] : List Int))) fun r3 =>
bindO (yr.F N (r3.2, 2)) fun r4 =>
bif r4.1 then
bif decide (o1.length + List.length ([(0, (IntKind.wrap .i64 (1 + r2.1), r3.1))] : List (Int × Int × Int)) <= maxN) then
z1.L1 N n1 (IntKind.wrap .i64 (n_ - 1)) r4.2.1 r4.2.2.1 r4.2.2.2 (o1 ++ ([(0, (IntKind.wrap .i64 (1 + r2.1), r3.1))] : List (Int × Int × Int)))
else none
else
bif decide (o1.length + List.length ([(1, (IntKind.wrap .i64 (1 + r2.1), r3.1)), (0, (IntKind.wrap .i64 ((IntKind.wrap .i64 (60 - (o1.length : Int))) - 10), 8)), (2, (IntKind.wrap .i64 (1 + r2.1), r3.1))] : List (Int × Int × Int)) <= maxN) then
z1.L1 N n1 (IntKind.wrap .i64 (n_ - 1)) r4.2.1 r4.2.2.1 r4.2.2.2 (o1 ++ ([(1, (IntKind.wrap .i64 (1 + r2.1), r3.1)), (0, (IntKind.wrap .i64 ((IntKind.wrap .i64 (60 - (o1.length : Int))) - 10), 8)), (2, (IntKind.wrap .i64 (1 + r2.1), r3.1))] : List (Int × Int × Int)))
else none
else
some (o1, (c0, (c1, c2))) := by kernel_rfl
theorem z1.F_eq (N : Nat) (c : (List Int) × Int × Int) : z1.F N c =
bindO (zG.F N (c, 3)) fun r1 =>
z1.L1 N N r1.1 r1.2.1 r1.2.2.1 r1.2.2.2 ([] : List (Int × Int × Int)) := by kernel_rfl
def zAG.x : XFunc := { nslots := 78, nobj := 3, pars := [.box 0 3, .val false 1], rowsIn := no 4, rets := [.var 4 true 4], outs := iF 7, fresh := false, arg := .pair T11_30 (.int .i64), ret := .pair zAw T11_30, body := .seq (rG [ow 4 (.alloc 1 [cZ, cZ, cZ, cZ]) [] [1] [1]]) (.seq (rG [mv 8 0, ow 9 (.call ⟨33, [.box 0 3, .val false 1], no 4, [.val false 1], ims 4, false⟩) [.slot 8, cI 56] [0] [0], op 10 (.bin .add) [cI 1, .slot 9], mv 5 10]) (.seq (rG [mv 11 0, ow 12 (.call ⟨33, [.box 0 3, .val false 1], no 4, [.val false 1], ims 4, false⟩) [.slot 11, cI 15] [0] [0], op 13 (.bin .add) [cI 1, .slot 12], mv 6 13]) (.seq (.seq (rG [mv 14 0, ow 15 (.call ⟨102, [.box 0 3, .val false 1], no 4, [.val false 1], ims 4, false⟩) [.slot 14, cI 2] [0] [0]]) (.cond (.slot 15) (rG [op 6 .move [cI 2]]) (.skip))) (.seq (rG [mv 16 0, mv 17 1, op 18 (.bin .sub) [.slot 17, cI 1], op 19 .max [cI 1, .slot 18], ow 20 (.call ⟨33, [.box 0 3, .val false 1], no 4, [.val false 1], ims 4, false⟩) (sl [16, 19]) [0] [0], op 21 (.bin .add) [cI 1, .slot 20], mv 7 21]) (.seq (.seq (rG [mv 22 0, ow 23 (.call ⟨33, [.box 0 3, .val false 1], no 4, [.val false 1], ims 4, false⟩) [.slot 22, cI 16] [0] [0]]) (.block 0 (.seq (rG [op 25 (.bin .eql) [.slot 23, cI 0], mv 24 25]) (.cond (.slot 24) (.seq (rG [mv 26 5, mv 27 6, op 28 (.build [cZ, cZ, cZ, cZ] [(0, 1), (1, 1), (2, 1)]) [cI 2, .slot 26, .slot 27], sT 4 4 28 1]) (.ret)) (.seq (rG [op 30 (.bin .eql) [.slot 23, cI 1], mv 29 30]) (.cond (.slot 29) (.seq (rG [mv 31 6, op 32 (.build [cZ, cZ, cZ, cZ] [(0, 1), (2, 1)]) [cI 2, .slot 31], sT 4 4 32 1]) (.ret)) (.seq (.seq (rG [op 34 (.bin .eql) [.slot 23, cI 2], mv 33 34]) (.cond (.slot 33) (.skip) (rG [op 35 (.bin .eql) [.slot 23, cI 3], mv 33 35]))) (.cond (.slot 33) (.seq (rG [mv 36 5, mv 37 6, op 38 (.build [cZ, cZ, cZ, cZ] [(0, 1), (1, 1), (2, 1)]) [cI 6, .slot 36, .slot 37], sT 4 4 38 1]) (.ret)) (.seq (rG [op 40 (.bin .eql) [.slot 23, cI 4], mv 39 40]) (.cond (.slot 39) (.seq (rG [mv 41 6, op 42 (.build [cZ, cZ, cZ, cZ] [(0, 1), (2, 1)]) [cI 8, .slot 41], sT 4 4 42 1]) (.ret)) (.seq (rG [op 44 (.bin .eql) [.slot 23, cI 5], mv 43 44]) (.cond (.slot 43) (.seq (rG [mv 45 0, ow 46 (.call ⟨33, [.box 0 3, .val false 1], no 4, [.val false 1], ims 4, false⟩) [.slot 45, cI 4] [0] [0], op 47 (.build [cZ, cZ, cZ, cZ] [(0, 1), (3, 1)]) [cI 9, .slot 46], sT 4 4 47 1]) (.ret)) (.seq (rG [op 49 (.bin .eql) [.slot 23, cI 6], mv 48 49]) (.cond (.slot 48) (.seq (rG [op 50 (.build [cZ, cZ, cZ, cZ] [(0, 1)]) [cI 10], sT 4 4 50 1]) (.ret)) (.seq (rG [op 52 (.bin .eql) [.slot 23, cI 7], mv 51 52]) (.cond (.slot 51) (.seq (rG [mv 53 0, mv 54 1, op 55 .max [cI 1, .slot 54], ow 56 (.call ⟨33, [.box 0 3, .val false 1], no 4, [.val false 1], ims 4, false⟩) (sl [53, 55]) [0] [0], op 57 (.build [cZ, cZ, cZ, cZ] [(0, 1), (3, 1)]) [cI 5, .slot 56], sT 4 4 57 1]) (.ret)) (.seq (.seq (rG [op 59 (.bin .eql) [.slot 23, cI 8], mv 58 59]) (.cond (.slot 58) (.skip) (.seq (rG [op 60 (.bin .eql) [.slot 23, cI 9], mv 58 60]) (.cond (.slot 58) (.skip) (rG [op 61 (.bin .eql) [.slot 23, cI 10], mv 58 61]))))) (.cond (.slot 58) (.seq (rG [mv 62 1, op 63 (.bin .gtr) [.slot 62, cI 1]]) (.cond (.slot 63) (.seq (rG [mv 64 7, op 65 (.build [cZ, cZ, cZ, cZ] [(0, 1), (3, 1)]) [cI 3, .slot 64], mv 66 7, op 67 (.build [cZ, cZ, cZ, cZ] [(0, 1), (3, 1)]) [cI 4, .slot 66], mv 68 5, mv 69 7, op 70 (.build [cZ, cZ, cZ, cZ] [(0, 1), (1, 1), (3, 1)]) [cI 7, .slot 68, .slot 69], ow 71 (.buildSlice false 2 8 zAw 3 [(0, 4), (4, 4), (8, 4)] [cZ, cZ, cZ, cZ]) (sl [65, 67, 70]) [2] [2], mv 72 0, ow 73 (.call ⟨33, [.box 0 3, .val false 1], no 4, [.val false 1], ims 4, false⟩) [.slot 72, cI 3] [0] [0], ow 74 (.indexAddr zAw) (sl [71, 73]) [2] [], lU 75 4 74 2, sT 4 4 75 1]) (.ret)) (.skip))) (.skip))))))))))))))))))) (.seq (rG [mv 76 5, op 77 (.build [cZ, cZ, cZ, cZ] [(0, 1), (1, 1)]) [cI 2, .slot 76], sT 4 4 77 1]) (.ret))))))) }
def zAG.env (N : Nat) : Env := envOf (tbl [(33, zG.fs N), (102, yr.fs N)] noFS)
def zAG.F (N : Nat) (x : ((List Int) × Int × Int) × Int) : Option ((Int × Int × Int × Int) × (List Int) × Int × Int) := XFunc.run zAG.x (zAG.env N) N x
def zAG.fs (N : Nat) : FS := { arg := zAG.x.arg, ret := zAG.x.ret, fresh := false, F := zAG.F N }
theorem zAG.F_eq (N : Nat) (c : (List Int) × Int × Int) (layers : Int) : zAG.F N (c, layers) =
bindO (zG.F N (c, 56)) fun r1 =>
bindO (zG.F N (r1.2, 15)) fun r2 =>
bindO (yr.F N (r2.2, 2)) fun r3 =>
bif r3.1 then
bindO (zG.F N (r3.2, maxI 1 (IntKind.wrap .i64 (layers - 1)))) fun r4 =>
bindO (zG.F N (r4.2, 16)) fun r5 =>
bif r5.1 == 0 then
some ((2, (IntKind.wrap .i64 (1 + r1.1), (2, 0))), r5.2)
else
bif r5.1 == 1 then
some ((2, (0, (2, 0))), r5.2)
else
bif r5.1 == 2 then
bif r5.1 == 2 then
some ((6, (IntKind.wrap .i64 (1 + r1.1), (2, 0))), r5.2)
else
bif r5.1 == 4 then
some ((8, (0, (2, 0))), r5.2)
else
bif r5.1 == 5 then
bindO (zG.F N (r5.2, 4)) fun r6 =>
some ((9, (0, (0, r6.1))), r6.2)
else
bif r5.1 == 6 then
some ((10, (0, (0, 0))), r5.2)
else
bif r5.1 == 7 then
bindO (zG.F N (r5.2, maxI 1 layers)) fun r7 =>
some ((5, (0, (0, r7.1))), r7.2)
else
bif r5.1 == 8 then
bif r5.1 == 8 then
bif decide (layers > 1) then
bindO (zG.F N (r5.2, 3)) fun r8 =>
bif zu r8.1 (List.length ([(3, (0, (0, IntKind.wrap .i64 (1 + r4.1)))), (4, (0, (0, IntKind.wrap .i64 (1 + r4.1)))), (7, (IntKind.wrap .i64 (1 + r1.1), (0, IntKind.wrap .i64 (1 + r4.1))))] : List (Int × Int × Int × Int))) then
some (((List.getD ([(3, (0, (0, IntKind.wrap .i64 (1 + r4.1)))), (4, (0, (0, IntKind.wrap .i64 (1 + r4.1)))), (7, (IntKind.wrap .i64 (1 + r1.1), (0, IntKind.wrap .i64 (1 + r4.1))))] : List (Int × Int × Int × Int)) (Int.toNat r8.1) (0, (0, (0, 0)))).1, (((List.getD ([(3, (0, (0, IntKind.wrap .i64 (1 + r4.1)))), (4, (0, (0, IntKind.wrap .i64 (1 + r4.1)))), (7, (IntKind.wrap .i64 (1 + r1.1), (0, IntKind.wrap .i64 (1 + r4.1))))] : List (Int × Int × Int × Int)) (Int.toNat r8.1) (0, (0, (0, 0)))).2).1, (((List.getD ([(3, (0, (0, IntKind.wrap .i64 (1 + r4.1)))), (4, (0, (0, IntKind.wrap .i64 (1 + r4.1)))), (7, (IntKind.wrap .i64 (1 + r1.1), (0, IntKind.wrap .i64 (1 + r4.1))))] : List (Int × Int × Int × Int)) (Int.toNat r8.1) (0, (0, (0, 0)))).2).2))), r8.2)
else none
else
some ((2, (IntKind.wrap .i64 (1 + r1.1), (0, 0))), r5.2)
else
some ((2, (IntKind.wrap .i64 (1 + r1.1), (0, 0))), r5.2)
else
bif r5.1 == 9 then
bif r5.1 == 9 then
bif decide (layers > 1) then
bindO (zG.F N (r5.2, 3)) fun r9 =>
bif zu r9.1 (List.length ([(3, (0, (0, IntKind.wrap .i64 (1 + r4.1)))), (4, (0, (0, IntKind.wrap .i64 (1 + r4.1)))), (7, (IntKind.wrap .i64 (1 + r1.1), (0, IntKind.wrap .i64 (1 + r4.1))))] : List (Int × Int × Int × Int))) then
some (((List.getD ([(3, (0, (0, IntKind.wrap .i64 (1 + r4.1)))), (4, (0, (0, IntKind.wrap .i64 (1 + r4.1)))), (7, (IntKind.wrap .i64 (1 + r1.1), (0, IntKind.wrap .i64 (1 + r4.1))))] : List (Int × Int × Int × Int)) (Int.toNat r9.1) (0, (0, (0, 0)))).1, (((List.getD ([(3, (0, (0, IntKind.wrap .i64 (1 + r4.1)))), (4, (0, (0, IntKind.wrap .i64 (1 + r4.1)))), (7, (IntKind.wrap .i64 (1 + r1.1), (0, IntKind.wrap .i64 (1 + r4.1))))] : List (Int × Int × Int × Int)) (Int.toNat r9.1) (0, (0, (0, 0)))).2).1, (((List.getD ([(3, (0, (0, IntKind.wrap .i64 (1 + r4.1)))), (4, (0, (0, IntKind.wrap .i64 (1 + r4.1)))), (7, (IntKind.wrap .i64 (1 + r1.1), (0, IntKind.wrap .i64 (1 + r4.1))))] : List (Int × Int × Int × Int)) (Int.toNat r9.1) (0, (0, (0, 0)))).2).2))), r9.2)
else none
else
some ((2, (IntKind.wrap .i64 (1 + r1.1), (0, 0))), r5.2)
else
some ((2, (IntKind.wrap .i64 (1 + r1.1), (0, 0))), r5.2)
else
bif r5.1 == 10 then
bif decide (layers > 1) then
bindO (zG.F N (r5.2, 3)) fun r10 =>
bif zu r10.1 (List.length ([(3, (0, (0, IntKind.wrap .i64 (1 + r4.1)))), (4, (0, (0, IntKind.wrap .i64 (1 + r4.1)))), (7, (IntKind.wrap .i64 (1 + r1.1), (0, IntKind.wrap .i64 (1 + r4.1))))] : List (Int × Int × Int × Int))) then
some (((List.getD ([(3, (0, (0, IntKind.wrap .i64 (1 + r4.1)))), (4, (0, (0, IntKind.wrap .i64 (1 + r4.1)))), (7, (IntKind.wrap .i64 (1 + r1.1), (0, IntKind.wrap .i64 (1 + r4.1))))] : List (Int × Int × Int × Int)) (Int.toNat r10.1) (0, (0, (0, 0)))).1, (((List.getD ([(3, (0, (0, IntKind.wrap .i64 (1 + r4.1)))), (4, (0, (0, IntKind.wrap .i64 (1 + r4.1)))), (7, (IntKind.wrap .i64 (1 + r1.1), (0, IntKind.wrap .i64 (1 + r4.1))))] : List (Int × Int × Int × Int)) (Int.toNat r10.1) (0, (0, (0, 0)))).2).1, (((List.getD ([(3, (0, (0, IntKind.wrap .i64 (1 + r4.1)))), (4, (0, (0, IntKind.wrap .i64 (1 + r4.1)))), (7, (IntKind.wrap .i64 (1 + r1.1), (0, IntKind.wrap .i64 (1 + r4.1))))] : List (Int × Int × Int × Int)) (Int.toNat r10.1) (0, (0, (0, 0)))).2).2))), r10.2)
else none
else
some ((2, (IntKind.wrap .i64 (1 + r1.1), (0, 0))), r5.2)
else
some ((2, (IntKind.wrap .i64 (1 + r1.1), (0, 0))), r5.2)
else
bif r5.1 == 3 then
some ((6, (IntKind.wrap .i64 (1 + r1.1), (2, 0))), r5.2)
else
bif r5.1 == 4 then
some ((8, (0, (2, 0))), r5.2)
else
bif r5.1 == 5 then
bindO (zG.F N (r5.2, 4)) fun r11 =>
some ((9, (0, (0, r11.1))), r11.2)
else
bif r5.1 == 6 then
some ((10, (0, (0, 0))), r5.2)
else
bif r5.1 == 7 then
bindO (zG.F N (r5.2, maxI 1 layers)) fun r12 =>
some ((5, (0, (0, r12.1))), r12.2)
else
bif r5.1 == 8 then
bif r5.1 == 8 then
bif decide (layers > 1) then
bindO (zG.F N (r5.2, 3)) fun r13 =>
bif zu r13.1 (List.length ([(3, (0, (0, IntKind.wrap .i64 (1 + r4.1)))), (4, (0, (0, IntKind.wrap .i64 (1 + r4.1)))), (7, (IntKind.wrap .i64 (1 + r1.1), (0, IntKind.wrap .i64 (1 + r4.1))))] : List (Int × Int × Int × Int))) then
some (((List.getD ([(3, (0, (0, IntKind.wrap .i64 (1 + r4.1)))), (4, (0, (0, IntKind.wrap .i64 (1 + r4.1)))), (7, (IntKind.wrap .i64 (1 + r1.1), (0, IntKind.wrap .i64 (1 + r4.1))))] : List (Int × Int × Int × Int)) (Int.toNat r13.1) (0, (0, (0, 0)))).1, (((List.getD ([(3, (0, (0, IntKind.wrap .i64 (1 + r4.1)))), (4, (0, (0, IntKind.wrap .i64 (1 + r4.1)))), (7, (IntKind.wrap .i64 (1 + r1.1), (0, IntKind.wrap .i64 (1 + r4.1))))] : List (Int × Int × Int × Int)) (Int.toNat r13.1) (0, (0, (0, 0)))).2).1, (((List.getD ([(3, (0, (0, IntKind.wrap .i64 (1 + r4.1)))), (4, (0, (0, IntKind.wrap .i64 (1 + r4.1)))), (7, (IntKind.wrap .i64 (1 + r1.1), (0, IntKind.wrap .i64 (1 + r4.1))))] : List (Int × Int × Int × Int)) (Int.toNat r13.1) (0, (0, (0, 0)))).2).2))), r13.2)
else none
else
some ((2, (IntKind.wrap .i64 (1 + r1.1), (0, 0))), r5.2)
else
some ((2, (IntKind.wrap .i64 (1 + r1.1), (0, 0))), r5.2)
else
bif r5.1 == 9 then
bif r5.1 == 9 then
bif decide (layers > 1) then
bindO (zG.F N (r5.2, 3)) fun r14 =>
bif zu r14.1 (List.length ([(3, (0, (0, IntKind.wrap .i64 (1 + r4.1)))), (4, (0, (0, IntKind.wrap .i64 (1 + r4.1)))), (7, (IntKind.wrap .i64 (1 + r1.1), (0, IntKind.wrap .i64 (1 + r4.1))))] : List (Int × Int × Int × Int))) then
some (((List.getD ([(3, (0, (0, IntKind.wrap .i64 (1 + r4.1)))), (4, (0, (0, IntKind.wrap .i64 (1 + r4.1)))), (7, (IntKind.wrap .i64 (1 + r1.1), (0, IntKind.wrap .i64 (1 + r4.1))))] : List (Int × Int × Int × Int)) (Int.toNat r14.1) (0, (0, (0, 0)))).1, (((List.getD ([(3, (0, (0, IntKind.wrap .i64 (1 + r4.1)))), (4, (0, (0, IntKind.wrap .i64 (1 + r4.1)))), (7, (IntKind.wrap .i64 (1 + r1.1), (0, IntKind.wrap .i64 (1 + r4.1))))] : List (Int × Int × Int × Int)) (Int.toNat r14.1) (0, (0, (0, 0)))).2).1, (((List.getD ([(3, (0, (0, IntKind.wrap .i64 (1 + r4.1)))), (4, (0, (0, IntKind.wrap .i64 (1 + r4.1)))), (7, (IntKind.wrap .i64 (1 + r1.1), (0, IntKind.wrap .i64 (1 + r4.1))))] : List (Int × Int × Int × Int)) (Int.toNat r14.1) (0, (0, (0, 0)))).2).2))), r14.2)
else none
else
some ((2, (IntKind.wrap .i64 (1 + r1.1), (0, 0))), r5.2)
else
some ((2, (IntKind.wrap .i64 (1 + r1.1), (0, 0))), r5.2)
else
bif r5.1 == 10 then
bif decide (layers > 1) then
bindO (zG.F N (r5.2, 3)) fun r15 =>
bif zu r15.1 (List.length ([(3, (0, (0, IntKind.wrap .i64 (1 + r4.1)))), (4, (0, (0, IntKind.wrap .i64 (1 + r4.1)))), (7, (IntKind.wrap .i64 (1 + r1.1), (0, IntKind.wrap .i64 (1 + r4.1))))] : List (Int × Int × Int × Int))) then
some (((List.getD ([(3, (0, (0, IntKind.wrap .i64 (1 + r4.1)))), (4, (0, (0, IntKind.wrap .i64 (1 + r4.1)))), (7, (IntKind.wrap .i64 (1 + r1.1), (0, IntKind.wrap .i64 (1 + r4.1))))] : List (Int × Int × Int × Int)) (Int.toNat r15.1) (0, (0, (0, 0)))).1, (((List.getD ([(3, (0, (0, IntKind.wrap .i64 (1 + r4.1)))), (4, (0, (0, IntKind.wrap .i64 (1 + r4.1)))), (7, (IntKind.wrap .i64 (1 + r1.1), (0, IntKind.wrap .i64 (1 + r4.1))))] : List (Int × Int × Int × Int)) (Int.toNat r15.1) (0, (0, (0, 0)))).2).1, (((List.getD ([(3, (0, (0, IntKind.wrap .i64 (1 + r4.1)))), (4, (0, (0, IntKind.wrap .i64 (1 + r4.1)))), (7, (IntKind.wrap .i64 (1 + r1.1), (0, IntKind.wrap .i64 (1 + r4.1))))] : List (Int × Int × Int × Int)) (Int.toNat r15.1) (0, (0, (0, 0)))).2).2))), r15.2)
else none
else
some ((2, (IntKind.wrap .i64 (1 + r1.1), (0, 0))), r5.2)
else
some ((2, (IntKind.wrap .i64 (1 + r1.1), (0, 0))), r5.2)
else
bindO (zG.F N (r3.2, maxI 1 (IntKind.wrap .i64 (layers - 1)))) fun r16 =>
bindO (zG.F N (r16.2, 16)) fun r17 =>
bif r17.1 == 0 then
some ((2, (IntKind.wrap .i64 (1 + r1.1), (IntKind.wrap .i64 (1 + r2.1), 0))), r17.2)
else
bif r17.1 == 1 then
some ((2, (0, (IntKind.wrap .i64 (1 + r2.1), 0))), r17.2)
else
bif r17.1 == 2 then
bif r17.1 == 2 then
some ((6, (IntKind.wrap .i64 (1 + r1.1), (IntKind.wrap .i64 (1 + r2.1), 0))), r17.2)
else
bif r17.1 == 4 then
some ((8, (0, (IntKind.wrap .i64 (1 + r2.1), 0))), r17.2)
else
bif r17.1 == 5 then
bindO (zG.F N (r17.2, 4)) fun r18 =>
some ((9, (0, (0, r18.1))), r18.2)
else
bif r17.1 == 6 then
some ((10, (0, (0, 0))), r17.2)
else
bif r17.1 == 7 then
bindO (zG.F N (r17.2, maxI 1 layers)) fun r19 =>
some ((5, (0, (0, r19.1))), r19.2)
else
bif r17.1 == 8 then
bif r17.1 == 8 then
bif decide (layers > 1) then
bindO (zG.F N (r17.2, 3)) fun r20 =>
bif zu r20.1 (List.length ([(3, (0, (0, IntKind.wrap .i64 (1 + r16.1)))), (4, (0, (0, IntKind.wrap .i64 (1 + r16.1)))), (7, (IntKind.wrap .i64 (1 + r1.1), (0, IntKind.wrap .i64 (1 + r16.1))))] : List (Int × Int × Int × Int))) then
some (((List.getD ([(3, (0, (0, IntKind.wrap .i64 (1 + r16.1)))), (4, (0, (0, IntKind.wrap .i64 (1 + r16.1)))), (7, (IntKind.wrap .i64 (1 + r1.1), (0, IntKind.wrap .i64 (1 + r16.1))))] : List (Int × Int × Int × Int)) (Int.toNat r20.1) (0, (0, (0, 0)))).1, (((List.getD ([(3, (0, (0, IntKind.wrap .i64 (1 + r16.1)))), (4, (0, (0, IntKind.wrap .i64 (1 + r16.1)))), (7, (IntKind.wrap .i64 (1 + r1.1), (0, IntKind.wrap .i64 (1 + r16.1))))] : List (Int × Int × Int × Int)) (Int.toNat r20.1) (0, (0, (0, 0)))).2).1, (((List.getD ([(3, (0, (0, IntKind.wrap .i64 (1 + r16.1)))), (4, (0, (0, IntKind.wrap .i64 (1 + r16.1)))), (7, (IntKind.wrap .i64 (1 + r1.1), (0, IntKind.wrap .i64 (1 + r16.1))))] : List (Int × Int × Int × Int)) (Int.toNat r20.1) (0, (0, (0, 0)))).2).2))), r20.2)
else none
else
some ((2, (IntKind.wrap .i64 (1 + r1.1), (0, 0))), r17.2)
else
some ((2, (IntKind.wrap .i64 (1 + r1.1), (0, 0))), r17.2)
else
bif r17.1 == 9 then
bif r17.1 == 9 then
bif decide (layers > 1) then
bindO (zG.F N (r17.2, 3)) fun r21 =>
bif zu r21.1 (List.length ([(3, (0, (0, IntKind.wrap .i64 (1 + r16.1)))), (4, (0, (0, IntKind.wrap .i64 (1 + r16.1)))), (7, (IntKind.wrap .i64 (1 + r1.1), (0, IntKind.wrap .i64 (1 + r16.1))))] : List (Int × Int × Int × Int))) then
some (((List.getD ([(3, (0, (0, IntKind.wrap .i64 (1 + r16.1)))), (4, (0, (0, IntKind.wrap .i64 (1 + r16.1)))), (7, (IntKind.wrap .i64 (1 + r1.1), (0, IntKind.wrap .i64 (1 + r16.1))))] : List (Int × Int × Int × Int)) (Int.toNat r21.1) (0, (0, (0, 0)))).1, (((List.getD ([(3, (0, (0, IntKind.wrap .i64 (1 + r16.1)))), (4, (0, (0, IntKind.wrap .i64 (1 + r16.1)))), (7, (IntKind.wrap .i64 (1 + r1.1), (0, IntKind.wrap .i64 (1 + r16.1))))] : List (Int × Int × Int × Int)) (Int.toNat r21.1) (0, (0, (0, 0)))).2).1, (((List.getD ([(3, (0, (0, IntKind.wrap .i64 (1 + r16.1)))), (4, (0, (0, IntKind.wrap .i64 (1 + r16.1)))), (7, (IntKind.wrap .i64 (1 + r1.1), (0, IntKind.wrap .i64 (1 + r16.1))))] : List (Int × Int × Int × Int)) (Int.toNat r21.1) (0, (0, (0, 0)))).2).2))), r21.2)
else none
else
some ((2, (IntKind.wrap .i64 (1 + r1.1), (0, 0))), r17.2)
else
some ((2, (IntKind.wrap .i64 (1 + r1.1), (0, 0))), r17.2)
else
bif r17.1 == 10 then
bif decide (layers > 1) then
bindO (zG.F N (r17.2, 3)) fun r22 =>
bif zu r22.1 (List.length ([(3, (0, (0, IntKind.wrap .i64 (1 + r16.1)))), (4, (0, (0, IntKind.wrap .i64 (1 + r16.1)))), (7, (IntKind.wrap .i64 (1 + r1.1), (0, IntKind.wrap .i64 (1 + r16.1))))] : List (Int × Int × Int × Int))) then
some (((List.getD ([(3, (0, (0, IntKind.wrap .i64 (1 + r16.1)))), (4, (0, (0, IntKind.wrap .i64 (1 + r16.1)))), (7, (IntKind.wrap .i64 (1 + r1.1), (0, IntKind.wrap .i64 (1 + r16.1))))] : List (Int × Int × Int × Int)) (Int.toNat r22.1) (0, (0, (0, 0)))).1, (((List.getD ([(3, (0, (0, IntKind.wrap .i64 (1 + r16.1)))), (4, (0, (0, IntKind.wrap .i64 (1 + r16.1)))), (7, (IntKind.wrap .i64 (1 + r1.1), (0, IntKind.wrap .i64 (1 + r16.1))))] : List (Int × Int × Int × Int)) (Int.toNat r22.1) (0, (0, (0, 0)))).2).1, (((List.getD ([(3, (0, (0, IntKind.wrap .i64 (1 + r16.1)))), (4, (0, (0, IntKind.wrap .i64 (1 + r16.1)))), (7, (IntKind.wrap .i64 (1 + r1.1), (0, IntKind.wrap .i64 (1 + r16.1))))] : List (Int × Int × Int × Int)) (Int.toNat r22.1) (0, (0, (0, 0)))).2).2))), r22.2)
else none
else
some ((2, (IntKind.wrap .i64 (1 + r1.1), (0, 0))), r17.2)
else
some ((2, (IntKind.wrap .i64 (1 + r1.1), (0, 0))), r17.2)
else
bif r17.1 == 3 then
some ((6, (IntKind.wrap .i64 (1 + r1.1), (IntKind.wrap .i64 (1 + r2.1), 0))), r17.2)
else
bif r17.1 == 4 then
some ((8, (0, (IntKind.wrap .i64 (1 + r2.1), 0))), r17.2)
else
bif r17.1 == 5 then
bindO (zG.F N (r17.2, 4)) fun r23 =>
some ((9, (0, (0, r23.1))), r23.2)
else
bif r17.1 == 6 then
some ((10, (0, (0, 0))), r17.2)
else
bif r17.1 == 7 then
bindO (zG.F N (r17.2, maxI 1 layers)) fun r24 =>
some ((5, (0, (0, r24.1))), r24.2)
else
bif r17.1 == 8 then
bif r17.1 == 8 then
bif decide (layers > 1) then
bindO (zG.F N (r17.2, 3)) fun r25 =>
bif zu r25.1 (List.length ([(3, (0, (0, IntKind.wrap .i64 (1 + r16.1)))), (4, (0, (0, IntKind.wrap .i64 (1 + r16.1)))), (7, (IntKind.wrap .i64 (1 + r1.1), (0, IntKind.wrap .i64 (1 + r16.1))))] : List (Int × Int × Int × Int))) then
some (((List.getD ([(3, (0, (0, IntKind.wrap .i64 (1 + r16.1)))), (4, (0, (0, IntKind.wrap .i64 (1 + r16.1)))), (7, (IntKind.wrap .i64 (1 + r1.1), (0, IntKind.wrap .i64 (1 + r16.1))))] : List (Int × Int × Int × Int)) (Int.toNat r25.1) (0, (0, (0, 0)))).1, (((List.getD ([(3, (0, (0, IntKind.wrap .i64 (1 + r16.1)))), (4, (0, (0, IntKind.wrap .i64 (1 + r16.1)))), (7, (IntKind.wrap .i64 (1 + r1.1), (0, IntKind.wrap .i64 (1 + r16.1))))] : List (Int × Int × Int × Int)) (Int.toNat r25.1) (0, (0, (0, 0)))).2).1, (((List.getD ([(3, (0, (0, IntKind.wrap .i64 (1 + r16.1)))), (4, (0, (0, IntKind.wrap .i64 (1 + r16.1)))), (7, (IntKind.wrap .i64 (1 + r1.1), (0, IntKind.wrap .i64 (1 + r16.1))))] : List (Int × Int × Int × Int)) (Int.toNat r25.1) (0, (0, (0, 0)))).2).2))), r25.2)
else none
else
some ((2, (IntKind.wrap .i64 (1 + r1.1), (0, 0))), r17.2)
else
some ((2, (IntKind.wrap .i64 (1 + r1.1), (0, 0))), r17.2)
else
bif r17.1 == 9 then
bif r17.1 == 9 then
bif decide (layers > 1) then
bindO (zG.F N (r17.2, 3)) fun r26 =>
bif zu r26.1 (List.length ([(3, (0, (0, IntKind.wrap .i64 (1 + r16.1)))), (4, (0, (0, IntKind.wrap .i64 (1 + r16.1)))), (7, (IntKind.wrap .i64 (1 + r1.1), (0, IntKind.wrap .i64 (1 + r16.1))))] : List (Int × Int × Int × Int))) then
some (((List.getD ([(3, (0, (0, IntKind.wrap .i64 (1 + r16.1)))), (4, (0, (0, IntKind.wrap .i64 (1 + r16.1)))), (7, (IntKind.wrap .i64 (1 + r1.1), (0, IntKind.wrap .i64 (1 + r16.1))))] : List (Int × Int × Int × Int)) (Int.toNat r26.1) (0, (0, (0, 0)))).1, (((List.getD ([(3, (0, (0, IntKind.wrap .i64 (1 + r16.1)))), (4, (0, (0, IntKind.wrap .i64 (1 + r16.1)))), (7, (IntKind.wrap .i64 (1 + r1.1), (0, IntKind.wrap .i64 (1 + r16.1))))] : List (Int × Int × Int × Int)) (Int.toNat r26.1) (0, (0, (0, 0)))).2).1, (((List.getD ([(3, (0, (0, IntKind.wrap .i64 (1 + r16.1)))), (4, (0, (0, IntKind.wrap .i64 (1 + r16.1)))), (7, (IntKind.wrap .i64 (1 + r1.1), (0, IntKind.wrap .i64 (1 + r16.1))))] : List (Int × Int × Int × Int)) (Int.toNat r26.1) (0, (0, (0, 0)))).2).2))), r26.2)
else none
else
some ((2, (IntKind.wrap .i64 (1 + r1.1), (0, 0))), r17.2)
else
some ((2, (IntKind.wrap .i64 (1 + r1.1), (0, 0))), r17.2)
else
bif r17.1 == 10 then
bif decide (layers > 1) then
bindO (zG.F N (r17.2, 3)) fun r27 =>
bif zu r27.1 (List.length ([(3, (0, (0, IntKind.wrap .i64 (1 + r16.1)))), (4, (0, (0, IntKind.wrap .i64 (1 + r16.1)))), (7, (IntKind.wrap .i64 (1 + r1.1), (0, IntKind.wrap .i64 (1 + r16.1))))] : List (Int × Int × Int × Int))) then
some (((List.getD ([(3, (0, (0, IntKind.wrap .i64 (1 + r16.1)))), (4, (0, (0, IntKind.wrap .i64 (1 + r16.1)))), (7, (IntKind.wrap .i64 (1 + r1.1), (0, IntKind.wrap .i64 (1 + r16.1))))] : List (Int × Int × Int × Int)) (Int.toNat r27.1) (0, (0, (0, 0)))).1, (((List.getD ([(3, (0, (0, IntKind.wrap .i64 (1 + r16.1)))), (4, (0, (0, IntKind.wrap .i64 (1 + r16.1)))), (7, (IntKind.wrap .i64 (1 + r1.1), (0, IntKind.wrap .i64 (1 + r16.1))))] : List (Int × Int × Int × Int)) (Int.toNat r27.1) (0, (0, (0, 0)))).2).1, (((List.getD ([(3, (0, (0, IntKind.wrap .i64 (1 + r16.1)))), (4, (0, (0, IntKind.wrap .i64 (1 + r16.1)))), (7, (IntKind.wrap .i64 (1 + r1.1), (0, IntKind.wrap .i64 (1 + r16.1))))] : List (Int × Int × Int × Int)) (Int.toNat r27.1) (0, (0, (0, 0)))).2).2))), r27.2)
else none
else
some ((2, (IntKind.wrap .i64 (1 + r1.1), (0, 0))), r17.2)
else
some ((2, (IntKind.wrap .i64 (1 + r1.1), (0, 0))), r17.2) := by kernel_rfl
def yl.x : XFunc := { nslots := 12, nobj := 3, pars := [.box 0 3], rowsIn := no 3, rets := [.var 2 true 3], outs := iF 6, fresh := false, arg := .pair (.list (.int .u8)) zA6, ret := .pair zAj T11_30, body := .seq (rG [ow 2 (.alloc 1 [cZ, cZ, cZ]) [] [1] [1]]) (.seq (rG [mv 3 0, ow 4 (.call ⟨33, [.box 0 3, .val false 1], no 4, [.val false 1], ims 4, false⟩) [.slot 3, cI 9] [0] [0], op 5 (.bin .add) [cI 1, .slot 4], mv 6 0, op 7 (.buildSlice true 2 2 (.int .i64) 4 [(0, 1), (1, 1), (2, 1), (3, 1)] [cZ]) [cI 0, cI 0, cI 3, cI 6], ow 8 (.call ⟨46, [.box 0 3, .val false 1], no 4, [.val false 1], ims 4, false⟩) (sl [6, 7]) [0] [0], mv 9 0, ow 10 (.call ⟨33, [.box 0 3, .val false 1], no 4, [.val false 1], ims 4, false⟩) [.slot 9, cI 3] [0] [0], op 11 (.build [cZ, cZ, cZ] [(0, 1), (1, 1), (2, 1)]) (sl [5, 8, 10]), sT 3 2 11 1]) (.ret)) }
def yl.env (N : Nat) : Env := envOf (tbl [(33, zG.fs N), (46, zq.fs N)] noFS)
def yl.F (N : Nat) (x : (List Int) × Int × Int) : Option ((Int × Int × Int) × (List Int) × Int × Int) := XFunc.run yl.x (yl.env N) N x
def yl.fs (N : Nat) : FS := { arg := yl.x.arg, ret := yl.x.ret, fresh := false, F := yl.F N }
theorem yl.F_eq (N : Nat) (c : (List Int) × Int × Int) : yl.F N c =
bindO (zG.F N (c, 9)) fun r1 =>
bindO (zq.F N (r1.2, ([0, 0, 3, 6] : List Int))) fun r2 =>
bindO (zG.F N (r2.2, 3)) fun r3 =>
some ((IntKind.wrap .i64 (1 + r1.1), (r2.1, r3.1)), r3.2) := by kernel_rfl
def z3.c1 : XCode := .seq (.seq (rG [mv 19 12, op 20 (.bin .gtr) [.slot 19, cI 0]]) (.cond (.slot 20) (.skip) (.exit 0))) (.seq (.block 1 (.seq (rG [mv 23 10, mv 24 0, mv 25 3, op 26 (.bin .quo) [.slot 25, cI 3], mv 27 3, op 28 (.bin .sub) [.slot 27, cI 1], mv 29 3, mv 30 3, op 31 (.bin .add) [.slot 30, cI 1], mv 32 3, op 33 (.bin .quo) [.slot 32, cI 2], op 34 (.buildSlice true 2 2 (.int .i64) 8 [(0, 1), (1, 1), (2, 1), (3, 1), (4, 1), (5, 1), (6, 1), (7, 1)] [cZ]) [cI 0, cI 0, cI 1, .slot 26, .slot 28, .slot 29, .slot 31, .slot 33], ow 35 (.call ⟨46, [.box 0 3, .val false 1], no 4, [.val false 1], ims 4, false⟩) (sl [24, 34]) [0] [0], o2 36 (.bin .add) 23 35, mv 10 36]) (.seq (rG [mv 37 0, mv 38 1, ow 39 (.call ⟨33, [.box 0 3, .val false 1], no 4, [.val false 1], ims 4, false⟩) (sl [37, 38]) [0] [0], mv 13 39]) (.seq (rG [mv 40 11, mv 41 13, op 42 (.bin .shl) [cI 1, .slot 41], o2 43 (.bin .xor) 40 42, mv 11 43]) (rG [mv 44 9, mv 45 10, mv 46 13, mv 47 11, mv 48 13, o2 49 (.bin .shr) 47 48, op 50 (.bin .and) [.slot 49, cI 1], op 51 (.bin .eql) [.slot 50, cI 1], op 52 (.build [cZ, cZ, .bool false] [(0, 1), (1, 1), (2, 1)]) (sl [45, 46, 51]), ow 53 (.buildSlice false 3 4 T4_30 1 [(0, 3)] [cZ, cZ, .bool false]) [.slot 52] [3] [3], ow 54 (.append false 1 4 T4_30) (sl [44, 53]) [1, 3] [1], mv 9 54]))))) (rG [mv 21 12, op 22 (.bin .sub) [.slot 21, cI 1], mv 12 22]))
def z3.c2 : XCode := .seq (rG [mv 55 9, mv 8 55]) (.ret)
def z3.x : XFunc := { nslots := 56, nobj := 4, pars := [.box 0 3, .val false 1, .val false 1, .val false 1], rowsIn := no 6, rets := [.tmp 8 false 1], outs := [.own 4, .imm, .imm, .imm], fresh := false, arg := .pair T11_30 zAj, ret := .pair (.list T4_30) T11_30, body := .seq (rG [op 8 .move [.const (.one (.nil))]]) (.seq (rG [ow 14 (.buildSlice false 1 4 T4_30 0 [] [cZ, cZ, .bool false]) [] [1] [1], mv 9 14]) (.seq (rG [op 10 .move [cI 0]]) (.seq (rG [op 11 .move [cI 0]]) (.seq (.seq (rG [mv 15 0, mv 16 2, op 17 (.bin .add) [.slot 16, cI 1], ow 18 (.call ⟨33, [.box 0 3, .val false 1], no 4, [.val false 1], ims 4, false⟩) (sl [15, 17]) [0] [0], mv 12 18]) (.block 0 (.loop [.keep [0, 1, 3, 9, 10, 11, 12], .drop 2, .drop 3, .norm] (z3.c1)))) (z3.c2))))) }
def z3.env (N : Nat) : Env := envOf (tbl [(33, zG.fs N), (46, zq.fs N)] noFS)
def z3.F (N : Nat) (x : ((List Int) × Int × Int) × Int × Int × Int) : Option D25_30 := XFunc.run z3.x (z3.env N) N x
def z3.fs (N : Nat) : FS := { arg := z3.x.arg, ret := z3.x.ret, fresh := false, F := z3.F N }
def z3.k2 (N : Nat) : Ex -> S -> Option D25_30 := seqK (fun s => XCode.runK (z3.env N) N (z3.c2) s (XFunc.endK z3.x)) (XFunc.endK z3.x)
def z3.k1 (N : Nat) : Ex -> S -> Option D25_30 := zAh 0 (z3.k2 N)
def z3.L1 (N : Nat) (n1 : Nat) (keys : Int) (wide : Int) (time : Int) (held : Int) (n_ : Int) (c0 : List Int) (c1 : Int) (c2 : Int) (o1 : zBd) : Option D25_30 := loopK [.keep [0, 1, 3, 9, 10, 11, 12], .drop 2, .drop 3, .norm] (fun s k => XCode.runK (z3.env N) N z3.c1 s k) n1
 { t := jK 56 [(0, .one (.ptr 0 0 0)), (1, .one (.int .i64 keys)), (3, .one (.int .i64 wide)), (9, .one (.ref 1 0 .all)), (10, .one (.int .i64 time)), (11, .one (.int .i64 held)), (12, .one (.int .i64 n_))], h := [.box 0 true [.sl false (.int .u8) c0, .int .i64 c1, .int .i64 c2], .row 0 false true 4 T4_30 o1, .absent 0, .absent 0] }
 (z3.k1 N)
theorem z3.L1_eq (N : Nat) (n1 : Nat) (keys : Int) (wide : Int) (time : Int) (held : Int) (n_ : Int) (c0 : List Int) (c1 : Int) (c2 : Int) (o1 : zBd) : z3.L1 N (n1 + 1) keys wide time held n_ c0 c1 c2 o1 =
bif decide (n_ > 0) then
bindO (zq.F N ((c0, (c1, c2)), ([0, 0, 1, quoI .i64 wide 3, IntKind.wrap .i64 (wide - 1), wide, IntKind.wrap .i64 (wide + 1), quoI .i64 wide 2] : List Int))) fun r2 =>
bindO (zG.F N (r2.2, keys)) fun r3 =>
bif decide (0 <= r3.1) then
bif decide (0 <= r3.1) then
bif decide (o1.length + List.length ([(IntKind.wrap .i64 (time + r2.1), (r3.1, (zBg .i64 (zCA .i64 (zBa .i64 held (zBS .i64 1 r3.1)) r3.1) 1) == 1))] : List (Int × Int × Bool)) <= maxN) then
z3.L1 N n1 keys wide (IntKind.wrap .i64 (time + r2.1)) (zBa .i64 held (zBS .i64 1 r3.1)) (IntKind.wrap .i64 (n_ - 1)) r3.2.1 r3.2.2.1 r3.2.2.2 (o1 ++ ([(IntKind.wrap .i64 (time + r2.1), (r3.1, (zBg .i64 (zCA .i64 (zBa .i64 held (zBS .i64 1 r3.1)) r3.1) 1) == 1))] : List (Int × Int × Bool)))
else none
else none
else none
else
some (o1, (c0, (c1, c2))) := by kernel_rfl
theorem z3.F_eq (N : Nat) (c : (List Int) × Int × Int) (keys : Int) (most : Int) (wide : Int) : z3.F N (c, keys, most, wide) =
bindO (zG.F N (c, IntKind.wrap .i64 (most + 1))) fun r1 =>
z3.L1 N N keys wide 0 0 r1.1 r1.2.1 r1.2.2.1 r1.2.2.2 ([] : List (Int × Int × Bool)) := by kernel_rfl
def yG.x : XFunc := { nslots := 9, nobj := 0, pars := [.val false 1], rowsIn := [none], rets := [.tmp 2 false 1], outs := [.imm], fresh := true, arg := .int .i64, ret := .bool, body := .seq (rG [op 2 .move [cB false]]) (.seq (rG [mv 3 0, op 4 (.bin .geq) [.slot 3, cI 1], sX 5 [.slot 4], gX 6 .move [.slot 0] [] [] 5 true, gX 7 (.bin .leq) [.slot 6, cI 15] [] [] 5 true, op 8 .pick [.slot 5, .slot 7, cB false], mv 2 8]) (.ret)) }
def yG.env (_ : Nat) : Env := envOf (tbl [] noFS)
def yG.F (N : Nat) (x : Int) : Option Bool := XFunc.run yG.x (yG.env N) N x
def yG.fs (N : Nat) : FS := { arg := yG.x.arg, ret := yG.x.ret, fresh := true, F := yG.F N }
theorem yG.F_eq (N : Nat) (n_ : Int) : yG.F N n_ =
bif decide (n_ >= 1) then
some (decide (n_ <= 15))
else
some false := by kernel_rfl
def yK.x : XFunc := { nslots := 9, nobj := 0, pars := [.val false 1], rowsIn := [none], rets := [.tmp 2 false 1], outs := [.imm], fresh := true, arg := .int .i64, ret := .bool, body := .seq (rG [op 2 .move [cB false]]) (.seq (rG [mv 3 0, op 4 (.bin .geq) [.slot 3, cI 1], sX 5 [.slot 4], gX 6 .move [.slot 0] [] [] 5 true, gX 7 (.bin .leq) [.slot 6, cI 3] [] [] 5 true, op 8 .pick [.slot 5, .slot 7, cB false], mv 2 8]) (.ret)) }
def yK.env (_ : Nat) : Env := envOf (tbl [] noFS)
def yK.F (N : Nat) (x : Int) : Option Bool := XFunc.run yK.x (yK.env N) N x
def yK.fs (N : Nat) : FS := { arg := yK.x.arg, ret := yK.x.ret, fresh := true, F := yK.F N }
theorem yK.F_eq (N : Nat) (n_ : Int) : yK.F N n_ =
bif decide (n_ >= 1) then
some (decide (n_ <= 3))
else
some false := by kernel_rfl
def z8.x : XFunc := { nslots := 158, nobj := 1, pars := [.val true 4], rowsIn := no 4, rets := [.tmp 2 false 1], outs := [.imm], fresh := true, arg := .pair (.int .i64) zAj, ret := .bool, body := .seq (rG [ow 1 (.box 0) [.slot 0] [0] [0], op 2 .move [cB false]]) (.seq (.seq (rG [fA 3 0 1, lN 4 3 0]) (.block 0 (.seq (.seq (rG [op 6 (.bin .eql) [.slot 4, cI 0], mv 5 6]) (.cond (.slot 5) (.skip) (.seq (rG [op 7 (.bin .eql) [.slot 4, cI 1], mv 5 7]) (.cond (.slot 5) (.skip) (rG [op 8 (.bin .eql) [.slot 4, cI 10], mv 5 8]))))) (.cond (.slot 5) (.seq (rG [fA 9 1 1, lN 10 9 0, op 11 (.bin .eql) [.slot 10, cI 0], sX 12 [.slot 11], gX 13 (.fieldAddr 2) [.slot 1] [] [] 12 true, gX 14 (.load false 1) [.slot 13] [0] [] 12 true, gX 15 (.bin .eql) [.slot 14, cI 0] [] [] 12 true, op 16 .pick [.slot 12, .slot 15, cB false], sX 17 [.slot 16], gX 18 (.fieldAddr 3) [.slot 1] [] [] 17 true, gX 19 (.load false 1) [.slot 18] [0] [] 17 true, gX 20 (.bin .eql) [.slot 19, cI 0] [] [] 17 true, op 21 .pick [.slot 17, .slot 20, cB false], mv 2 21]) (.ret)) (.seq (rG [op 23 (.bin .eql) [.slot 4, cI 2], mv 22 23]) (.cond (.slot 22) (.seq (rG [fA 24 3 1, lN 25 24 0, op 26 (.bin .eql) [.slot 25, cI 0], sX 27 [.slot 26], gX 28 (.fieldAddr 1) [.slot 1] [] [] 27 true, gX 29 (.load false 1) [.slot 28] [0] [] 27 true, gX 30 (.bin .eql) [.slot 29, cI 0] [] [] 27 true, ⟨some 31, .move, [.slot 30], [], [], some (27, true), true, .none⟩, gX 32 (.fieldAddr 1) [.slot 1] [] [] 31 false, gX 33 (.load false 1) [.slot 32] [0] [] 31 false, ⟨some 34, .call ⟨153, vs 1, no 1, [.val false 1], ims 1, true⟩, [.slot 33], [], [], some (31, false), false, .none⟩, gX 35 .pick [.slot 31, cB true, .slot 34] [] [] 27 true, op 36 .pick [.slot 27, .slot 35, cB false], sX 37 [.slot 36], gX 38 (.fieldAddr 2) [.slot 1] [] [] 37 true, gX 39 (.load false 1) [.slot 38] [0] [] 37 true, gX 40 (.bin .eql) [.slot 39, cI 0] [] [] 37 true, ⟨some 41, .move, [.slot 40], [], [], some (37, true), true, .none⟩, gX 42 (.fieldAddr 2) [.slot 1] [] [] 41 false, gX 43 (.load false 1) [.slot 42] [0] [] 41 false, ⟨some 44, .call ⟨154, vs 1, no 1, [.val false 1], ims 1, true⟩, [.slot 43], [], [], some (41, false), false, .none⟩, gX 45 .pick [.slot 41, cB true, .slot 44] [] [] 37 true, op 46 .pick [.slot 37, .slot 45, cB false], sX 47 [.slot 46], gX 48 (.fieldAddr 1) [.slot 1] [] [] 47 true, gX 49 (.load false 1) [.slot 48] [0] [] 47 true, gX 50 (.bin .neq) [.slot 49, cI 0] [] [] 47 true, ⟨some 51, .move, [.slot 50], [], [], some (47, true), true, .none⟩, gX 52 (.fieldAddr 2) [.slot 1] [] [] 51 false, gX 53 (.load false 1) [.slot 52] [0] [] 51 false, gX 54 (.bin .neq) [.slot 53, cI 0] [] [] 51 false, gX 55 .pick [.slot 51, cB true, .slot 54] [] [] 47 true, op 56 .pick [.slot 47, .slot 55, cB false], mv 2 56]) (.ret)) (.seq (.seq (rG [op 58 (.bin .eql) [.slot 4, cI 3], mv 57 58]) (.cond (.slot 57) (.skip) (rG [op 59 (.bin .eql) [.slot 4, cI 4], mv 57 59]))) (.cond (.slot 57) (.seq (rG [fA 60 1 1, lN 61 60 0, op 62 (.bin .eql) [.slot 61, cI 0], sX 63 [.slot 62], gX 64 (.fieldAddr 2) [.slot 1] [] [] 63 true, gX 65 (.load false 1) [.slot 64] [0] [] 63 true, gX 66 (.bin .eql) [.slot 65, cI 0] [] [] 63 true, op 67 .pick [.slot 63, .slot 66, cB false], sX 68 [.slot 67], gX 69 (.fieldAddr 3) [.slot 1] [] [] 68 true, gX 70 (.load false 1) [.slot 69] [0] [] 68 true, ⟨some 71, .call ⟨155, vs 1, no 1, [.val false 1], ims 1, true⟩, [.slot 70], [], [], some (68, true), false, .none⟩, op 72 .pick [.slot 68, .slot 71, cB false], mv 2 72]) (.ret)) (.seq (rG [op 74 (.bin .eql) [.slot 4, cI 5], mv 73 74]) (.cond (.slot 73) (.seq (rG [fA 75 1 1, lN 76 75 0, op 77 (.bin .eql) [.slot 76, cI 0], sX 78 [.slot 77], gX 79 (.fieldAddr 2) [.slot 1] [] [] 78 true, gX 80 (.load false 1) [.slot 79] [0] [] 78 true, gX 81 (.bin .eql) [.slot 80, cI 0] [] [] 78 true, op 82 .pick [.slot 78, .slot 81, cB false], sX 83 [.slot 82], gX 84 (.fieldAddr 3) [.slot 1] [] [] 83 true, gX 85 (.load false 1) [.slot 84] [0] [] 83 true, gX 86 (.bin .geq) [.slot 85, cI 0] [] [] 83 true, op 87 .pick [.slot 83, .slot 86, cB false], sX 88 [.slot 87], gX 89 (.fieldAddr 3) [.slot 1] [] [] 88 true, gX 90 (.load false 1) [.slot 89] [0] [] 88 true, gX 91 (.bin .leq) [.slot 90, cI 3] [] [] 88 true, op 92 .pick [.slot 88, .slot 91, cB false], mv 2 92]) (.ret)) (.seq (rG [op 94 (.bin .eql) [.slot 4, cI 9], mv 93 94]) (.cond (.slot 93) (.seq (rG [fA 95 1 1, lN 96 95 0, op 97 (.bin .eql) [.slot 96, cI 0], sX 98 [.slot 97], gX 99 (.fieldAddr 2) [.slot 1] [] [] 98 true, gX 100 (.load false 1) [.slot 99] [0] [] 98 true, gX 101 (.bin .eql) [.slot 100, cI 0] [] [] 98 true, op 102 .pick [.slot 98, .slot 101, cB false], sX 103 [.slot 102], gX 104 (.fieldAddr 3) [.slot 1] [] [] 103 true, gX 105 (.load false 1) [.slot 104] [0] [] 103 true, gX 106 (.bin .geq) [.slot 105, cI 0] [] [] 103 true, op 107 .pick [.slot 103, .slot 106, cB false], sX 108 [.slot 107], gX 109 (.fieldAddr 3) [.slot 1] [] [] 108 true, gX 110 (.load false 1) [.slot 109] [0] [] 108 true, gX 111 (.bin .leq) [.slot 110, cI 3] [] [] 108 true, op 112 .pick [.slot 108, .slot 111, cB false], mv 2 112]) (.ret)) (.seq (rG [op 114 (.bin .eql) [.slot 4, cI 6], mv 113 114]) (.cond (.slot 113) (.seq (rG [fA 115 1 1, lN 116 115 0, o1 117 (.call ⟨153, vs 1, no 1, [.val false 1], ims 1, true⟩) 116, sX 118 [.slot 117], gX 119 (.fieldAddr 2) [.slot 1] [] [] 118 true, gX 120 (.load false 1) [.slot 119] [0] [] 118 true, ⟨some 121, .call ⟨154, vs 1, no 1, [.val false 1], ims 1, true⟩, [.slot 120], [], [], some (118, true), false, .none⟩, op 122 .pick [.slot 118, .slot 121, cB false], sX 123 [.slot 122], gX 124 (.fieldAddr 3) [.slot 1] [] [] 123 true, gX 125 (.load false 1) [.slot 124] [0] [] 123 true, gX 126 (.bin .eql) [.slot 125, cI 0] [] [] 123 true, op 127 .pick [.slot 123, .slot 126, cB false], mv 2 127]) (.ret)) (.seq (rG [op 129 (.bin .eql) [.slot 4, cI 7], mv 128 129]) (.cond (.slot 128) (.seq (rG [fA 130 1 1, lN 131 130 0, o1 132 (.call ⟨153, vs 1, no 1, [.val false 1], ims 1, true⟩) 131, sX 133 [.slot 132], gX 134 (.fieldAddr 2) [.slot 1] [] [] 133 true, gX 135 (.load false 1) [.slot 134] [0] [] 133 true, gX 136 (.bin .eql) [.slot 135, cI 0] [] [] 133 true, op 137 .pick [.slot 133, .slot 136, cB false], sX 138 [.slot 137], gX 139 (.fieldAddr 3) [.slot 1] [] [] 138 true, gX 140 (.load false 1) [.slot 139] [0] [] 138 true, ⟨some 141, .call ⟨155, vs 1, no 1, [.val false 1], ims 1, true⟩, [.slot 140], [], [], some (138, true), false, .none⟩, op 142 .pick [.slot 138, .slot 141, cB false], mv 2 142]) (.ret)) (.seq (rG [op 144 (.bin .eql) [.slot 4, cI 8], mv 143 144]) (.cond (.slot 143) (.seq (rG [fA 145 1 1, lN 146 145 0, op 147 (.bin .eql) [.slot 146, cI 0], sX 148 [.slot 147], gX 149 (.fieldAddr 2) [.slot 1] [] [] 148 true, gX 150 (.load false 1) [.slot 149] [0] [] 148 true, ⟨some 151, .call ⟨154, vs 1, no 1, [.val false 1], ims 1, true⟩, [.slot 150], [], [], some (148, true), false, .none⟩, op 152 .pick [.slot 148, .slot 151, cB false], sX 153 [.slot 152], gX 154 (.fieldAddr 3) [.slot 1] [] [] 153 true, gX 155 (.load false 1) [.slot 154] [0] [] 153 true, gX 156 (.bin .eql) [.slot 155, cI 0] [] [] 153 true, op 157 .pick [.slot 153, .slot 156, cB false], mv 2 157]) (.ret)) (.skip))))))))))))))))))) (.seq (rG [op 2 .move [cB false]]) (.ret))) }
def z8.env (N : Nat) : Env := envOf (tbl [(153, yR.fs N), (154, yG.fs N), (155, yK.fs N)] noFS)
def z8.F (N : Nat) (x : Int × Int × Int × Int) : Option Bool := XFunc.run z8.x (z8.env N) N x
def z8.fs (N : Nat) : FS := { arg := z8.x.arg, ret := z8.x.ret, fresh := true, F := z8.F N }
theorem z8.F_eq (N : Nat) (a : Int × Int × Int × Int) : z8.F N a =
bif a.1 == 0 then
bif a.1 == 0 then
bif a.2.1 == 0 then
bif a.2.2.1 == 0 then
some (a.2.2.2 == 0)
else
some false
else
some false
else
bif a.1 == 2 then
bif a.2.2.2 == 0 then
bif a.2.1 == 0 then
bif a.2.2.1 == 0 then
bif a.2.1 != 0 then
some true
else
some (a.2.2.1 != 0)
else
bindO (yG.F N a.2.2.1) fun r1 =>
bif r1 then
bif a.2.1 != 0 then
some true
else
some (a.2.2.1 != 0)
else
some false
else
bindO (yR.F N a.2.1) fun r2 =>
bif r2 then
bif a.2.2.1 == 0 then
bif a.2.1 != 0 then
some true
else
some (a.2.2.1 != 0)
else
bindO (yG.F N a.2.2.1) fun r3 =>
bif r3 then
bif a.2.1 != 0 then
some true
else
some (a.2.2.1 != 0)
else
some false
else
some false
else
some false
else
bif a.1 == 3 then
bif a.1 == 3 then
bif a.2.1 == 0 then
bif a.2.2.1 == 0 then
bindO (yK.F N a.2.2.2) fun r4 =>
some r4
else
some false
else
some false
else
bif a.1 == 5 then
bif a.2.1 == 0 then
bif a.2.2.1 == 0 then
bif decide (a.2.2.2 >= 0) then
some (decide (a.2.2.2 <= 3))
else
some false
else
some false
else
some false
else
bif a.1 == 9 then
bif a.2.1 == 0 then
bif a.2.2.1 == 0 then
bif decide (a.2.2.2 >= 0) then
some (decide (a.2.2.2 <= 3))
else
some false
else
some false
else
some false
else
bif a.1 == 6 then
bindO (yR.F N a.2.1) fun r5 =>
bif r5 then
bindO (yG.F N a.2.2.1) fun r6 =>
bif r6 then
some (a.2.2.2 == 0)
else
some false
else
some false
else
bif a.1 == 7 then
bindO (yR.F N a.2.1) fun r7 =>
bif r7 then
bif a.2.2.1 == 0 then
bindO (yK.F N a.2.2.2) fun r8 =>
some r8
else
some false
else
some false
else
bif a.1 == 8 then
bif a.2.1 == 0 then
bindO (yG.F N a.2.2.1) fun r9 =>
bif r9 then
some (a.2.2.2 == 0)
else
some false
else
some false
else
some false
else
bif a.1 == 4 then
bif a.2.1 == 0 then
bif a.2.2.1 == 0 then
bindO (yK.F N a.2.2.2) fun r10 =>
some r10
else
some false
else
some false
else
bif a.1 == 5 then
bif a.2.1 == 0 then
bif a.2.2.1 == 0 then
bif decide (a.2.2.2 >= 0) then
some (decide (a.2.2.2 <= 3))
else
some false
else
some false
else
some false
else
bif a.1 == 9 then
bif a.2.1 == 0 then
bif a.2.2.1 == 0 then
bif decide (a.2.2.2 >= 0) then
some (decide (a.2.2.2 <= 3))
else
some false
else
some false
else
some false
else
bif a.1 == 6 then
bindO (yR.F N a.2.1) fun r11 =>
bif r11 then
bindO (yG.F N a.2.2.1) fun r12 =>
bif r12 then
some (a.2.2.2 == 0)
else
some false
else
some false
else
bif a.1 == 7 then
bindO (yR.F N a.2.1) fun r13 =>
bif r13 then
bif a.2.2.1 == 0 then
bindO (yK.F N a.2.2.2) fun r14 =>
some r14
else
some false
else
some false
else
bif a.1 == 8 then
bif a.2.1 == 0 then
bindO (yG.F N a.2.2.1) fun r15 =>
bif r15 then
some (a.2.2.2 == 0)
else
some false
else
some false
else
some false
else
bif a.1 == 1 then
bif a.1 == 1 then
bif a.2.1 == 0 then
bif a.2.2.1 == 0 then
some (a.2.2.2 == 0)
else
some false
else
some false
else
bif a.1 == 2 then
bif a.2.2.2 == 0 then
bif a.2.1 == 0 then
bif a.2.2.1 == 0 then
bif a.2.1 != 0 then
some true
else
some (a.2.2.1 != 0)
else
bindO (yG.F N a.2.2.1) fun r16 =>
bif r16 then
bif a.2.1 != 0 then
some true
else
some (a.2.2.1 != 0)
else
some false
else
bindO (yR.F N a.2.1) fun r17 =>
bif r17 then
bif a.2.2.1 == 0 then
bif a.2.1 != 0 then
some true
else
some (a.2.2.1 != 0)
else
bindO (yG.F N a.2.2.1) fun r18 =>
bif r18 then
bif a.2.1 != 0 then
some true
else
some (a.2.2.1 != 0)
else
some false
else
some false
else
some false
else
bif a.1 == 3 then
bif a.1 == 3 then
bif a.2.1 == 0 then
bif a.2.2.1 == 0 then
bindO (yK.F N a.2.2.2) fun r19 =>
some r19
else
some false
else
some false
else
bif a.1 == 5 then
bif a.2.1 == 0 then
bif a.2.2.1 == 0 then
bif decide (a.2.2.2 >= 0) then
some (decide (a.2.2.2 <= 3))
else
some false
else
some false
else
some false
else
bif a.1 == 9 then
bif a.2.1 == 0 then
bif a.2.2.1 == 0 then
bif decide (a.2.2.2 >= 0) then
some (decide (a.2.2.2 <= 3))
else
some false
else
some false
else
some false
else
bif a.1 == 6 then
bindO (yR.F N a.2.1) fun r20 =>
bif r20 then
bindO (yG.F N a.2.2.1) fun r21 =>
bif r21 then
some (a.2.2.2 == 0)
else
some false
else
some false
else
bif a.1 == 7 then
bindO (yR.F N a.2.1) fun r22 =>
bif r22 then
bif a.2.2.1 == 0 then
bindO (yK.F N a.2.2.2) fun r23 =>
some r23
else
some false
else
some false
else
bif a.1 == 8 then
bif a.2.1 == 0 then
bindO (yG.F N a.2.2.1) fun r24 =>
bif r24 then
some (a.2.2.2 == 0)
else
some false
else
some false
else
some false
else
bif a.1 == 4 then
bif a.2.1 == 0 then
bif a.2.2.1 == 0 then
bindO (yK.F N a.2.2.2) fun r25 =>
some r25
else
some false
else
some false
else
bif a.1 == 5 then
bif a.2.1 == 0 then
bif a.2.2.1 == 0 then
bif decide (a.2.2.2 >= 0) then
some (decide (a.2.2.2 <= 3))
else
some false
else
some false
else
some false
else
bif a.1 == 9 then
bif a.2.1 == 0 then
bif a.2.2.1 == 0 then
bif decide (a.2.2.2 >= 0) then
some (decide (a.2.2.2 <= 3))
else
some false
else
some false
else
some false
else
bif a.1 == 6 then
bindO (yR.F N a.2.1) fun r26 =>
bif r26 then
bindO (yG.F N a.2.2.1) fun r27 =>
bif r27 then
some (a.2.2.2 == 0)
else
some false
else
some false
else
bif a.1 == 7 then
bindO (yR.F N a.2.1) fun r28 =>
bif r28 then
bif a.2.2.1 == 0 then
bindO (yK.F N a.2.2.2) fun r29 =>
some r29
else
some false
else
some false
else
bif a.1 == 8 then
bif a.2.1 == 0 then
bindO (yG.F N a.2.2.1) fun r30 =>
bif r30 then
some (a.2.2.2 == 0)
else
some false
else
some false
else
some false
else
bif a.1 == 10 then
bif a.2.1 == 0 then
bif a.2.2.1 == 0 then
some (a.2.2.2 == 0)
else
some false
else
some false
else
bif a.1 == 2 then
bif a.2.2.2 == 0 then
bif a.2.1 == 0 then
bif a.2.2.1 == 0 then
bif a.2.1 != 0 then
some true
else
some (a.2.2.1 != 0)
else
bindO (yG.F N a.2.2.1) fun r31 =>
bif r31 then
bif a.2.1 != 0 then
some true
else
some (a.2.2.1 != 0)
else
some false
else
bindO (yR.F N a.2.1) fun r32 =>
bif r32 then
bif a.2.2.1 == 0 then
bif a.2.1 != 0 then
some true
else
some (a.2.2.1 != 0)
else
bindO (yG.F N a.2.2.1) fun r33 =>
bif r33 then
bif a.2.1 != 0 then
some true
else
some (a.2.2.1 != 0)
else
some false
else
some false
else
some false
else
bif a.1 == 3 then
bif a.1 == 3 then
bif a.2.1 == 0 then
bif a.2.2.1 == 0 then
bindO (yK.F N a.2.2.2) fun r34 =>
some r34
else
some false
else
some false
else
bif a.1 == 5 then
bif a.2.1 == 0 then
bif a.2.2.1 == 0 then
bif decide (a.2.2.2 >= 0) then
some (decide (a.2.2.2 <= 3))
else
some false
else
some false
else
some false
else
bif a.1 == 9 then
bif a.2.1 == 0 then
bif a.2.2.1 == 0 then
bif decide (a.2.2.2 >= 0) then
some (decide (a.2.2.2 <= 3))
else
some false
else
some false
else
some false
else
bif a.1 == 6 then
bindO (yR.F N a.2.1) fun r35 =>
bif r35 then
bindO (yG.F N a.2.2.1) fun r36 =>
bif r36 then
some (a.2.2.2 == 0)
else
some false
else
some false
else
bif a.1 == 7 then
bindO (yR.F N a.2.1) fun r37 =>
bif r37 then
bif a.2.2.1 == 0 then
bindO (yK.F N a.2.2.2) fun r38 =>
some r38
else
some false
else
some false
else
bif a.1 == 8 then
bif a.2.1 == 0 then
bindO (yG.F N a.2.2.1) fun r39 =>
bif r39 then
some (a.2.2.2 == 0)
else
some false
else
some false
else
some false
else
bif a.1 == 4 then
bif a.2.1 == 0 then
bif a.2.2.1 == 0 then
bindO (yK.F N a.2.2.2) fun r40 =>
some r40
else
some false
else
some false
else
bif a.1 == 5 then
bif a.2.1 == 0 then
bif a.2.2.1 == 0 then
bif decide (a.2.2.2 >= 0) then
some (decide (a.2.2.2 <= 3))
else
some false
else
some false
else
some false
else
bif a.1 == 9 then
bif a.2.1 == 0 then
bif a.2.2.1 == 0 then
bif decide (a.2.2.2 >= 0) then
some (decide (a.2.2.2 <= 3))
else
some false
else
some false
else
some false
else
bif a.1 == 6 then
bindO (yR.F N a.2.1) fun r41 =>
bif r41 then
bindO (yG.F N a.2.2.1) fun r42 =>
bif r42 then
some (a.2.2.2 == 0)
else
some false
else
some false
else
bif a.1 == 7 then
bindO (yR.F N a.2.1) fun r43 =>
bif r43 then
bif a.2.2.1 == 0 then
bindO (yK.F N a.2.2.2) fun r44 =>
some r44
else
some false
else
some false
else
bif a.1 == 8 then
bif a.2.1 == 0 then
bindO (yG.F N a.2.2.1) fun r45 =>
bif r45 then
some (a.2.2.2 == 0)
else
some false
else
some false
else
some false := by kernel_rfl
def zE.c1 : XCode := .seq (rG [o2 43 (.bin .lss) 42 41]) (.seq (.cond (.slot 43) (.skip) (.exit 2)) (.seq (.block 3 (.seq (rG [o2 44 (.indexAddr zAw) 40 42, o1 45 (.load true 4) 44, ow 6 (.alloc 1 [cZ, cZ, cZ, cZ]) [] [1] [1], sT 4 6 45 1]) (.seq (rG [lU 46 4 6 1, o1 47 (.call ⟨156, [.val true 4], no 4, [.val false 1], ims 1, true⟩) 46, o1 48 .not 47, sX 49 [.slot 48], gX 50 .move [.slot 3] [] [] 49 false, gX 51 (.bin .eql) [.slot 50, cI 0] [] [] 49 false, ⟨some 52, .move, [.slot 51], [], [], some (49, false), true, .none⟩, gX 53 (.fieldAddr 0) [.slot 6] [] [] 52 true, gX 54 (.load false 1) [.slot 53] [1] [] 52 true, gX 55 (.bin .eql) [.slot 54, cI 1] [] [] 52 true, gX 56 .pick [.slot 52, .slot 55, cB false] [] [] 49 false, op 57 .pick [.slot 49, cB true, .slot 56], sX 58 [.slot 57], gX 59 (.fieldAddr 0) [.slot 6] [] [] 58 false, gX 60 (.load false 1) [.slot 59] [1] [] 58 false, gX 61 (.bin .neq) [.slot 60, cI 9] [] [] 58 false, ⟨some 62, .move, [.slot 61], [], [], some (58, false), true, .none⟩, gX 63 (.fieldAddr 3) [.slot 6] [] [] 62 true, gX 64 (.load false 1) [.slot 63] [1] [] 62 true, gX 65 (.fieldAddr 1) [.slot 1] [] [] 62 true, gX 66 (.load false 1) [.slot 65] [0] [] 62 true, gX 67 .len [.slot 66] [] [] 62 true, gX 68 (.bin .geq) (sl [64, 67]) [] [] 62 true, gX 69 .pick [.slot 62, .slot 68, cB false] [] [] 58 false, op 70 .pick [.slot 58, cB true, .slot 69]]) (.cond (.slot 70) (.seq (rG [op 2 .move [cB false]]) (.ret)) (.skip))))) (rG [op 71 (.bin .add) [.slot 42, cI 1], mv 42 71])))
def zE.c2 : XCode := rG [op 72 (.bin .add) [.slot 30, cI 1], mv 30 72]
def zE.c3 : XCode := .seq (rG [o2 31 (.bin .lss) 30 29]) (.seq (.cond (.slot 31) (.skip) (.exit 0)) (.seq (.block 1 (.seq (rG [mv 32 30, o2 33 (.indexAddr (.list zAw)) 28 30, o1 34 (.load false 1) 33, mv 3 32, mv 4 34]) (.seq (.seq (rG [mv 35 4, o1 36 .len 35, fA 37 0 1, lN 38 37 0, o2 39 (.bin .neq) 36 38]) (.cond (.slot 39) (.seq (rG [op 2 .move [cB false]]) (.ret)) (.skip))) (.seq (rG [mv 40 4, o1 41 .len 40, op 42 .move [cI 0]]) (.block 2 (.loop [.keep [1, 3, 28, 29, 30, 40, 41, 42], .drop 1, .norm] (zE.c1))))))) (zE.c2)))
def zE.c4 : XCode := .seq (rG [op 2 .move [cB true]]) (.ret)
def zE.x : XFunc := { nslots := 73, nobj := 2, pars := [.val true 2], rowsIn := no 2, rets := [.tmp 2 false 1], outs := [.imm], fresh := true, arg := .pair (.int .i64) (.list (.list zAw)), ret := .bool, body := .seq (rG [ow 1 (.box 0) [.slot 0] [0] [0], op 2 .move [cB false]]) (.seq (.seq (rG [fA 7 0 1, lN 8 7 0, op 9 (.bin .lss) [.slot 8, cI 1], sX 10 [.slot 9], gX 11 (.fieldAddr 0) [.slot 1] [] [] 10 false, gX 12 (.load false 1) [.slot 11] [0] [] 10 false, gX 13 (.bin .gtr) [.slot 12, cI 32] [] [] 10 false, op 14 .pick [.slot 10, cB true, .slot 13], sX 15 [.slot 14], gX 16 (.fieldAddr 1) [.slot 1] [] [] 15 false, gX 17 (.load false 1) [.slot 16] [0] [] 15 false, gX 18 .len [.slot 17] [] [] 15 false, gX 19 (.bin .lss) [.slot 18, cI 1] [] [] 15 false, op 20 .pick [.slot 15, cB true, .slot 19], sX 21 [.slot 20], gX 22 (.fieldAddr 1) [.slot 1] [] [] 21 false, gX 23 (.load false 1) [.slot 22] [0] [] 21 false, gX 24 .len [.slot 23] [] [] 21 false, gX 25 (.bin .gtr) [.slot 24, cI 4] [] [] 21 false, op 26 .pick [.slot 21, cB true, .slot 25]]) (.cond (.slot 26) (.seq (rG [op 2 .move [cB false]]) (.ret)) (.skip))) (.seq (.seq (rG [fA 27 1 1, lN 28 27 0, o1 29 .len 28, op 30 .move [cI 0]]) (.block 0 (.loop [.keep [1, 28, 29, 30], .drop 1, .norm] (zE.c3)))) (zE.c4))) }
def zE.env (N : Nat) : Env := envOf (tbl [(156, z8.fs N)] noFS)
def zE.F (N : Nat) (x : Int × List y1) : Option Bool := XFunc.run zE.x (zE.env N) N x
def zE.fs (N : Nat) : FS := { arg := zE.x.arg, ret := zE.x.ret, fresh := true, F := zE.F N }
def zE.k2 (N : Nat) : Ex -> S -> Option Bool := seqK (fun s => XCode.runK (zE.env N) N (zE.c4) s (XFunc.endK zE.x)) (XFunc.endK zE.x)
def zE.k1 (N : Nat) : Ex -> S -> Option Bool := zAh 0 (zE.k2 N)
def zE.k6 (N : Nat) (n1 : Nat) : Ex -> S -> Option Bool := seqK (fun s => bindO (S.ghosts s [.keep [1, 28, 29, 30], .drop 1, .norm]) fun s1 => loopK [.keep [1, 28, 29, 30], .drop 1, .norm] (fun s k => XCode.runK (zE.env N) N zE.c3 s k) n1 s1 (zE.k1 N)) (zE.k1 N)
def zE.k5 (N : Nat) (n1 : Nat) : Ex -> S -> Option Bool := seqK (fun s => XCode.runK (zE.env N) N (zE.c2) s (zE.k6 N n1)) (zE.k6 N n1)
def zE.k4 (N : Nat) (n1 : Nat) : Ex -> S -> Option Bool := zAh 1 (zE.k5 N n1)
def zE.k3 (N : Nat) (n1 : Nat) : Ex -> S -> Option Bool := zAh 2 (zE.k4 N n1)
def zE.L1 (N : Nat) (n1 : Nat) (t28 : List y1) (t29 : Int) (t30 : Int) (o00 : Int) (o01 : List y1) : Option Bool := loopK [.keep [1, 28, 29, 30], .drop 1, .norm] (fun s k => XCode.runK (zE.env N) N zE.c3 s k) n1
 { t := jK 73 [(1, .one (.ptr 0 0 0)), (28, .one (.sl false (.list zAw) t28)), (29, .one (.int .i64 t29)), (30, .one (.int .i64 t30))], h := [.box 0 false [.int .i64 o00, .sl false (.list zAw) o01], .absent 0] }
 (zE.k1 N)
def zE.L2 (N : Nat) (n1 : Nat) (n2 : Nat) (i : Int) (t28 : List y1) (t29 : Int) (t30 : Int) (t40 : y1) (t41 : Int) (t42 : Int) (o00 : Int) (o01 : List y1) : Option Bool := loopK [.keep [1, 3, 28, 29, 30, 40, 41, 42], .drop 1, .norm] (fun s k => XCode.runK (zE.env N) N zE.c1 s k) n2
 { t := jK 73 [(1, .one (.ptr 0 0 0)), (3, .one (.int .i64 i)), (28, .one (.sl false (.list zAw) t28)), (29, .one (.int .i64 t29)), (30, .one (.int .i64 t30)), (40, .one (.sl false zAw t40)), (41, .one (.int .i64 t41)), (42, .one (.int .i64 t42))], h := [.box 0 false [.int .i64 o00, .sl false (.list zAw) o01], .absent 0] }
 (zE.k3 N n1)
theorem zE.L1_eq (N : Nat) (n1 : Nat) (t28 : List y1) (t29 : Int) (t30 : Int) (o00 : Int) (o01 : List y1) : zE.L1 N (n1 + 1) t28 t29 t30 o00 o01 =
bif decide (t30 < t29) then
bif zu t30 (t28.length) then
bif (List.length (nth ([] : List (Int × Int × Int × Int)) t28 t30) : Int) != o00 then
some false
else
zE.L2 N n1 N t30 t28 t29 t30 (nth ([] : List (Int × Int × Int × Int)) t28 t30) (List.length (nth ([] : List (Int × Int × Int × Int)) t28 t30) : Int) 0 o00 o01
else none
else
some true := by kernel_rfl
theorem zE.L2_eq (N : Nat) (n1 : Nat) (n2 : Nat) (i : Int) (t28 : List y1) (t29 : Int) (t30 : Int) (t40 : y1) (t41 : Int) (t42 : Int) (o00 : Int) (o01 : List y1) : zE.L2 N n1 (n2 + 1) i t28 t29 t30 t40 t41 t42 o00 o01 =
bif decide (t42 < t41) then
bif zu t42 (t40.length) then
bindO (z8.F N ((nth (0, (0, (0, 0))) t40 t42).1, (((nth (0, (0, (0, 0))) t40 t42).2).1, (((nth (0, (0, (0, 0))) t40 t42).2).2)))) fun r1 =>
bif !r1 then
some false
else
bif i == 0 then
bif ((nth (0, (0, (0, 0))) t40 t42).1) == 1 then
some false
else
bif ((nth (0, (0, (0, 0))) t40 t42).1) != 9 then
bif decide (((((nth (0, (0, (0, 0))) t40 t42).2).2).2) >= (o01.length : Int)) then
some false
else
zE.L2 N n1 n2 i t28 t29 t30 t40 t41 (IntKind.wrap .i64 (t42 + 1)) o00 o01
else
zE.L2 N n1 n2 i t28 t29 t30 t40 t41 (IntKind.wrap .i64 (t42 + 1)) o00 o01
else
bif ((nth (0, (0, (0, 0))) t40 t42).1) != 9 then
bif decide (((((nth (0, (0, (0, 0))) t40 t42).2).2).2) >= (o01.length : Int)) then
some false
else
zE.L2 N n1 n2 i t28 t29 t30 t40 t41 (IntKind.wrap .i64 (t42 + 1)) o00 o01
else
zE.L2 N n1 n2 i t28 t29 t30 t40 t41 (IntKind.wrap .i64 (t42 + 1)) o00 o01
else none
else
zE.L1 N n1 t28 t29 (IntKind.wrap .i64 (t30 + 1)) o00 o01 := by kernel_rfl
theorem zE.F_eq (N : Nat) (m : Int × List y1) : zE.F N m =
bif decide (m.1 < 1) then
some false
else
bif decide (m.1 > 32) then
some false
else
bif decide ((List.length m.2 : Int) < 1) then
some false
else
bif decide ((List.length m.2 : Int) > 4) then
some false
else
zE.L1 N N m.2 (List.length m.2 : Int) 0 m.1 m.2 := by kernel_rfl
def zZ.c1 : XCode := .seq (rG [o2 9 (.bin .lss) 8 7]) (.seq (.cond (.slot 9) (.skip) (.exit 0)) (.seq (.block 1 (.seq (rG [o2 10 (.indexAddr zBZ) 6 8, o1 11 (.load true 5) 10, ow 5 (.alloc 0 [cZ, cZ, cZ, cZ, cZ]) [] [0] [0], sT 5 5 11 0]) (.seq (.seq (rG [fA 12 0 5, lN 13 12 0, op 14 (.bin .lss) [.slot 13, cI 0], sX 15 [.slot 14], gX 16 (.fieldAddr 0) [.slot 5] [] [] 15 false, gX 17 (.load false 1) [.slot 16] [0] [] 15 false, gX 18 (.bin .gtr) [.slot 17, cI 31] [] [] 15 false, op 19 .pick [.slot 15, cB true, .slot 18], sX 20 [.slot 19], gX 21 .move [.slot 3] [] [] 20 false, gX 22 (.fieldAddr 0) [.slot 5] [] [] 20 false, gX 23 (.load false 1) [.slot 22] [0] [] 20 false, ⟨some 24, .call ⟨65, vs 2, no 2, [.val false 1], ims 1, true⟩, (sl [21, 23]), [], [], some (20, false), false, .none⟩, gX 25 (.bin .eql) [.slot 24, cI 1] [] [] 20 false, op 26 .pick [.slot 20, cB true, .slot 25], sX 27 [.slot 26], gX 28 (.fieldAddr 1) [.slot 5] [] [] 27 false, gX 29 (.load true 4) [.slot 28] [0] [] 27 false, ⟨some 30, .call ⟨156, [.val true 4], no 4, [.val false 1], ims 1, true⟩, [.slot 29], [], [], some (27, false), false, .none⟩, gX 31 .not [.slot 30] [] [] 27 false, op 32 .pick [.slot 27, cB true, .slot 31]]) (.cond (.slot 32) (.seq (rG [op 2 .move [cB false]]) (.ret)) (.skip))) (.seq (.seq (rG [fA 33 1 5, fA 34 0 33, lN 35 34 0]) (.block 2 (.seq (.seq (rG [op 37 (.bin .eql) [.slot 35, cI 1], mv 36 37]) (.cond (.slot 36) (.skip) (.seq (rG [op 38 (.bin .eql) [.slot 35, cI 6], mv 36 38]) (.cond (.slot 36) (.skip) (rG [op 39 (.bin .eql) [.slot 35, cI 7], mv 36 39]))))) (.cond (.slot 36) (.seq (rG [op 2 .move [cB false]]) (.ret)) (.skip))))) (rG [mv 40 3, fA 41 0 5, lN 42 41 0, op 43 (.bin .shl) [cI 1, .slot 42], o2 44 (.bin .or) 40 43, mv 3 44]))))) (rG [op 45 (.bin .add) [.slot 8, cI 1], mv 8 45])))
def zZ.c2 : XCode := .seq (rG [op 2 .move [cB true]]) (.ret)
def zZ.x : XFunc := { nslots := 46, nobj := 1, pars := [.val false 1], rowsIn := [none], rets := [.tmp 2 false 1], outs := [.imm], fresh := true, arg := .list zBZ, ret := .bool, body := .seq (rG [op 2 .move [cB false]]) (.seq (rG [op 3 .move [cI 0]]) (.seq (.seq (rG [mv 6 0, o1 7 .len 6, op 8 .move [cI 0]]) (.block 0 (.loop [.keep [3, 6, 7, 8], .drop 0, .norm] (zZ.c1)))) (zZ.c2))) }
def zZ.env (N : Nat) : Env := envOf (tbl [(156, z8.fs N), (65, zAD.fs N)] noFS)
def zZ.F (N : Nat) (x : zAT) : Option Bool := XFunc.run zZ.x (zZ.env N) N x
def zZ.fs (N : Nat) : FS := { arg := zZ.x.arg, ret := zZ.x.ret, fresh := true, F := zZ.F N }
def zZ.k2 (N : Nat) : Ex -> S -> Option Bool := seqK (fun s => XCode.runK (zZ.env N) N (zZ.c2) s (XFunc.endK zZ.x)) (XFunc.endK zZ.x)
def zZ.k1 (N : Nat) : Ex -> S -> Option Bool := zAh 0 (zZ.k2 N)
def zZ.L1 (N : Nat) (n1 : Nat) (seen : Int) (t6 : zAT) (t7 : Int) (t8 : Int) : Option Bool := loopK [.keep [3, 6, 7, 8], .drop 0, .norm] (fun s k => XCode.runK (zZ.env N) N zZ.c1 s k) n1
 { t := jK 46 [(3, .one (.int .i64 seen)), (6, .one (.sl false zBZ t6)), (7, .one (.int .i64 t7)), (8, .one (.int .i64 t8))], h := [.absent 0] }
 (zZ.k1 N)
theorem zZ.L1_eq (N : Nat) (n1 : Nat) (seen : Int) (t6 : zAT) (t7 : Int) (t8 : Int) : zZ.L1 N (n1 + 1) seen t6 t7 t8 =
bif decide (t8 < t7) then
bif zu t8 (t6.length) then
bif decide (((nth (0, (0, (0, (0, 0)))) t6 t8).1) < 0) then
some false
else
bif decide (((nth (0, (0, (0, (0, 0)))) t6 t8).1) > 31) then
some false
else
bindO (zAD.F N (seen, (nth (0, (0, (0, (0, 0)))) t6 t8).1)) fun r1 =>
bif r1 == 1 then
some false
else
bindO (z8.F N (((nth (0, (0, (0, (0, 0)))) t6 t8).2).1, ((((nth (0, (0, (0, (0, 0)))) t6 t8).2).2).1, ((((nth (0, (0, (0, (0, 0)))) t6 t8).2).2).2)))) fun r2 =>
bif !r2 then
some false
else
bif (((nth (0, (0, (0, (0, 0)))) t6 t8).2).1) == 1 then
bif (((nth (0, (0, (0, (0, 0)))) t6 t8).2).1) == 1 then
some false
else
bif decide (0 <= (nth (0, (0, (0, (0, 0)))) t6 t8).1) then
zZ.L1 N n1 (bitOr .i64 seen (zBS .i64 1 ((nth (0, (0, (0, (0, 0)))) t6 t8).1))) t6 t7 (IntKind.wrap .i64 (t8 + 1))
else none
else
bif (((nth (0, (0, (0, (0, 0)))) t6 t8).2).1) == 6 then
bif (((nth (0, (0, (0, (0, 0)))) t6 t8).2).1) == 6 then
some false
else
bif decide (0 <= (nth (0, (0, (0, (0, 0)))) t6 t8).1) then
zZ.L1 N n1 (bitOr .i64 seen (zBS .i64 1 ((nth (0, (0, (0, (0, 0)))) t6 t8).1))) t6 t7 (IntKind.wrap .i64 (t8 + 1))
else none
else
bif (((nth (0, (0, (0, (0, 0)))) t6 t8).2).1) == 7 then
some false
else
bif decide (0 <= (nth (0, (0, (0, (0, 0)))) t6 t8).1) then
zZ.L1 N n1 (bitOr .i64 seen (zBS .i64 1 ((nth (0, (0, (0, (0, 0)))) t6 t8).1))) t6 t7 (IntKind.wrap .i64 (t8 + 1))
else none
else none
else
some true := by kernel_rfl
theorem zZ.F_eq (N : Nat) (l_ : zAT) : zZ.F N l_ =
zZ.L1 N N 0 l_ (l_.length : Int) 0 := by kernel_rfl
def zx.c1 : XCode := .seq (rG [o2 10 (.bin .lss) 9 8]) (.seq (.cond (.slot 10) (.skip) (.exit 0)) (.seq (.block 1 (.seq (rG [mv 11 9, o2 12 (.indexAddr zA6) 7 9, o1 13 (.load true 2) 12, ow 6 (.alloc 1 [cZ, cZ]) [] [1] [1], mv 5 11, sT 2 6 13 1]) (.seq (rG [lU 14 2 6 1, lU 15 2 3 0, o2 16 (.eqAgg false zA6) 14 15]) (.cond (.slot 16) (.seq (rG [mv 17 5, mv 4 17]) (.ret)) (.skip))))) (rG [op 18 (.bin .add) [.slot 9, cI 1], mv 9 18])))
def zx.c2 : XCode := .seq (rG [op 4 .move [cI (-1)]]) (.ret)
def zx.x : XFunc := { nslots := 19, nobj := 2, pars := [.val false 1, .val true 2], rowsIn := no 3, rets := [.tmp 4 false 1], outs := [.imm], fresh := true, arg := .pair (.list zA6) zA6, ret := .int .i64, body := .seq (rG [ow 3 (.box 0) [.slot 1] [0] [0], op 4 .move [cI 0]]) (.seq (.seq (rG [mv 7 0, o1 8 .len 7, op 9 .move [cI 0]]) (.block 0 (.loop [.keep [3, 7, 8, 9], .drop 1, .norm] (zx.c1)))) (zx.c2)) }
def zx.env (_ : Nat) : Env := envOf (tbl [] noFS)
def zx.F (N : Nat) (x : (List (Int × Int)) × Int × Int) : Option Int := XFunc.run zx.x (zx.env N) N x
def zx.fs (N : Nat) : FS := { arg := zx.x.arg, ret := zx.x.ret, fresh := true, F := zx.F N }
def zx.k2 (N : Nat) : Ex -> S -> Option Int := seqK (fun s => XCode.runK (zx.env N) N (zx.c2) s (XFunc.endK zx.x)) (XFunc.endK zx.x)
def zx.k1 (N : Nat) : Ex -> S -> Option Int := zAh 0 (zx.k2 N)
def zx.L1 (N : Nat) (n1 : Nat) (t7 : List (Int × Int)) (t8 : Int) (t9 : Int) (o00 : Int) (o01 : Int) : Option Int := loopK [.keep [3, 7, 8, 9], .drop 1, .norm] (fun s k => XCode.runK (zx.env N) N zx.c1 s k) n1
 { t := jK 19 [(3, .one (.ptr 0 0 0)), (7, .one (.sl false zA6 t7)), (8, .one (.int .i64 t8)), (9, .one (.int .i64 t9))], h := [.box 0 false [.int .i64 o00, .int .i64 o01], .absent 0] }
 (zx.k1 N)
theorem zx.L1_eq (N : Nat) (n1 : Nat) (t7 : List (Int × Int)) (t8 : Int) (t9 : Int) (o00 : Int) (o01 : Int) : zx.L1 N (n1 + 1) t7 t8 t9 o00 o01 =
bif decide (t9 < t8) then
bif zu t9 (t7.length) then
bif (((nth (0, 0) t7 t9).1) == o00) && (((nth (0, 0) t7 t9).2) == o01) then
some t9
else
zx.L1 N n1 t7 t8 (IntKind.wrap .i64 (t9 + 1)) o00 o01
else none
else
some (-1 : Int) := by kernel_rfl
theorem zx.F_eq (N : Nat) (l_ : List (Int × Int)) (p : Int × Int) : zx.F N (l_, p) =
zx.L1 N N l_ (l_.length : Int) 0 p.1 p.2 := by kernel_rfl
def zY.c1 : XCode := .seq (rG [o2 14 (.bin .lss) 13 12]) (.seq (.cond (.slot 14) (.skip) (.exit 0)) (.seq (.block 1 (.seq (rG [o2 15 (.indexAddr zAj) 11 13, o1 16 (.load true 3) 15, ow 5 (.alloc 0 [cZ, cZ, cZ]) [] [0] [0], sT 3 5 16 0]) (.seq (rG [fA 17 1 5, lN 18 17 0, fA 19 2 5, lN 20 19 0, o2 21 (.build [cZ, cZ] [(0, 1), (1, 1)]) 18 20, ow 6 (.alloc 1 [cZ, cZ]) [] [1] [1], sT 2 6 21 1]) (.seq (rG [mv 22 3, lU 23 2 6 1, ow 24 (.call ⟨165, [.val false 1, .val true 2], no 3, [.val false 1], ims 1, true⟩) (sl [22, 23]) [3] [], mv 7 24]) (.seq (.seq (rG [fA 25 1 5, lN 26 25 0, fA 27 2 5, lN 28 27 0, op 29 (.build [cZ, cZ, cZ, cZ] [(0, 1), (1, 1), (2, 1)]) [cI 2, .slot 26, .slot 28], o1 30 (.call ⟨156, [.val true 4], no 4, [.val false 1], ims 1, true⟩) 29, o1 31 .not 30]) (.cond (.slot 31) (.seq (rG [op 2 .move [cB false]]) (.ret)) (.skip))) (.seq (rG [fA 32 0 5, lN 33 32 0]) (.block 2 (.seq (.seq (rG [op 35 (.bin .eql) [.slot 33, cI 0], mv 34 35]) (.cond (.slot 34) (.skip) (rG [op 36 (.bin .eql) [.slot 33, cI 1], mv 34 36]))) (.cond (.slot 34) (.seq (.seq (rG [mv 37 7, op 38 (.bin .geq) [.slot 37, cI 0]]) (.cond (.slot 38) (.seq (rG [op 2 .move [cB false]]) (.ret)) (.skip))) (.seq (rG [fA 39 0 5, lN 40 39 0, op 41 (.bin .eql) [.slot 40, cI 1]]) (.cond (.slot 41) (rG [mv 42 3, lU 43 2 6 1, ow 44 (.buildSlice false 2 14 zA6 1 [(0, 2)] [cZ, cZ]) [.slot 43] [2] [2], ow 45 (.append false 3 14 zA6) (sl [42, 44]) [2, 3] [3], mv 3 45]) (.skip)))) (.seq (rG [op 47 (.bin .eql) [.slot 33, cI 2], mv 46 47]) (.cond (.slot 46) (.seq (.seq (rG [mv 48 7, op 49 (.bin .lss) [.slot 48, cI 0]]) (.cond (.slot 49) (.seq (rG [op 2 .move [cB false]]) (.ret)) (.skip))) (.region true [mv 50 3, mv 51 7, ow 52 (.slice zA6 false true) (sl [50, 51]) [3] [], mv 53 3, mv 54 7, op 55 (.bin .add) [.slot 54, cI 1], ow 56 (.slice zA6 true false) (sl [53, 55]) [3] [], ow 57 (.appendDel 3 14 zA6) (sl [52, 56]) [3] [3], mv 3 57])) (.seq (rG [op 2 .move [cB false]]) (.ret))))))))))))) (rG [op 58 (.bin .add) [.slot 13, cI 1], mv 13 58])))
def zY.c2 : XCode := .seq (rG [mv 59 3, ow 60 .len [.slot 59] [3] [], op 61 (.bin .eql) [.slot 60, cI 0], mv 2 61]) (.ret)
def zY.x : XFunc := { nslots := 62, nobj := 4, pars := [.val false 1], rowsIn := [none], rets := [.tmp 2 false 1], outs := [.imm], fresh := true, arg := .list zAj, ret := .bool, body := .seq (rG [op 2 .move [cB false]]) (.seq (.seq (rG [mv 8 0, o1 9 .len 8, op 10 (.bin .gtr) [.slot 9, cI 8]]) (.cond (.slot 10) (.seq (rG [op 2 .move [cB false]]) (.ret)) (.skip))) (.seq (rG [op 3 .move [.const (.one (.nil))]]) (.seq (.seq (rG [mv 11 0, o1 12 .len 11, op 13 .move [cI 0]]) (.block 0 (.loop [.mkrow (.slot 3) 3 14 zA6, .keep [3, 11, 12, 13], .drop 0, .drop 1, .drop 2, .norm] (zY.c1)))) (zY.c2)))) }
def zY.env (N : Nat) : Env := envOf (tbl [(156, z8.fs N), (165, zx.fs N)] noFS)
def zY.F (N : Nat) (x : y8) : Option Bool := XFunc.run zY.x (zY.env N) N x
def zY.fs (N : Nat) : FS := { arg := zY.x.arg, ret := zY.x.ret, fresh := true, F := zY.F N }
def zY.k2 (N : Nat) : Ex -> S -> Option Bool := seqK (fun s => XCode.runK (zY.env N) N (zY.c2) s (XFunc.endK zY.x)) (XFunc.endK zY.x)
def zY.k1 (N : Nat) : Ex -> S -> Option Bool := zAh 0 (zY.k2 N)
def zY.L1 (N : Nat) (n1 : Nat) (t11 : y8) (t12 : Int) (t13 : Int) (o3 : List (Int × Int)) : Option Bool := loopK [.mkrow (.slot 3) 3 14 zA6, .keep [3, 11, 12, 13], .drop 0, .drop 1, .drop 2, .norm] (fun s k => XCode.runK (zY.env N) N zY.c1 s k) n1
 { t := jK 62 [(3, .one (.ref 3 0 .all)), (11, .one (.sl false zAj t11)), (12, .one (.int .i64 t12)), (13, .one (.int .i64 t13))], h := [.absent 0, .absent 0, .absent 0, .row 0 false true 14 zA6 o3] }
 (zY.k1 N)
theorem zY.L1_eq (N : Nat) (n1 : Nat) (t11 : y8) (t12 : Int) (t13 : Int) (o3 : List (Int × Int)) : zY.L1 N (n1 + 1) t11 t12 t13 o3 =
bif decide (t13 < t12) then
bif zu t13 (t11.length) then
bindO (zx.F N (o3, ((nth (0, (0, 0)) t11 t13).2))) fun r1 =>
bindO (z8.F N (2, (((nth (0, (0, 0)) t11 t13).2).1, (((nth (0, (0, 0)) t11 t13).2).2, 0)))) fun r2 =>
bif !r2 then
some false
else
bif ((nth (0, (0, 0)) t11 t13).1) == 0 then
bif ((nth (0, (0, 0)) t11 t13).1) == 0 then
bif decide (r1 >= 0) then
some false
else
bif ((nth (0, (0, 0)) t11 t13).1) == 1 then
bif decide (o3.length + List.length ([((nth (0, (0, 0)) t11 t13).2)] : List (Int × Int)) <= maxN) then
zY.L1 N n1 t11 t12 (IntKind.wrap .i64 (t13 + 1)) (o3 ++ ([((nth (0, (0, 0)) t11 t13).2)] : List (Int × Int)))
else none
else
zY.L1 N n1 t11 t12 (IntKind.wrap .i64 (t13 + 1)) o3
else
bif ((nth (0, (0, 0)) t11 t13).1) == 2 then
bif decide (r1 < 0) then
some false
else
bif decide (0 <= r1) && decide (r1 <= (o3.length : Int)) then
bif decide (0 <= IntKind.wrap .i64 (r1 + 1)) && decide (IntKind.wrap .i64 (r1 + 1) <= (o3.length : Int)) then
bif decide ((Int.toNat r1) <= (Int.toNat (IntKind.wrap .i64 (r1 + 1)))) && decide (o3.length <= maxN) then
zY.L1 N n1 t11 t12 (IntKind.wrap .i64 (t13 + 1)) (List.take (Int.toNat r1) o3 ++ List.drop (Int.toNat (IntKind.wrap .i64 (r1 + 1))) o3)
else none
else none
else none
else
some false
else
bif ((nth (0, (0, 0)) t11 t13).1) == 1 then
bif decide (r1 >= 0) then
some false
else
bif ((nth (0, (0, 0)) t11 t13).1) == 1 then
bif decide (o3.length + List.length ([((nth (0, (0, 0)) t11 t13).2)] : List (Int × Int)) <= maxN) then
zY.L1 N n1 t11 t12 (IntKind.wrap .i64 (t13 + 1)) (o3 ++ ([((nth (0, (0, 0)) t11 t13).2)] : List (Int × Int)))
else none
else
zY.L1 N n1 t11 t12 (IntKind.wrap .i64 (t13 + 1)) o3
else
bif ((nth (0, (0, 0)) t11 t13).1) == 2 then
bif decide (r1 < 0) then
some false
else
bif decide (0 <= r1) && decide (r1 <= (o3.length : Int)) then
bif decide (0 <= IntKind.wrap .i64 (r1 + 1)) && decide (IntKind.wrap .i64 (r1 + 1) <= (o3.length : Int)) then
bif decide ((Int.toNat r1) <= (Int.toNat (IntKind.wrap .i64 (r1 + 1)))) && decide (o3.length <= maxN) then
zY.L1 N n1 t11 t12 (IntKind.wrap .i64 (t13 + 1)) (List.take (Int.toNat r1) o3 ++ List.drop (Int.toNat (IntKind.wrap .i64 (r1 + 1))) o3)
else none
else none
else none
else
some false
else none
else
some ((o3.length : Int) == 0) := by kernel_rfl
theorem zY.F_eq (N : Nat) (l_ : y8) : zY.F N l_ =
bif decide ((l_.length : Int) > 8) then
some false
else
zY.L1 N N l_ (l_.length : Int) 0 ([] : List (Int × Int)) := by kernel_rfl
def zF.c1 : XCode := .seq (rG [o2 38 (.bin .lss) 37 36]) (.seq (.cond (.slot 38) (.skip) (.exit 0)) (.seq (.block 1 (.seq (rG [o2 39 (.indexAddr (.list zAj)) 35 37, o1 40 (.load false 1) 39, mv 4 40]) (.seq (rG [mv 41 4, o1 42 (.call ⟨166, vs 1, no 1, [.val false 1], ims 1, true⟩) 41, o1 43 .not 42]) (.cond (.slot 43) (.seq (rG [op 2 .move [cB false]]) (.ret)) (.skip))))) (rG [op 44 (.bin .add) [.slot 37, cI 1], mv 37 44])))
def zF.c2 : XCode := .seq (rG [o2 53 (.bin .lss) 52 51]) (.seq (.cond (.slot 53) (.skip) (.exit 2)) (.seq (.block 3 (.seq (rG [o2 54 (.indexAddr zBZ) 50 52, o1 55 (.load true 5) 54, ow 7 (.alloc 1 [cZ, cZ, cZ, cZ, cZ]) [] [1] [1], sT 5 7 55 1]) (.seq (rG [fA 56 0 7, lN 57 56 1, fA 58 0 1, fA 59 0 58, lN 60 59 0, o2 61 (.bin .geq) 57 60, sX 62 [.slot 61], gX 63 (.fieldAddr 1) [.slot 7] [] [] 62 false, gX 64 (.fieldAddr 0) [.slot 63] [] [] 62 false, gX 65 (.load false 1) [.slot 64] [1] [] 62 false, gX 66 (.bin .neq) [.slot 65, cI 9] [] [] 62 false, ⟨some 67, .move, [.slot 66], [], [], some (62, false), true, .none⟩, gX 68 (.fieldAddr 1) [.slot 7] [] [] 67 true, gX 69 (.fieldAddr 3) [.slot 68] [] [] 67 true, gX 70 (.load false 1) [.slot 69] [1] [] 67 true, gX 71 .move [.slot 5] [] [] 67 true, gX 72 (.bin .geq) (sl [70, 71]) [] [] 67 true, gX 73 .pick [.slot 67, .slot 72, cB false] [] [] 62 false, op 74 .pick [.slot 62, cB true, .slot 73]]) (.cond (.slot 74) (.seq (rG [op 2 .move [cB false]]) (.ret)) (.skip))))) (rG [op 75 (.bin .add) [.slot 52, cI 1], mv 52 75])))
def zF.c3 : XCode := .seq (.region true [fA 76 3 1, lN 77 76 0, op 78 (.bin .geq) [.slot 77, cI 0], sX 79 [.slot 78], gX 80 (.fieldAddr 3) [.slot 1] [] [] 79 true, gX 81 (.load false 1) [.slot 80] [0] [] 79 true, gX 82 (.bin .rem) [.slot 81, cI 2] [] [] 79 true, gX 83 (.bin .eql) [.slot 82, cI 0] [] [] 79 true, op 84 .pick [.slot 79, .slot 83, cB false], sX 85 [.slot 84], gX 86 (.fieldAddr 3) [.slot 1] [] [] 85 true, gX 87 (.load false 1) [.slot 86] [0] [] 85 true, gX 88 .move [.slot 5] [] [] 85 true, gX 89 (.bin .shl) [cI 1, .slot 88] [] [] 85 true, gX 90 (.bin .lss) (sl [87, 89]) [] [] 85 true, op 91 .pick [.slot 85, .slot 90, cB false], mv 2 91]) (.ret)
def zF.c4 : XCode := .seq (rG [fA 45 0 1, fA 46 1 45, lN 47 46 0, o1 48 .len 47, mv 5 48]) (.seq (.seq (rG [fA 49 4 1, lN 50 49 0, o1 51 .len 50, op 52 .move [cI 0]]) (.block 2 (.loop [.keep [1, 5, 50, 51, 52], .drop 1, .norm] (zF.c2)))) (zF.c3))
def zF.x : XFunc := { nslots := 92, nobj := 2, pars := [.val true 7], rowsIn := no 7, rets := [.tmp 2 false 1], outs := [.imm], fresh := true, arg := .pair T10_30 T8_30, ret := .bool, body := .seq (rG [ow 1 (.box 0) [.slot 0] [0] [0], op 2 .move [cB false]]) (.seq (.seq (rG [fA 8 0 1, lU 9 2 8 0, o1 10 (.call ⟨163, [.val true 2], no 2, [.val false 1], ims 1, true⟩) 9, o1 11 .not 10, sX 12 [.slot 11], gX 13 (.fieldAddr 2) [.slot 1] [] [] 12 false, gX 14 (.load false 1) [.slot 13] [0] [] 12 false, gX 15 .len [.slot 14] [] [] 12 false, gX 16 (.bin .gtr) [.slot 15, cI 4] [] [] 12 false, op 17 .pick [.slot 12, cB true, .slot 16], sX 18 [.slot 17], gX 19 (.fieldAddr 4) [.slot 1] [] [] 18 false, gX 20 (.load false 1) [.slot 19] [0] [] 18 false, ⟨some 21, .call ⟨164, vs 1, no 1, [.val false 1], ims 1, true⟩, [.slot 20], [], [], some (18, false), false, .none⟩, gX 22 .not [.slot 21] [] [] 18 false, op 23 .pick [.slot 18, cB true, .slot 22], sX 24 [.slot 23], gX 25 (.fieldAddr 5) [.slot 1] [] [] 24 false, gX 26 (.load false 1) [.slot 25] [0] [] 24 false, gX 27 (.bin .lss) [.slot 26, cI 0] [] [] 24 false, op 28 .pick [.slot 24, cB true, .slot 27], sX 29 [.slot 28], gX 30 (.fieldAddr 5) [.slot 1] [] [] 29 false, gX 31 (.load false 1) [.slot 30] [0] [] 29 false, gX 32 (.bin .gtr) [.slot 31, cI 15] [] [] 29 false, op 33 .pick [.slot 29, cB true, .slot 32]]) (.cond (.slot 33) (.seq (rG [op 2 .move [cB false]]) (.ret)) (.skip))) (.seq (.seq (rG [fA 34 2 1, lN 35 34 0, o1 36 .len 35, op 37 .move [cI 0]]) (.block 0 (.loop [.keep [1, 35, 36, 37], .drop 1, .norm] (zF.c1)))) (zF.c4))) }
def zF.env (N : Nat) : Env := envOf (tbl [(164, zZ.fs N), (163, zE.fs N), (166, zY.fs N)] noFS)
def zF.F (N : Nat) (x : (Int × List y1) × (List y8) × Int × zAT × Int × Bool) : Option Bool := XFunc.run zF.x (zF.env N) N x
def zF.fs (N : Nat) : FS := { arg := zF.x.arg, ret := zF.x.ret, fresh := true, F := zF.F N }
def zF.k2 (N : Nat) : Ex -> S -> Option Bool := seqK (fun s => XCode.runK (zF.env N) N (zF.c4) s (XFunc.endK zF.x)) (XFunc.endK zF.x)
def zF.k1 (N : Nat) : Ex -> S -> Option Bool := zAh 0 (zF.k2 N)
def zF.k4 (N : Nat) : Ex -> S -> Option Bool := seqK (fun s => XCode.runK (zF.env N) N (zF.c3) s (XFunc.endK zF.x)) (XFunc.endK zF.x)
def zF.k3 (N : Nat) : Ex -> S -> Option Bool := zAh 2 (zF.k4 N)
def zF.L1 (N : Nat) (n1 : Nat) (t35 : List y8) (t36 : Int) (t37 : Int) (o00 : Int) (o01 : List y1) (o02 : List y8) (o03 : Int) (o04 : zAT) (o05 : Int) (o06 : Bool) : Option Bool := loopK [.keep [1, 35, 36, 37], .drop 1, .norm] (fun s k => XCode.runK (zF.env N) N zF.c1 s k) n1
 { t := jK 92 [(1, .one (.ptr 0 0 0)), (35, .one (.sl false (.list zAj) t35)), (36, .one (.int .i64 t36)), (37, .one (.int .i64 t37))], h := [.box 0 false [.int .i64 o00, .sl false (.list zAw) o01, .sl false (.list zAj) o02, .int .i64 o03, .sl false zBZ o04, .int .i64 o05, .bool o06], .absent 0] }
 (zF.k1 N)
def zF.L2 (N : Nat) (n2 : Nat) (layers : Int) (t50 : zAT) (t51 : Int) (t52 : Int) (o00 : Int) (o01 : List y1) (o02 : List y8) (o03 : Int) (o04 : zAT) (o05 : Int) (o06 : Bool) : Option Bool := loopK [.keep [1, 5, 50, 51, 52], .drop 1, .norm] (fun s k => XCode.runK (zF.env N) N zF.c2 s k) n2
 { t := jK 92 [(1, .one (.ptr 0 0 0)), (5, .one (.int .i64 layers)), (50, .one (.sl false zBZ t50)), (51, .one (.int .i64 t51)), (52, .one (.int .i64 t52))], h := [.box 0 false [.int .i64 o00, .sl false (.list zAw) o01, .sl false (.list zAj) o02, .int .i64 o03, .sl false zBZ o04, .int .i64 o05, .bool o06], .absent 0] }
 (zF.k3 N)
theorem zF.L1_eq (N : Nat) (n1 : Nat) (t35 : List y8) (t36 : Int) (t37 : Int) (o00 : Int) (o01 : List y1) (o02 : List y8) (o03 : Int) (o04 : zAT) (o05 : Int) (o06 : Bool) : zF.L1 N (n1 + 1) t35 t36 t37 o00 o01 o02 o03 o04 o05 o06 =
bif decide (t37 < t36) then
bif zu t37 (t35.length) then
bindO (zY.F N (nth ([] : List (Int × Int × Int)) t35 t37)) fun r3 =>
bif !r3 then
some false
else
zF.L1 N n1 t35 t36 (IntKind.wrap .i64 (t37 + 1)) o00 o01 o02 o03 o04 o05 o06
else none
else
zF.L2 N N (o01.length : Int) o04 (o04.length : Int) 0 o00 o01 o02 o03 o04 o05 o06 := by kernel_rfl
theorem zF.L2_eq (N : Nat) (n2 : Nat) (layers : Int) (t50 : zAT) (t51 : Int) (t52 : Int) (o00 : Int) (o01 : List y1) (o02 : List y8) (o03 : Int) (o04 : zAT) (o05 : Int) (o06 : Bool) : zF.L2 N (n2 + 1) layers t50 t51 t52 o00 o01 o02 o03 o04 o05 o06 =
bif decide (t52 < t51) then
bif zu t52 (t50.length) then
bif decide (((nth (0, (0, (0, (0, 0)))) t50 t52).1) >= o00) then
some false
else
bif (((nth (0, (0, (0, (0, 0)))) t50 t52).2).1) != 9 then
bif decide ((((((nth (0, (0, (0, (0, 0)))) t50 t52).2).2).2).2) >= layers) then
some false
else
zF.L2 N n2 layers t50 t51 (IntKind.wrap .i64 (t52 + 1)) o00 o01 o02 o03 o04 o05 o06
else
zF.L2 N n2 layers t50 t51 (IntKind.wrap .i64 (t52 + 1)) o00 o01 o02 o03 o04 o05 o06
else none
else
bif decide (o03 >= 0) then
bif (Int.tmod o03 2) == 0 then
bif decide (0 <= layers) then
some (decide (o03 < (zBS .i64 1 layers)))
else none
else
some false
else
some false := by kernel_rfl
theorem zF.F_eq (N : Nat) (e : (Int × List y1) × (List y8) × Int × zAT × Int × Bool) : zF.F N e =
bindO (zE.F N e.1) fun r1 =>
bif !r1 then
some false
else
bif decide ((List.length e.2.1 : Int) > 4) then
some false
else
bindO (zZ.F N e.2.2.2.1) fun r2 =>
bif !r2 then
some false
else
bif decide (e.2.2.2.2.1 < 0) then
some false
else
bif decide (e.2.2.2.2.1 > 15) then
some false
else
zF.L1 N N e.2.1 (List.length e.2.1 : Int) 0 e.1.1 e.1.2 e.2.1 e.2.2.1 e.2.2.2.1 e.2.2.2.2.1 e.2.2.2.2.2 := by kernel_rfl
def yh.x : XFunc := { nslots := 31, nobj := 1, pars := [.val true 3], rowsIn := no 3, rets := [.tmp 2 false 1], outs := [.imm], fresh := true, arg := .pair (.int .i64) zA6, ret := .bool, body := .seq (rG [ow 1 (.box 0) [.slot 0] [0] [0], op 2 .move [cB false]]) (.seq (rG [fA 3 0 1, lN 4 3 0, op 5 (.bin .geq) [.slot 4, cI 1], sX 6 [.slot 5], gX 7 (.fieldAddr 0) [.slot 1] [] [] 6 true, gX 8 (.load false 1) [.slot 7] [0] [] 6 true, gX 9 (.bin .leq) [.slot 8, cI 1000] [] [] 6 true, op 10 .pick [.slot 6, .slot 9, cB false], sX 11 [.slot 10], gX 12 (.fieldAddr 1) [.slot 1] [] [] 11 true, gX 13 (.load false 1) [.slot 12] [0] [] 11 true, gX 14 (.bin .geq) [.slot 13, cI 0] [] [] 11 true, op 15 .pick [.slot 11, .slot 14, cB false], sX 16 [.slot 15], gX 17 (.fieldAddr 1) [.slot 1] [] [] 16 true, gX 18 (.load false 1) [.slot 17] [0] [] 16 true, gX 19 (.bin .leq) [.slot 18, cI 1000] [] [] 16 true, op 20 .pick [.slot 16, .slot 19, cB false], sX 21 [.slot 20], gX 22 (.fieldAddr 2) [.slot 1] [] [] 21 true, gX 23 (.load false 1) [.slot 22] [0] [] 21 true, gX 24 (.bin .geq) [.slot 23, cI 0] [] [] 21 true, op 25 .pick [.slot 21, .slot 24, cB false], sX 26 [.slot 25], gX 27 (.fieldAddr 2) [.slot 1] [] [] 26 true, gX 28 (.load false 1) [.slot 27] [0] [] 26 true, gX 29 (.bin .leq) [.slot 28, cI 2] [] [] 26 true, op 30 .pick [.slot 26, .slot 29, cB false], mv 2 30]) (.ret)) }
def yh.env (_ : Nat) : Env := envOf (tbl [] noFS)
def yh.F (N : Nat) (x : Int × Int × Int) : Option Bool := XFunc.run yh.x (yh.env N) N x
def yh.fs (N : Nat) : FS := { arg := yh.x.arg, ret := yh.x.ret, fresh := true, F := yh.F N }
theorem yh.F_eq (N : Nat) (t : Int × Int × Int) : yh.F N t =
bif decide (t.1 >= 1) then
bif decide (t.1 <= 1000) then
bif decide (t.2.1 >= 0) then
bif decide (t.2.1 <= 1000) then
bif decide (t.2.2 >= 0) then
some (decide (t.2.2 <= 2))
else
some false
else
some false
else
some false
else
some false
else
some false := by kernel_rfl
def zX.c1 : XCode := .seq (rG [o2 9 (.bin .lss) 8 7]) (.seq (.cond (.slot 9) (.skip) (.exit 0)) (.seq (.block 1 (.seq (rG [o2 10 (.indexAddr zBZ) 6 8, o1 11 (.load true 5) 10, ow 5 (.alloc 0 [cZ, cZ, cZ, cZ, cZ]) [] [0] [0], sT 5 5 11 0]) (rG [mv 12 3, fA 13 0 5, lN 14 13 0, op 15 (.bin .shl) [cI 1, .slot 14], o2 16 (.bin .or) 12 15, mv 3 16]))) (rG [op 17 (.bin .add) [.slot 8, cI 1], mv 8 17])))
def zX.c2 : XCode := .seq (rG [mv 18 3, mv 2 18]) (.ret)
def zX.x : XFunc := { nslots := 19, nobj := 1, pars := [.val false 1], rowsIn := [none], rets := [.tmp 2 false 1], outs := [.imm], fresh := true, arg := .list zBZ, ret := .int .i64, body := .seq (rG [op 2 .move [cI 0]]) (.seq (rG [op 3 .move [cI 0]]) (.seq (.seq (rG [mv 6 0, o1 7 .len 6, op 8 .move [cI 0]]) (.block 0 (.loop [.keep [3, 6, 7, 8], .drop 0, .norm] (zX.c1)))) (zX.c2))) }
def zX.env (_ : Nat) : Env := envOf (tbl [] noFS)
def zX.F (N : Nat) (x : zAT) : Option Int := XFunc.run zX.x (zX.env N) N x
def zX.fs (N : Nat) : FS := { arg := zX.x.arg, ret := zX.x.ret, fresh := true, F := zX.F N }
def zX.k2 (N : Nat) : Ex -> S -> Option Int := seqK (fun s => XCode.runK (zX.env N) N (zX.c2) s (XFunc.endK zX.x)) (XFunc.endK zX.x)
def zX.k1 (N : Nat) : Ex -> S -> Option Int := zAh 0 (zX.k2 N)
def zX.L1 (N : Nat) (n1 : Nat) (out : Int) (t6 : zAT) (t7 : Int) (t8 : Int) : Option Int := loopK [.keep [3, 6, 7, 8], .drop 0, .norm] (fun s k => XCode.runK (zX.env N) N zX.c1 s k) n1
 { t := jK 19 [(3, .one (.int .i64 out)), (6, .one (.sl false zBZ t6)), (7, .one (.int .i64 t7)), (8, .one (.int .i64 t8))], h := [.absent 0] }
 (zX.k1 N)
theorem zX.L1_eq (N : Nat) (n1 : Nat) (out : Int) (t6 : zAT) (t7 : Int) (t8 : Int) : zX.L1 N (n1 + 1) out t6 t7 t8 =
bif decide (t8 < t7) then
bif zu t8 (t6.length) then
bif decide (0 <= (nth (0, (0, (0, (0, 0)))) t6 t8).1) then
zX.L1 N n1 (bitOr .i64 out (zBS .i64 1 ((nth (0, (0, (0, (0, 0)))) t6 t8).1))) t6 t7 (IntKind.wrap .i64 (t8 + 1))
else none
else none
else
some out := by kernel_rfl
theorem zX.F_eq (N : Nat) (l_ : zAT) : zX.F N l_ =
zX.L1 N N 0 l_ (l_.length : Int) 0 := by kernel_rfl
def yJ.x : XFunc := { nslots := 79, nobj := 1, pars := [.val true 15], rowsIn := no 15, rets := [.tmp 2 false 1], outs := [.imm], fresh := true, arg := .pair T2_30 T9_30, ret := .bool, body := .seq (rG [ow 1 (.box 0) [.slot 0] [0] [0], op 2 .move [cB false]]) (.seq (.seq (rG [fA 3 0 1, lU 4 7 3 0, o1 5 (.call ⟨167, [.val true 7], no 7, [.val false 1], ims 1, true⟩) 4, o1 6 .not 5, sX 7 [.slot 6], gX 8 (.fieldAddr 7) [.slot 1] [] [] 7 false, gX 9 (.load true 3) [.slot 8] [0] [] 7 false, ⟨some 10, .call ⟨172, [.val true 3], no 3, [.val false 1], ims 1, true⟩, [.slot 9], [], [], some (7, false), false, .none⟩, gX 11 .not [.slot 10] [] [] 7 false, op 12 .pick [.slot 7, cB true, .slot 11], sX 13 [.slot 12], gX 14 (.fieldAddr 11) [.slot 1] [] [] 13 false, gX 15 (.load false 1) [.slot 14] [0] [] 13 false, gX 16 (.bin .lss) [.slot 15, cI 0] [] [] 13 false, op 17 .pick [.slot 13, cB true, .slot 16], sX 18 [.slot 17], gX 19 (.fieldAddr 11) [.slot 1] [] [] 18 false, gX 20 (.load false 1) [.slot 19] [0] [] 18 false, gX 21 (.bin .gtr) [.slot 20, cI 1000000] [] [] 18 false, op 22 .pick [.slot 18, cB true, .slot 21], sX 23 [.slot 22], gX 24 (.fieldAddr 12) [.slot 1] [] [] 23 false, gX 25 (.load false 1) [.slot 24] [0] [] 23 false, gX 26 (.bin .lss) [.slot 25, cI 0] [] [] 23 false, op 27 .pick [.slot 23, cB true, .slot 26], sX 28 [.slot 27], gX 29 (.fieldAddr 12) [.slot 1] [] [] 28 false, gX 30 (.load false 1) [.slot 29] [0] [] 28 false, gX 31 (.fieldAddr 11) [.slot 1] [] [] 28 false, gX 32 (.load false 1) [.slot 31] [0] [] 28 false, gX 33 (.bin .gtr) (sl [30, 32]) [] [] 28 false, op 34 .pick [.slot 28, cB true, .slot 33]]) (.cond (.slot 34) (.seq (rG [op 2 .move [cB false]]) (.ret)) (.skip))) (.seq (.seq (.region true [fA 35 10 1, lN 36 35 0, fA 37 0 1, fA 38 4 37, lN 39 38 0, o1 40 (.call ⟨173, vs 1, no 1, [.val false 1], ims 1, true⟩) 39, fA 41 0 1, fA 42 0 41, fA 43 0 42, lN 44 43 0, op 45 (.call ⟨70, vs 3, no 3, [.val false 1], ims 1, true⟩) (sl [36, 40, 44]), o1 46 .not 45, sX 47 [.slot 46], gX 48 (.fieldAddr 10) [.slot 1] [] [] 47 false, gX 49 (.load false 1) [.slot 48] [0] [] 47 false, gX 50 (.fieldAddr 11) [.slot 1] [] [] 47 false, gX 51 (.load false 1) [.slot 50] [0] [] 47 false, ⟨some 52, .call ⟨71, vs 2, no 2, [.val false 1], ims 1, true⟩, (sl [49, 51]), [], [], some (47, false), false, .none⟩, gX 53 .not [.slot 52] [] [] 47 false, op 54 .pick [.slot 47, cB true, .slot 53]]) (.cond (.slot 54) (.seq (rG [op 2 .move [cB false]]) (.ret)) (.skip))) (.seq (rG [fA 55 13 1, lN 56 55 0, op 57 (.bin .geq) [.slot 56, cI 0], sX 58 [.slot 57], gX 59 (.fieldAddr 13) [.slot 1] [] [] 58 true, gX 60 (.load false 1) [.slot 59] [0] [] 58 true, gX 61 (.fieldAddr 0) [.slot 1] [] [] 58 true, gX 62 (.fieldAddr 0) [.slot 61] [] [] 58 true, gX 63 (.fieldAddr 0) [.slot 62] [] [] 58 true, gX 64 (.load false 1) [.slot 63] [0] [] 58 true, gX 65 (.bin .leq) (sl [60, 64]) [] [] 58 true, op 66 .pick [.slot 58, .slot 65, cB false], sX 67 [.slot 66], gX 68 (.fieldAddr 14) [.slot 1] [] [] 67 true, gX 69 (.load false 1) [.slot 68] [0] [] 67 true, gX 70 (.bin .geq) [.slot 69, cI 0] [] [] 67 true, op 71 .pick [.slot 67, .slot 70, cB false], sX 72 [.slot 71], gX 73 (.fieldAddr 14) [.slot 1] [] [] 72 true, gX 74 (.load false 1) [.slot 73] [0] [] 72 true, gX 75 (.fieldAddr 11) [.slot 1] [] [] 72 true, gX 76 (.load false 1) [.slot 75] [0] [] 72 true, gX 77 (.bin .leq) (sl [74, 76]) [] [] 72 true, op 78 .pick [.slot 72, .slot 77, cB false], mv 2 78]) (.ret)))) }
def yJ.env (N : Nat) : Env := envOf (tbl [(167, zF.fs N), (172, yh.fs N), (173, zX.fs N), (71, yH.fs N), (70, zS.fs N)] noFS)
def yJ.F (N : Nat) (x : zBy × (Int × Int × Int) × zBd × Int × Int × Int × Int) : Option Bool := XFunc.run yJ.x (yJ.env N) N x
def yJ.fs (N : Nat) : FS := { arg := yJ.x.arg, ret := yJ.x.ret, fresh := true, F := yJ.F N }
theorem yJ.F_eq (N : Nat) (d : zBy × (Int × Int × Int) × zBd × Int × Int × Int × Int) : yJ.F N d =
bindO (zF.F N d.1) fun r1 =>
bif !r1 then
some false
else
bindO (yh.F N d.2.1) fun r2 =>
bif !r2 then
some false
else
bif decide (d.2.2.2.1 < 0) then
some false
else
bif decide (d.2.2.2.1 > 1000000) then
some false
else
bif decide (d.2.2.2.2.1 < 0) then
some false
else
bif decide (d.2.2.2.2.1 > d.2.2.2.1) then
some false
else
bindO (zX.F N d.1.2.2.2.1) fun r3 =>
bindO (zS.F N (d.2.2.1, (r3, d.1.1.1))) fun r4 =>
bif !r4 then
some false
else
bindO (yH.F N (d.2.2.1, d.2.2.2.1)) fun r5 =>
bif !r5 then
some false
else
bif decide (d.2.2.2.2.2.1 >= 0) then
bif decide (d.2.2.2.2.2.1 <= d.1.1.1) then
bif decide (d.2.2.2.2.2.2 >= 0) then
some (decide (d.2.2.2.2.2.2 <= d.2.2.2.1))
else
some false
else
some false
else
some false := by kernel_rfl
def zP.c1 : XCode := .seq (rG [o2 13 (.bin .lss) 12 11]) (.seq (.cond (.slot 13) (.skip) (.exit 0)) (.seq (.block 1 (.seq (rG [o2 14 (.indexAddr (.list zAw)) 10 12, o1 15 (.load false 1) 14, mv 5 15]) (.region true [fA 16 1 3, lN 17 16 2, mv 18 5, op 19 (.append true 3 8 zAw) [.const (.one (.nil)), .slot 18], ow 20 (.buildSlice false 4 9 (.list zAw) 1 [(0, 1)] [.nil]) [.slot 19] [4] [4], ow 21 (.append false 5 9 (.list zAw)) (sl [17, 20]) [4, 5] [5], fA 22 1 3, sT 1 22 21 2]))) (rG [op 23 (.bin .add) [.slot 12, cI 1], mv 12 23])))
def zP.c2 : XCode := .seq (rG [lU 24 2 3 2, sT 2 2 24 1]) (.ret)
def zP.x : XFunc := { nslots := 25, nobj := 6, pars := [.val true 2], rowsIn := no 2, rets := [.var 2 true 2], outs := [.imm, .own 9], fresh := true, arg := .pair (.int .i64) (.list (.list zAw)), ret := .pair (.int .i64) (.list (.list zAw)), body := .seq (rG [ow 1 (.box 0) [.slot 0] [0] [0], ow 2 (.alloc 1 [cZ, .nil]) [] [1] [1]]) (.seq (rG [fA 6 0 1, lN 7 6 0, o1 8 (.build [cZ, .nil] [(0, 1)]) 7, ow 3 (.alloc 2 [cZ, .nil]) [] [2] [2], sT 2 3 8 2]) (.seq (.seq (rG [fA 9 1 1, lN 10 9 0, o1 11 .len 10, op 12 .move [cI 0]]) (.block 0 (.loop [.mkrow (.boxc 2 1) 5 9 (.list zAw), .keep [2, 3, 10, 11, 12], .drop 0, .drop 3, .drop 4, .norm] (zP.c1)))) (zP.c2))) }
def zP.env (_ : Nat) : Env := envOf (tbl [] noFS)
def zP.F (N : Nat) (x : Int × List y1) : Option (Int × List y1) := XFunc.run zP.x (zP.env N) N x
def zP.fs (N : Nat) : FS := { arg := zP.x.arg, ret := zP.x.ret, fresh := true, F := zP.F N }
def zP.k2 (N : Nat) : Ex -> S -> Option (Int × List y1) := seqK (fun s => XCode.runK (zP.env N) N (zP.c2) s (XFunc.endK zP.x)) (XFunc.endK zP.x)
def zP.k1 (N : Nat) : Ex -> S -> Option (Int × List y1) := zAh 0 (zP.k2 N)
def zP.L1 (N : Nat) (n1 : Nat) (t10 : List y1) (t11 : Int) (t12 : Int) (o20 : Int) (o5 : List y1) : Option (Int × List y1) := loopK [.mkrow (.boxc 2 1) 5 9 (.list zAw), .keep [2, 3, 10, 11, 12], .drop 0, .drop 3, .drop 4, .norm] (fun s k => XCode.runK (zP.env N) N zP.c1 s k) n1
 { t := jK 25 [(2, .one (.ptr 1 0 0)), (3, .one (.ptr 2 0 0)), (10, .one (.sl false (.list zAw) t10)), (11, .one (.int .i64 t11)), (12, .one (.int .i64 t12))], h := [.absent 0, .box 0 false [cZ, .nil], .box 0 false [.int .i64 o20, .ref 5 0 .all], .absent 0, .absent 0, .row 0 false true 9 (.list zAw) o5] }
 (zP.k1 N)
theorem zP.L1_eq (N : Nat) (n1 : Nat) (t10 : List y1) (t11 : Int) (t12 : Int) (o20 : Int) (o5 : List y1) : zP.L1 N (n1 + 1) t10 t11 t12 o20 o5 =
bif decide (t12 < t11) then
bif zu t12 (t10.length) then
bif decide (List.length (nth ([] : List (Int × Int × Int × Int)) t10 t12) <= maxN) then
bif decide (o5.length + List.length ([nth ([] : List (Int × Int × Int × Int)) t10 t12] : List y1) <= maxN) then
zP.L1 N n1 t10 t11 (IntKind.wrap .i64 (t12 + 1)) o20 (o5 ++ ([nth ([] : List (Int × Int × Int × Int)) t10 t12] : List y1))
else none
else none
else none
else
some (o20, o5) := by kernel_rfl
theorem zP.F_eq (N : Nat) (m : Int × List y1) : zP.F N m =
zP.L1 N N m.2 (List.length m.2 : Int) 0 m.1 ([] : List y1) := by kernel_rfl
def zN.c1 : XCode := .seq (rG [o2 9 (.bin .lss) 8 7]) (.seq (.cond (.slot 9) (.skip) (.exit 0)) (.seq (.block 1 (.seq (rG [o2 10 (.indexAddr (.list zAj)) 6 8, o1 11 (.load false 1) 10, mv 5 11]) (rG [mv 12 3, mv 13 5, op 14 (.append true 0 10 zAj) [.const (.one (.nil)), .slot 13], ow 15 (.buildSlice false 1 11 (.list zAj) 1 [(0, 1)] [.nil]) [.slot 14] [1] [1], ow 16 (.append false 2 11 (.list zAj)) (sl [12, 15]) [1, 2] [2], mv 3 16]))) (rG [op 17 (.bin .add) [.slot 8, cI 1], mv 8 17])))
def zN.c2 : XCode := .seq (rG [mv 18 3, mv 2 18]) (.ret)
def zN.x : XFunc := { nslots := 19, nobj := 3, pars := [.val false 1], rowsIn := [none], rets := [.tmp 2 false 1], outs := [.own 11], fresh := true, arg := .list (.list zAj), ret := .list (.list zAj), body := .seq (rG [op 2 .move [.const (.one (.nil))]]) (.seq (rG [op 3 .move [.const (.one (.nil))]]) (.seq (.seq (rG [mv 6 0, o1 7 .len 6, op 8 .move [cI 0]]) (.block 0 (.loop [.mkrow (.slot 3) 2 11 (.list zAj), .keep [3, 6, 7, 8], .drop 0, .drop 1, .norm] (zN.c1)))) (zN.c2))) }
def zN.env (_ : Nat) : Env := envOf (tbl [] noFS)
def zN.F (N : Nat) (x : List y8) : Option (List y8) := XFunc.run zN.x (zN.env N) N x
def zN.fs (N : Nat) : FS := { arg := zN.x.arg, ret := zN.x.ret, fresh := true, F := zN.F N }
def zN.k2 (N : Nat) : Ex -> S -> Option (List y8) := seqK (fun s => XCode.runK (zN.env N) N (zN.c2) s (XFunc.endK zN.x)) (XFunc.endK zN.x)
def zN.k1 (N : Nat) : Ex -> S -> Option (List y8) := zAh 0 (zN.k2 N)
def zN.L1 (N : Nat) (n1 : Nat) (t6 : List y8) (t7 : Int) (t8 : Int) (o2 : List y8) : Option (List y8) := loopK [.mkrow (.slot 3) 2 11 (.list zAj), .keep [3, 6, 7, 8], .drop 0, .drop 1, .norm] (fun s k => XCode.runK (zN.env N) N zN.c1 s k) n1
 { t := jK 19 [(3, .one (.ref 2 0 .all)), (6, .one (.sl false (.list zAj) t6)), (7, .one (.int .i64 t7)), (8, .one (.int .i64 t8))], h := [.absent 0, .absent 0, .row 0 false true 11 (.list zAj) o2] }
 (zN.k1 N)
theorem zN.L1_eq (N : Nat) (n1 : Nat) (t6 : List y8) (t7 : Int) (t8 : Int) (o2 : List y8) : zN.L1 N (n1 + 1) t6 t7 t8 o2 =
bif decide (t8 < t7) then
bif zu t8 (t6.length) then
bif decide (List.length (nth ([] : List (Int × Int × Int)) t6 t8) <= maxN) then
bif decide (o2.length + List.length ([nth ([] : List (Int × Int × Int)) t6 t8] : List y8) <= maxN) then
zN.L1 N n1 t6 t7 (IntKind.wrap .i64 (t8 + 1)) (o2 ++ ([nth ([] : List (Int × Int × Int)) t6 t8] : List y8))
else none
else none
else none
else
some o2 := by kernel_rfl
theorem zN.F_eq (N : Nat) (l_ : List y8) : zN.F N l_ =
zN.L1 N N l_ (l_.length : Int) 0 ([] : List y8) := by kernel_rfl
def zk.x : XFunc := { nslots := 16, nobj := 3, pars := [.val true 7], rowsIn := no 7, rets := [.var 2 true 7], outs := [.imm, .imm, .imm, .imm, .own 15, .imm, .imm], fresh := true, arg := .pair T10_30 T8_30, ret := .pair T10_30 T8_30, body := .seq (rG [ow 1 (.box 0) [.slot 0] [0] [0], ow 2 (.alloc 1 [cZ, .nil, .nil, cZ, .nil, cZ, .bool false]) [] [1] [1]]) (.seq (rG [fA 3 0 1, lU 4 2 3 0, o1 5 (.call ⟨161, [.val true 2], no 2, [.val true 2], ims 2, true⟩) 4, fA 6 0 1, sT 2 6 5 0]) (.seq (rG [fA 7 2 1, lN 8 7 0, o1 9 (.call ⟨162, vs 1, no 1, [.val false 1], ims 1, true⟩) 8, fA 10 2 1, sT 1 10 9 0]) (.seq (rG [fA 11 4 1, lN 12 11 0, ow 13 (.append false 2 15 zBZ) [.const (.one (.nil)), .slot 12] [2] [2], fA 14 4 1, sT 1 14 13 0]) (.seq (rG [lU 15 7 1 0, sT 7 2 15 1]) (.ret))))) }
def zk.env (N : Nat) : Env := envOf (tbl [(161, zP.fs N), (162, zN.fs N)] noFS)
def zk.F (N : Nat) (x : (Int × List y1) × (List y8) × Int × zAT × Int × Bool) : Option zBy := XFunc.run zk.x (zk.env N) N x
def zk.fs (N : Nat) : FS := { arg := zk.x.arg, ret := zk.x.ret, fresh := true, F := zk.F N }
theorem zk.F_eq (N : Nat) (e : (Int × List y1) × (List y8) × Int × zAT × Int × Bool) : zk.F N e =
bindO (zP.F N e.1) fun r1 =>
bindO (zN.F N e.2.1) fun r2 =>
bif decide (List.length e.2.2.2.1 <= maxN) then
some (r1, (r2, e.2.2))
else none := by kernel_rfl
def yE.x : XFunc := { nslots := 12, nobj := 3, pars := [.val true 15], rowsIn := no 15, rets := [.var 2 true 15], outs := [.imm, .imm, .imm, .imm, .imm, .imm, .imm, .imm, .imm, .imm, .own 4, .imm, .imm, .imm, .imm], fresh := true, arg := .pair T2_30 T9_30, ret := .pair T2_30 T9_30, body := .seq (rG [ow 1 (.box 0) [.slot 0] [0] [0], ow 2 (.alloc 1 [cZ, .nil, .nil, cZ, .nil, cZ, .bool false, cZ, cZ, cZ, .nil, cZ, cZ, cZ, cZ]) [] [1] [1]]) (.seq (rG [fA 3 0 1, lU 4 7 3 0, o1 5 (.call ⟨171, [.val true 7], no 7, [.val true 7], ims 7, true⟩) 4, fA 6 0 1, sT 7 6 5 0]) (.seq (rG [fA 7 10 1, lN 8 7 0, ow 9 (.append false 2 4 T4_30) [.const (.one (.nil)), .slot 8] [2] [2], fA 10 10 1, sT 1 10 9 0]) (.seq (rG [lU 11 15 1 0, sT 15 2 11 1]) (.ret)))) }
def yE.env (N : Nat) : Env := envOf (tbl [(171, zk.fs N)] noFS)
def yE.F (N : Nat) (x : zBy × (Int × Int × Int) × zBd × Int × Int × Int × Int) : Option D19_30 := XFunc.run yE.x (yE.env N) N x
def yE.fs (N : Nat) : FS := { arg := yE.x.arg, ret := yE.x.ret, fresh := true, F := yE.F N }
theorem yE.F_eq (N : Nat) (d : zBy × (Int × Int × Int) × zBd × Int × Int × Int × Int) : yE.F N d =
bindO (zk.F N d.1) fun r1 =>
bif decide (List.length d.2.2.1 <= maxN) then
some (r1, d.2)
else none := by kernel_rfl
def zm.c1 : XCode := .seq (rG [o2 11 (.bin .lss) 10 9]) (.seq (.cond (.slot 11) (.skip) (.exit 0)) (.seq (.block 1 (.seq (rG [mv 12 10, o2 13 (.indexAddr zBZ) 8 10, o1 14 (.load true 5) 13, ow 6 (.alloc 1 [cZ, cZ, cZ, cZ, cZ]) [] [1] [1], mv 5 12, sT 5 6 14 1]) (.seq (rG [fA 15 0 6, lN 16 15 1, mv 17 1, o2 18 (.bin .eql) 16 17]) (.cond (.slot 18) (.seq (rG [mv 19 5, mv 4 19]) (.ret)) (.skip))))) (rG [op 20 (.bin .add) [.slot 10, cI 1], mv 10 20])))
def zm.c2 : XCode := .seq (rG [op 4 .move [cI (-1)]]) (.ret)
def zm.x : XFunc := { nslots := 21, nobj := 2, pars := [.val true 7, .val false 1], rowsIn := no 8, rets := [.tmp 4 false 1], outs := [.imm], fresh := true, arg := .pair T2_30 (.int .i64), ret := .int .i64, body := .seq (rG [ow 2 (.box 0) [.slot 0] [0] [0], op 4 .move [cI 0]]) (.seq (.seq (rG [fA 7 4 2, lN 8 7 0, o1 9 .len 8, op 10 .move [cI 0]]) (.block 0 (.loop [.keep [1, 8, 9, 10], .drop 0, .drop 1, .norm] (zm.c1)))) (zm.c2)) }
def zm.env (_ : Nat) : Env := envOf (tbl [] noFS)
def zm.F (N : Nat) (x : zBy × Int) : Option Int := XFunc.run zm.x (zm.env N) N x
def zm.fs (N : Nat) : FS := { arg := zm.x.arg, ret := zm.x.ret, fresh := true, F := zm.F N }
def zm.k2 (N : Nat) : Ex -> S -> Option Int := seqK (fun s => XCode.runK (zm.env N) N (zm.c2) s (XFunc.endK zm.x)) (XFunc.endK zm.x)
def zm.k1 (N : Nat) : Ex -> S -> Option Int := zAh 0 (zm.k2 N)
def zm.L1 (N : Nat) (n1 : Nat) (key : Int) (t8 : zAT) (t9 : Int) (t10 : Int) : Option Int := loopK [.keep [1, 8, 9, 10], .drop 0, .drop 1, .norm] (fun s k => XCode.runK (zm.env N) N zm.c1 s k) n1
 { t := jK 21 [(1, .one (.int .i64 key)), (8, .one (.sl false zBZ t8)), (9, .one (.int .i64 t9)), (10, .one (.int .i64 t10))], h := [.absent 0, .absent 0] }
 (zm.k1 N)
theorem zm.L1_eq (N : Nat) (n1 : Nat) (key : Int) (t8 : zAT) (t9 : Int) (t10 : Int) : zm.L1 N (n1 + 1) key t8 t9 t10 =
bif decide (t10 < t9) then
bif zu t10 (t8.length) then
bif ((nth (0, (0, (0, (0, 0)))) t8 t10).1) == key then
some t10
else
zm.L1 N n1 key t8 t9 (IntKind.wrap .i64 (t10 + 1))
else none
else
some (-1 : Int) := by kernel_rfl
theorem zm.F_eq (N : Nat) (e : (Int × List y1) × (List y8) × Int × zAT × Int × Bool) (key : Int) : zm.F N (e, key) =
zm.L1 N N key e.2.2.2.1 (List.length e.2.2.2.1 : Int) 0 := by kernel_rfl
def ye.x : XFunc := { nslots := 5, nobj := 1, pars := [.val false 1], rowsIn := [none], rets := [.tmp 2 false 1], outs := [.own 2], fresh := true, arg := .list (.int .i64), ret := .list (.int .i64), body := .seq (rG [op 2 .move [.const (.one (.nil))]]) (.seq (rG [mv 3 0, ow 4 (.append false 0 2 (.int .i64)) [.const (.one (.nil)), .slot 3] [0] [0], mv 2 4]) (.ret)) }
def ye.env (_ : Nat) : Env := envOf (tbl [] noFS)
def ye.F (N : Nat) (x : List Int) : Option (List Int) := XFunc.run ye.x (ye.env N) N x
def ye.fs (N : Nat) : FS := { arg := ye.x.arg, ret := ye.x.ret, fresh := true, F := ye.F N }
theorem ye.F_eq (N : Nat) (l_ : List Int) : ye.F N l_ =
bif decide (l_.length <= maxN) then
some l_
else none := by kernel_rfl
def za.c1 : XCode := .seq (rG [o2 14 (.bin .lss) 13 12]) (.seq (.cond (.slot 14) (.skip) (.exit 0)) (.seq (.block 1 (.seq (rG [ow 15 (.indexAddr (.int .i64)) (sl [11, 13]) [0] [], lN 16 15 0, mv 6 16]) (.seq (rG [mv 17 6, op 18 (.bin .neq) [.slot 17, cI 0], sX 19 [.slot 18], gX 20 .move [.slot 4] [] [] 19 true, gX 21 .move [.slot 6] [] [] 19 true, ⟨some 22, .call ⟨202, vs 2, no 2, [.val false 1], ims 1, true⟩, (sl [20, 21]), [2], [], some (19, true), false, .none⟩, gX 23 .not [.slot 22] [] [] 19 true, op 24 .pick [.slot 19, .slot 23, cB false]]) (.cond (.slot 24) (rG [mv 25 4, mv 26 6, ow 27 (.buildSlice false 1 2 (.int .i64) 1 [(0, 1)] [cZ]) [.slot 26] [1] [1], ow 28 (.append false 2 2 (.int .i64)) (sl [25, 27]) [1, 2] [2], mv 4 28]) (.skip))))) (rG [op 29 (.bin .add) [.slot 13, cI 1], mv 13 29])))
def za.c2 : XCode := .seq (rG [mv 30 4, mv 2 30]) (.ret)
def za.x : XFunc := { nslots := 31, nobj := 3, pars := [.val false 1], rowsIn := [none], rets := [.tmp 2 false 1], outs := [.own 2], fresh := true, arg := .list (.int .i64), ret := .list (.int .i64), body := .seq (rG [op 2 .move [.const (.one (.nil))]]) (.seq (rG [mv 7 0, ow 8 (.call ⟨114, vs 1, no 1, [.val false 1], [.own 0 2], true⟩) [.slot 7] [0] [0], mv 3 8]) (.seq (rG [mv 9 3, ow 10 (.call ⟨201, vs 1, [some (0, 2)], [], [.back 0], true⟩) [.slot 9] [0] [0]]) (.seq (rG [op 4 .move [.const (.one (.nil))]]) (.seq (.seq (rG [mv 11 3, ow 12 .len [.slot 11] [0] [], op 13 .move [cI 0]]) (.block 0 (.loop [.mkrow (.slot 4) 2 2 (.int .i64), .keep [4, 11, 12, 13], .drop 1, .norm] (za.c1)))) (za.c2))))) }
def za.env (N : Nat) : Env := envOf (tbl [(201, ext_sort_Ints.fs N), (114, ye.fs N), (202, z5.fs N)] noFS)
def za.F (N : Nat) (x : List Int) : Option (List Int) := XFunc.run za.x (za.env N) N x
def za.fs (N : Nat) : FS := { arg := za.x.arg, ret := za.x.ret, fresh := true, F := za.F N }
def za.k2 (N : Nat) : Ex -> S -> Option (List Int) := seqK (fun s => XCode.runK (za.env N) N (za.c2) s (XFunc.endK za.x)) (XFunc.endK za.x)
def za.k1 (N : Nat) : Ex -> S -> Option (List Int) := zAh 0 (za.k2 N)
def za.L1 (N : Nat) (n1 : Nat) (t12 : Int) (t13 : Int) (o0 : List Int) (o2 : List Int) : Option (List Int) := loopK [.mkrow (.slot 4) 2 2 (.int .i64), .keep [4, 11, 12, 13], .drop 1, .norm] (fun s k => XCode.runK (za.env N) N za.c1 s k) n1
 { t := jK 31 [(4, .one (.ref 2 0 .all)), (11, .one (.ref 0 0 .all)), (12, .one (.int .i64 t12)), (13, .one (.int .i64 t13))], h := [.row 0 false true 2 (.int .i64) o0, .absent 0, .row 0 false true 2 (.int .i64) o2] }
 (za.k1 N)
theorem za.L1_eq (N : Nat) (n1 : Nat) (t12 : Int) (t13 : Int) (o0 : List Int) (o2 : List Int) : za.L1 N (n1 + 1) t12 t13 o0 o2 =
bif decide (t13 < t12) then
bif zu t13 (o0.length) then
bif (List.getD o0 (Int.toNat t13) 0) != 0 then
bindO (z5.F N (o2, List.getD o0 (Int.toNat t13) 0)) fun r3 =>
bif !r3 then
bif decide (o2.length + List.length ([List.getD o0 (Int.toNat t13) 0] : List Int) <= maxN) then
za.L1 N n1 t12 (IntKind.wrap .i64 (t13 + 1)) o0 (o2 ++ ([List.getD o0 (Int.toNat t13) 0] : List Int))
else none
else
za.L1 N n1 t12 (IntKind.wrap .i64 (t13 + 1)) o0 o2
else
za.L1 N n1 t12 (IntKind.wrap .i64 (t13 + 1)) o0 o2
else none
else
some o2 := by kernel_rfl
theorem za.F_eq (N : Nat) (l_ : List Int) : za.F N l_ =
bindO (ye.F N l_) fun r1 =>
bindO (ext_sort_Ints.F N r1) fun r2 =>
za.L1 N N (r2.length : Int) 0 r2 ([] : List Int) := by kernel_rfl
def zI.c1 : XCode := .seq (rG [o2 14 (.bin .lss) 13 12]) (.seq (.cond (.slot 14) (.skip) (.exit 0)) (.seq (.block 1 (.seq (rG [o2 15 (.indexAddr zBZ) 11 13, o1 16 (.load true 5) 15, ow 6 (.alloc 2 [cZ, cZ, cZ, cZ, cZ]) [] [2] [2], sT 5 6 16 2]) (.seq (.seq (rG [fA 17 1 6, fA 18 0 17, lN 19 18 2, op 20 (.bin .eql) [.slot 19, cI 2], sX 21 [.slot 20], gX 22 (.fieldAddr 1) [.slot 6] [] [] 21 false, gX 23 (.fieldAddr 0) [.slot 22] [] [] 21 false, gX 24 (.load false 1) [.slot 23] [2] [] 21 false, gX 25 (.bin .eql) [.slot 24, cI 8] [] [] 21 false, op 26 .pick [.slot 21, cB true, .slot 25]]) (.cond (.slot 26) (rG [fA 27 0 3, lN 28 27 1, fA 29 1 6, fA 30 2 29, lN 31 30 2, o2 32 (.bin .or) 28 31, fA 33 0 3, sT 1 33 32 1]) (.skip))) (rG [mv 34 4, fA 35 1 6, fA 36 1 35, lN 37 36 2, ow 38 (.buildSlice false 3 2 (.int .i64) 1 [(0, 1)] [cZ]) [.slot 37] [3] [3], ow 39 (.append false 4 2 (.int .i64)) (sl [34, 38]) [3, 4] [4], mv 4 39])))) (rG [op 40 (.bin .add) [.slot 13, cI 1], mv 13 40])))
def zI.c2 : XCode := .seq (rG [mv 41 4, ow 42 (.call ⟨203, vs 1, no 1, [.val false 1], [.own 5 2], true⟩) [.slot 41] [4, 5] [5], fA 43 1 3, sT 1 43 42 1]) (.seq (rG [lU 44 2 3 1, sT 2 2 44 0]) (.ret))
def zI.x : XFunc := { nslots := 45, nobj := 6, pars := [.val false 1], rowsIn := [none], rets := [.var 2 true 2], outs := [.imm, .own 2], fresh := true, arg := .list zBZ, ret := .pair (.int .i64) (.list (.int .i64)), body := .seq (rG [ow 2 (.alloc 0 [cZ, .nil]) [] [0] [0]]) (.seq (.seq (rG [mv 7 0, o1 8 (.call ⟨164, vs 1, no 1, [.val false 1], ims 1, true⟩) 7, o1 9 .not 8]) (.cond (.slot 9) (.seq (rG [op 10 (.build [cZ, .nil] []) [], sT 2 2 10 0]) (.ret)) (.skip))) (.seq (rG [ow 3 (.alloc 1 [cZ, .nil]) [] [1] [1]]) (.seq (rG [op 4 .move [.const (.one (.nil))]]) (.seq (.seq (rG [mv 11 0, o1 12 .len 11, op 13 .move [cI 0]]) (.block 0 (.loop [.mkrow (.slot 4) 4 2 (.int .i64), .keep [2, 3, 4, 11, 12, 13], .drop 2, .drop 3, .drop 5, .norm] (zI.c1)))) (zI.c2))))) }
def zI.env (N : Nat) : Env := envOf (tbl [(164, zZ.fs N), (203, za.fs N)] noFS)
def zI.F (N : Nat) (x : zAT) : Option (Int × List Int) := XFunc.run zI.x (zI.env N) N x
def zI.fs (N : Nat) : FS := { arg := zI.x.arg, ret := zI.x.ret, fresh := true, F := zI.F N }
def zI.k2 (N : Nat) : Ex -> S -> Option (Int × List Int) := seqK (fun s => XCode.runK (zI.env N) N (zI.c2) s (XFunc.endK zI.x)) (XFunc.endK zI.x)
def zI.k1 (N : Nat) : Ex -> S -> Option (Int × List Int) := zAh 0 (zI.k2 N)
def zI.L1 (N : Nat) (n1 : Nat) (t11 : zAT) (t12 : Int) (t13 : Int) (o10 : Int) (o4 : List Int) : Option (Int × List Int) := loopK [.mkrow (.slot 4) 4 2 (.int .i64), .keep [2, 3, 4, 11, 12, 13], .drop 2, .drop 3, .drop 5, .norm] (fun s k => XCode.runK (zI.env N) N zI.c1 s k) n1
 { t := jK 45 [(2, .one (.ptr 0 0 0)), (3, .one (.ptr 1 0 0)), (4, .one (.ref 4 0 .all)), (11, .one (.sl false zBZ t11)), (12, .one (.int .i64 t12)), (13, .one (.int .i64 t13))], h := [.box 0 false [cZ, .nil], .box 0 false [.int .i64 o10, .nil], .absent 0, .absent 0, .row 0 false true 2 (.int .i64) o4, .absent 0] }
 (zI.k1 N)
theorem zI.L1_eq (N : Nat) (n1 : Nat) (t11 : zAT) (t12 : Int) (t13 : Int) (o10 : Int) (o4 : List Int) : zI.L1 N (n1 + 1) t11 t12 t13 o10 o4 =
bif decide (t13 < t12) then
bif zu t13 (t11.length) then
bif (((nth (0, (0, (0, (0, 0)))) t11 t13).2).1) == 2 then
bif decide (o4.length + List.length ([(((nth (0, (0, (0, (0, 0)))) t11 t13).2).2).1] : List Int) <= maxN) then
zI.L1 N n1 t11 t12 (IntKind.wrap .i64 (t13 + 1)) (bitOr .i64 o10 (((((nth (0, (0, (0, (0, 0)))) t11 t13).2).2).2).1)) (o4 ++ ([(((nth (0, (0, (0, (0, 0)))) t11 t13).2).2).1] : List Int))
else none
else
bif (((nth (0, (0, (0, (0, 0)))) t11 t13).2).1) == 8 then
bif decide (o4.length + List.length ([(((nth (0, (0, (0, (0, 0)))) t11 t13).2).2).1] : List Int) <= maxN) then
zI.L1 N n1 t11 t12 (IntKind.wrap .i64 (t13 + 1)) (bitOr .i64 o10 (((((nth (0, (0, (0, (0, 0)))) t11 t13).2).2).2).1)) (o4 ++ ([(((nth (0, (0, (0, (0, 0)))) t11 t13).2).2).1] : List Int))
else none
else
bif decide (o4.length + List.length ([(((nth (0, (0, (0, (0, 0)))) t11 t13).2).2).1] : List Int) <= maxN) then
zI.L1 N n1 t11 t12 (IntKind.wrap .i64 (t13 + 1)) o10 (o4 ++ ([(((nth (0, (0, (0, (0, 0)))) t11 t13).2).2).1] : List Int))
else none
else none
else
bindO (za.F N o4) fun r2 =>
some (o10, r2) := by kernel_rfl
theorem zI.F_eq (N : Nat) (l_ : zAT) : zI.F N l_ =
bindO (zZ.F N l_) fun r1 =>
bif !r1 then
some (0, ([] : List Int))
else
zI.L1 N N l_ (l_.length : Int) 0 0 ([] : List Int) := by kernel_rfl
def zC.c1 : XCode := .seq (rG [o2 11 (.bin .lss) 10 9]) (.seq (.cond (.slot 11) (.skip) (.exit 0)) (.seq (.block 1 (.seq (rG [o2 12 (.indexAddr zBK) 8 10, o1 13 (.load true 2) 12, ow 7 (.alloc 1 [cZ, .nil]) [] [1] [1], sT 2 7 13 1]) (.seq (.seq (rG [lU 14 2 2 0, lU 15 2 7 1, o2 16 (.call ⟨206, [.val true 2, .val true 2], no 4, [.val false 1], ims 1, true⟩) 14 15, o1 17 .not 16]) (.cond (.slot 17) (rG [mv 18 5, lU 19 2 7 1, ow 20 (.buildSlice false 2 12 zBK 1 [(0, 2)] [cZ, .nil]) [.slot 19] [2] [2], ow 21 (.append false 3 12 zBK) (sl [18, 20]) [2, 3] [3], mv 5 21]) (.skip))) (rG [lU 22 2 7 1, sT 2 2 22 0])))) (rG [op 23 (.bin .add) [.slot 10, cI 1], mv 10 23])))
def zC.c2 : XCode := .seq (rG [mv 24 5, mv 4 24]) (.ret)
def zC.x : XFunc := { nslots := 25, nobj := 4, pars := [.val true 2, .val false 1], rowsIn := no 3, rets := [.tmp 4 false 1], outs := [.own 12], fresh := false, arg := .pair zBK (.list zBK), ret := .list zBK, body := .seq (rG [ow 2 (.box 0) [.slot 0] [0] [0], op 4 .move [.const (.one (.nil))]]) (.seq (rG [op 5 .move [.const (.one (.nil))]]) (.seq (.seq (rG [mv 8 1, o1 9 .len 8, op 10 .move [cI 0]]) (.block 0 (.loop [.mkrow (.slot 5) 3 12 zBK, .keep [2, 5, 8, 9, 10], .drop 1, .drop 2, .weak, .norm] (zC.c1)))) (zC.c2))) }
def zC.env (N : Nat) : Env := envOf (tbl [(206, yF.fs N)] noFS)
def zC.F (N : Nat) (x : (Int × List Int) × List (Int × List Int)) : Option zBc := XFunc.run zC.x (zC.env N) N x
def zC.fs (N : Nat) : FS := { arg := zC.x.arg, ret := zC.x.ret, fresh := false, F := zC.F N }
def zC.k2 (N : Nat) : Ex -> S -> Option zBc := seqK (fun s => XCode.runK (zC.env N) N (zC.c2) s (XFunc.endK zC.x)) (XFunc.endK zC.x)
def zC.k1 (N : Nat) : Ex -> S -> Option zBc := zAh 0 (zC.k2 N)
def zC.L1 (N : Nat) (n1 : Nat) (t8 : zBc) (t9 : Int) (t10 : Int) (o00 : Int) (o01 : List Int) (o3 : zBc) : Option zBc := loopK [.mkrow (.slot 5) 3 12 zBK, .keep [2, 5, 8, 9, 10], .drop 1, .drop 2, .weak, .norm] (fun s k => XCode.runK (zC.env N) N zC.c1 s k) n1
 { t := jK 25 [(2, .one (.ptr 0 0 0)), (5, .one (.ref 3 0 .all)), (8, .one (.sl false zBK t8)), (9, .one (.int .i64 t9)), (10, .one (.int .i64 t10))], h := [.box 0 false [.int .i64 o00, .sl false (.int .i64) o01], .absent 0, .absent 0, .row 0 false false 12 zBK o3] }
 (zC.k1 N)
theorem zC.L1_eq (N : Nat) (n1 : Nat) (t8 : zBc) (t9 : Int) (t10 : Int) (o00 : Int) (o01 : List Int) (o3 : zBc) : zC.L1 N (n1 + 1) t8 t9 t10 o00 o01 o3 =
bif decide (t10 < t9) then
bif zu t10 (t8.length) then
bindO (yF.F N ((o00, o01), (nth (0, ([] : List Int)) t8 t10))) fun r1 =>
bif !r1 then
bif decide (o3.length + List.length ([(nth (0, ([] : List Int)) t8 t10)] : List (Int × List Int)) <= maxN) then
zC.L1 N n1 t8 t9 (IntKind.wrap .i64 (t10 + 1)) ((nth (0, ([] : List Int)) t8 t10).1) ((nth (0, ([] : List Int)) t8 t10).2) (o3 ++ ([(nth (0, ([] : List Int)) t8 t10)] : List (Int × List Int)))
else none
else
zC.L1 N n1 t8 t9 (IntKind.wrap .i64 (t10 + 1)) ((nth (0, ([] : List Int)) t8 t10).1) ((nth (0, ([] : List Int)) t8 t10).2) o3
else none
else
some o3 := by kernel_rfl
theorem zC.F_eq (N : Nat) (last : Int × List Int) (l_ : zBc) : zC.F N (last, l_) =
zC.L1 N N l_ (l_.length : Int) 0 last.1 last.2 ([] : List (Int × List Int)) := by kernel_rfl
def yp.x : XFunc := { nslots := 33, nobj := 5, pars := [.val true 7, .val false 1], rowsIn := no 8, rets := [.var 4 true 7, .tmp 5 false 1], outs := [.imm, .imm, .imm, .imm, .own 15, .imm, .imm, .imm], fresh := false, arg := .pair T2_30 (.int .i64), ret := .pair T2_30 (.list zBK), body := .seq (rG [ow 2 (.box 0) [.slot 0] [0] [0], ow 4 (.alloc 1 [cZ, .nil, .nil, cZ, .nil, cZ, .bool false]) [] [1] [1], op 5 .move [.const (.one (.nil))]]) (.seq (rG [lU 8 7 2 0, ow 9 (.call ⟨171, [.val true 7], no 7, [.val true 7], [.imm, .imm, .imm, .imm, .own 3 15, .imm, .imm], true⟩) [.slot 8] [3] [3], ow 6 (.alloc 2 [cZ, .nil, .nil, cZ, .nil, cZ, .bool false]) [] [2] [2], sT 7 6 9 2]) (.seq (rG [lU 10 7 2 0, mv 11 1, o2 12 (.call ⟨179, [.val true 7, .val false 1], no 8, [.val false 1], ims 1, true⟩) 10 11, mv 7 12]) (.seq (.region true [fA 13 4 6, lN 14 13 2, mv 15 7, ow 16 (.slice zBZ false true) (sl [14, 15]) [3] [], fA 17 4 6, lN 18 17 2, mv 19 7, op 20 (.bin .add) [.slot 19, cI 1], ow 21 (.slice zBZ true false) (sl [18, 20]) [3] [], ow 22 (.appendDel 3 15 zBZ) (sl [16, 21]) [3] [3], fA 23 4 6, sT 1 23 22 2]) (.seq (.region true [lU 24 7 6 2, fA 25 4 2, lN 26 25 0, o1 27 (.call ⟨204, vs 1, no 1, [.val true 2], ims 2, true⟩) 26, fA 28 4 6, lN 29 28 2, ow 30 (.call ⟨204, vs 1, no 1, [.val true 2], ims 2, true⟩) [.slot 29] [3] [], o1 31 (.buildSlice true 4 12 zBK 1 [(0, 2)] [cZ, .nil]) 30, o2 32 (.call ⟨207, [.val true 2, .val false 1], no 3, [.val false 1], ims 1, false⟩) 27 31, sT 7 4 24 1, mv 5 32]) (.ret))))) }
def yp.env (N : Nat) : Env := envOf (tbl [(179, zm.fs N), (204, zI.fs N), (207, zC.fs N), (171, zk.fs N)] noFS)
def yp.F (N : Nat) (x : zBy × Int) : Option (zBy × List (Int × List Int)) := XFunc.run yp.x (yp.env N) N x
def yp.fs (N : Nat) : FS := { arg := yp.x.arg, ret := yp.x.ret, fresh := false, F := yp.F N }
theorem yp.F_eq (N : Nat) (e : (Int × List y1) × (List y8) × Int × zAT × Int × Bool) (key : Int) : yp.F N (e, key) =
bindO (zk.F N e) fun r1 =>
bindO (zm.F N (e, key)) fun r2 =>
bif decide (0 <= r2) && decide (r2 <= (List.length r1.2.2.2.1 : Int)) then
bif decide (0 <= IntKind.wrap .i64 (r2 + 1)) && decide (IntKind.wrap .i64 (r2 + 1) <= (List.length r1.2.2.2.1 : Int)) then
bif decide ((Int.toNat r2) <= (Int.toNat (IntKind.wrap .i64 (r2 + 1)))) && decide (List.length r1.2.2.2.1 <= maxN) then
bindO (zI.F N e.2.2.2.1) fun r3 =>
bindO (zI.F N (List.take (Int.toNat r2) r1.2.2.2.1 ++ List.drop (Int.toNat (IntKind.wrap .i64 (r2 + 1))) r1.2.2.2.1)) fun r4 =>
bindO (zC.F N (r3, ([r4] : List (Int × List Int)))) fun r5 =>
some ((r1.1, (r1.2.1, (r1.2.2.1, (List.take (Int.toNat r2) r1.2.2.2.1 ++ List.drop (Int.toNat (IntKind.wrap .i64 (r2 + 1))) r1.2.2.2.1, r1.2.2.2.2)))), r5)
else none
else none
else none := by kernel_rfl
def zU.c1 : XCode := .seq (rG [o2 24 (.bin .lss) 23 22]) (.seq (.cond (.slot 24) (.skip) (.exit 0)) (.seq (.block 1 (.seq (rG [o2 25 (.indexAddr zBZ) 21 23, o1 26 (.load true 5) 25, ow 7 (.alloc 0 [cZ, cZ, cZ, cZ, cZ]) [] [0] [0], sT 5 7 26 0]) (.seq (rG [fA 27 1 7, fA 28 0 27, lN 29 28 0, op 30 (.bin .eql) [.slot 29, cI 3]]) (.cond (.slot 30) (rG [mv 31 5, fA 32 1 7, fA 33 3 32, lN 34 33 0, op 35 (.bin .shl) [cI 1, .slot 34], o2 36 (.bin .or) 31 35, mv 5 36]) (.skip))))) (rG [op 37 (.bin .add) [.slot 23, cI 1], mv 23 37])))
def zU.c2 : XCode := .seq (rG [mv 38 5, mv 4 38]) (.ret)
def zU.x : XFunc := { nslots := 39, nobj := 1, pars := [.val false 1, .val false 1], rowsIn := no 2, rets := [.tmp 4 false 1], outs := [.imm], fresh := true, arg := .pair (.int .i64) (.list zBZ), ret := .int .i64, body := .seq (rG [op 4 .move [cI 0]]) (.seq (rG [op 5 .move [cI 1]]) (.seq (.seq (rG [mv 8 0, op 9 (.bin .geq) [.slot 8, cI 0], sX 10 [.slot 9], gX 11 .move [.slot 0] [] [] 10 true, gX 12 (.bin .leq) [.slot 11, cI 15] [] [] 10 true, op 13 .pick [.slot 10, .slot 12, cB false]]) (.cond (.slot 13) (rG [mv 14 5, mv 15 0, o2 16 (.bin .or) 14 15, mv 5 16]) (.skip))) (.seq (.seq (rG [mv 17 1, o1 18 (.call ⟨164, vs 1, no 1, [.val false 1], ims 1, true⟩) 17, o1 19 .not 18]) (.cond (.slot 19) (.seq (rG [mv 20 5, mv 4 20]) (.ret)) (.skip))) (.seq (.seq (rG [mv 21 1, o1 22 .len 21, op 23 .move [cI 0]]) (.block 0 (.loop [.keep [5, 21, 22, 23], .drop 0, .norm] (zU.c1)))) (zU.c2))))) }
def zU.env (N : Nat) : Env := envOf (tbl [(164, zZ.fs N)] noFS)
def zU.F (N : Nat) (x : Int × List (Int × Int × Int × Int × Int)) : Option Int := XFunc.run zU.x (zU.env N) N x
def zU.fs (N : Nat) : FS := { arg := zU.x.arg, ret := zU.x.ret, fresh := true, F := zU.F N }
def zU.k2 (N : Nat) : Ex -> S -> Option Int := seqK (fun s => XCode.runK (zU.env N) N (zU.c2) s (XFunc.endK zU.x)) (XFunc.endK zU.x)
def zU.k1 (N : Nat) : Ex -> S -> Option Int := zAh 0 (zU.k2 N)
def zU.L1 (N : Nat) (n1 : Nat) (out : Int) (t21 : zAT) (t22 : Int) (t23 : Int) : Option Int := loopK [.keep [5, 21, 22, 23], .drop 0, .norm] (fun s k => XCode.runK (zU.env N) N zU.c1 s k) n1
 { t := jK 39 [(5, .one (.int .i64 out)), (21, .one (.sl false zBZ t21)), (22, .one (.int .i64 t22)), (23, .one (.int .i64 t23))], h := [.absent 0] }
 (zU.k1 N)
theorem zU.L1_eq (N : Nat) (n1 : Nat) (out : Int) (t21 : zAT) (t22 : Int) (t23 : Int) : zU.L1 N (n1 + 1) out t21 t22 t23 =
bif decide (t23 < t22) then
bif zu t23 (t21.length) then
bif (((nth (0, (0, (0, (0, 0)))) t21 t23).2).1) == 3 then
bif decide (0 <= ((((nth (0, (0, (0, (0, 0)))) t21 t23).2).2).2).2) then
zU.L1 N n1 (bitOr .i64 out (zBS .i64 1 (((((nth (0, (0, (0, (0, 0)))) t21 t23).2).2).2).2))) t21 t22 (IntKind.wrap .i64 (t23 + 1))
else none
else
zU.L1 N n1 out t21 t22 (IntKind.wrap .i64 (t23 + 1))
else none
else
some out := by kernel_rfl
theorem zU.F_eq (N : Nat) (fixed : Int) (l_ : zAT) : zU.F N (fixed, l_) =
bif decide (fixed >= 0) then
bif decide (fixed <= 15) then
bindO (zZ.F N l_) fun r1 =>
bif !r1 then
some (bitOr .i64 1 fixed)
else
zU.L1 N N (bitOr .i64 1 fixed) l_ (l_.length : Int) 0
else
bindO (zZ.F N l_) fun r2 =>
bif !r2 then
some 1
else
zU.L1 N N 1 l_ (l_.length : Int) 0
else
bindO (zZ.F N l_) fun r3 =>
bif !r3 then
some 1
else
zU.L1 N N 1 l_ (l_.length : Int) 0 := by kernel_rfl
def zd.c1 : XCode := .seq (.seq (rG [mv 12 7, op 13 (.bin .gtr) [.slot 12, cI 0]]) (.cond (.slot 13) (.skip) (.exit 0))) (.seq (.block 1 (.seq (rG [mv 16 1, mv 17 7, o2 18 (.call ⟨65, vs 2, no 2, [.val false 1], ims 1, true⟩) 16 17, op 19 (.bin .eql) [.slot 18, cI 1], sX 20 [.slot 19], gX 21 (.fieldAddr 1) [.slot 3] [] [] 20 true, gX 22 (.load false 1) [.slot 21] [0] [] 20 true, gX 23 .move [.slot 7] [] [] 20 true, gX 24 (.indexAddr (.list zAw)) (sl [22, 23]) [] [] 20 true, gX 25 (.load false 1) [.slot 24] [] [] 20 true, gX 26 .move [.slot 2] [] [] 20 true, gX 27 (.indexAddr zAw) (sl [25, 26]) [] [] 20 true, gX 28 (.fieldAddr 0) [.slot 27] [] [] 20 true, gX 29 (.load false 1) [.slot 28] [] [] 20 true, gX 30 (.bin .neq) [.slot 29, cI 1] [] [] 20 true, op 31 .pick [.slot 20, .slot 30, cB false]]) (.cond (.slot 31) (.seq (rG [mv 32 7, mv 6 32]) (.ret)) (.skip)))) (rG [mv 14 7, op 15 (.bin .sub) [.slot 14, cI 1], mv 7 15]))
def zd.c2 : XCode := .seq (rG [op 6 .move [cI 0]]) (.ret)
def zd.x : XFunc := { nslots := 33, nobj := 1, pars := [.val true 2, .val false 1, .val false 1], rowsIn := no 4, rets := [.tmp 6 false 1], outs := [.imm], fresh := true, arg := .pair T10_30 zA6, ret := .int .i64, body := .seq (rG [ow 3 (.box 0) [.slot 0] [0] [0], op 6 .move [cI 0]]) (.seq (.seq (rG [fA 8 1 3, lN 9 8 0, o1 10 .len 9, op 11 (.bin .sub) [.slot 10, cI 1], mv 7 11]) (.block 0 (.loop [.keep [1, 2, 3, 7], .norm] (zd.c1)))) (zd.c2)) }
def zd.env (N : Nat) : Env := envOf (tbl [(65, zAD.fs N)] noFS)
def zd.F (N : Nat) (x : (Int × List y1) × Int × Int) : Option Int := XFunc.run zd.x (zd.env N) N x
def zd.fs (N : Nat) : FS := { arg := zd.x.arg, ret := zd.x.ret, fresh := true, F := zd.F N }
def zd.k2 (N : Nat) : Ex -> S -> Option Int := seqK (fun s => XCode.runK (zd.env N) N (zd.c2) s (XFunc.endK zd.x)) (XFunc.endK zd.x)
def zd.k1 (N : Nat) : Ex -> S -> Option Int := zAh 0 (zd.k2 N)
def zd.L1 (N : Nat) (n1 : Nat) (on : Int) (key : Int) (i : Int) (o00 : Int) (o01 : List y1) : Option Int := loopK [.keep [1, 2, 3, 7], .norm] (fun s k => XCode.runK (zd.env N) N zd.c1 s k) n1
 { t := jK 33 [(1, .one (.int .i64 on)), (2, .one (.int .i64 key)), (3, .one (.ptr 0 0 0)), (7, .one (.int .i64 i))], h := [.box 0 false [.int .i64 o00, .sl false (.list zAw) o01]] }
 (zd.k1 N)
theorem zd.L1_eq (N : Nat) (n1 : Nat) (on : Int) (key : Int) (i : Int) (o00 : Int) (o01 : List y1) : zd.L1 N (n1 + 1) on key i o00 o01 =
bif decide (i > 0) then
bindO (zAD.F N (on, i)) fun r1 =>
bif r1 == 1 then
bif zu i (o01.length) then
bif zu key (List.length (nth ([] : List (Int × Int × Int × Int)) o01 i)) then
bif ((nth (0, (0, (0, 0))) (nth ([] : List (Int × Int × Int × Int)) o01 i) key).1) != 1 then
some i
else
zd.L1 N n1 on key (IntKind.wrap .i64 (i - 1)) o00 o01
else none
else none
else
zd.L1 N n1 on key (IntKind.wrap .i64 (i - 1)) o00 o01
else
some 0 := by kernel_rfl
theorem zd.F_eq (N : Nat) (m : Int × List y1) (on : Int) (key : Int) : zd.F N (m, on, key) =
zd.L1 N N on key (IntKind.wrap .i64 ((List.length m.2 : Int) - 1)) m.1 m.2 := by kernel_rfl
def zAE.x : XFunc := { nslots := 24, nobj := 1, pars := [.val true 2, .val false 1, .val false 1], rowsIn := no 4, rets := [.tmp 6 false 1], outs := [.imm], fresh := true, arg := .pair T10_30 zA6, ret := .int .i64, body := .seq (rG [ow 3 (.box 0) [.slot 0] [0] [0], op 6 .move [cI 0]]) (.seq (.seq (rG [lU 7 2 3 0, o1 8 (.call ⟨163, [.val true 2], no 2, [.val false 1], ims 1, true⟩) 7, o1 9 .not 8, sX 10 [.slot 9], gX 11 .move [.slot 2] [] [] 10 false, gX 12 (.bin .lss) [.slot 11, cI 0] [] [] 10 false, op 13 .pick [.slot 10, cB true, .slot 12], sX 14 [.slot 13], gX 15 .move [.slot 2] [] [] 14 false, gX 16 (.fieldAddr 0) [.slot 3] [] [] 14 false, gX 17 (.load false 1) [.slot 16] [0] [] 14 false, gX 18 (.bin .geq) (sl [15, 17]) [] [] 14 false, op 19 .pick [.slot 14, cB true, .slot 18]]) (.cond (.slot 19) (.seq (rG [op 6 .move [cI (-1)]]) (.ret)) (.skip))) (.seq (rG [lU 20 2 3 0, mv 21 1, mv 22 2, op 23 (.call ⟨210, [.val true 2, .val false 1, .val false 1], no 4, [.val false 1], ims 1, true⟩) (sl [20, 21, 22]), mv 6 23]) (.ret))) }
def zAE.env (N : Nat) : Env := envOf (tbl [(163, zE.fs N), (210, zd.fs N)] noFS)
def zAE.F (N : Nat) (x : (Int × List y1) × Int × Int) : Option Int := XFunc.run zAE.x (zAE.env N) N x
def zAE.fs (N : Nat) : FS := { arg := zAE.x.arg, ret := zAE.x.ret, fresh := true, F := zAE.F N }
theorem zAE.F_eq (N : Nat) (m : Int × List y1) (on : Int) (key : Int) : zAE.F N (m, on, key) =
bindO (zE.F N m) fun r1 =>
bif !r1 then
some (-1 : Int)
else
bif decide (key < 0) then
some (-1 : Int)
else
bif decide (key >= m.1) then
some (-1 : Int)
else
bindO (zd.F N (m, (on, key))) fun r2 =>
some r2 := by kernel_rfl
def yz.x : XFunc := { nslots := 23, nobj := 2, pars := [.val true 2, .val false 1, .val false 1], rowsIn := no 4, rets := [.var 6 true 4], outs := iF 4, fresh := true, arg := .pair T10_30 zA6, ret := .pair (.int .i64) zAj, body := .seq (rG [ow 3 (.box 0) [.slot 0] [0] [0], ow 6 (.alloc 1 [cZ, cZ, cZ, cZ]) [] [1] [1]]) (.seq (rG [lU 8 2 3 0, mv 9 1, mv 10 2, op 11 (.call ⟨211, [.val true 2, .val false 1, .val false 1], no 4, [.val false 1], ims 1, true⟩) (sl [8, 9, 10]), mv 7 11]) (.seq (.seq (rG [mv 12 7, op 13 (.bin .lss) [.slot 12, cI 0]]) (.cond (.slot 13) (.seq (rG [op 14 (.build [cZ, cZ, cZ, cZ] []) [], sT 4 6 14 1]) (.ret)) (.skip))) (.seq (rG [fA 15 1 3, lN 16 15 0, mv 17 7, o2 18 (.indexAddr (.list zAw)) 16 17, o1 19 (.load false 1) 18, mv 20 2, o2 21 (.indexAddr zAw) 19 20, o1 22 (.load true 4) 21, sT 4 6 22 1]) (.ret)))) }
def yz.env (N : Nat) : Env := envOf (tbl [(211, zAE.fs N)] noFS)
def yz.F (N : Nat) (x : (Int × List y1) × Int × Int) : Option (Int × Int × Int × Int) := XFunc.run yz.x (yz.env N) N x
def yz.fs (N : Nat) : FS := { arg := yz.x.arg, ret := yz.x.ret, fresh := true, F := yz.F N }
theorem yz.F_eq (N : Nat) (m : Int × List y1) (on : Int) (key : Int) : yz.F N (m, on, key) =
bindO (zAE.F N (m, (on, key))) fun r1 =>
bif decide (r1 < 0) then
some (0, (0, (0, 0)))
else
bif zu r1 (List.length m.2) then
bif zu key (List.length (nth ([] : List (Int × Int × Int × Int)) m.2 r1)) then
some ((nth (0, (0, (0, 0))) (nth ([] : List (Int × Int × Int × Int)) m.2 r1) key).1, (((nth (0, (0, (0, 0))) (nth ([] : List (Int × Int × Int × Int)) m.2 r1) key).2).1, (((nth (0, (0, (0, 0))) (nth ([] : List (Int × Int × Int × Int)) m.2 r1) key).2).2)))
else none
else none := by kernel_rfl
def yA.x : XFunc := { nslots := 15, nobj := 1, pars := [.val true 4], rowsIn := no 4, rets := [.tmp 2 false 1], outs := [.imm], fresh := true, arg := .pair (.int .i64) zAj, ret := .bool, body := .seq (rG [ow 1 (.box 0) [.slot 0] [0] [0], op 2 .move [cB false]]) (.seq (rG [lU 3 4 1 0, o1 4 (.call ⟨156, [.val true 4], no 4, [.val false 1], ims 1, true⟩) 3, sX 5 [.slot 4], gX 6 (.fieldAddr 0) [.slot 1] [] [] 5 true, gX 7 (.load false 1) [.slot 6] [0] [] 5 true, gX 8 (.bin .eql) [.slot 7, cI 6] [] [] 5 true, ⟨some 9, .move, [.slot 8], [], [], some (5, true), true, .none⟩, gX 10 (.fieldAddr 0) [.slot 1] [] [] 9 false, gX 11 (.load false 1) [.slot 10] [0] [] 9 false, gX 12 (.bin .eql) [.slot 11, cI 7] [] [] 9 false, gX 13 .pick [.slot 9, cB true, .slot 12] [] [] 5 true, op 14 .pick [.slot 5, .slot 13, cB false], mv 2 14]) (.ret)) }
def yA.env (N : Nat) : Env := envOf (tbl [(156, z8.fs N)] noFS)
def yA.F (N : Nat) (x : Int × Int × Int × Int) : Option Bool := XFunc.run yA.x (yA.env N) N x
def yA.fs (N : Nat) : FS := { arg := yA.x.arg, ret := yA.x.ret, fresh := true, F := yA.F N }
theorem yA.F_eq (N : Nat) (a : Int × Int × Int × Int) : yA.F N a =
bindO (z8.F N a) fun r1 =>
bif r1 then
bif a.1 == 6 then
some true
else
some (a.1 == 7)
else
some false := by kernel_rfl
def zV.c1 : XCode := .seq (rG [o2 29 (.bin .lss) 28 27]) (.seq (.cond (.slot 29) (.skip) (.exit 0)) (.seq (.block 1 (.seq (rG [o2 30 (.indexAddr T4_30) 26 28, o1 31 (.load true 3) 30, ow 14 (.alloc 1 [cZ, cZ, .bool false]) [] [1] [1], sT 3 14 31 1]) (.block 2 (.seq (rG [lU 33 3 14 1, o1 34 (.call ⟨68, [.val true 3], no 3, [.val false 1], ims 1, true⟩) 33, o1 35 .not 34, mv 32 35]) (.cond (.slot 32) (.seq (rG [op 10 .move [cI 0], op 11 .move [cI 0]]) (.ret)) (.seq (rG [fA 37 0 14, lN 38 37 1, mv 39 2, fA 40 0 5, lN 41 40 0, o2 42 (.bin .add) 39 41, o2 43 (.bin .geq) 38 42, mv 36 43]) (.cond (.slot 36) (.seq (.region true [mv 44 2, fA 45 0 5, lN 46 45 0, o2 47 (.bin .add) 44 46, op 10 .move [cI 2], mv 11 47]) (.ret)) (.seq (rG [fA 49 1 14, lN 50 49 1, mv 51 1, o2 52 (.bin .eql) 50 51, sX 53 [.slot 52], gX 54 (.fieldAddr 2) [.slot 14] [] [] 53 true, gX 55 (.load false 1) [.slot 54] [1] [] 53 true, gX 56 .not [.slot 55] [] [] 53 true, op 57 .pick [.slot 53, .slot 56, cB false], mv 48 57]) (.cond (.slot 48) (.seq (.region true [fA 58 0 14, lN 59 58 1, op 10 .move [cI 1], mv 11 59]) (.ret)) (.seq (rG [fA 61 1 14, lN 62 61 1, mv 63 1, o2 64 (.bin .eql) 62 63, mv 60 64]) (.cond (.slot 60) (.skip) (.seq (rG [fA 66 2 14, lN 67 66 1, mv 65 67]) (.cond (.slot 65) (.seq (.seq (rG [fA 68 2 5, lN 69 68 0, op 70 (.bin .eql) [.slot 69, cI 1]]) (.cond (.slot 70) (.seq (.region true [fA 71 0 14, lN 72 71 1, op 10 .move [cI 2], mv 11 72]) (.ret)) (.skip))) (rG [mv 73 12, fA 74 1 14, lN 75 74 1, op 76 (.bin .shl) [cI 1, .slot 75], o2 77 (.bin .or) 73 76, mv 12 77])) (.seq (rG [fA 79 2 5, lN 80 79 0, op 81 (.bin .eql) [.slot 80, cI 2], sX 82 [.slot 81], gX 83 .move [.slot 12] [] [] 82 true, gX 84 (.fieldAddr 1) [.slot 14] [] [] 82 true, gX 85 (.load false 1) [.slot 84] [1] [] 82 true, ⟨some 86, .call ⟨65, vs 2, no 2, [.val false 1], ims 1, true⟩, (sl [83, 85]), [], [], some (82, true), false, .none⟩, gX 87 (.bin .eql) [.slot 86, cI 1] [] [] 82 true, op 88 .pick [.slot 82, .slot 87, cB false], mv 78 88]) (.cond (.slot 78) (.seq (.region true [fA 89 0 14, lN 90 89 1, op 10 .move [cI 2], mv 11 90]) (.ret)) (.skip)))))))))))))))) (rG [op 91 (.bin .add) [.slot 28, cI 1], mv 28 91])))
def zV.c2 : XCode := .seq (.seq (rG [mv 92 4, mv 93 2, fA 94 0 5, lN 95 94 0, o2 96 (.bin .add) 93 95, o2 97 (.bin .geq) 92 96]) (.cond (.slot 97) (.seq (.region true [mv 98 2, fA 99 0 5, lN 100 99 0, o2 101 (.bin .add) 98 100, op 10 .move [cI 2], mv 11 101]) (.ret)) (.skip))) (.seq (rG [op 10 .move [cI 0], op 11 .move [cI 0]]) (.ret))
def zV.x : XFunc := { nslots := 102, nobj := 2, pars := [.val true 3, .val false 1, .val false 1, .val false 1, .val false 1], rowsIn := no 7, rets := [.tmp 10 false 1, .tmp 11 false 1], outs := iF 2, fresh := true, arg := .pair zAj (.pair (.int .i64) (.pair (.int .i64) T14_30)), ret := .pair (.int .i64) (.int .i64), body := .seq (rG [ow 5 (.box 0) [.slot 0] [0] [0], op 10 .move [cI 0], op 11 .move [cI 0]]) (.seq (.seq (rG [lU 15 3 5 0, o1 16 (.call ⟨172, [.val true 3], no 3, [.val false 1], ims 1, true⟩) 15, o1 17 .not 16, sX 18 [.slot 17], gX 19 .move [.slot 2] [] [] 18 false, gX 20 (.bin .lss) [.slot 19, cI 0] [] [] 18 false, op 21 .pick [.slot 18, cB true, .slot 20], sX 22 [.slot 21], gX 23 .move [.slot 2] [] [] 22 false, gX 24 (.bin .gtr) [.slot 23, cI 1000000] [] [] 22 false, op 25 .pick [.slot 22, cB true, .slot 24]]) (.cond (.slot 25) (.seq (rG [op 10 .move [cI 0], op 11 .move [cI 0]]) (.ret)) (.skip))) (.seq (rG [op 12 .move [cI 0]]) (.seq (.seq (rG [mv 26 3, o1 27 .len 26, op 28 .move [cI 0]]) (.block 0 (.loop [.keep [1, 2, 4, 5, 12, 26, 27, 28], .drop 1, .norm] (zV.c1)))) (zV.c2)))) }
def zV.env (N : Nat) : Env := envOf (tbl [(68, yk.fs N), (172, yh.fs N), (65, zAD.fs N)] noFS)
def zV.F (N : Nat) (x : (Int × Int × Int) × Int × Int × zBd × Int) : Option (Int × Int) := XFunc.run zV.x (zV.env N) N x
def zV.fs (N : Nat) : FS := { arg := zV.x.arg, ret := zV.x.ret, fresh := true, F := zV.F N }
def zV.k2 (N : Nat) : Ex -> S -> Option (Int × Int) := seqK (fun s => XCode.runK (zV.env N) N (zV.c2) s (XFunc.endK zV.x)) (XFunc.endK zV.x)
def zV.k1 (N : Nat) : Ex -> S -> Option (Int × Int) := zAh 0 (zV.k2 N)
def zV.L1 (N : Nat) (n1 : Nat) (key : Int) (time : Int) (now : Int) (down : Int) (t26 : zBd) (t27 : Int) (t28 : Int) (o00 : Int) (o01 : Int) (o02 : Int) : Option (Int × Int) := loopK [.keep [1, 2, 4, 5, 12, 26, 27, 28], .drop 1, .norm] (fun s k => XCode.runK (zV.env N) N zV.c1 s k) n1
 { t := jK 102 [(1, .one (.int .i64 key)), (2, .one (.int .i64 time)), (4, .one (.int .i64 now)), (5, .one (.ptr 0 0 0)), (12, .one (.int .i64 down)), (26, .one (.sl false T4_30 t26)), (27, .one (.int .i64 t27)), (28, .one (.int .i64 t28))], h := [.box 0 false [.int .i64 o00, .int .i64 o01, .int .i64 o02], .absent 0] }
 (zV.k1 N)
theorem zV.L1_eq (N : Nat) (n1 : Nat) (key : Int) (time : Int) (now : Int) (down : Int) (t26 : zBd) (t27 : Int) (t28 : Int) (o00 : Int) (o01 : Int) (o02 : Int) : zV.L1 N (n1 + 1) key time now down t26 t27 t28 o00 o01 o02 =
bif decide (t28 < t27) then
bif zu t28 (t26.length) then
bindO (yk.F N ((nth (0, (0, false)) t26 t28).1, ((nth (0, (0, false)) t26 t28).2))) fun r2 =>
bif !r2 then
some (0, 0)
else
bif decide (((nth (0, (0, false)) t26 t28).1) >= (IntKind.wrap .i64 (time + o00))) then
some (2, IntKind.wrap .i64 (time + o00))
else
bif (((nth (0, (0, false)) t26 t28).2).1) == key then
bif !(((nth (0, (0, false)) t26 t28).2).2) then
some (1, (nth (0, (0, false)) t26 t28).1)
else
bif (((nth (0, (0, false)) t26 t28).2).1) == key then
zV.L1 N n1 key time now down t26 t27 (IntKind.wrap .i64 (t28 + 1)) o00 o01 o02
else
bif ((nth (0, (0, false)) t26 t28).2).2 then
bif o02 == 1 then
some (2, (nth (0, (0, false)) t26 t28).1)
else
bif decide (0 <= ((nth (0, (0, false)) t26 t28).2).1) then
zV.L1 N n1 key time now (bitOr .i64 down (zBS .i64 1 (((nth (0, (0, false)) t26 t28).2).1))) t26 t27 (IntKind.wrap .i64 (t28 + 1)) o00 o01 o02
else none
else
bif o02 == 2 then
bindO (zAD.F N (down, ((nth (0, (0, false)) t26 t28).2).1)) fun r3 =>
bif r3 == 1 then
some (2, (nth (0, (0, false)) t26 t28).1)
else
zV.L1 N n1 key time now down t26 t27 (IntKind.wrap .i64 (t28 + 1)) o00 o01 o02
else
zV.L1 N n1 key time now down t26 t27 (IntKind.wrap .i64 (t28 + 1)) o00 o01 o02
else
bif (((nth (0, (0, false)) t26 t28).2).1) == key then
zV.L1 N n1 key time now down t26 t27 (IntKind.wrap .i64 (t28 + 1)) o00 o01 o02
else
bif ((nth (0, (0, false)) t26 t28).2).2 then
bif o02 == 1 then
some (2, (nth (0, (0, false)) t26 t28).1)
else
bif decide (0 <= ((nth (0, (0, false)) t26 t28).2).1) then
zV.L1 N n1 key time now (bitOr .i64 down (zBS .i64 1 (((nth (0, (0, false)) t26 t28).2).1))) t26 t27 (IntKind.wrap .i64 (t28 + 1)) o00 o01 o02
else none
else
bif o02 == 2 then
bindO (zAD.F N (down, ((nth (0, (0, false)) t26 t28).2).1)) fun r4 =>
bif r4 == 1 then
some (2, (nth (0, (0, false)) t26 t28).1)
else
zV.L1 N n1 key time now down t26 t27 (IntKind.wrap .i64 (t28 + 1)) o00 o01 o02
else
zV.L1 N n1 key time now down t26 t27 (IntKind.wrap .i64 (t28 + 1)) o00 o01 o02
else none
else
bif decide (now >= (IntKind.wrap .i64 (time + o00))) then
some (2, IntKind.wrap .i64 (time + o00))
else
some (0, 0) := by kernel_rfl
theorem zV.F_eq (N : Nat) (t : Int × Int × Int) (key : Int) (time : Int) (rest : zBd) (now : Int) : zV.F N (t, key, time, rest, now) =
bindO (yh.F N t) fun r1 =>
bif !r1 then
some (0, 0)
else
bif decide (time < 0) then
some (0, 0)
else
bif decide (time > 1000000) then
some (0, 0)
else
zV.L1 N N key time now 0 rest (rest.length : Int) 0 t.1 t.2.1 t.2.2 := by kernel_rfl
def zAI.x : XFunc := { nslots := 18, nobj := 2, pars := [.val true 4], rowsIn := no 4, rets := [.var 2 true 4], outs := iF 4, fresh := true, arg := .pair (.int .i64) zAj, ret := .pair (.int .i64) zAj, body := .seq (rG [ow 1 (.box 0) [.slot 0] [0] [0], ow 2 (.alloc 1 [cZ, cZ, cZ, cZ]) [] [1] [1]]) (.seq (.block 0 (.seq (rG [lU 4 4 1 0, o1 5 (.call ⟨157, [.val true 4], no 4, [.val false 1], ims 1, true⟩) 4, o1 6 .not 5, mv 3 6]) (.cond (.slot 3) (.seq (rG [lU 7 4 1 0, sT 4 2 7 1]) (.ret)) (.seq (rG [fA 9 0 1, lN 10 9 0, op 11 (.bin .eql) [.slot 10, cI 6], mv 8 11]) (.cond (.slot 8) (.seq (rG [fA 12 2 1, lN 13 12 0, op 14 (.build [cZ, cZ, cZ, cZ] [(0, 1), (2, 1)]) [cI 2, .slot 13], sT 4 2 14 1]) (.ret)) (.skip)))))) (.seq (rG [fA 15 3 1, lN 16 15 0, op 17 (.build [cZ, cZ, cZ, cZ] [(0, 1), (3, 1)]) [cI 3, .slot 16], sT 4 2 17 1]) (.ret))) }
def zAI.env (N : Nat) : Env := envOf (tbl [(157, yA.fs N)] noFS)
def zAI.F (N : Nat) (x : Int × Int × Int × Int) : Option (Int × Int × Int × Int) := XFunc.run zAI.x (zAI.env N) N x
def zAI.fs (N : Nat) : FS := { arg := zAI.x.arg, ret := zAI.x.ret, fresh := true, F := zAI.F N }
theorem zAI.F_eq (N : Nat) (a : Int × Int × Int × Int) : zAI.F N a =
bindO (yA.F N a) fun r1 =>
bif !r1 then
some a
else
bif a.1 == 6 then
some (2, (0, (a.2.2.1, 0)))
else
some (3, (0, (0, a.2.2.2))) := by kernel_rfl
def zAF.x : XFunc := { nslots := 10, nobj := 2, pars := [.val true 4], rowsIn := no 4, rets := [.var 2 true 4], outs := iF 4, fresh := true, arg := .pair (.int .i64) zAj, ret := .pair (.int .i64) zAj, body := .seq (rG [ow 1 (.box 0) [.slot 0] [0] [0], ow 2 (.alloc 1 [cZ, cZ, cZ, cZ]) [] [1] [1]]) (.seq (.seq (rG [lU 3 4 1 0, o1 4 (.call ⟨157, [.val true 4], no 4, [.val false 1], ims 1, true⟩) 3, o1 5 .not 4]) (.cond (.slot 5) (.seq (rG [lU 6 4 1 0, sT 4 2 6 1]) (.ret)) (.skip))) (.seq (rG [fA 7 1 1, lN 8 7 0, op 9 (.build [cZ, cZ, cZ, cZ] [(0, 1), (1, 1)]) [cI 2, .slot 8], sT 4 2 9 1]) (.ret))) }
def zAF.env (N : Nat) : Env := envOf (tbl [(157, yA.fs N)] noFS)
def zAF.F (N : Nat) (x : Int × Int × Int × Int) : Option (Int × Int × Int × Int) := XFunc.run zAF.x (zAF.env N) N x
def zAF.fs (N : Nat) : FS := { arg := zAF.x.arg, ret := zAF.x.ret, fresh := true, F := zAF.F N }
theorem zAF.F_eq (N : Nat) (a : Int × Int × Int × Int) : zAF.F N a =
bindO (yA.F N a) fun r1 =>
bif !r1 then
some a
else
some (2, (a.2.1, (0, 0))) := by kernel_rfl
def yd.x : XFunc := { nslots := 17, nobj := 0, pars := [.val false 1], rowsIn := [none], rets := [.tmp 2 false 1], outs := [.imm], fresh := true, arg := .int .i64, ret := .bool, body := .seq (rG [op 2 .move [cB false]]) (.seq (rG [mv 3 0, op 4 (.bin .geq) [.slot 3, cI 1], sX 5 [.slot 4], gX 6 .move [.slot 0] [] [] 5 true, gX 7 (.bin .leq) [.slot 6, cI 36] [] [] 5 true, op 8 .pick [.slot 5, .slot 7, cB false], sX 9 [.slot 8], gX 10 .move [.slot 0] [] [] 9 false, gX 11 (.bin .eql) [.slot 10, cI 39] [] [] 9 false, op 12 .pick [.slot 9, cB true, .slot 11], sX 13 [.slot 12], gX 14 .move [.slot 0] [] [] 13 false, gX 15 (.bin .eql) [.slot 14, cI 42] [] [] 13 false, op 16 .pick [.slot 13, cB true, .slot 15], mv 2 16]) (.ret)) }
def yd.env (_ : Nat) : Env := envOf (tbl [] noFS)
def yd.F (N : Nat) (x : Int) : Option Bool := XFunc.run yd.x (yd.env N) N x
def yd.fs (N : Nat) : FS := { arg := yd.x.arg, ret := yd.x.ret, fresh := true, F := yd.F N }
theorem yd.F_eq (N : Nat) (code : Int) : yd.F N code =
bif decide (code >= 1) then
bif decide (code <= 36) then
some true
else
bif code == 39 then
some true
else
some (code == 42)
else
bif code == 39 then
some true
else
some (code == 42) := by kernel_rfl
def zAH.x : XFunc := { nslots := 114, nobj := 4, pars := [.box 0 7, .val true 4], rowsIn := [none, none, none, none, some (1, 15), none, none, none, none, none, none], rets := [.var 4 true 4], outs := [.imm, .imm, .imm, .imm, .imm, .imm, .imm, .imm, .own 15, .imm, .imm], fresh := false, arg := .pair T2_30 zAw, ret := .pair zAw T2_30, body := .seq (rG [ow 3 (.box 2) [.slot 1] [2] [2], ow 4 (.alloc 3 [cZ, cZ, cZ, cZ]) [] [3] [3]]) (.seq (.seq (rG [fA 5 0 3, lN 6 5 2]) (.block 0 (.seq (rG [op 8 (.bin .eql) [.slot 6, cI 2], mv 7 8]) (.cond (.slot 7) (.seq (.seq (rG [fA 9 1 3, lN 10 9 2, op 11 (.bin .eql) [.slot 10, cI 0]]) (.cond (.slot 11) (.seq (rG [lU 12 4 3 2, sT 4 4 12 3]) (.ret)) (.skip))) (.seq (.region true [fA 13 2 3, lN 14 13 2, mv 15 0, o1 16 .nilck 15, fA 17 5 16, lN 18 17 0, o2 19 (.bin .or) 14 18, fA 20 2 3, sT 1 20 19 2]) (.seq (rG [mv 21 0, o1 22 .nilck 21, fA 23 5 22, on (.store 1) [.slot 23, cI 0] [0] [0]]) (.seq (rG [mv 24 0, mv 25 0, o1 26 .nilck 25, fA 27 6 26, lN 28 27 0, sX 29 [.slot 28], gX 30 (.fieldAddr 1) [.slot 3] [] [] 29 true, gX 31 (.load false 1) [.slot 30] [2] [] 29 true, ⟨some 32, .call ⟨215, vs 1, no 1, [.val false 1], ims 1, true⟩, [.slot 31], [], [], some (29, true), false, .none⟩, op 33 .pick [.slot 29, .slot 32, cB false], o1 34 .nilck 24, fA 35 6 34, sT 1 35 33 0]) (.seq (rG [mv 36 0, o1 37 .nilck 36, fA 38 6 37, lN 39 38 0, sX 40 [.slot 39], gX 41 (.fieldAddr 1) [.slot 3] [] [] 40 true, gX 42 (.load false 1) [.slot 41] [2] [] 40 true, gX 43 (.bin .leq) [.slot 42, cI 26] [] [] 40 true, op 44 .pick [.slot 40, .slot 43, cB false], sX 45 [.slot 44], gX 46 (.fieldAddr 2) [.slot 3] [] [] 45 true, gX 47 (.load false 1) [.slot 46] [2] [] 45 true, gX 48 (.bin .andNot) [.slot 47, cI 2] [] [] 45 true, gX 49 (.bin .eql) [.slot 48, cI 0] [] [] 45 true, op 50 .pick [.slot 45, .slot 49, cB false]]) (.cond (.slot 50) (rG [fA 51 2 3, on (.store 1) [.slot 51, cI 2] [2] [2]]) (.skip))))))) (.seq (rG [op 53 (.bin .eql) [.slot 6, cI 4], mv 52 53]) (.cond (.slot 52) (.region true [mv 54 0, o1 55 .nilck 54, fA 56 3 55, lN 57 56 0, fA 58 3 3, lN 59 58 2, op 60 (.bin .shl) [cI 1, .slot 59], o2 61 (.bin .xor) 57 60, o1 62 .nilck 54, fA 63 3 62, sT 1 63 61 0]) (.seq (rG [op 65 (.bin .eql) [.slot 6, cI 5], mv 64 65]) (.cond (.slot 64) (rG [mv 66 0, fA 67 3 3, lN 68 67 2, op 69 (.bin .shl) [cI 1, .slot 68], op 70 (.bin .andNot) [.slot 69, cI 1], o1 71 .nilck 66, fA 72 3 71, sT 1 72 70 0]) (.seq (rG [op 74 (.bin .eql) [.slot 6, cI 8], mv 73 74]) (.cond (.slot 73) (.seq (.region true [mv 75 0, o1 76 .nilck 75, fA 77 5 76, lN 78 77 0, fA 79 2 3, lN 80 79 2, o2 81 (.bin .and) 78 80, fA 82 2 3, lN 83 82 2, o2 84 (.bin .eql) 81 83]) (.cond (.slot 84) (.region true [mv 85 0, o1 86 .nilck 85, fA 87 5 86, lN 88 87 0, fA 89 2 3, lN 90 89 2, o2 91 (.bin .andNot) 88 90, o1 92 .nilck 85, fA 93 5 92, sT 1 93 91 0]) (.region true [mv 94 0, o1 95 .nilck 94, fA 96 5 95, lN 97 96 0, fA 98 2 3, lN 99 98 2, o2 100 (.bin .or) 97 99, o1 101 .nilck 94, fA 102 5 101, sT 1 102 100 0]))) (.seq (rG [op 104 (.bin .eql) [.slot 6, cI 10], mv 103 104]) (.cond (.slot 103) (rG [mv 105 0, mv 106 0, o1 107 .nilck 106, fA 108 6 107, lN 109 108 0, o1 110 .not 109, o1 111 .nilck 105, fA 112 6 111, sT 1 112 110 0]) (.skip))))))))))))) (.seq (rG [lU 113 4 3 2, sT 4 4 113 3]) (.ret))), keep := true }
def zAH.env (N : Nat) : Env := envOf (tbl [(215, yd.fs N)] noFS)
def zAH.F (N : Nat) (x : zBy × Int × Int × Int × Int) : Option ((Int × Int × Int × Int) × (Int × List y1) × (List y8) × Int × zAT × Int × Bool) := XFunc.run zAH.x (zAH.env N) N x
def zAH.fs (N : Nat) : FS := { arg := zAH.x.arg, ret := zAH.x.ret, fresh := false, F := zAH.F N, keep := true }
theorem zAH.F_eq (N : Nat) (e : (Int × List y1) × (List y8) × Int × zAT × Int × Bool) (a : Int × Int × Int × Int) : zAH.F N (e, a) =
bif a.1 == 2 then
bif a.2.1 == 0 then
some (a, e)
else
bif e.2.2.2.2.2 then
bindO (yd.F N a.2.1) fun r1 =>
bif r1 then
bif decide (a.2.1 <= 26) then
bif (zA8 .i64 (bitOr .i64 a.2.2.1 e.2.2.2.2.1) 2) == 0 then
some ((a.1, (a.2.1, (2, a.2.2.2))), (e.1, (e.2.1, (e.2.2.1, (e.2.2.2.1, (0, r1))))))
else
some ((a.1, (a.2.1, (bitOr .i64 a.2.2.1 e.2.2.2.2.1, a.2.2.2))), (e.1, (e.2.1, (e.2.2.1, (e.2.2.2.1, (0, r1))))))
else
some ((a.1, (a.2.1, (bitOr .i64 a.2.2.1 e.2.2.2.2.1, a.2.2.2))), (e.1, (e.2.1, (e.2.2.1, (e.2.2.2.1, (0, r1))))))
else
some ((a.1, (a.2.1, (bitOr .i64 a.2.2.1 e.2.2.2.2.1, a.2.2.2))), (e.1, (e.2.1, (e.2.2.1, (e.2.2.2.1, (0, r1))))))
else
some ((a.1, (a.2.1, (bitOr .i64 a.2.2.1 e.2.2.2.2.1, a.2.2.2))), (e.1, (e.2.1, (e.2.2.1, (e.2.2.2.1, (0, false))))))
else
bif a.1 == 4 then
bif decide (0 <= a.2.2.2) then
some (a, (e.1, (e.2.1, (zBa .i64 e.2.2.1 (zBS .i64 1 a.2.2.2), e.2.2.2))))
else none
else
bif a.1 == 5 then
bif decide (0 <= a.2.2.2) then
some (a, (e.1, (e.2.1, (zA8 .i64 (zBS .i64 1 a.2.2.2) 1, e.2.2.2))))
else none
else
bif a.1 == 8 then
bif (zBg .i64 e.2.2.2.2.1 a.2.2.1) == a.2.2.1 then
some (a, (e.1, (e.2.1, (e.2.2.1, (e.2.2.2.1, (zA8 .i64 e.2.2.2.2.1 a.2.2.1, e.2.2.2.2.2))))))
else
some (a, (e.1, (e.2.1, (e.2.2.1, (e.2.2.2.1, (bitOr .i64 e.2.2.2.2.1 a.2.2.1, e.2.2.2.2.2))))))
else
bif a.1 == 10 then
some (a, (e.1, (e.2.1, (e.2.2.1, (e.2.2.2.1, (e.2.2.2.2.1, !e.2.2.2.2.2))))))
else
some (a, e) := by kernel_rfl
def zR.c1 : XCode := .seq (rG [o2 18 (.bin .lss) 17 16]) (.seq (.cond (.slot 18) (.skip) (.exit 0)) (.seq (.block 1 (.seq (rG [o2 19 (.indexAddr zA6) 15 17, o1 20 (.load true 2) 19, ow 8 (.alloc 3 [cZ, cZ]) [] [3] [3], sT 2 8 20 3]) (.seq (rG [fA 21 0 5, lN 22 21 2, fA 23 1 8, lN 24 23 3, o2 25 (.bin .or) 22 24, fA 26 0 5, sT 1 26 25 2]) (rG [mv 27 6, fA 28 0 8, lN 29 28 3, ow 30 (.buildSlice false 4 2 (.int .i64) 1 [(0, 1)] [cZ]) [.slot 29] [4] [4], ow 31 (.append false 5 2 (.int .i64)) (sl [27, 30]) [4, 5] [5], mv 6 31])))) (rG [op 32 (.bin .add) [.slot 17, cI 1], mv 17 32])))
def zR.c2 : XCode := .seq (rG [mv 33 6, ow 34 (.call ⟨203, vs 1, no 1, [.val false 1], [.own 6 2], true⟩) [.slot 33] [5, 6] [6], fA 35 1 5, sT 1 35 34 2]) (.seq (rG [lU 36 2 5 2, sT 2 4 36 1]) (.ret))
def zR.x : XFunc := { nslots := 37, nobj := 7, pars := [.val true 2, .val false 1], rowsIn := no 3, rets := [.var 4 true 2], outs := [.imm, .own 2], fresh := true, arg := .pair zBK (.list zA6), ret := .pair (.int .i64) (.list (.int .i64)), body := .seq (rG [ow 2 (.box 0) [.slot 0] [0] [0], ow 4 (.alloc 1 [cZ, .nil]) [] [1] [1]]) (.seq (rG [fA 9 0 2, lN 10 9 0, o1 11 (.build [cZ, .nil] [(0, 1)]) 10, ow 5 (.alloc 2 [cZ, .nil]) [] [2] [2], sT 2 5 11 2]) (.seq (rG [fA 12 1 2, lN 13 12 0, ow 14 (.call ⟨114, vs 1, no 1, [.val false 1], [.own 5 2], true⟩) [.slot 13] [5] [5], mv 6 14]) (.seq (.seq (rG [mv 15 1, o1 16 .len 15, op 17 .move [cI 0]]) (.block 0 (.loop [.keep [4, 5, 6, 15, 16, 17], .drop 0, .drop 3, .drop 4, .drop 6, .norm] (zR.c1)))) (zR.c2)))) }
def zR.env (N : Nat) : Env := envOf (tbl [(203, za.fs N), (114, ye.fs N)] noFS)
def zR.F (N : Nat) (x : (Int × List Int) × List (Int × Int)) : Option (Int × List Int) := XFunc.run zR.x (zR.env N) N x
def zR.fs (N : Nat) : FS := { arg := zR.x.arg, ret := zR.x.ret, fresh := true, F := zR.F N }
def zR.k2 (N : Nat) : Ex -> S -> Option (Int × List Int) := seqK (fun s => XCode.runK (zR.env N) N (zR.c2) s (XFunc.endK zR.x)) (XFunc.endK zR.x)
def zR.k1 (N : Nat) : Ex -> S -> Option (Int × List Int) := zAh 0 (zR.k2 N)
def zR.L1 (N : Nat) (n1 : Nat) (t15 : List (Int × Int)) (t16 : Int) (t17 : Int) (o20 : Int) (o5 : List Int) : Option (Int × List Int) := loopK [.keep [4, 5, 6, 15, 16, 17], .drop 0, .drop 3, .drop 4, .drop 6, .norm] (fun s k => XCode.runK (zR.env N) N zR.c1 s k) n1
 { t := jK 37 [(4, .one (.ptr 1 0 0)), (5, .one (.ptr 2 0 0)), (6, .one (.ref 5 0 .all)), (15, .one (.sl false zA6 t15)), (16, .one (.int .i64 t16)), (17, .one (.int .i64 t17))], h := [.absent 0, .box 0 false [cZ, .nil], .box 0 false [.int .i64 o20, .nil], .absent 0, .absent 0, .row 0 false true 2 (.int .i64) o5, .absent 0] }
 (zR.k1 N)
theorem zR.L1_eq (N : Nat) (n1 : Nat) (t15 : List (Int × Int)) (t16 : Int) (t17 : Int) (o20 : Int) (o5 : List Int) : zR.L1 N (n1 + 1) t15 t16 t17 o20 o5 =
bif decide (t17 < t16) then
bif zu t17 (t15.length) then
bif decide (o5.length + List.length ([(nth (0, 0) t15 t17).1] : List Int) <= maxN) then
zR.L1 N n1 t15 t16 (IntKind.wrap .i64 (t17 + 1)) (bitOr .i64 o20 ((nth (0, 0) t15 t17).2)) (o5 ++ ([(nth (0, 0) t15 t17).1] : List Int))
else none
else none
else
bindO (za.F N o5) fun r2 =>
some (o20, r2) := by kernel_rfl
theorem zR.F_eq (N : Nat) (r_ : Int × List Int) (l_ : List (Int × Int)) : zR.F N (r_, l_) =
bindO (ye.F N r_.2) fun r1 =>
zR.L1 N N l_ (l_.length : Int) 0 r_.1 r1 := by kernel_rfl
def zJ.c1 : XCode := .seq (rG [o2 25 (.bin .lss) 24 23]) (.seq (.cond (.slot 25) (.skip) (.exit 0)) (.seq (.block 1 (.seq (rG [o2 26 (.indexAddr zAj) 22 24, o1 27 (.load true 3) 26, ow 9 (.alloc 1 [cZ, cZ, cZ]) [] [1] [1], sT 3 9 27 1]) (.seq (rG [fA 28 1 9, lN 29 28 1, fA 30 2 9, lN 31 30 1, o2 32 (.build [cZ, cZ] [(0, 1), (1, 1)]) 29 31, ow 10 (.alloc 2 [cZ, cZ]) [] [2] [2], sT 2 10 32 2]) (.seq (.seq (rG [fA 33 0 9, lN 34 33 1]) (.block 2 (.seq (rG [op 36 (.bin .eql) [.slot 34, cI 0], mv 35 36]) (.cond (.slot 35) (.region true [mv 37 6, lU 38 2 5 0, mv 39 7, ow 40 (.append false 3 14 zA6) [.const (.one (.nil)), .slot 39] [3, 9] [3], lU 41 2 10 2, ow 42 (.buildSlice false 4 14 zA6 1 [(0, 2)] [cZ, cZ]) [.slot 41] [4] [4], ow 43 (.append false 3 14 zA6) (sl [40, 42]) [3, 4] [3], ow 44 (.call ⟨217, [.val true 2, .val false 1], no 3, [.val true 2], ims 2, true⟩) (sl [38, 43]) [3] [], ow 45 (.buildSlice false 5 12 zBK 1 [(0, 2)] [cZ, .nil]) [.slot 44] [5] [5], ow 46 (.append false 6 12 zBK) (sl [37, 45]) [5, 6] [6], mv 6 46]) (.seq (rG [op 48 (.bin .eql) [.slot 34, cI 1], mv 47 48]) (.cond (.slot 47) (rG [mv 49 7, lU 50 2 10 2, ow 51 (.buildSlice false 8 14 zA6 1 [(0, 2)] [cZ, cZ]) [.slot 50] [8] [8], ow 52 (.append false 9 14 zA6) (sl [49, 51]) [8, 9] [9], mv 7 52]) (.seq (rG [op 54 (.bin .eql) [.slot 34, cI 2], mv 53 54]) (.cond (.slot 53) (.seq (rG [mv 55 7, lU 56 2 10 2, ow 57 (.call ⟨165, [.val false 1, .val true 2], no 3, [.val false 1], ims 1, true⟩) (sl [55, 56]) [9] [], mv 11 57]) (.region true [mv 58 7, mv 59 11, ow 60 (.slice zA6 false true) (sl [58, 59]) [9] [], mv 61 7, mv 62 11, op 63 (.bin .add) [.slot 62, cI 1], ow 64 (.slice zA6 true false) (sl [61, 63]) [9] [], ow 65 (.appendDel 9 14 zA6) (sl [60, 64]) [9] [9], mv 7 65])) (.skip))))))))) (rG [mv 66 6, lU 67 2 5 0, mv 68 7, ow 69 (.call ⟨217, [.val true 2, .val false 1], no 3, [.val true 2], ims 2, true⟩) (sl [67, 68]) [9] [], ow 70 (.buildSlice false 7 12 zBK 1 [(0, 2)] [cZ, .nil]) [.slot 69] [7] [7], ow 71 (.append false 6 12 zBK) (sl [66, 70]) [6, 7] [6], mv 6 71]))))) (rG [op 72 (.bin .add) [.slot 24, cI 1], mv 24 72])))
def zJ.c2 : XCode := .seq (rG [mv 73 6, mv 4 73]) (.ret)
def zJ.x : XFunc := { nslots := 74, nobj := 10, pars := [.val false 1, .val false 1], rowsIn := no 2, rets := [.tmp 4 false 1], outs := [.own 12], fresh := true, arg := .pair (.list zBZ) (.list zAj), ret := .list zBK, body := .seq (rG [op 4 .move [.const (.one (.nil))]]) (.seq (.seq (rG [mv 12 0, o1 13 (.call ⟨164, vs 1, no 1, [.val false 1], ims 1, true⟩) 12, o1 14 .not 13, sX 15 [.slot 14], gX 16 .move [.slot 1] [] [] 15 false, ⟨some 17, .call ⟨166, vs 1, no 1, [.val false 1], ims 1, true⟩, [.slot 16], [], [], some (15, false), false, .none⟩, gX 18 .not [.slot 17] [] [] 15 false, op 19 .pick [.slot 15, cB true, .slot 18]]) (.cond (.slot 19) (.seq (rG [op 4 .move [.const (.one (.nil))]]) (.ret)) (.skip))) (.seq (rG [mv 20 0, o1 21 (.call ⟨204, vs 1, no 1, [.val true 2], ims 2, true⟩) 20, ow 5 (.alloc 0 [cZ, .nil]) [] [0] [0], sT 2 5 21 0]) (.seq (rG [op 6 .move [.const (.one (.nil))]]) (.seq (rG [op 7 .move [.const (.one (.nil))]]) (.seq (.seq (rG [mv 22 1, o1 23 .len 22, op 24 .move [cI 0]]) (.block 0 (.loop [.mkrow (.slot 6) 6 12 zBK, .mkrow (.slot 7) 9 14 zA6, .keep [5, 6, 7, 22, 23, 24], .drop 1, .drop 2, .drop 3, .drop 4, .drop 5, .drop 7, .drop 8, .norm] (zJ.c1)))) (zJ.c2)))))) }
def zJ.env (N : Nat) : Env := envOf (tbl [(164, zZ.fs N), (166, zY.fs N), (204, zI.fs N), (165, zx.fs N), (217, zR.fs N)] noFS)
def zJ.F (N : Nat) (x : zAT × List (Int × Int × Int)) : Option zBc := XFunc.run zJ.x (zJ.env N) N x
def zJ.fs (N : Nat) : FS := { arg := zJ.x.arg, ret := zJ.x.ret, fresh := true, F := zJ.F N }
def zJ.k2 (N : Nat) : Ex -> S -> Option zBc := seqK (fun s => XCode.runK (zJ.env N) N (zJ.c2) s (XFunc.endK zJ.x)) (XFunc.endK zJ.x)
def zJ.k1 (N : Nat) : Ex -> S -> Option zBc := zAh 0 (zJ.k2 N)
def zJ.L1 (N : Nat) (n1 : Nat) (t22 : y8) (t23 : Int) (t24 : Int) (o00 : Int) (o01 : List Int) (o6 : zBc) (o9 : List (Int × Int)) : Option zBc := loopK [.mkrow (.slot 6) 6 12 zBK, .mkrow (.slot 7) 9 14 zA6, .keep [5, 6, 7, 22, 23, 24], .drop 1, .drop 2, .drop 3, .drop 4, .drop 5, .drop 7, .drop 8, .norm] (fun s k => XCode.runK (zJ.env N) N zJ.c1 s k) n1
 { t := jK 74 [(5, .one (.ptr 0 0 0)), (6, .one (.ref 6 0 .all)), (7, .one (.ref 9 0 .all)), (22, .one (.sl false zAj t22)), (23, .one (.int .i64 t23)), (24, .one (.int .i64 t24))], h := [.box 0 false [.int .i64 o00, .sl true (.int .i64) o01], .absent 0, .absent 0, .absent 0, .absent 0, .absent 0, .row 0 false true 12 zBK o6, .absent 0, .absent 0, .row 0 false true 14 zA6 o9] }
 (zJ.k1 N)
theorem zJ.L1_eq (N : Nat) (n1 : Nat) (t22 : y8) (t23 : Int) (t24 : Int) (o00 : Int) (o01 : List Int) (o6 : zBc) (o9 : List (Int × Int)) : zJ.L1 N (n1 + 1) t22 t23 t24 o00 o01 o6 o9 =
bif decide (t24 < t23) then
bif zu t24 (t22.length) then
bif ((nth (0, (0, 0)) t22 t24).1) == 0 then
bif decide (o9.length <= maxN) then
bif decide (o9.length + List.length ([((nth (0, (0, 0)) t22 t24).2)] : List (Int × Int)) <= maxN) then
bindO (zR.F N ((o00, o01), o9 ++ ([((nth (0, (0, 0)) t22 t24).2)] : List (Int × Int)))) fun r4 =>
bif decide (o6.length + List.length ([r4] : List (Int × List Int)) <= maxN) then
bindO (zR.F N ((o00, o01), o9)) fun r5 =>
bif decide (List.length (o6 ++ ([r4] : List (Int × List Int))) + List.length ([r5] : List (Int × List Int)) <= maxN) then
zJ.L1 N n1 t22 t23 (IntKind.wrap .i64 (t24 + 1)) o00 o01 ((o6 ++ ([r4] : List (Int × List Int))) ++ ([r5] : List (Int × List Int))) o9
else none
else none
else none
else none
else
bif ((nth (0, (0, 0)) t22 t24).1) == 1 then
bif decide (o9.length + List.length ([((nth (0, (0, 0)) t22 t24).2)] : List (Int × Int)) <= maxN) then
bindO (zR.F N ((o00, o01), o9 ++ ([((nth (0, (0, 0)) t22 t24).2)] : List (Int × Int)))) fun r6 =>
bif decide (o6.length + List.length ([r6] : List (Int × List Int)) <= maxN) then
zJ.L1 N n1 t22 t23 (IntKind.wrap .i64 (t24 + 1)) o00 o01 (o6 ++ ([r6] : List (Int × List Int))) (o9 ++ ([((nth (0, (0, 0)) t22 t24).2)] : List (Int × Int)))
else none
else none
else
bif ((nth (0, (0, 0)) t22 t24).1) == 2 then
bindO (zx.F N (o9, ((nth (0, (0, 0)) t22 t24).2))) fun r7 =>
bif decide (0 <= r7) && decide (r7 <= (o9.length : Int)) then
bif decide (0 <= IntKind.wrap .i64 (r7 + 1)) && decide (IntKind.wrap .i64 (r7 + 1) <= (o9.length : Int)) then
bif decide ((Int.toNat r7) <= (Int.toNat (IntKind.wrap .i64 (r7 + 1)))) && decide (o9.length <= maxN) then
bindO (zR.F N ((o00, o01), List.take (Int.toNat r7) o9 ++ List.drop (Int.toNat (IntKind.wrap .i64 (r7 + 1))) o9)) fun r8 =>
bif decide (o6.length + List.length ([r8] : List (Int × List Int)) <= maxN) then
zJ.L1 N n1 t22 t23 (IntKind.wrap .i64 (t24 + 1)) o00 o01 (o6 ++ ([r8] : List (Int × List Int))) (List.take (Int.toNat r7) o9 ++ List.drop (Int.toNat (IntKind.wrap .i64 (r7 + 1))) o9)
else none
else none
else none
else none
else
bindO (zR.F N ((o00, o01), o9)) fun r9 =>
bif decide (o6.length + List.length ([r9] : List (Int × List Int)) <= maxN) then
zJ.L1 N n1 t22 t23 (IntKind.wrap .i64 (t24 + 1)) o00 o01 (o6 ++ ([r9] : List (Int × List Int))) o9
else none
else none
else
some o6 := by kernel_rfl
theorem zJ.F_eq (N : Nat) (l_ : zAT) (steps : y8) : zJ.F N (l_, steps) =
bindO (zZ.F N l_) fun r1 =>
bif !r1 then
some ([] : List (Int × List Int))
else
bindO (zY.F N steps) fun r2 =>
bif !r2 then
some ([] : List (Int × List Int))
else
bindO (zI.F N l_) fun r3 =>
zJ.L1 N N steps (steps.length : Int) 0 r3.1 r3.2 ([] : List (Int × List Int)) ([] : List (Int × Int)) := by kernel_rfl
def yu.x : XFunc := { nslots := 79, nobj := 9, pars := [.val true 7, .val false 1, .val false 1], rowsIn := no 9, rets := [.var 6 true 7, .tmp 7 false 1], outs := [.imm, .imm, .imm, .imm, .own 15, .imm, .imm, .imm], fresh := false, arg := .pair T2_30 (.pair (.int .i64) (.bool)), ret := .pair T2_30 (.list zBK), body := .seq (rG [ow 3 (.box 0) [.slot 0] [0] [0], ow 6 (.alloc 1 [cZ, .nil, .nil, cZ, .nil, cZ, .bool false]) [] [1] [1], op 7 .move [.const (.one (.nil))]]) (.seq (rG [lU 12 7 3 0, ow 13 (.call ⟨171, [.val true 7], no 7, [.val true 7], [.imm, .imm, .imm, .imm, .own 4 15, .imm, .imm], true⟩) [.slot 12] [4] [4], ow 8 (.alloc 2 [cZ, .nil, .nil, cZ, .nil, cZ, .bool false]) [] [2] [2], sT 7 8 13 2]) (.seq (rG [fA 14 3 3, lN 15 14 0, fA 16 4 3, lN 17 16 0, o2 18 (.call ⟨209, vs 2, no 2, [.val false 1], ims 1, true⟩) 15 17, mv 9 18]) (.seq (.region true [fA 19 0 3, fA 20 1 19, lN 21 20 0, fA 22 0 3, lU 23 2 22 0, mv 24 9, mv 25 1, op 26 (.call ⟨210, [.val true 2, .val false 1, .val false 1], no 4, [.val false 1], ims 1, true⟩) (sl [23, 24, 25]), o2 27 (.indexAddr (.list zAw)) 21 26, o1 28 (.load false 1) 27, mv 29 1, o2 30 (.indexAddr zAw) 28 29, o1 31 (.load true 4) 30, ow 10 (.alloc 3 [cZ, cZ, cZ, cZ]) [] [3] [3], sT 4 10 31 3]) (.seq (.seq (rG [mv 32 2]) (.cond (.slot 32) (rG [lU 33 4 10 3, o1 34 (.call ⟨214, [.val true 4], no 4, [.val true 4], ims 4, true⟩) 33, sT 4 10 34 3]) (rG [lU 35 4 10 3, o1 36 (.call ⟨158, [.val true 4], no 4, [.val true 4], ims 4, true⟩) 35, sT 4 10 36 3]))) (.seq (rG [lU 37 4 10 3, ow 38 (.call ⟨216, [.box 2 7, .val true 4], [none, none, none, none, some (4, 15), none, none, none, none, none, none], [.val true 4], [.imm, .imm, .imm, .imm, .imm, .imm, .imm, .imm, .own 4 15, .imm, .imm], false⟩) (sl [8, 37]) [2, 4] [2, 4], sT 4 10 38 3]) (.seq (rG [fA 39 4 8, lN 40 39 2, mv 41 1, lU 42 4 10 3, o2 43 (.build [cZ, cZ, cZ, cZ, cZ] [(0, 1), (1, 4)]) 41 42, ow 44 (.buildSlice false 6 15 zBZ 1 [(0, 5)] [cZ, cZ, cZ, cZ, cZ]) [.slot 43] [6] [6], ow 45 (.append false 4 15 zBZ) (sl [40, 44]) [4, 6] [4], fA 46 4 8, sT 1 46 45 2]) (.seq (rG [op 11 .move [.const (.one (.nil))]]) (.seq (.seq (rG [fA 47 0 10, lN 48 47 3, op 49 (.bin .eql) [.slot 48, cI 9], sX 50 [.slot 49], gX 51 (.fieldAddr 3) [.slot 10] [] [] 50 true, gX 52 (.load false 1) [.slot 51] [3] [] 50 true, gX 53 (.fieldAddr 2) [.slot 3] [] [] 50 true, gX 54 (.load false 1) [.slot 53] [0] [] 50 true, gX 55 .len [.slot 54] [] [] 50 true, gX 56 (.bin .lss) (sl [52, 55]) [] [] 50 true, op 57 .pick [.slot 50, .slot 56, cB false]]) (.cond (.slot 57) (.region true [fA 58 4 8, lN 59 58 2, fA 60 2 3, lN 61 60 0, fA 62 3 10, lN 63 62 3, o2 64 (.indexAddr (.list zAj)) 61 63, o1 65 (.load false 1) 64, ow 66 (.call ⟨218, vs 2, no 2, [.val false 1], [.own 8 12], true⟩) (sl [59, 65]) [4, 8] [8], mv 11 66]) (.skip))) (.seq (rG [mv 67 11, fA 68 4 8, lN 69 68 2, ow 70 (.call ⟨204, vs 1, no 1, [.val true 2], ims 2, true⟩) [.slot 69] [4] [], ow 71 (.buildSlice false 7 12 zBK 1 [(0, 2)] [cZ, .nil]) [.slot 70] [7] [7], ow 72 (.append false 8 12 zBK) (sl [67, 71]) [7, 8] [8], mv 11 72]) (.seq (.adj [.freeze 8] (.region true [lU 73 7 8 2, fA 74 4 3, lN 75 74 0, o1 76 (.call ⟨204, vs 1, no 1, [.val true 2], ims 2, true⟩) 75, mv 77 11, o2 78 (.call ⟨207, [.val true 2, .val false 1], no 3, [.val false 1], ims 1, false⟩) 76 77, sT 7 6 73 1, mv 7 78])) (.ret))))))))))) }
def yu.env (N : Nat) : Env := envOf (tbl [(214, zAI.fs N), (209, zU.fs N), (218, zJ.fs N), (204, zI.fs N), (158, zAF.fs N), (207, zC.fs N), (171, zk.fs N), (210, zd.fs N), (216, zAH.fs N)] noFS)
def yu.F (N : Nat) (x : zBy × Int × Bool) : Option (zBy × List (Int × List Int)) := XFunc.run yu.x (yu.env N) N x
def yu.fs (N : Nat) : FS := { arg := yu.x.arg, ret := yu.x.ret, fresh := false, F := yu.F N }
theorem yu.F_eq (N : Nat) (e : (Int × List y1) × (List y8) × Int × zAT × Int × Bool) (key : Int) (hold : Bool) : yu.F N (e, key, hold) =
bindO (zk.F N e) fun r1 =>
bindO (zU.F N (e.2.2.1, e.2.2.2.1)) fun r2 =>
bindO (zd.F N (e.1, (r2, key))) fun r3 =>
bif zu r3 (List.length e.1.2) then
bif zu key (List.length (nth ([] : List (Int × Int × Int × Int)) e.1.2 r3)) then
bif hold then
bindO (zAI.F N ((nth (0, (0, (0, 0))) (nth ([] : List (Int × Int × Int × Int)) e.1.2 r3) key).1, (((nth (0, (0, (0, 0))) (nth ([] : List (Int × Int × Int × Int)) e.1.2 r3) key).2).1, (((nth (0, (0, (0, 0))) (nth ([] : List (Int × Int × Int × Int)) e.1.2 r3) key).2).2)))) fun r4 =>
bindO (zAH.F N (r1, r4)) fun r5 =>
bif decide (List.length r5.2.2.2.2.1 + List.length ([(key, r5.1)] : List (Int × Int × Int × Int × Int)) <= maxN) then
bif r5.1.1 == 9 then
bif decide (r5.1.2.2.2 < (List.length e.2.1 : Int)) then
bif zu r5.1.2.2.2 (List.length e.2.1) then
bindO (zJ.F N (r5.2.2.2.2.1 ++ ([(key, r5.1)] : List (Int × Int × Int × Int × Int)), nth ([] : List (Int × Int × Int)) e.2.1 r5.1.2.2.2)) fun r6 =>
bindO (zI.F N (r5.2.2.2.2.1 ++ ([(key, r5.1)] : List (Int × Int × Int × Int × Int)))) fun r7 =>
bif decide (r6.length + List.length ([r7] : List (Int × List Int)) <= maxN) then
bindO (zI.F N e.2.2.2.1) fun r8 =>
bindO (zC.F N (r8, r6 ++ ([r7] : List (Int × List Int)))) fun r9 =>
some ((r5.2.1, (r5.2.2.1, (r5.2.2.2.1, (r5.2.2.2.2.1 ++ ([(key, r5.1)] : List (Int × Int × Int × Int × Int)), r5.2.2.2.2.2)))), r9)
else none
else none
else
bindO (zI.F N (r5.2.2.2.2.1 ++ ([(key, r5.1)] : List (Int × Int × Int × Int × Int)))) fun r10 =>
bif decide (List.length ([r10] : List (Int × List Int)) <= maxN) then
bindO (zI.F N e.2.2.2.1) fun r11 =>
bindO (zC.F N (r11, ([r10] : List (Int × List Int)))) fun r12 =>
some ((r5.2.1, (r5.2.2.1, (r5.2.2.2.1, (r5.2.2.2.2.1 ++ ([(key, r5.1)] : List (Int × Int × Int × Int × Int)), r5.2.2.2.2.2)))), r12)
else none
else
bindO (zI.F N (r5.2.2.2.2.1 ++ ([(key, r5.1)] : List (Int × Int × Int × Int × Int)))) fun r13 =>
bif decide (List.length ([r13] : List (Int × List Int)) <= maxN) then
bindO (zI.F N e.2.2.2.1) fun r14 =>
bindO (zC.F N (r14, ([r13] : List (Int × List Int)))) fun r15 =>
some ((r5.2.1, (r5.2.2.1, (r5.2.2.2.1, (r5.2.2.2.2.1 ++ ([(key, r5.1)] : List (Int × Int × Int × Int × Int)), r5.2.2.2.2.2)))), r15)
else none
else none
else
bindO (zAF.F N ((nth (0, (0, (0, 0))) (nth ([] : List (Int × Int × Int × Int)) e.1.2 r3) key).1, (((nth (0, (0, (0, 0))) (nth ([] : List (Int × Int × Int × Int)) e.1.2 r3) key).2).1, (((nth (0, (0, (0, 0))) (nth ([] : List (Int × Int × Int × Int)) e.1.2 r3) key).2).2)))) fun r16 =>
bindO (zAH.F N (r1, r16)) fun r17 =>
bif decide (List.length r17.2.2.2.2.1 + List.length ([(key, r17.1)] : List (Int × Int × Int × Int × Int)) <= maxN) then
bif r17.1.1 == 9 then
bif decide (r17.1.2.2.2 < (List.length e.2.1 : Int)) then
bif zu r17.1.2.2.2 (List.length e.2.1) then
bindO (zJ.F N (r17.2.2.2.2.1 ++ ([(key, r17.1)] : List (Int × Int × Int × Int × Int)), nth ([] : List (Int × Int × Int)) e.2.1 r17.1.2.2.2)) fun r18 =>
bindO (zI.F N (r17.2.2.2.2.1 ++ ([(key, r17.1)] : List (Int × Int × Int × Int × Int)))) fun r19 =>
bif decide (r18.length + List.length ([r19] : List (Int × List Int)) <= maxN) then
bindO (zI.F N e.2.2.2.1) fun r20 =>
bindO (zC.F N (r20, r18 ++ ([r19] : List (Int × List Int)))) fun r21 =>
some ((r17.2.1, (r17.2.2.1, (r17.2.2.2.1, (r17.2.2.2.2.1 ++ ([(key, r17.1)] : List (Int × Int × Int × Int × Int)), r17.2.2.2.2.2)))), r21)
else none
else none
else
bindO (zI.F N (r17.2.2.2.2.1 ++ ([(key, r17.1)] : List (Int × Int × Int × Int × Int)))) fun r22 =>
bif decide (List.length ([r22] : List (Int × List Int)) <= maxN) then
bindO (zI.F N e.2.2.2.1) fun r23 =>
bindO (zC.F N (r23, ([r22] : List (Int × List Int)))) fun r24 =>
some ((r17.2.1, (r17.2.2.1, (r17.2.2.2.1, (r17.2.2.2.2.1 ++ ([(key, r17.1)] : List (Int × Int × Int × Int × Int)), r17.2.2.2.2.2)))), r24)
else none
else
bindO (zI.F N (r17.2.2.2.2.1 ++ ([(key, r17.1)] : List (Int × Int × Int × Int × Int)))) fun r25 =>
bif decide (List.length ([r25] : List (Int × List Int)) <= maxN) then
bindO (zI.F N e.2.2.2.1) fun r26 =>
bindO (zC.F N (r26, ([r25] : List (Int × List Int)))) fun r27 =>
some ((r17.2.1, (r17.2.2.1, (r17.2.2.2.1, (r17.2.2.2.2.1 ++ ([(key, r17.1)] : List (Int × Int × Int × Int × Int)), r17.2.2.2.2.2)))), r27)
else none
else none
else none
else none := by kernel_rfl
def zv.x : XFunc := { nslots := 170, nobj := 3, pars := [.box 0 15], rowsIn := no 15, rets := [.tmp 2 false 1, .tmp 3 false 1], outs := iF 17, fresh := false, arg := .pair T2_30 T9_30, ret := .pair (.list zBK) (.pair (.bool) (.pair T2_30 T9_30)), body := .seq (rG [op 2 .move [.const (.one (.nil))], op 3 .move [cB false]]) (.seq (rG [mv 12 0, o1 13 .nilck 12, fA 14 10 13, lN 15 14 0, op 16 (.indexAddr T4_30) [.slot 15, cI 0], o1 17 (.load true 3) 16, ow 4 (.alloc 1 [cZ, cZ, .bool false]) [] [1] [1], sT 3 4 17 1]) (.seq (rG [mv 18 0, o1 19 .nilck 18, fA 20 10 19, lN 21 20 0, op 22 (.slice T4_30 true false) [.slot 21, cI 1], mv 5 22]) (.seq (.region true [mv 23 0, o1 24 .nilck 23, fA 25 12 24, lN 26 25 0, fA 27 0 4, lN 28 27 1, o2 29 .max 26 28, mv 6 29]) (.seq (rG [op 7 .move [.const (.one (.nil))]]) (.seq (.seq (rG [fA 30 2 4, lN 31 30 1, o1 32 .not 31]) (.cond (.slot 32) (.seq (.seq (.region true [mv 33 0, o1 34 .nilck 33, fA 35 13 34, lN 36 35 0, fA 37 1 4, lN 38 37 1, op 39 (.bin .add) [.slot 38, cI 1], o2 40 (.bin .eql) 36 39]) (.cond (.slot 40) (rG [mv 41 0, fA 42 0 4, lN 43 42 1, o1 44 .nilck 41, fA 45 14 44, sT 1 45 43 0]) (.skip))) (.region true [mv 47 0, mv 48 0, o1 49 .nilck 48, fA 50 0 49, lU 51 7 50 0, fA 52 1 4, lN 53 52 1, o2 54 (.call ⟨208, [.val true 7, .val false 1], no 8, [.val true 7, .val false 1], ims 8, false⟩) 51 53, mv 46 54, eX 55 0 46, eX 56 1 46, o1 57 .nilck 47, fA 58 0 57, sT 7 58 55 0, mv 7 56])) (.seq (.region true [mv 59 0, o1 60 .nilck 59, fA 61 0 60, fA 62 3 61, lN 63 62 0, mv 64 0, o1 65 .nilck 64, fA 66 0 65, fA 67 4 66, lN 68 67 0, o2 69 (.call ⟨209, vs 2, no 2, [.val false 1], ims 1, true⟩) 63 68, mv 8 69]) (.seq (rG [op 9 .move [cB false]]) (.seq (.seq (.region true [mv 70 0, o1 71 .nilck 70, fA 72 0 71, fA 73 0 72, lU 74 2 73 0, mv 75 8, fA 76 1 4, lN 77 76 1, op 78 (.call ⟨212, [.val true 2, .val false 1, .val false 1], no 4, [.val true 4], ims 4, true⟩) (sl [74, 75, 77]), o1 79 (.call ⟨157, [.val true 4], no 4, [.val false 1], ims 1, true⟩) 78]) (.cond (.slot 79) (.seq (.region true [fA 80 0 4, lN 81 80 1, op 10 .move [cI 1], mv 11 81]) (.seq (.seq (.region true [mv 82 0, o1 83 .nilck 82, fA 84 13 83, lN 85 84 0, fA 86 1 4, lN 87 86 1, op 88 (.bin .add) [.slot 87, cI 1], o2 89 (.bin .neq) 85 88, sX 90 [.slot 89], gX 91 (.fieldAddr 0) [.slot 4] [] [] 90 false, gX 92 (.load false 1) [.slot 91] [1] [] 90 false, gX 93 .move [.slot 0] [] [] 90 false, gX 94 .nilck [.slot 93] [] [] 90 false, gX 95 (.fieldAddr 14) [.slot 94] [] [] 90 false, gX 96 (.load false 1) [.slot 95] [0] [] 90 false, gX 97 (.bin .sub) (sl [92, 96]) [] [] 90 false, gX 98 .move [.slot 0] [] [] 90 false, gX 99 .nilck [.slot 98] [] [] 90 false, gX 100 (.fieldAddr 7) [.slot 99] [] [] 90 false, gX 101 (.fieldAddr 1) [.slot 100] [] [] 90 false, gX 102 (.load false 1) [.slot 101] [0] [] 90 false, gX 103 (.bin .geq) (sl [97, 102]) [] [] 90 false, op 104 .pick [.slot 90, cB true, .slot 103]]) (.cond (.slot 104) (.region true [mv 106 0, o1 107 .nilck 106, fA 108 7 107, lU 109 3 108 0, fA 110 1 4, lN 111 110 1, fA 112 0 4, lN 113 112 1, mv 114 5, mv 115 0, o1 116 .nilck 115, fA 117 11 116, lN 118 117 0, op 119 (.call ⟨213, [.val true 3, .val false 1, .val false 1, .val false 1, .val false 1], no 7, (rB 2), ims 2, true⟩) (sl [109, 111, 113, 114, 118]), mv 105 119, eX 120 0 105, eX 121 1 105, mv 10 120, mv 11 121]) (.skip))) (.seq (.seq (rG [mv 122 10]) (.block 0 (.seq (rG [op 124 (.bin .eql) [.slot 122, cI 0], mv 123 124]) (.cond (.slot 123) (.seq (rG [op 2 .move [.const (.one (.nil))], op 3 .move [cB false]]) (.ret)) (.seq (rG [op 126 (.bin .eql) [.slot 122, cI 1], mv 125 126]) (.cond (.slot 125) (.region true [mv 127 0, mv 128 0, fA 129 1 4, lN 130 129 1, op 131 (.bin .add) [.slot 130, cI 1], fA 132 0 4, lN 133 132 1, o1 134 .nilck 127, fA 135 13 134, sT 1 135 131 0, o1 136 .nilck 128, fA 137 14 136, sT 1 137 133 0]) (.seq (rG [op 139 (.bin .eql) [.slot 122, cI 2], mv 138 139]) (.cond (.slot 138) (.seq (rG [mv 140 0, o1 141 .nilck 140, fA 142 13 141, on (.store 1) [.slot 142, cI 0] [0] [0]]) (rG [op 9 .move [cB true]])) (.skip))))))))) (rG [mv 143 6, mv 144 11, o2 145 .max 143 144, mv 6 145])))) (.skip))) (.region true [mv 147 0, mv 148 0, o1 149 .nilck 148, fA 150 0 149, lU 151 7 150 0, fA 152 1 4, lN 153 152 1, mv 154 9, op 155 (.call ⟨219, [.val true 7, .val false 1, .val false 1], no 9, [.val true 7, .val false 1], ims 8, false⟩) (sl [151, 153, 154]), mv 146 155, eX 156 0 146, eX 157 1 146, o1 158 .nilck 147, fA 159 0 158, sT 7 159 156 0, mv 7 157])))))) (.seq (rG [mv 160 0, mv 161 6, o1 162 .nilck 160, fA 163 12 162, sT 1 163 161 0]) (.seq (rG [mv 164 0, mv 165 5, ow 166 (.append false 2 4 T4_30) [.const (.one (.nil)), .slot 165] [2] [2], o1 167 .nilck 164, fA 168 10 167, sT 1 168 166 0]) (.seq (rG [mv 169 7, mv 2 169, op 3 .move [cB true]]) (.ret))))))))) }
def zv.env (N : Nat) : Env := envOf (tbl [(212, yz.fs N), (213, zV.fs N), (157, yA.fs N), (209, zU.fs N), (219, yu.fs N), (208, yp.fs N)] noFS)
def zv.F (N : Nat) (x : zBy × (Int × Int × Int) × zBd × Int × Int × Int × Int) : Option (zBc × Bool × zBy × (Int × Int × Int) × zBd × Int × Int × Int × Int) := XFunc.run zv.x (zv.env N) N x
def zv.fs (N : Nat) : FS := { arg := zv.x.arg, ret := zv.x.ret, fresh := false, F := zv.F N }
theorem zv.F_eq (N : Nat) (d : zBy × (Int × Int × Int) × zBd × Int × Int × Int × Int) : zv.F N d =
bif zu 0 (List.length d.2.2.1) then
bif decide (0 <= (1 : Int)) && decide (1 <= (List.length d.2.2.1 : Int)) then
bif !(((nth (0, (0, false)) d.2.2.1 0).2).2) then
bif d.2.2.2.2.2.1 == (IntKind.wrap .i64 ((((nth (0, (0, false)) d.2.2.1 0).2).1) + 1)) then
bindO (yp.F N (d.1, ((nth (0, (0, false)) d.2.2.1 0).2).1)) fun r1 =>
bif decide (List.length (List.drop 1 d.2.2.1) <= maxN) then
some (r1.2, (true, (r1.1, (d.2.1, (List.drop 1 d.2.2.1, (d.2.2.2.1, (maxI d.2.2.2.2.1 ((nth (0, (0, false)) d.2.2.1 0).1), (d.2.2.2.2.2.1, (nth (0, (0, false)) d.2.2.1 0).1))))))))
else none
else
bindO (yp.F N (d.1, ((nth (0, (0, false)) d.2.2.1 0).2).1)) fun r2 =>
bif decide (List.length (List.drop 1 d.2.2.1) <= maxN) then
some (r2.2, (true, (r2.1, (d.2.1, (List.drop 1 d.2.2.1, (d.2.2.2.1, (maxI d.2.2.2.2.1 ((nth (0, (0, false)) d.2.2.1 0).1), d.2.2.2.2.2)))))))
else none
else
bindO (zU.F N (d.1.2.2.1, d.1.2.2.2.1)) fun r3 =>
bindO (yz.F N (d.1.1, (r3, ((nth (0, (0, false)) d.2.2.1 0).2).1))) fun r4 =>
bindO (yA.F N r4) fun r5 =>
bif r5 then
bif d.2.2.2.2.2.1 != (IntKind.wrap .i64 ((((nth (0, (0, false)) d.2.2.1 0).2).1) + 1)) then
bindO (zV.F N (d.2.1, (((nth (0, (0, false)) d.2.2.1 0).2).1, ((nth (0, (0, false)) d.2.2.1 0).1, (List.drop 1 d.2.2.1, d.2.2.2.1))))) fun r6 =>
bif r6.1 == 0 then
some (([] : List (Int × List Int)), (false, d))
else
bif r6.1 == 1 then
bindO (yu.F N (d.1, (((nth (0, (0, false)) d.2.2.1 0).2).1, false))) fun r7 =>
bif decide (List.length (List.drop 1 d.2.2.1) <= maxN) then
some (r7.2, (true, (r7.1, (d.2.1, (List.drop 1 d.2.2.1, (d.2.2.2.1, (maxI (maxI d.2.2.2.2.1 ((nth (0, (0, false)) d.2.2.1 0).1)) r6.2, (IntKind.wrap .i64 ((((nth (0, (0, false)) d.2.2.1 0).2).1) + 1), (nth (0, (0, false)) d.2.2.1 0).1))))))))
else none
else
bif r6.1 == 2 then
bindO (yu.F N (d.1, (((nth (0, (0, false)) d.2.2.1 0).2).1, true))) fun r8 =>
bif decide (List.length (List.drop 1 d.2.2.1) <= maxN) then
some (r8.2, (true, (r8.1, (d.2.1, (List.drop 1 d.2.2.1, (d.2.2.2.1, (maxI (maxI d.2.2.2.2.1 ((nth (0, (0, false)) d.2.2.1 0).1)) r6.2, (0, d.2.2.2.2.2.2))))))))
else none
else
bindO (yu.F N (d.1, (((nth (0, (0, false)) d.2.2.1 0).2).1, false))) fun r9 =>
bif decide (List.length (List.drop 1 d.2.2.1) <= maxN) then
some (r9.2, (true, (r9.1, (d.2.1, (List.drop 1 d.2.2.1, (d.2.2.2.1, (maxI (maxI d.2.2.2.2.1 ((nth (0, (0, false)) d.2.2.1 0).1)) r6.2, d.2.2.2.2.2)))))))
else none
else
bif decide ((IntKind.wrap .i64 (((nth (0, (0, false)) d.2.2.1 0).1) - d.2.2.2.2.2.2)) >= d.2.1.2.1) then
bindO (zV.F N (d.2.1, (((nth (0, (0, false)) d.2.2.1 0).2).1, ((nth (0, (0, false)) d.2.2.1 0).1, (List.drop 1 d.2.2.1, d.2.2.2.1))))) fun r10 =>
bif r10.1 == 0 then
some (([] : List (Int × List Int)), (false, d))
else
bif r10.1 == 1 then
bindO (yu.F N (d.1, (((nth (0, (0, false)) d.2.2.1 0).2).1, false))) fun r11 =>
bif decide (List.length (List.drop 1 d.2.2.1) <= maxN) then
some (r11.2, (true, (r11.1, (d.2.1, (List.drop 1 d.2.2.1, (d.2.2.2.1, (maxI (maxI d.2.2.2.2.1 ((nth (0, (0, false)) d.2.2.1 0).1)) r10.2, (IntKind.wrap .i64 ((((nth (0, (0, false)) d.2.2.1 0).2).1) + 1), (nth (0, (0, false)) d.2.2.1 0).1))))))))
else none
else
bif r10.1 == 2 then
bindO (yu.F N (d.1, (((nth (0, (0, false)) d.2.2.1 0).2).1, true))) fun r12 =>
bif decide (List.length (List.drop 1 d.2.2.1) <= maxN) then
some (r12.2, (true, (r12.1, (d.2.1, (List.drop 1 d.2.2.1, (d.2.2.2.1, (maxI (maxI d.2.2.2.2.1 ((nth (0, (0, false)) d.2.2.1 0).1)) r10.2, (0, d.2.2.2.2.2.2))))))))
else none
else
bindO (yu.F N (d.1, (((nth (0, (0, false)) d.2.2.1 0).2).1, false))) fun r13 =>
bif decide (List.length (List.drop 1 d.2.2.1) <= maxN) then
some (r13.2, (true, (r13.1, (d.2.1, (List.drop 1 d.2.2.1, (d.2.2.2.1, (maxI (maxI d.2.2.2.2.1 ((nth (0, (0, false)) d.2.2.1 0).1)) r10.2, d.2.2.2.2.2)))))))
else none
else
bindO (yu.F N (d.1, (((nth (0, (0, false)) d.2.2.1 0).2).1, false))) fun r14 =>
bif decide (List.length (List.drop 1 d.2.2.1) <= maxN) then
some (r14.2, (true, (r14.1, (d.2.1, (List.drop 1 d.2.2.1, (d.2.2.2.1, (maxI (maxI d.2.2.2.2.1 ((nth (0, (0, false)) d.2.2.1 0).1)) ((nth (0, (0, false)) d.2.2.1 0).1), (IntKind.wrap .i64 ((((nth (0, (0, false)) d.2.2.1 0).2).1) + 1), (nth (0, (0, false)) d.2.2.1 0).1))))))))
else none
else
bindO (yu.F N (d.1, (((nth (0, (0, false)) d.2.2.1 0).2).1, false))) fun r15 =>
bif decide (List.length (List.drop 1 d.2.2.1) <= maxN) then
some (r15.2, (true, (r15.1, (d.2.1, (List.drop 1 d.2.2.1, (d.2.2.2.1, (maxI d.2.2.2.2.1 ((nth (0, (0, false)) d.2.2.1 0).1), d.2.2.2.2.2)))))))
else none
else none
else none := by kernel_rfl
def yi.c1 : XCode := .seq (rG [o2 12 (.bin .lss) 11 10]) (.seq (.cond (.slot 12) (.skip) (.exit 0)) (.seq (.block 1 (.seq (rG [o2 13 (.indexAddr zBK) 9 11, o1 14 (.load true 2) 13, ow 8 (.alloc 0 [cZ, .nil]) [] [0] [0], sT 2 8 14 0]) (rG [mv 15 0, mv 16 1, lU 17 2 8 0, o2 18 (.build [cZ, cZ, .nil] [(0, 1), (1, 2)]) 16 17, ow 19 (.buildSlice false 1 13 T12_30 1 [(0, 3)] [cZ, cZ, .nil]) [.slot 18] [1] [1], ow 20 (.append false 2 13 T12_30) (sl [15, 19]) [1, 2] [2], mv 0 20]))) (rG [op 21 (.bin .add) [.slot 11, cI 1], mv 11 21])))
def yi.c2 : XCode := .seq (rG [mv 22 0, mv 6 22]) (.ret)
def yi.x : XFunc := { nslots := 23, nobj := 3, pars := [.val false 1, .val false 1, .val false 1], rowsIn := [some (2, 13), none, none], rets := [.tmp 6 false 1], outs := [.own 13], fresh := false, arg := .pair (.list T12_30) (.pair (.int .i64) (.list zBK)), ret := .list T12_30, body := .seq (rG [op 6 .move [.const (.one (.nil))]]) (.seq (.seq (rG [mv 9 2, o1 10 .len 9, op 11 .move [cI 0]]) (.block 0 (.loop [.away 2, .keep [0, 1, 9, 10, 11], .drop 0, .drop 1, .norm] (yi.c1)))) (yi.c2)) }
def yi.env (_ : Nat) : Env := envOf (tbl [] noFS)
def yi.F (N : Nat) (x : zCF × Int × List (Int × List Int)) : Option zCF := XFunc.run yi.x (yi.env N) N x
def yi.fs (N : Nat) : FS := { arg := yi.x.arg, ret := yi.x.ret, fresh := false, F := yi.F N }
def yi.k2 (N : Nat) : Ex -> S -> Option zCF := seqK (fun s => XCode.runK (yi.env N) N (yi.c2) s (XFunc.endK yi.x)) (XFunc.endK yi.x)
def yi.k1 (N : Nat) : Ex -> S -> Option zCF := zAh 0 (yi.k2 N)
def yi.L1 (N : Nat) (n1 : Nat) (time : Int) (t9 : zBc) (t10 : Int) (t11 : Int) (o2 : zCF) : Option zCF := loopK [.away 2, .keep [0, 1, 9, 10, 11], .drop 0, .drop 1, .norm] (fun s k => XCode.runK (yi.env N) N yi.c1 s k) n1
 { t := jK 23 [(0, .one (.ref 2 0 .all)), (1, .one (.int .i64 time)), (9, .one (.sl false zBK t9)), (10, .one (.int .i64 t10)), (11, .one (.int .i64 t11))], h := [.absent 0, .absent 0, .row 0 false false 13 T12_30 o2] }
 (yi.k1 N)
theorem yi.L1_eq (N : Nat) (n1 : Nat) (time : Int) (t9 : zBc) (t10 : Int) (t11 : Int) (o2 : zCF) : yi.L1 N (n1 + 1) time t9 t10 t11 o2 =
bif decide (t11 < t10) then
bif zu t11 (t9.length) then
bif decide (o2.length + List.length ([(time, (nth (0, ([] : List Int)) t9 t11))] : List (Int × Int × List Int)) <= maxN) then
yi.L1 N n1 time t9 t10 (IntKind.wrap .i64 (t11 + 1)) (o2 ++ ([(time, (nth (0, ([] : List Int)) t9 t11))] : List (Int × Int × List Int)))
else none
else none
else
some o2 := by kernel_rfl
theorem yi.F_eq (N : Nat) (sent : zCF) (time : Int) (l_ : zBc) : yi.F N (sent, time, l_) =
yi.L1 N N time l_ (l_.length : Int) 0 sent := by kernel_rfl
def zQ.c1 : XCode := .seq (.seq (rG [fA 69 10 9, lN 70 69 2, o1 71 .len 70, op 72 (.bin .gtr) [.slot 71, cI 0]]) (.cond (.slot 72) (.skip) (.exit 0))) (.block 1 (.seq (.adj [.freeze 3] (rG [ow 74 (.call ⟨220, [.box 2 15], no 15, (rB 2), ims 17, false⟩) [.slot 9] [2] [2], mv 73 74, eX 75 0 73, eX 76 1 73, mv 11 75, mv 12 76])) (.seq (.seq (rG [mv 77 12, o1 78 .not 77]) (.cond (.slot 78) (.exit 0) (.skip))) (rG [mv 79 10, fA 80 12 9, lN 81 80 2, mv 82 11, ow 83 (.call ⟨221, vs 3, [some (5, 13), none, none], [.val false 1], [.own 5 13], false⟩) (sl [79, 81, 82]) [5] [5], mv 10 83]))))
def zQ.c2 : XCode := .seq (rG [lU 84 15 9 2, mv 85 10, sT 15 6 84 1, mv 7 85, op 8 .move [cB true]]) (.ret)
def zQ.x : XFunc := { nslots := 86, nobj := 6, pars := [.val true 15, .val false 1, .val false 1], rowsIn := no 17, rets := [.var 6 true 15, .tmp 7 false 1, .tmp 8 false 1], outs := [.imm, .imm, .imm, .imm, .imm, .imm, .imm, .imm, .imm, .imm, .imm, .imm, .imm, .imm, .imm, .own 13, .imm], fresh := false, arg := .pair (.pair T2_30 T9_30) T14_30, ret := .pair (.pair T2_30 T9_30) (.pair (.list T12_30) (.bool)), body := .seq (rG [ow 3 (.box 0) [.slot 0] [0] [0], ow 6 (.alloc 1 [cZ, .nil, .nil, cZ, .nil, cZ, .bool false, cZ, cZ, cZ, .nil, cZ, cZ, cZ, cZ]) [] [1] [1], op 7 .move [.const (.one (.nil))], op 8 .move [cB false]]) (.seq (.seq (.region true [lU 13 15 3 0, o1 14 (.call ⟨174, [.val true 15], no 15, [.val false 1], ims 1, true⟩) 13, o1 15 .not 14, sX 16 [.slot 15], gX 17 .move [.slot 2] [] [] 16 false, gX 18 (.fieldAddr 11) [.slot 3] [] [] 16 false, gX 19 (.load false 1) [.slot 18] [0] [] 16 false, gX 20 (.bin .lss) (sl [17, 19]) [] [] 16 false, op 21 .pick [.slot 16, cB true, .slot 20], sX 22 [.slot 21], gX 23 .move [.slot 2] [] [] 22 false, gX 24 (.bin .gtr) [.slot 23, cI 1000000] [] [] 22 false, op 25 .pick [.slot 22, cB true, .slot 24], sX 26 [.slot 25], gX 27 .move [.slot 1] [] [] 26 false, gX 28 .len [.slot 27] [] [] 26 false, gX 29 (.bin .gtr) [.slot 28, cI 0] [] [] 26 false, ⟨some 30, .move, [.slot 29], [], [], some (26, false), true, .none⟩, gX 31 .move [.slot 1] [] [] 30 true, gX 32 (.indexAddr T4_30) [.slot 31, cI 0] [] [] 30 true, gX 33 (.fieldAddr 0) [.slot 32] [] [] 30 true, gX 34 (.load false 1) [.slot 33] [] [] 30 true, gX 35 (.fieldAddr 11) [.slot 3] [] [] 30 true, gX 36 (.load false 1) [.slot 35] [0] [] 30 true, gX 37 (.bin .lss) (sl [34, 36]) [] [] 30 true, gX 38 .pick [.slot 30, .slot 37, cB false] [] [] 26 false, op 39 .pick [.slot 26, cB true, .slot 38], sX 40 [.slot 39], gX 41 .move [.slot 1] [] [] 40 false, gX 42 .move [.slot 2] [] [] 40 false, ⟨some 43, .call ⟨71, vs 2, no 2, [.val false 1], ims 1, true⟩, (sl [41, 42]), [], [], some (40, false), false, .none⟩, gX 44 .not [.slot 43] [] [] 40 false, op 45 .pick [.slot 40, cB true, .slot 44]]) (.cond (.slot 45) (.seq (rG [op 46 (.build [cZ, .nil, .nil, cZ, .nil, cZ, .bool false, cZ, cZ, cZ, .nil, cZ, cZ, cZ, cZ] []) [], sT 15 6 46 1, op 7 .move [.const (.one (.nil))], op 8 .move [cB false]]) (.ret)) (.skip))) (.seq (rG [lU 47 15 3 0, ow 48 (.call ⟨178, [.val true 15], no 15, [.val true 15], [.imm, .imm, .imm, .imm, .imm, .imm, .imm, .imm, .imm, .imm, .own 3 4, .imm, .imm, .imm, .imm], true⟩) [.slot 47] [3] [3], ow 9 (.alloc 2 [cZ, .nil, .nil, cZ, .nil, cZ, .bool false, cZ, cZ, cZ, .nil, cZ, cZ, cZ, cZ]) [] [2] [2], sT 15 9 48 2]) (.seq (rG [fA 49 10 9, lN 50 49 2, mv 51 1, ow 52 (.append false 3 4 T4_30) (sl [50, 51]) [3] [3], fA 53 10 9, sT 1 53 52 2]) (.seq (.seq (.region true [fA 54 10 9, lN 55 54 2, fA 56 0 3, fA 57 4 56, lN 58 57 0, o1 59 (.call ⟨173, vs 1, no 1, [.val false 1], ims 1, true⟩) 58, fA 60 0 3, fA 61 0 60, fA 62 0 61, lN 63 62 0, ow 64 (.call ⟨70, vs 3, no 3, [.val false 1], ims 1, true⟩) (sl [55, 59, 63]) [3] [], o1 65 .not 64]) (.cond (.slot 65) (.seq (rG [op 66 (.build [cZ, .nil, .nil, cZ, .nil, cZ, .bool false, cZ, cZ, cZ, .nil, cZ, cZ, cZ, cZ] []) [], sT 15 6 66 1, op 7 .move [.const (.one (.nil))], op 8 .move [cB false]]) (.ret)) (.skip))) (.seq (rG [mv 67 2, fA 68 11 9, sT 1 68 67 2]) (.seq (rG [op 10 .move [.const (.one (.nil))]]) (.seq (.block 0 (.loop [.freeze 3, .mkrow (.slot 10) 5 13 T12_30, .keep [6, 9, 10], .drop 0, .drop 3, .drop 4, .weak, .norm] (zQ.c1))) (zQ.c2)))))))) }
def zQ.env (N : Nat) : Env := envOf (tbl [(220, zv.fs N), (174, yJ.fs N), (178, yE.fs N), (173, zX.fs N), (71, yH.fs N), (70, zS.fs N), (221, yi.fs N)] noFS)
def zQ.F (N : Nat) (x : D19_30 × zBd × Int) : Option (D19_30 × zCF × Bool) := XFunc.run zQ.x (zQ.env N) N x
def zQ.fs (N : Nat) : FS := { arg := zQ.x.arg, ret := zQ.x.ret, fresh := false, F := zQ.F N }
def zQ.k2 (N : Nat) : Ex -> S -> Option (D19_30 × zCF × Bool) := seqK (fun s => XCode.runK (zQ.env N) N (zQ.c2) s (XFunc.endK zQ.x)) (XFunc.endK zQ.x)
def zQ.k1 (N : Nat) : Ex -> S -> Option (D19_30 × zCF × Bool) := zAh 0 (zQ.k2 N)
def zQ.L1 (N : Nat) (n1 : Nat) (o20 : Int) (o21 : List y1) (o22 : List y8) (o23 : Int) (o24 : zAT) (o25 : Int) (o26 : Bool) (o27 : Int) (o28 : Int) (o29 : Int) (o210 : zBd) (o211 : Int) (o212 : Int) (o213 : Int) (o214 : Int) (o5 : zCF) : Option (D19_30 × zCF × Bool) := loopK [.freeze 3, .mkrow (.slot 10) 5 13 T12_30, .keep [6, 9, 10], .drop 0, .drop 3, .drop 4, .weak, .norm] (fun s k => XCode.runK (zQ.env N) N zQ.c1 s k) n1
 { t := jK 86 [(6, .one (.ptr 1 0 0)), (9, .one (.ptr 2 0 0)), (10, .one (.ref 5 0 .all))], h := [.absent 0, .box 0 false [cZ, .nil, .nil, cZ, .nil, cZ, .bool false, cZ, cZ, cZ, .nil, cZ, cZ, cZ, cZ], .box 0 false [.int .i64 o20, .sl false (.list zAw) o21, .sl false (.list zAj) o22, .int .i64 o23, .sl false zBZ o24, .int .i64 o25, .bool o26, .int .i64 o27, .int .i64 o28, .int .i64 o29, .sl false T4_30 o210, .int .i64 o211, .int .i64 o212, .int .i64 o213, .int .i64 o214], .absent 0, .absent 0, .row 0 false false 13 T12_30 o5] }
 (zQ.k1 N)
theorem zQ.L1_eq (N : Nat) (n1 : Nat) (o20 : Int) (o21 : List y1) (o22 : List y8) (o23 : Int) (o24 : zAT) (o25 : Int) (o26 : Bool) (o27 : Int) (o28 : Int) (o29 : Int) (o210 : zBd) (o211 : Int) (o212 : Int) (o213 : Int) (o214 : Int) (o5 : zCF) : zQ.L1 N (n1 + 1) o20 o21 o22 o23 o24 o25 o26 o27 o28 o29 o210 o211 o212 o213 o214 o5 =
bif decide ((o210.length : Int) > 0) then
bindO (zv.F N (((o20, o21), (o22, (o23, (o24, (o25, o26))))), ((o27, (o28, o29)), (o210, (o211, (o212, (o213, o214))))))) fun r6 =>
bif !r6.2.1 then
some (r6.2.2, (o5, true))
else
bindO (yi.F N (o5, (r6.2.2.2.2.2.2.1, r6.1))) fun r7 =>
zQ.L1 N n1 r6.2.2.1.1.1 r6.2.2.1.1.2 r6.2.2.1.2.1 r6.2.2.1.2.2.1 r6.2.2.1.2.2.2.1 r6.2.2.1.2.2.2.2.1 r6.2.2.1.2.2.2.2.2 r6.2.2.2.1.1 r6.2.2.2.1.2.1 r6.2.2.2.1.2.2 r6.2.2.2.2.1 r6.2.2.2.2.2.1 r6.2.2.2.2.2.2.1 r6.2.2.2.2.2.2.2.1 r6.2.2.2.2.2.2.2.2 r7
else
some ((((o20, o21), (o22, (o23, (o24, (o25, o26))))), ((o27, (o28, o29)), (o210, (o211, (o212, (o213, o214)))))), (o5, true)) := by kernel_rfl
theorem zQ.F_eq (N : Nat) (d : zBy × (Int × Int × Int) × zBd × Int × Int × Int × Int) (l_ : zBd) (end_ : Int) : zQ.F N (d, l_, end_) =
bindO (yJ.F N d) fun r1 =>
bif !r1 then
some ((((0, ([] : List y1)), (([] : List y8), (0, (([] : List (Int × Int × Int × Int × Int)), (0, false))))), ((0, (0, 0)), (([] : List (Int × Int × Bool)), (0, (0, (0, 0)))))), (([] : List (Int × Int × List Int)), false))
else
bif decide (end_ < d.2.2.2.1) then
some ((((0, ([] : List y1)), (([] : List y8), (0, (([] : List (Int × Int × Int × Int × Int)), (0, false))))), ((0, (0, 0)), (([] : List (Int × Int × Bool)), (0, (0, (0, 0)))))), (([] : List (Int × Int × List Int)), false))
else
bif decide (end_ > 1000000) then
some ((((0, ([] : List y1)), (([] : List y8), (0, (([] : List (Int × Int × Int × Int × Int)), (0, false))))), ((0, (0, 0)), (([] : List (Int × Int × Bool)), (0, (0, (0, 0)))))), (([] : List (Int × Int × List Int)), false))
else
bif decide ((l_.length : Int) > 0) then
bif zu 0 (l_.length) then
bif decide (((nth (0, (0, false)) l_ 0).1) < d.2.2.2.1) then
some ((((0, ([] : List y1)), (([] : List y8), (0, (([] : List (Int × Int × Int × Int × Int)), (0, false))))), ((0, (0, 0)), (([] : List (Int × Int × Bool)), (0, (0, (0, 0)))))), (([] : List (Int × Int × List Int)), false))
else
bindO (yH.F N (l_, end_)) fun r2 =>
bif !r2 then
some ((((0, ([] : List y1)), (([] : List y8), (0, (([] : List (Int × Int × Int × Int × Int)), (0, false))))), ((0, (0, 0)), (([] : List (Int × Int × Bool)), (0, (0, (0, 0)))))), (([] : List (Int × Int × List Int)), false))
else
bindO (yE.F N d) fun r3 =>
bif decide (List.length r3.2.2.1 + l_.length <= maxN) then
bindO (zX.F N d.1.2.2.2.1) fun r4 =>
bindO (zS.F N (r3.2.2.1 ++ l_, (r4, d.1.1.1))) fun r5 =>
bif !r5 then
some ((((0, ([] : List y1)), (([] : List y8), (0, (([] : List (Int × Int × Int × Int × Int)), (0, false))))), ((0, (0, 0)), (([] : List (Int × Int × Bool)), (0, (0, (0, 0)))))), (([] : List (Int × Int × List Int)), false))
else
zQ.L1 N N r3.1.1.1 r3.1.1.2 r3.1.2.1 r3.1.2.2.1 r3.1.2.2.2.1 r3.1.2.2.2.2.1 r3.1.2.2.2.2.2 r3.2.1.1 r3.2.1.2.1 r3.2.1.2.2 (r3.2.2.1 ++ l_) end_ r3.2.2.2.2.1 r3.2.2.2.2.2.1 r3.2.2.2.2.2.2 ([] : List (Int × Int × List Int))
else none
else none
else
bindO (yH.F N (l_, end_)) fun r8 =>
bif !r8 then
some ((((0, ([] : List y1)), (([] : List y8), (0, (([] : List (Int × Int × Int × Int × Int)), (0, false))))), ((0, (0, 0)), (([] : List (Int × Int × Bool)), (0, (0, (0, 0)))))), (([] : List (Int × Int × List Int)), false))
else
bindO (yE.F N d) fun r9 =>
bif decide (List.length r9.2.2.1 + l_.length <= maxN) then
bindO (zX.F N d.1.2.2.2.1) fun r10 =>
bindO (zS.F N (r9.2.2.1 ++ l_, (r10, d.1.1.1))) fun r11 =>
bif !r11 then
some ((((0, ([] : List y1)), (([] : List y8), (0, (([] : List (Int × Int × Int × Int × Int)), (0, false))))), ((0, (0, 0)), (([] : List (Int × Int × Bool)), (0, (0, (0, 0)))))), (([] : List (Int × Int × List Int)), false))
else
zQ.L1 N N r9.1.1.1 r9.1.1.2 r9.1.2.1 r9.1.2.2.1 r9.1.2.2.2.1 r9.1.2.2.2.2.1 r9.1.2.2.2.2.2 r9.2.1.1 r9.2.1.2.1 r9.2.1.2.2 (r9.2.2.1 ++ l_) end_ r9.2.2.2.2.1 r9.2.2.2.2.2.1 r9.2.2.2.2.2.2 ([] : List (Int × Int × List Int))
else none := by kernel_rfl
end Go.Kb
