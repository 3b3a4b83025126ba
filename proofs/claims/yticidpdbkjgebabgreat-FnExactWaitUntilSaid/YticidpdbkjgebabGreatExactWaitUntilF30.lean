/- The texts of functions, printed by a program, and the equations of their runs. -/
import Derived.Test.YticidpdbkjgebabGreatExactWaitUntilF30a
import Derived.KernelRfl
namespace Go.Kb
def z6.c1 : XCode := .seq (rG [o2 14 (.bin .lss) 13 12]) (.seq (cX 14 0) (.seq (.block 1 (.seq (rG [ow 15 (.indexAddr (.int .i64)) (sl [11, 13]) [0] [], lN 16 15 0, mv 6 16]) (.seq (rG [mv 17 6, op 18 (.bin .neq) [.slot 17, cI 0], sX 19 [.slot 18], gM 20 4 19 true, gM 21 6 19 true, ⟨some 22, cO 202 (vs 2) 2 true, (sl [20, 21]), [2], [], some (19, true), false, .none⟩, gX 23 .not [.slot 22] [] [] 19 true, op 24 .pick [.slot 19, .slot 23, cB false]]) (.cond (.slot 24) (rG [mv 25 4, mv 26 6, ow 27 (.buildSlice false 1 2 (.int .i64) 1 [(0, 1)] [cZ]) [.slot 26] [1] [1], ow 28 (.append false 2 2 (.int .i64)) (sl [25, 27]) [1, 2] [2], mv 4 28]) (.skip))))) (rG [op 29 (.bin .add) [.slot 13, cI 1], mv 13 29])))
def z6.c2 : XCode := .seq (rG [mv 30 4, mv 2 30]) (.ret)
def z6.x : XFunc := xF 31 3 [.val false 1] [none] [.tmp 2 false 1] [.own 2] true (.list (.int .i64)) (.list (.int .i64)) <| .seq (rG [op 2 .move [.const (.one (.nil))]]) (.seq (rG [mv 7 0, ow 8 (.call ⟨114, vs 1, no 1, [.val false 1], [.own 0 2], true⟩) [.slot 7] [0] [0], mv 3 8]) (.seq (rG [mv 9 3, ow 10 (.call ⟨201, vs 1, [some (0, 2)], [], [.back 0], true⟩) [.slot 9] [0] [0]]) (.seq (rG [op 4 .move [.const (.one (.nil))]]) (.seq (.seq (rG [mv 11 3, ow 12 .len [.slot 11] [0] [], op 13 .move [cI 0]]) (.block 0 (.loop [.mkrow (.slot 4) 2 2 (.int .i64), .keep [4, 11, 12, 13], .drop 1, .norm] (z6.c1)))) (z6.c2)))))
def z6.env (N : Nat) : Env := envOf (tbl [(201, ext_sort_Ints.fs N), (114, zAL.fs N), (202, yc.fs N)] noFS)
def z6.F (N : Nat) (x : List Int) : Option (List Int) := XFunc.run z6.x (z6.env N) N x
def z6.fs (N : Nat) : FS := fS z6.x true (z6.F N)
def z6.k2 (N : Nat) : Ex -> S -> Option (List Int) := seqK (fun s => XCode.runK (z6.env N) N (z6.c2) s (XFunc.endK z6.x)) (XFunc.endK z6.x)
def z6.k1 (N : Nat) : Ex -> S -> Option (List Int) := y7 0 (z6.k2 N)
def z6.L1 (N : Nat) (n1 : Nat) (t12 : Int) (t13 : Int) (o0 : List Int) (o2 : List Int) : Option (List Int) := loopK [.mkrow (.slot 4) 2 2 (.int .i64), .keep [4, 11, 12, 13], .drop 1, .norm] (rK (z6.env N) N z6.c1) n1
 { t := jK 31 [(4, .one (.ref 2 0 .all)), (11, .one (.ref 0 0 .all)), (12, .one (.int .i64 t12)), (13, .one (.int .i64 t13))], h := [.row 0 false true 2 (.int .i64) o0, .absent 0, .row 0 false true 2 (.int .i64) o2] }
 (z6.k1 N)
theorem z6.L1_eq (N : Nat) (n1 : Nat) (t12 : Int) (t13 : Int) (o0 : List Int) (o2 : List Int) : z6.L1 N (n1 + 1) t12 t13 o0 o2 =
bif decide (t13 < t12) then
bif zG t13 (o0.length) then
bif (List.getD o0 (Int.toNat t13) 0) != 0 then
bindO (yc.F N (o2, List.getD o0 (Int.toNat t13) 0)) fun r3 =>
bif !r3 then
bif decide (o2.length + List.length ([List.getD o0 (Int.toNat t13) 0] : List Int) <= maxN) then
z6.L1 N n1 t12 (IntKind.wrap .i64 (t13 + 1)) o0 (o2 ++ ([List.getD o0 (Int.toNat t13) 0] : List Int))
else none
else
z6.L1 N n1 t12 (IntKind.wrap .i64 (t13 + 1)) o0 o2
else
z6.L1 N n1 t12 (IntKind.wrap .i64 (t13 + 1)) o0 o2
else none
else
some o2 := by kernel_rfl
theorem z6.F_eq (N : Nat) (l_ : List Int) : z6.F N l_ =
bindO (zAL.F N l_) fun r1 =>
bindO (ext_sort_Ints.F N r1) fun r2 =>
z6.L1 N N (r2.length : Int) 0 r2 ([] : List Int) := by kernel_rfl
def zJ.c1 : XCode := .seq (rG [o2 14 (.bin .lss) 13 12]) (.seq (cX 14 0) (.seq (.block 1 (.seq (rG [o2 15 (.indexAddr zAY) 11 13, o1 16 (.load true 5) 15, ow 6 (.alloc 2 [cZ, cZ, cZ, cZ, cZ]) [] [2] [2], sT 5 6 16 2]) (.seq (.seq (rG [fA 17 1 6, fA 18 0 17, lN 19 18 2, op 20 (.bin .eql) [.slot 19, cI 2], sX 21 [.slot 20], gF 22 1 6 21 false, gF 23 0 22 21 false, gL 24 23 2 21 false, gX 25 (.bin .eql) [.slot 24, cI 8] [] [] 21 false, op 26 .pick [.slot 21, cB true, .slot 25]]) (.cond (.slot 26) (rG [fA 27 0 3, lN 28 27 1, fA 29 1 6, fA 30 2 29, lN 31 30 2, o2 32 (.bin .or) 28 31, fA 33 0 3, sT 1 33 32 1]) (.skip))) (rG [mv 34 4, fA 35 1 6, fA 36 1 35, lN 37 36 2, ow 38 (.buildSlice false 3 2 (.int .i64) 1 [(0, 1)] [cZ]) [.slot 37] [3] [3], ow 39 (.append false 4 2 (.int .i64)) (sl [34, 38]) [3, 4] [4], mv 4 39])))) (rG [op 40 (.bin .add) [.slot 13, cI 1], mv 13 40])))
def zJ.c2 : XCode := .seq (rG [mv 41 4, ow 42 (.call ⟨203, vs 1, no 1, [.val false 1], [.own 5 2], true⟩) [.slot 41] [4, 5] [5], fA 43 1 3, sT 1 43 42 1]) (.seq (rG [lU 44 2 3 1, sT 2 2 44 0]) (.ret))
def zJ.x : XFunc := xF 45 6 [.val false 1] [none] [.var 2 true 2] [.imm, .own 2] true (.list zAY) (.pair (.int .i64) (.list (.int .i64))) <| .seq (rG [ow 2 (.alloc 0 [cZ, .nil]) [] [0] [0]]) (.seq (.seq (rG [mv 7 0, o1 8 (cO 164 (vs 1) 1 true) 7, o1 9 .not 8]) (.cond (.slot 9) (.seq (rG [op 10 (.build [cZ, .nil] []) [], sT 2 2 10 0]) (.ret)) (.skip))) (.seq (rG [ow 3 (.alloc 1 [cZ, .nil]) [] [1] [1]]) (.seq (rG [op 4 .move [.const (.one (.nil))]]) (.seq (.seq (rG [mv 11 0, o1 12 .len 11, op 13 .move [cI 0]]) (.block 0 (.loop [.mkrow (.slot 4) 4 2 (.int .i64), .keep [2, 3, 4, 11, 12, 13], .drop 2, .drop 3, .drop 5, .norm] (zJ.c1)))) (zJ.c2)))))
def zJ.env (N : Nat) : Env := envOf (tbl [(164, z5.fs N), (203, z6.fs N)] noFS)
def zJ.F (N : Nat) (x : yT) : Option (Int × List Int) := XFunc.run zJ.x (zJ.env N) N x
def zJ.fs (N : Nat) : FS := fS zJ.x true (zJ.F N)
def zJ.k2 (N : Nat) : Ex -> S -> Option (Int × List Int) := seqK (fun s => XCode.runK (zJ.env N) N (zJ.c2) s (XFunc.endK zJ.x)) (XFunc.endK zJ.x)
def zJ.k1 (N : Nat) : Ex -> S -> Option (Int × List Int) := y7 0 (zJ.k2 N)
def zJ.L1 (N : Nat) (n1 : Nat) (t11 : yT) (t12 : Int) (t13 : Int) (o10 : Int) (o4 : List Int) : Option (Int × List Int) := loopK [.mkrow (.slot 4) 4 2 (.int .i64), .keep [2, 3, 4, 11, 12, 13], .drop 2, .drop 3, .drop 5, .norm] (rK (zJ.env N) N zJ.c1) n1
 { t := jK 45 [(2, .one (.ptr 0 0 0)), (3, .one (.ptr 1 0 0)), (4, .one (.ref 4 0 .all)), (11, .one (.sl false zAY t11)), (12, .one (.int .i64 t12)), (13, .one (.int .i64 t13))], h := [.box 0 false [cZ, .nil], .box 0 false [.int .i64 o10, .nil], .absent 0, .absent 0, .row 0 false true 2 (.int .i64) o4, .absent 0] }
 (zJ.k1 N)
theorem zJ.L1_eq (N : Nat) (n1 : Nat) (t11 : yT) (t12 : Int) (t13 : Int) (o10 : Int) (o4 : List Int) : zJ.L1 N (n1 + 1) t11 t12 t13 o10 o4 =
bif decide (t13 < t12) then
bif zG t13 (t11.length) then
bif (((nth (0, (0, (0, (0, 0)))) t11 t13).2).1) == 2 then
bif decide (o4.length + List.length ([(((nth (0, (0, (0, (0, 0)))) t11 t13).2).2).1] : List Int) <= maxN) then
zJ.L1 N n1 t11 t12 (IntKind.wrap .i64 (t13 + 1)) (bitOr .i64 o10 (((((nth (0, (0, (0, (0, 0)))) t11 t13).2).2).2).1)) (o4 ++ ([(((nth (0, (0, (0, (0, 0)))) t11 t13).2).2).1] : List Int))
else none
else
bif (((nth (0, (0, (0, (0, 0)))) t11 t13).2).1) == 8 then
bif decide (o4.length + List.length ([(((nth (0, (0, (0, (0, 0)))) t11 t13).2).2).1] : List Int) <= maxN) then
zJ.L1 N n1 t11 t12 (IntKind.wrap .i64 (t13 + 1)) (bitOr .i64 o10 (((((nth (0, (0, (0, (0, 0)))) t11 t13).2).2).2).1)) (o4 ++ ([(((nth (0, (0, (0, (0, 0)))) t11 t13).2).2).1] : List Int))
else none
else
bif decide (o4.length + List.length ([(((nth (0, (0, (0, (0, 0)))) t11 t13).2).2).1] : List Int) <= maxN) then
zJ.L1 N n1 t11 t12 (IntKind.wrap .i64 (t13 + 1)) o10 (o4 ++ ([(((nth (0, (0, (0, (0, 0)))) t11 t13).2).2).1] : List Int))
else none
else none
else
bindO (z6.F N o4) fun r2 =>
some (o10, r2) := by kernel_rfl
theorem zJ.F_eq (N : Nat) (l_ : yT) : zJ.F N l_ =
bindO (z5.F N l_) fun r1 =>
bif !r1 then
some (0, ([] : List Int))
else
zJ.L1 N N l_ (l_.length : Int) 0 0 ([] : List Int) := by kernel_rfl
def zo.c1 : XCode := .seq (rG [o2 24 (.bin .lss) 23 22]) (.seq (cX 24 0) (.seq (.block 1 (.seq (rG [o2 25 (.indexAddr zAY) 21 23, o1 26 (.load true 5) 25, ow 7 (.alloc 0 [cZ, cZ, cZ, cZ, cZ]) [] [0] [0], sT 5 7 26 0]) (.seq (rG [fA 27 1 7, fA 28 0 27, lN 29 28 0, op 30 (.bin .eql) [.slot 29, cI 3]]) (.cond (.slot 30) (rG [mv 31 5, fA 32 1 7, fA 33 3 32, lN 34 33 0, op 35 (.bin .shl) [cI 1, .slot 34], o2 36 (.bin .or) 31 35, mv 5 36]) (.skip))))) (rG [op 37 (.bin .add) [.slot 23, cI 1], mv 23 37])))
def zo.c2 : XCode := .seq (rG [mv 38 5, mv 4 38]) (.ret)
def zo.x : XFunc := xF 39 1 [.val false 1, .val false 1] (no 2) [.tmp 4 false 1] [.imm] true (.pair (.int .i64) (.list zAY)) (.int .i64) <| .seq (rG [op 4 .move [cI 0]]) (.seq (rG [op 5 .move [cI 1]]) (.seq (.seq (rG [mv 8 0, op 9 (.bin .geq) [.slot 8, cI 0], sX 10 [.slot 9], gM 11 0 10 true, gX 12 (.bin .leq) [.slot 11, cI 15] [] [] 10 true, op 13 .pick [.slot 10, .slot 12, cB false]]) (.cond (.slot 13) (rG [mv 14 5, mv 15 0, o2 16 (.bin .or) 14 15, mv 5 16]) (.skip))) (.seq (.seq (rG [mv 17 1, o1 18 (cO 164 (vs 1) 1 true) 17, o1 19 .not 18]) (.cond (.slot 19) (.seq (rG [mv 20 5, mv 4 20]) (.ret)) (.skip))) (.seq (.seq (rG [mv 21 1, o1 22 .len 21, op 23 .move [cI 0]]) (.block 0 (.loop [.keep [5, 21, 22, 23], .drop 0, .norm] (zo.c1)))) (zo.c2)))))
def zo.env (N : Nat) : Env := envOf (tbl [(164, z5.fs N)] noFS)
def zo.F (N : Nat) (x : Int × List (Int × Int × Int × Int × Int)) : Option Int := XFunc.run zo.x (zo.env N) N x
def zo.fs (N : Nat) : FS := fS zo.x true (zo.F N)
def zo.k2 (N : Nat) : Ex -> S -> Option Int := seqK (fun s => XCode.runK (zo.env N) N (zo.c2) s (XFunc.endK zo.x)) (XFunc.endK zo.x)
def zo.k1 (N : Nat) : Ex -> S -> Option Int := y7 0 (zo.k2 N)
def zo.L1 (N : Nat) (n1 : Nat) (out : Int) (t21 : yT) (t22 : Int) (t23 : Int) : Option Int := loopK [.keep [5, 21, 22, 23], .drop 0, .norm] (rK (zo.env N) N zo.c1) n1
 { t := jK 39 [(5, .one (.int .i64 out)), (21, .one (.sl false zAY t21)), (22, .one (.int .i64 t22)), (23, .one (.int .i64 t23))], h := [.absent 0] }
 (zo.k1 N)
theorem zo.L1_eq (N : Nat) (n1 : Nat) (out : Int) (t21 : yT) (t22 : Int) (t23 : Int) : zo.L1 N (n1 + 1) out t21 t22 t23 =
bif decide (t23 < t22) then
bif zG t23 (t21.length) then
bif (((nth (0, (0, (0, (0, 0)))) t21 t23).2).1) == 3 then
bif decide (0 <= ((((nth (0, (0, (0, (0, 0)))) t21 t23).2).2).2).2) then
zo.L1 N n1 (bitOr .i64 out (zBS .i64 1 (((((nth (0, (0, (0, (0, 0)))) t21 t23).2).2).2).2))) t21 t22 (IntKind.wrap .i64 (t23 + 1))
else none
else
zo.L1 N n1 out t21 t22 (IntKind.wrap .i64 (t23 + 1))
else none
else
some out := by kernel_rfl
theorem zo.F_eq (N : Nat) (fixed : Int) (l_ : yT) : zo.F N (fixed, l_) =
bif decide (fixed >= 0) then
bif decide (fixed <= 15) then
bindO (z5.F N l_) fun r1 =>
bif !r1 then
some (bitOr .i64 1 fixed)
else
zo.L1 N N (bitOr .i64 1 fixed) l_ (l_.length : Int) 0
else
bindO (z5.F N l_) fun r2 =>
bif !r2 then
some 1
else
zo.L1 N N 1 l_ (l_.length : Int) 0
else
bindO (z5.F N l_) fun r3 =>
bif !r3 then
some 1
else
zo.L1 N N 1 l_ (l_.length : Int) 0 := by kernel_rfl
def yB.c1 : XCode := .seq (.seq (rG [mv 12 7, op 13 (.bin .gtr) [.slot 12, cI 0]]) (cX 13 0)) (.seq (.block 1 (.seq (rG [mv 16 1, mv 17 7, o2 18 (cO 65 (vs 2) 2 true) 16 17, op 19 (.bin .eql) [.slot 18, cI 1], sX 20 [.slot 19], gF 21 1 3 20 true, gL 22 21 0 20 true, gM 23 7 20 true, gX 24 (.indexAddr (.list zBA)) (sl [22, 23]) [] [] 20 true, gX 25 (.load false 1) [.slot 24] [] [] 20 true, gM 26 2 20 true, gX 27 (.indexAddr zBA) (sl [25, 26]) [] [] 20 true, gF 28 0 27 20 true, gX 29 (.load false 1) [.slot 28] [] [] 20 true, gX 30 (.bin .neq) [.slot 29, cI 1] [] [] 20 true, op 31 .pick [.slot 20, .slot 30, cB false]]) (.cond (.slot 31) (.seq (rG [mv 32 7, mv 6 32]) (.ret)) (.skip)))) (rG [mv 14 7, op 15 (.bin .sub) [.slot 14, cI 1], mv 7 15]))
def yB.c2 : XCode := .seq (rG [op 6 .move [cI 0]]) (.ret)
def yB.x : XFunc := xF 33 1 [.val true 2, .val false 1, .val false 1] (no 4) [.tmp 6 false 1] [.imm] true (.pair T10_30 zBx) (.int .i64) <| .seq (rG [ow 3 (.box 0) [.slot 0] [0] [0], op 6 .move [cI 0]]) (.seq (.seq (rG [fA 8 1 3, lN 9 8 0, o1 10 .len 9, op 11 (.bin .sub) [.slot 10, cI 1], mv 7 11]) (.block 0 (.loop [.keep [1, 2, 3, 7], .norm] (yB.c1)))) (yB.c2))
def yB.env (N : Nat) : Env := envOf (tbl [(65, zAx.fs N)] noFS)
def yB.F (N : Nat) (x : (Int × List yZ) × Int × Int) : Option Int := XFunc.run yB.x (yB.env N) N x
def yB.fs (N : Nat) : FS := fS yB.x true (yB.F N)
def yB.k2 (N : Nat) : Ex -> S -> Option Int := seqK (fun s => XCode.runK (yB.env N) N (yB.c2) s (XFunc.endK yB.x)) (XFunc.endK yB.x)
def yB.k1 (N : Nat) : Ex -> S -> Option Int := y7 0 (yB.k2 N)
def yB.L1 (N : Nat) (n1 : Nat) (on : Int) (key : Int) (i : Int) (o00 : Int) (o01 : List yZ) : Option Int := loopK [.keep [1, 2, 3, 7], .norm] (rK (yB.env N) N yB.c1) n1
 { t := jK 33 [(1, .one (.int .i64 on)), (2, .one (.int .i64 key)), (3, .one (.ptr 0 0 0)), (7, .one (.int .i64 i))], h := [.box 0 false [.int .i64 o00, .sl false (.list zBA) o01]] }
 (yB.k1 N)
theorem yB.L1_eq (N : Nat) (n1 : Nat) (on : Int) (key : Int) (i : Int) (o00 : Int) (o01 : List yZ) : yB.L1 N (n1 + 1) on key i o00 o01 =
bif decide (i > 0) then
bindO (zAx.F N (on, i)) fun r1 =>
bif r1 == 1 then
bif zG i (o01.length) then
bif zG key (List.length (nth ([] : List (Int × Int × Int × Int)) o01 i)) then
bif ((nth (0, (0, (0, 0))) (nth ([] : List (Int × Int × Int × Int)) o01 i) key).1) != 1 then
some i
else
yB.L1 N n1 on key (IntKind.wrap .i64 (i - 1)) o00 o01
else none
else none
else
yB.L1 N n1 on key (IntKind.wrap .i64 (i - 1)) o00 o01
else
some 0 := by kernel_rfl
theorem yB.F_eq (N : Nat) (m : Int × List yZ) (on : Int) (key : Int) : yB.F N (m, on, key) =
yB.L1 N N on key (IntKind.wrap .i64 ((List.length m.2 : Int) - 1)) m.1 m.2 := by kernel_rfl
def zAy.x : XFunc := xF 24 1 [.val true 2, .val false 1, .val false 1] (no 4) [.tmp 6 false 1] [.imm] true (.pair T10_30 zBx) (.int .i64) <| .seq (rG [ow 3 (.box 0) [.slot 0] [0] [0], op 6 .move [cI 0]]) (.seq (.seq (rG [lU 7 2 3 0, o1 8 (cO 163 [.val true 2] 2 true) 7, o1 9 .not 8, sX 10 [.slot 9], gM 11 2 10 false, gX 12 (.bin .lss) [.slot 11, cI 0] [] [] 10 false, op 13 .pick [.slot 10, cB true, .slot 12], sX 14 [.slot 13], gM 15 2 14 false, gF 16 0 3 14 false, gL 17 16 0 14 false, gX 18 (.bin .geq) (sl [15, 17]) [] [] 14 false, op 19 .pick [.slot 14, cB true, .slot 18]]) (.cond (.slot 19) (.seq (rG [op 6 .move [cI (-1)]]) (.ret)) (.skip))) (.seq (rG [lU 20 2 3 0, mv 21 1, mv 22 2, op 23 (cO 210 [.val true 2, .val false 1, .val false 1] 4 true) (sl [20, 21, 22]), mv 6 23]) (.ret)))
def zAy.env (N : Nat) : Env := envOf (tbl [(163, zF.fs N), (210, yB.fs N)] noFS)
def zAy.F (N : Nat) (x : (Int × List yZ) × Int × Int) : Option Int := XFunc.run zAy.x (zAy.env N) N x
def zAy.fs (N : Nat) : FS := fS zAy.x true (zAy.F N)
theorem zAy.F_eq (N : Nat) (m : Int × List yZ) (on : Int) (key : Int) : zAy.F N (m, on, key) =
bindO (zF.F N m) fun r1 =>
bif !r1 then
some (-1 : Int)
else
bif decide (key < 0) then
some (-1 : Int)
else
bif decide (key >= m.1) then
some (-1 : Int)
else
bindO (yB.F N (m, (on, key))) fun r2 =>
some r2 := by kernel_rfl
def zAg.x : XFunc := xF 23 2 [.val true 2, .val false 1, .val false 1] (no 4) [.var 6 true 4] (iF 4) true (.pair T10_30 zBx) (.pair (.int .i64) zBB) <| .seq (rG [ow 3 (.box 0) [.slot 0] [0] [0], ow 6 (.alloc 1 [cZ, cZ, cZ, cZ]) [] [1] [1]]) (.seq (rG [lU 8 2 3 0, mv 9 1, mv 10 2, op 11 (cO 211 [.val true 2, .val false 1, .val false 1] 4 true) (sl [8, 9, 10]), mv 7 11]) (.seq (.seq (rG [mv 12 7, op 13 (.bin .lss) [.slot 12, cI 0]]) (.cond (.slot 13) (.seq (rG [op 14 (.build [cZ, cZ, cZ, cZ] []) [], sT 4 6 14 1]) (.ret)) (.skip))) (.seq (rG [fA 15 1 3, lN 16 15 0, mv 17 7, o2 18 (.indexAddr (.list zBA)) 16 17, o1 19 (.load false 1) 18, mv 20 2, o2 21 (.indexAddr zBA) 19 20, o1 22 (.load true 4) 21, sT 4 6 22 1]) (.ret))))
def zAg.env (N : Nat) : Env := envOf (tbl [(211, zAy.fs N)] noFS)
def zAg.F (N : Nat) (x : (Int × List yZ) × Int × Int) : Option (Int × Int × Int × Int) := XFunc.run zAg.x (zAg.env N) N x
def zAg.fs (N : Nat) : FS := fS zAg.x true (zAg.F N)
theorem zAg.F_eq (N : Nat) (m : Int × List yZ) (on : Int) (key : Int) : zAg.F N (m, on, key) =
bindO (zAy.F N (m, (on, key))) fun r1 =>
bif decide (r1 < 0) then
some (0, (0, (0, 0)))
else
bif zG r1 (List.length m.2) then
bif zG key (List.length (nth ([] : List (Int × Int × Int × Int)) m.2 r1)) then
some ((nth (0, (0, (0, 0))) (nth ([] : List (Int × Int × Int × Int)) m.2 r1) key).1, (((nth (0, (0, (0, 0))) (nth ([] : List (Int × Int × Int × Int)) m.2 r1) key).2).1, (((nth (0, (0, (0, 0))) (nth ([] : List (Int × Int × Int × Int)) m.2 r1) key).2).2)))
else none
else none := by kernel_rfl
def yh.x : XFunc := xF 15 1 [.val true 4] (no 4) [.tmp 2 false 1] [.imm] true (.pair (.int .i64) zBB) .bool <| .seq (rG [ow 1 (.box 0) [.slot 0] [0] [0], op 2 .move [cB false]]) (.seq (rG [lU 3 4 1 0, o1 4 (cO 156 [.val true 4] 4 true) 3, sX 5 [.slot 4], gF 6 0 1 5 true, gL 7 6 0 5 true, gX 8 (.bin .eql) [.slot 7, cI 6] [] [] 5 true, ⟨some 9, .move, [.slot 8], [], [], some (5, true), true, .none⟩, gF 10 0 1 9 false, gL 11 10 0 9 false, gX 12 (.bin .eql) [.slot 11, cI 7] [] [] 9 false, gX 13 .pick [.slot 9, cB true, .slot 12] [] [] 5 true, op 14 .pick [.slot 5, .slot 13, cB false], mv 2 14]) (.ret))
def yh.env (N : Nat) : Env := envOf (tbl [(156, yg.fs N)] noFS)
def yh.F (N : Nat) (x : Int × Int × Int × Int) : Option Bool := XFunc.run yh.x (yh.env N) N x
def yh.fs (N : Nat) : FS := fS yh.x true (yh.F N)
theorem yh.F_eq (N : Nat) (a : Int × Int × Int × Int) : yh.F N a =
bindO (yg.F N a) fun r1 =>
bif r1 then
bif a.1 == 6 then
some true
else
some (a.1 == 7)
else
some false := by kernel_rfl
def zp.c1 : XCode := .seq (rG [o2 29 (.bin .lss) 28 27]) (.seq (cX 29 0) (.seq (.block 1 (.seq (rG [o2 30 (.indexAddr zCQ) 26 28, o1 31 (.load true 3) 30, ow 14 (.alloc 1 [cZ, cZ, .bool false]) [] [1] [1], sT 3 14 31 1]) (.block 2 (.seq (rG [lU 33 3 14 1, o1 34 (cO 68 [.val true 3] 3 true) 33, o1 35 .not 34, mv 32 35]) (.cond (.slot 32) (.seq (rG [op 10 .move [cI 0], op 11 .move [cI 0]]) (.ret)) (.seq (rG [fA 37 0 14, lN 38 37 1, mv 39 2, fA 40 0 5, lN 41 40 0, o2 42 (.bin .add) 39 41, o2 43 (.bin .geq) 38 42, mv 36 43]) (.cond (.slot 36) (.seq (.region true [mv 44 2, fA 45 0 5, lN 46 45 0, o2 47 (.bin .add) 44 46, op 10 .move [cI 2], mv 11 47]) (.ret)) (.seq (rG [fA 49 1 14, lN 50 49 1, mv 51 1, o2 52 (.bin .eql) 50 51, sX 53 [.slot 52], gF 54 2 14 53 true, gL 55 54 1 53 true, gX 56 .not [.slot 55] [] [] 53 true, op 57 .pick [.slot 53, .slot 56, cB false], mv 48 57]) (.cond (.slot 48) (.seq (.region true [fA 58 0 14, lN 59 58 1, op 10 .move [cI 1], mv 11 59]) (.ret)) (.seq (rG [fA 61 1 14, lN 62 61 1, mv 63 1, o2 64 (.bin .eql) 62 63, mv 60 64]) (.cond (.slot 60) (.skip) (.seq (rG [fA 66 2 14, lN 67 66 1, mv 65 67]) (.cond (.slot 65) (.seq (.seq (rG [fA 68 2 5, lN 69 68 0, op 70 (.bin .eql) [.slot 69, cI 1]]) (.cond (.slot 70) (.seq (.region true [fA 71 0 14, lN 72 71 1, op 10 .move [cI 2], mv 11 72]) (.ret)) (.skip))) (rG [mv 73 12, fA 74 1 14, lN 75 74 1, op 76 (.bin .shl) [cI 1, .slot 75], o2 77 (.bin .or) 73 76, mv 12 77])) (.seq (rG [fA 79 2 5, lN 80 79 0, op 81 (.bin .eql) [.slot 80, cI 2], sX 82 [.slot 81], gM 83 12 82 true, gF 84 1 14 82 true, gL 85 84 1 82 true, ⟨some 86, cO 65 (vs 2) 2 true, (sl [83, 85]), [], [], some (82, true), false, .none⟩, gX 87 (.bin .eql) [.slot 86, cI 1] [] [] 82 true, op 88 .pick [.slot 82, .slot 87, cB false], mv 78 88]) (.cond (.slot 78) (.seq (.region true [fA 89 0 14, lN 90 89 1, op 10 .move [cI 2], mv 11 90]) (.ret)) (.skip)))))))))))))))) (rG [op 91 (.bin .add) [.slot 28, cI 1], mv 28 91])))
def zp.c2 : XCode := .seq (.seq (rG [mv 92 4, mv 93 2, fA 94 0 5, lN 95 94 0, o2 96 (.bin .add) 93 95, o2 97 (.bin .geq) 92 96]) (.cond (.slot 97) (.seq (.region true [mv 98 2, fA 99 0 5, lN 100 99 0, o2 101 (.bin .add) 98 100, op 10 .move [cI 2], mv 11 101]) (.ret)) (.skip))) (.seq (rG [op 10 .move [cI 0], op 11 .move [cI 0]]) (.ret))
def zp.x : XFunc := xF 102 2 [.val true 3, .val false 1, .val false 1, .val false 1, .val false 1] (no 7) [.tmp 10 false 1, .tmp 11 false 1] (iF 2) true (.pair zBB (.pair (.int .i64) (.pair (.int .i64) T14_30))) (.pair (.int .i64) (.int .i64)) <| .seq (rG [ow 5 (.box 0) [.slot 0] [0] [0], op 10 .move [cI 0], op 11 .move [cI 0]]) (.seq (.seq (rG [lU 15 3 5 0, o1 16 (cO 172 [.val true 3] 3 true) 15, o1 17 .not 16, sX 18 [.slot 17], gM 19 2 18 false, gX 20 (.bin .lss) [.slot 19, cI 0] [] [] 18 false, op 21 .pick [.slot 18, cB true, .slot 20], sX 22 [.slot 21], gM 23 2 22 false, gX 24 (.bin .gtr) [.slot 23, cI 1000000] [] [] 22 false, op 25 .pick [.slot 22, cB true, .slot 24]]) (.cond (.slot 25) (.seq (rG [op 10 .move [cI 0], op 11 .move [cI 0]]) (.ret)) (.skip))) (.seq (rG [op 12 .move [cI 0]]) (.seq (.seq (rG [mv 26 3, o1 27 .len 26, op 28 .move [cI 0]]) (.block 0 (.loop [.keep [1, 2, 4, 5, 12, 26, 27, 28], .drop 1, .norm] (zp.c1)))) (zp.c2))))
def zp.env (N : Nat) : Env := envOf (tbl [(68, zAR.fs N), (172, zAM.fs N), (65, zAx.fs N)] noFS)
def zp.F (N : Nat) (x : (Int × Int × Int) × Int × Int × zBa × Int) : Option (Int × Int) := XFunc.run zp.x (zp.env N) N x
def zp.fs (N : Nat) : FS := fS zp.x true (zp.F N)
def zp.k2 (N : Nat) : Ex -> S -> Option (Int × Int) := seqK (fun s => XCode.runK (zp.env N) N (zp.c2) s (XFunc.endK zp.x)) (XFunc.endK zp.x)
def zp.k1 (N : Nat) : Ex -> S -> Option (Int × Int) := y7 0 (zp.k2 N)
def zp.L1 (N : Nat) (n1 : Nat) (key : Int) (time : Int) (now : Int) (down : Int) (t26 : zBa) (t27 : Int) (t28 : Int) (o00 : Int) (o01 : Int) (o02 : Int) : Option (Int × Int) := loopK [.keep [1, 2, 4, 5, 12, 26, 27, 28], .drop 1, .norm] (rK (zp.env N) N zp.c1) n1
 { t := jK 102 [(1, .one (.int .i64 key)), (2, .one (.int .i64 time)), (4, .one (.int .i64 now)), (5, .one (.ptr 0 0 0)), (12, .one (.int .i64 down)), (26, .one (.sl false zCQ t26)), (27, .one (.int .i64 t27)), (28, .one (.int .i64 t28))], h := [.box 0 false [.int .i64 o00, .int .i64 o01, .int .i64 o02], .absent 0] }
 (zp.k1 N)
theorem zp.L1_eq (N : Nat) (n1 : Nat) (key : Int) (time : Int) (now : Int) (down : Int) (t26 : zBa) (t27 : Int) (t28 : Int) (o00 : Int) (o01 : Int) (o02 : Int) : zp.L1 N (n1 + 1) key time now down t26 t27 t28 o00 o01 o02 =
bif decide (t28 < t27) then
bif zG t28 (t26.length) then
bindO (zAR.F N ((nth (0, (0, false)) t26 t28).1, ((nth (0, (0, false)) t26 t28).2))) fun r2 =>
bif !r2 then
some (0, 0)
else
bif decide (((nth (0, (0, false)) t26 t28).1) >= (IntKind.wrap .i64 (time + o00))) then
some (2, IntKind.wrap .i64 (time + o00))
else
bif (((nth (0, (0, false)) t26 t28).2).1) == key then
bif !(((nth (0, (0, false)) t26 t28).2).2) then
some (1, (nth (0, (0, false)) t26 t28).1)
else
bif (((nth (0, (0, false)) t26 t28).2).1) == key then
zp.L1 N n1 key time now down t26 t27 (IntKind.wrap .i64 (t28 + 1)) o00 o01 o02
else
bif ((nth (0, (0, false)) t26 t28).2).2 then
bif o02 == 1 then
some (2, (nth (0, (0, false)) t26 t28).1)
else
bif decide (0 <= ((nth (0, (0, false)) t26 t28).2).1) then
zp.L1 N n1 key time now (bitOr .i64 down (zBS .i64 1 (((nth (0, (0, false)) t26 t28).2).1))) t26 t27 (IntKind.wrap .i64 (t28 + 1)) o00 o01 o02
else none
else
bif o02 == 2 then
bindO (zAx.F N (down, ((nth (0, (0, false)) t26 t28).2).1)) fun r3 =>
bif r3 == 1 then
some (2, (nth (0, (0, false)) t26 t28).1)
else
zp.L1 N n1 key time now down t26 t27 (IntKind.wrap .i64 (t28 + 1)) o00 o01 o02
else
zp.L1 N n1 key time now down t26 t27 (IntKind.wrap .i64 (t28 + 1)) o00 o01 o02
else
bif (((nth (0, (0, false)) t26 t28).2).1) == key then
zp.L1 N n1 key time now down t26 t27 (IntKind.wrap .i64 (t28 + 1)) o00 o01 o02
else
bif ((nth (0, (0, false)) t26 t28).2).2 then
bif o02 == 1 then
some (2, (nth (0, (0, false)) t26 t28).1)
else
bif decide (0 <= ((nth (0, (0, false)) t26 t28).2).1) then
zp.L1 N n1 key time now (bitOr .i64 down (zBS .i64 1 (((nth (0, (0, false)) t26 t28).2).1))) t26 t27 (IntKind.wrap .i64 (t28 + 1)) o00 o01 o02
else none
else
bif o02 == 2 then
bindO (zAx.F N (down, ((nth (0, (0, false)) t26 t28).2).1)) fun r4 =>
bif r4 == 1 then
some (2, (nth (0, (0, false)) t26 t28).1)
else
zp.L1 N n1 key time now down t26 t27 (IntKind.wrap .i64 (t28 + 1)) o00 o01 o02
else
zp.L1 N n1 key time now down t26 t27 (IntKind.wrap .i64 (t28 + 1)) o00 o01 o02
else none
else
bif decide (now >= (IntKind.wrap .i64 (time + o00))) then
some (2, IntKind.wrap .i64 (time + o00))
else
some (0, 0) := by kernel_rfl
theorem zp.F_eq (N : Nat) (t : Int × Int × Int) (key : Int) (time : Int) (rest : zBa) (now : Int) : zp.F N (t, key, time, rest, now) =
bindO (zAM.F N t) fun r1 =>
bif !r1 then
some (0, 0)
else
bif decide (time < 0) then
some (0, 0)
else
bif decide (time > 1000000) then
some (0, 0)
else
zp.L1 N N key time now 0 rest (rest.length : Int) 0 t.1 t.2.1 t.2.2 := by kernel_rfl
def zA9.x : XFunc := xF 18 2 [.val true 4] (no 4) [.var 2 true 4] (iF 4) true (.pair (.int .i64) zBB) (.pair (.int .i64) zBB) <| .seq (rG [ow 1 (.box 0) [.slot 0] [0] [0], ow 2 (.alloc 1 [cZ, cZ, cZ, cZ]) [] [1] [1]]) (.seq (.block 0 (.seq (rG [lU 4 4 1 0, o1 5 (cO 157 [.val true 4] 4 true) 4, o1 6 .not 5, mv 3 6]) (.cond (.slot 3) (.seq (rG [lU 7 4 1 0, sT 4 2 7 1]) (.ret)) (.seq (rG [fA 9 0 1, lN 10 9 0, op 11 (.bin .eql) [.slot 10, cI 6], mv 8 11]) (.cond (.slot 8) (.seq (rG [fA 12 2 1, lN 13 12 0, op 14 (.build [cZ, cZ, cZ, cZ] [(0, 1), (2, 1)]) [cI 2, .slot 13], sT 4 2 14 1]) (.ret)) (.skip)))))) (.seq (rG [fA 15 3 1, lN 16 15 0, op 17 (.build [cZ, cZ, cZ, cZ] [(0, 1), (3, 1)]) [cI 3, .slot 16], sT 4 2 17 1]) (.ret)))
def zA9.env (N : Nat) : Env := envOf (tbl [(157, yh.fs N)] noFS)
def zA9.F (N : Nat) (x : Int × Int × Int × Int) : Option (Int × Int × Int × Int) := XFunc.run zA9.x (zA9.env N) N x
def zA9.fs (N : Nat) : FS := fS zA9.x true (zA9.F N)
theorem zA9.F_eq (N : Nat) (a : Int × Int × Int × Int) : zA9.F N a =
bindO (yh.F N a) fun r1 =>
bif !r1 then
some a
else
bif a.1 == 6 then
some (2, (0, (a.2.2.1, 0)))
else
some (3, (0, (0, a.2.2.2))) := by kernel_rfl
def zBD.x : XFunc := xF 10 2 [.val true 4] (no 4) [.var 2 true 4] (iF 4) true (.pair (.int .i64) zBB) (.pair (.int .i64) zBB) <| .seq (rG [ow 1 (.box 0) [.slot 0] [0] [0], ow 2 (.alloc 1 [cZ, cZ, cZ, cZ]) [] [1] [1]]) (.seq (.seq (rG [lU 3 4 1 0, o1 4 (cO 157 [.val true 4] 4 true) 3, o1 5 .not 4]) (.cond (.slot 5) (.seq (rG [lU 6 4 1 0, sT 4 2 6 1]) (.ret)) (.skip))) (.seq (rG [fA 7 1 1, lN 8 7 0, op 9 (.build [cZ, cZ, cZ, cZ] [(0, 1), (1, 1)]) [cI 2, .slot 8], sT 4 2 9 1]) (.ret)))
def zBD.env (N : Nat) : Env := envOf (tbl [(157, yh.fs N)] noFS)
def zBD.F (N : Nat) (x : Int × Int × Int × Int) : Option (Int × Int × Int × Int) := XFunc.run zBD.x (zBD.env N) N x
def zBD.fs (N : Nat) : FS := fS zBD.x true (zBD.F N)
theorem zBD.F_eq (N : Nat) (a : Int × Int × Int × Int) : zBD.F N a =
bindO (yh.F N a) fun r1 =>
bif !r1 then
some a
else
some (2, (a.2.1, (0, 0))) := by kernel_rfl
def zAF.x : XFunc := xF 17 0 [.val false 1] [none] [.tmp 2 false 1] [.imm] true (.int .i64) .bool <| .seq (rG [op 2 .move [cB false]]) (.seq (rG [mv 3 0, op 4 (.bin .geq) [.slot 3, cI 1], sX 5 [.slot 4], gM 6 0 5 true, gX 7 (.bin .leq) [.slot 6, cI 36] [] [] 5 true, op 8 .pick [.slot 5, .slot 7, cB false], sX 9 [.slot 8], gM 10 0 9 false, gX 11 (.bin .eql) [.slot 10, cI 39] [] [] 9 false, op 12 .pick [.slot 9, cB true, .slot 11], sX 13 [.slot 12], gM 14 0 13 false, gX 15 (.bin .eql) [.slot 14, cI 42] [] [] 13 false, op 16 .pick [.slot 13, cB true, .slot 15], mv 2 16]) (.ret))
def zAF.env (_ : Nat) : Env := envOf (tbl [] noFS)
def zAF.F (N : Nat) (x : Int) : Option Bool := XFunc.run zAF.x (zAF.env N) N x
def zAF.fs (N : Nat) : FS := fS zAF.x true (zAF.F N)
theorem zAF.F_eq (N : Nat) (code : Int) : zAF.F N code =
bif decide (code >= 1) then
bif decide (code <= 36) then
some true
else
bif code == 39 then
some true
else
some (code == 42)
else
bif code == 39 then
some true
else
some (code == 42) := by kernel_rfl
def zb.c1 : XCode := .seq (rG [o2 18 (.bin .lss) 17 16]) (.seq (cX 18 0) (.seq (.block 1 (.seq (rG [o2 19 (.indexAddr zBx) 15 17, o1 20 (.load true 2) 19, ow 8 (.alloc 3 [cZ, cZ]) [] [3] [3], sT 2 8 20 3]) (.seq (rG [fA 21 0 5, lN 22 21 2, fA 23 1 8, lN 24 23 3, o2 25 (.bin .or) 22 24, fA 26 0 5, sT 1 26 25 2]) (rG [mv 27 6, fA 28 0 8, lN 29 28 3, ow 30 (.buildSlice false 4 2 (.int .i64) 1 [(0, 1)] [cZ]) [.slot 29] [4] [4], ow 31 (.append false 5 2 (.int .i64)) (sl [27, 30]) [4, 5] [5], mv 6 31])))) (rG [op 32 (.bin .add) [.slot 17, cI 1], mv 17 32])))
def zb.c2 : XCode := .seq (rG [mv 33 6, ow 34 (.call ⟨203, vs 1, no 1, [.val false 1], [.own 6 2], true⟩) [.slot 33] [5, 6] [6], fA 35 1 5, sT 1 35 34 2]) (.seq (rG [lU 36 2 5 2, sT 2 4 36 1]) (.ret))
def zb.x : XFunc := xF 37 7 [.val true 2, .val false 1] (no 3) [.var 4 true 2] [.imm, .own 2] true (.pair zBX (.list zBx)) (.pair (.int .i64) (.list (.int .i64))) <| .seq (rG [ow 2 (.box 0) [.slot 0] [0] [0], ow 4 (.alloc 1 [cZ, .nil]) [] [1] [1]]) (.seq (rG [fA 9 0 2, lN 10 9 0, o1 11 (.build [cZ, .nil] [(0, 1)]) 10, ow 5 (.alloc 2 [cZ, .nil]) [] [2] [2], sT 2 5 11 2]) (.seq (rG [fA 12 1 2, lN 13 12 0, ow 14 (.call ⟨114, vs 1, no 1, [.val false 1], [.own 5 2], true⟩) [.slot 13] [5] [5], mv 6 14]) (.seq (.seq (rG [mv 15 1, o1 16 .len 15, op 17 .move [cI 0]]) (.block 0 (.loop [.keep [4, 5, 6, 15, 16, 17], .drop 0, .drop 3, .drop 4, .drop 6, .norm] (zb.c1)))) (zb.c2))))
def zb.env (N : Nat) : Env := envOf (tbl [(203, z6.fs N), (114, zAL.fs N)] noFS)
def zb.F (N : Nat) (x : (Int × List Int) × List (Int × Int)) : Option (Int × List Int) := XFunc.run zb.x (zb.env N) N x
def zb.fs (N : Nat) : FS := fS zb.x true (zb.F N)
def zb.k2 (N : Nat) : Ex -> S -> Option (Int × List Int) := seqK (fun s => XCode.runK (zb.env N) N (zb.c2) s (XFunc.endK zb.x)) (XFunc.endK zb.x)
def zb.k1 (N : Nat) : Ex -> S -> Option (Int × List Int) := y7 0 (zb.k2 N)
def zb.L1 (N : Nat) (n1 : Nat) (t15 : List (Int × Int)) (t16 : Int) (t17 : Int) (o20 : Int) (o5 : List Int) : Option (Int × List Int) := loopK [.keep [4, 5, 6, 15, 16, 17], .drop 0, .drop 3, .drop 4, .drop 6, .norm] (rK (zb.env N) N zb.c1) n1
 { t := jK 37 [(4, .one (.ptr 1 0 0)), (5, .one (.ptr 2 0 0)), (6, .one (.ref 5 0 .all)), (15, .one (.sl false zBx t15)), (16, .one (.int .i64 t16)), (17, .one (.int .i64 t17))], h := [.absent 0, .box 0 false [cZ, .nil], .box 0 false [.int .i64 o20, .nil], .absent 0, .absent 0, .row 0 false true 2 (.int .i64) o5, .absent 0] }
 (zb.k1 N)
theorem zb.L1_eq (N : Nat) (n1 : Nat) (t15 : List (Int × Int)) (t16 : Int) (t17 : Int) (o20 : Int) (o5 : List Int) : zb.L1 N (n1 + 1) t15 t16 t17 o20 o5 =
bif decide (t17 < t16) then
bif zG t17 (t15.length) then
bif decide (o5.length + List.length ([(nth (0, 0) t15 t17).1] : List Int) <= maxN) then
zb.L1 N n1 t15 t16 (IntKind.wrap .i64 (t17 + 1)) (bitOr .i64 o20 ((nth (0, 0) t15 t17).2)) (o5 ++ ([(nth (0, 0) t15 t17).1] : List Int))
else none
else none
else
bindO (z6.F N o5) fun r2 =>
some (o20, r2) := by kernel_rfl
theorem zb.F_eq (N : Nat) (r_ : Int × List Int) (l_ : List (Int × Int)) : zb.F N (r_, l_) =
bindO (zAL.F N r_.2) fun r1 =>
zb.L1 N N l_ (l_.length : Int) 0 r_.1 r1 := by kernel_rfl
end Go.Kb
